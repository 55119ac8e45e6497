/- Each Go function as a Lean function on deep values; printed by a program of mine. -/
import Derived.Test.YtigfninpflemnaaEnv
namespace Go.Proofs.Ytigfninpflemnaa
open Go
set_option maxRecDepth 100000
set_option linter.unusedVariables false
/-! triune/word.Put -/
noncomputable def s_word_Put (n : Nat) (H : Heap) (fl : Nat) (a0 : DV) : R :=
  bi (allocG 63 (.agg [(I .u8 0), (I .u8 0)]) (List.length H) (H ++ [.hole])) fun h0 =>
  bi (shrK .u16 a0 (I .u64 8)) fun d1 =>
  bi (cvK .u8 d1) fun d2 =>
  bi (cvK .u8 a0) fun d3 =>
  bi (buildA (.agg [(I .u8 0), (I .u8 0)]) 1 [(0, d2), (1, d3)]) fun d4 =>
  bi (storeG 2 (.ptr (List.length H) 0) d4 h0 fl) fun h5 =>
  bi (cellR true 2 (.ptr (List.length H) 0) h5) fun r0 =>
  some (r0, h5)
theorem s_word_Put_eq (n : Nat) (H : Heap) (fl : Nat) (a0 : DV) : callG Try.prog ENV (n + 1) 49 [a0] H fl = s_word_Put n H fl a0 := by kernel_rfl

/-! triune/word.Words -/
def s_word_Words_I0 (x0 x4 x5 : DV) : List DV := [x0, .any, .any, .any, x4, x5, .any, .any, .any, .any, .any, .any, .any, .any, .any, .any, .any, .any, .any, .any, .any, .any, .any, .any, .any, .any, .any, .any, .any, .any, .any, .any, .any]
def s_word_Words_O0 (x4 : DV) : List DV := [.any, .any, .any, .any, x4, .any, .any, .any, .any, .any, .any, .any, .any, .any, .any, .any, .any, .any, .any, .any, .any, .any, .any, .any, .any, .any, .any, .any, .any, .any, .any, .any, .any]
noncomputable abbrev s_word_Words_b0 (n fl : Nat) : List DV → Heap → (Ex → KF) → R := execG ⟨Try.prog, callG Try.prog ENV n, ENV.md, fl, 33⟩ n (loopAt (bodyOf Try.f38) 0) []
noncomputable def s_word_Words_B0 (n fl : Nat) (rec : DV → DV → DV → Heap → R) (k : Ex → KF) (x0 x4 x5 : DV) (H : Heap) : R :=
  bi (lenD x0) fun d0 =>
  bi (ltK .i64 x5 d0) fun d1 =>
  condR d1 (
  bi (idxSl 1 x0 x5) fun d2 =>
  bi (loadG false 1 d2 H) fun d3 =>
  bi (cvK .u16 d3) fun d4 =>
  bi (shlK .u16 d4 (I .u64 8)) fun d5 =>
  bi (addK .i64 x5 (I .i64 1)) fun d6 =>
  bi (idxSl 1 x0 d6) fun d7 =>
  bi (loadG false 1 d7 H) fun d8 =>
  bi (cvK .u16 d8) fun d9 =>
  bi (orK .u16 d5 d9) fun d10 =>
  bi (buildL false 1 1 (I .u16 0) [(0, d10)]) fun d11 =>
  bi (appG 22 false 1 2 x4 d11 H fl) fun p12 =>
  bi (addK .i64 x5 (I .i64 2)) fun d13 =>
  rec x0 p12.1 d13 p12.2) (
  k (.exit 0) (s_word_Words_O0 x4) H)
noncomputable def s_word_Words_L0 (n fl : Nat) (k : Ex → KF) : Nat → DV → DV → DV → Heap → R
  | 0, _, _, _, _ => none
  | m + 1, x0, x4, x5, H => s_word_Words_B0 n fl (s_word_Words_L0 n fl k m) k x0 x4 x5 H
theorem s_word_Words_S0 (n fl m : Nat) (k : Ex → KF) (x0 x4 x5 : DV) (H : Heap) : loopG [0, 4, 5] [4] 33 (s_word_Words_b0 n fl) (m + 1) (s_word_Words_I0 x0 x4 x5) H k = s_word_Words_B0 n fl (fun x0 x4 x5 H => loopG [0, 4, 5] [4] 33 (s_word_Words_b0 n fl) m (s_word_Words_I0 x0 x4 x5) H k) k x0 x4 x5 H := by kernel_rfl
theorem s_word_Words_L0_eq (n fl : Nat) (k : Ex → KF) : ∀ (m : Nat) (x0 x4 x5 : DV) (H : Heap), loopG [0, 4, 5] [4] 33 (s_word_Words_b0 n fl) m (s_word_Words_I0 x0 x4 x5) H k = s_word_Words_L0 n fl k m x0 x4 x5 H := by
  intro m
  induction m with
  | zero => intros; rfl
  | succ m ih =>
    intro x0 x4 x5 H
    rw [s_word_Words_S0, show (fun x0 x4 x5 H => loopG [0, 4, 5] [4] 33 (s_word_Words_b0 n fl) m (s_word_Words_I0 x0 x4 x5) H k) = s_word_Words_L0 n fl k m from by funext x0 x4 x5 H; exact ih _ _ _ _]
    rw [s_word_Words_L0]
noncomputable def s_word_Words (n : Nat) (H : Heap) (fl : Nat) (a0 : DV) : R :=
  bi (lenD a0) fun d0 =>
  bi (andK .i64 d0 (I .i64 1)) fun d1 =>
  bi (eqK .i64 d1 (I .i64 1)) fun d2 =>
  condR d2 (
  some ((.tup [(.list 0 [] .ti), (Bo false)]), H)) (
  loopG [0, 4, 5] [4] 33 (s_word_Words_b0 n fl) n (s_word_Words_I0 a0 (.list 0 [] .ti) (I .i64 0)) H fun x S3 h3 => match x with
  | .normal => none
  | .exit i3 => (
  if i3 = 0 then (
  some ((.tup [(S3.getD 4 .any), (Bo true)]), h3)) else (
  none))
  | .ret => (
  some ((.tup [.any, .any]), h3)))
theorem s_word_Words_eq (n : Nat) (H : Heap) (fl : Nat) (a0 : DV) : callG Try.prog ENV (n + 1) 38 [a0] H fl = s_word_Words n H fl a0 := by kernel_rfl

/-! triune/mbap.number -/
noncomputable def s_mbap_number (n : Nat) (H : Heap) (fl : Nat) (a0 a1 : DV) : R :=
  bi (lenD a0) fun d0 =>
  bi (addK .i64 a1 (I .i64 2)) fun d1 =>
  bi (ltK .i64 d0 d1) fun d2 =>
  condR d2 (
  some ((.tup [(I .i64 0), (Bo false)]), H)) (
  bi (addK .i64 a1 (I .i64 2)) fun d3 =>
  bi (slX 1 a0 (some a1) (some d3) none) fun d4 =>
  bi (cP n 38 false [d4]) fun d5 =>
  bi (extD 0 d5) fun d6 =>
  bi (extD 1 d5) fun d7 =>
  bi (idxSl 1 d6 (I .i64 0)) fun d8 =>
  bi (loadG false 1 d8 H) fun d9 =>
  bi (cvK .i64 d9) fun d10 =>
  some ((.tup [d10, (Bo true)]), H))
theorem s_mbap_number_eq (n : Nat) (H : Heap) (fl : Nat) (a0 a1 : DV) : callG Try.prog ENV (n + 1) 71 [a0, a1] H fl = s_mbap_number n H fl a0 a1 := by kernel_rfl

/-! triune/mbap.Read -/
noncomputable def s_mbap_Read (n : Nat) (H : Heap) (fl : Nat) (a0 : DV) : R :=
  bi (allocG 68 (.agg [(I .u16 0), (I .u8 0), (.list 0 [] .ti)]) (List.length H) (H ++ [.hole])) fun h0 =>
  bi (cP n 71 false [a0, (I .i64 2)]) fun d1 =>
  bi (extD 0 d1) fun d2 =>
  bi (extD 1 d1) fun d3 =>
  bi (cP n 71 false [a0, (I .i64 4)]) fun d4 =>
  bi (extD 0 d4) fun d5 =>
  bi (extD 1 d4) fun d6 =>
  bi (neK .i64 d2 (I .i64 0)) fun d7 =>
  condR d7 (
  condR d7 (
   bi (buildS (.agg [(I .u16 0), (I .u8 0), (.list 0 [] .ti)]) [(0, 1), (1, 1), (2, 1)] []) fun d8 =>
   bi (storeG 3 (.ptr (List.length H) 0) d8 h0 fl) fun h9 =>
  bi (cellR true 3 (.ptr (List.length H) 0) h9) fun r0 =>
  some ((.tup [r0, (I .i64 0), (I .i64 2)]), h9)) (
   bi (notD d6) fun d10 =>
   bi (wantF d10 false (some a0)) fun d11 =>
   bi (wantF d10 false (lenD d11)) fun d12 =>
   bi (wantF d10 false (some d5)) fun d13 =>
   bi (wantF d10 false (addK .i64 (I .i64 6) d13)) fun d14 =>
   bi (wantF d10 false (ltK .i64 d12 d14)) fun d15 =>
   bi (pickD d10 (Bo true) d15) fun d16 =>
   condR d16 (
    bi (buildS (.agg [(I .u16 0), (I .u8 0), (.list 0 [] .ti)]) [(0, 1), (1, 1), (2, 1)] []) fun d17 =>
    bi (storeG 3 (.ptr (List.length H) 0) d17 h0 fl) fun h18 =>
  bi (cellR true 3 (.ptr (List.length H) 0) h18) fun r0 =>
  some ((.tup [r0, (I .i64 0), (I .i64 3)]), h18)) (
  bi (cP n 71 false [a0, (I .i64 0)]) fun d19 =>
  bi (extD 0 d19) fun d20 =>
  bi (extD 1 d19) fun d21 =>
  bi (cvK .u16 d20) fun d22 =>
  bi (idxSl 1 a0 (I .i64 6)) fun d23 =>
  bi (loadG false 1 d23 h0) fun d24 =>
  bi (addK .i64 (I .i64 6) d5) fun d25 =>
  bi (slX 1 a0 (some (I .i64 7)) (some d25) none) fun d26 =>
  bi (cP n 72 false [d26]) fun d27 =>
  bi (buildS (.agg [(I .u16 0), (I .u8 0), (.list 0 [] .ti)]) [(0, 1), (1, 1), (2, 1)] [(0, d22), (1, d24), (2, d27)]) fun d28 =>
  bi (addK .i64 (I .i64 6) d5) fun d29 =>
  bi (storeG 3 (.ptr (List.length H) 0) d28 h0 fl) fun h30 =>
  bi (cellR true 3 (.ptr (List.length H) 0) h30) fun r0 =>
  some ((.tup [r0, d29, (I .i64 0)]), h30)))) (
   bi (wantF d6 true (some d5)) fun d31 =>
   bi (wantF d6 true (ltK .i64 d31 (I .i64 2))) fun d32 =>
   bi (wantF d6 true (some d32)) fun d33 =>
   bi (wantF d33 false (some d5)) fun d34 =>
   bi (wantF d33 false (gtK .i64 d34 (I .i64 254))) fun d35 =>
   bi (wantF d6 true (pickD d33 (Bo true) d35)) fun d36 =>
   bi (pickD d6 d36 (Bo false)) fun d37 =>
  condR d37 (
   bi (buildS (.agg [(I .u16 0), (I .u8 0), (.list 0 [] .ti)]) [(0, 1), (1, 1), (2, 1)] []) fun d38 =>
   bi (storeG 3 (.ptr (List.length H) 0) d38 h0 fl) fun h39 =>
  bi (cellR true 3 (.ptr (List.length H) 0) h39) fun r0 =>
  some ((.tup [r0, (I .i64 0), (I .i64 2)]), h39)) (
   bi (notD d6) fun d40 =>
   bi (wantF d40 false (some a0)) fun d41 =>
   bi (wantF d40 false (lenD d41)) fun d42 =>
   bi (wantF d40 false (some d5)) fun d43 =>
   bi (wantF d40 false (addK .i64 (I .i64 6) d43)) fun d44 =>
   bi (wantF d40 false (ltK .i64 d42 d44)) fun d45 =>
   bi (pickD d40 (Bo true) d45) fun d46 =>
   condR d46 (
    bi (buildS (.agg [(I .u16 0), (I .u8 0), (.list 0 [] .ti)]) [(0, 1), (1, 1), (2, 1)] []) fun d47 =>
    bi (storeG 3 (.ptr (List.length H) 0) d47 h0 fl) fun h48 =>
  bi (cellR true 3 (.ptr (List.length H) 0) h48) fun r0 =>
  some ((.tup [r0, (I .i64 0), (I .i64 3)]), h48)) (
  bi (cP n 71 false [a0, (I .i64 0)]) fun d49 =>
  bi (extD 0 d49) fun d50 =>
  bi (extD 1 d49) fun d51 =>
  bi (cvK .u16 d50) fun d52 =>
  bi (idxSl 1 a0 (I .i64 6)) fun d53 =>
  bi (loadG false 1 d53 h0) fun d54 =>
  bi (addK .i64 (I .i64 6) d5) fun d55 =>
  bi (slX 1 a0 (some (I .i64 7)) (some d55) none) fun d56 =>
  bi (cP n 72 false [d56]) fun d57 =>
  bi (buildS (.agg [(I .u16 0), (I .u8 0), (.list 0 [] .ti)]) [(0, 1), (1, 1), (2, 1)] [(0, d52), (1, d54), (2, d57)]) fun d58 =>
  bi (addK .i64 (I .i64 6) d5) fun d59 =>
  bi (storeG 3 (.ptr (List.length H) 0) d58 h0 fl) fun h60 =>
  bi (cellR true 3 (.ptr (List.length H) 0) h60) fun r0 =>
  some ((.tup [r0, d59, (I .i64 0)]), h60))))
theorem s_mbap_Read_eq (n : Nat) (H : Heap) (fl : Nat) (a0 : DV) : callG Try.prog ENV (n + 1) 55 [a0] H fl = s_mbap_Read n H fl a0 := by kernel_rfl

/-! triune/mbap.Bytes -/
noncomputable def s_mbap_Bytes (n : Nat) (H : Heap) (fl : Nat) (a0 : DV) : R :=
  bi (allocG 68 a0 (List.length H) (H ++ [.hole])) fun h0 =>
  bi (loadG false 1 (.ptr (List.length H) 2) h0) fun d1 =>
  bi (lenD d1) fun d2 =>
  bi (eqK .i64 d2 (I .i64 0)) fun d3 =>
  condR d3 (
  some ((.tup [(.list 0 [] .ti), (I .i64 3)]), h0)) (
   bi (gtK .i64 d2 (I .i64 253)) fun d4 =>
   condR d4 (
  some ((.tup [(.list 0 [] .ti), (I .i64 4)]), h0)) (
  bi (loadG false 1 (.ptr (List.length H) 2) (h0 ++ [.hole])) fun d5 =>
  bi (lenD d5) fun d6 =>
  bi (addK .i64 (I .i64 7) d6) fun d7 =>
  bi (makeG false 1 1 5 (I .u8 0) d7 d7 (List.length h0) (h0 ++ [.hole])) fun p8 =>
  bi (loadG false 1 (.ptr (List.length H) 0) (p8.2 ++ [.hole, .hole])) fun d9 =>
  bi (cP n 49 false [d9]) fun d10 =>
  bi (loadG false 1 (.ptr (List.length H) 2) (p8.2 ++ [.hole, .hole])) fun d11 =>
  bi (lenD d11) fun d12 =>
  bi (addK .i64 d12 (I .i64 1)) fun d13 =>
  bi (cvK .u16 d13) fun d14 =>
  bi (cP n 49 false [d14]) fun d15 =>
  bi (allocG 63 (.agg [(I .u8 0), (I .u8 0)]) (List.length p8.2) (p8.2 ++ [.hole, .hole])) fun h16 =>
  bi (allocG 63 (.agg [(I .u8 0), (I .u8 0)]) (List.length p8.2 + 1) h16) fun h17 =>
  bi (storeG 2 (.ptr (List.length p8.2) 0) d10 h17 fl) fun h18 =>
  bi (storeG 2 (.ptr (List.length p8.2 + 1) 0) d15 h18 fl) fun h19 =>
  bi (saX false 2 1 (.ptr (List.length p8.2) 0) none none none) fun d20 =>
  bi (copyG false 1 p8.1 d20 h19 fl) fun p21 =>
  bi (slX 1 p8.1 (some (I .i64 4)) none none) fun d22 =>
  bi (saX false 2 1 (.ptr (List.length p8.2 + 1) 0) none none none) fun d23 =>
  bi (copyG false 1 d22 d23 p21.2 fl) fun p24 =>
  bi (loadG false 1 (.ptr (List.length H) 1) p24.2) fun d25 =>
  bi (idxSl 1 p8.1 (I .i64 6)) fun d26 =>
  bi (storeG 1 d26 d25 p24.2 fl) fun h27 =>
  bi (slX 1 p8.1 (some (I .i64 7)) none none) fun d28 =>
  bi (loadG false 1 (.ptr (List.length H) 2) h27) fun d29 =>
  bi (copyG false 1 d28 d29 h27 fl) fun p30 =>
  some ((.tup [p8.1, (I .i64 0)]), p30.2)))
theorem s_mbap_Bytes_eq (n : Nat) (H : Heap) (fl : Nat) (a0 : DV) : callG Try.prog ENV (n + 1) 53 [a0] H fl = s_mbap_Bytes n H fl a0 := by kernel_rfl

/-! triune/triuneref04.Read -/
noncomputable def s_triuneref04_Read (n : Nat) (H : Heap) (fl : Nat) (a0 : DV) : R :=
  bi (allocG 72 (.agg [(I .u16 0), (I .u8 0), (.list 0 [] .ti)]) (List.length H) (H ++ [.hole])) fun h0 =>
  bi (lenD a0) fun d1 =>
  bi (geK .i64 d1 (I .i64 4)) fun d2 =>
  bi (wantF d2 true (some a0)) fun d3 =>
  bi (wantF d2 true (idxSl 1 d3 (I .i64 2))) fun d4 =>
  bi (wantF d2 true (loadG false 1 d4 h0)) fun d5 =>
  bi (wantF d2 true (neK .u8 d5 (I .u8 0))) fun d6 =>
  bi (wantF d2 true (some d6)) fun d7 =>
  bi (wantF d7 false (some a0)) fun d8 =>
  bi (wantF d7 false (idxSl 1 d8 (I .i64 3))) fun d9 =>
  bi (wantF d7 false (loadG false 1 d9 h0)) fun d10 =>
  bi (wantF d7 false (neK .u8 d10 (I .u8 0))) fun d11 =>
  bi (wantF d2 true (pickD d7 (Bo true) d11)) fun d12 =>
  bi (pickD d2 d12 (Bo false)) fun d13 =>
  condR d13 (
   bi (buildS (.agg [(I .u16 0), (I .u8 0), (.list 0 [] .ti)]) [(0, 1), (1, 1), (2, 1)] []) fun d14 =>
   bi (storeG 3 (.ptr (List.length H) 0) d14 h0 fl) fun h15 =>
  bi (cellR true 3 (.ptr (List.length H) 0) h15) fun r0 =>
  some ((.tup [r0, (I .i64 0), (I .i64 2)]), h15)) (
  bi (lenD a0) fun d16 =>
  bi (geK .i64 d16 (I .i64 6)) fun d17 =>
  condR d17 (
   bi (idxSl 1 a0 (I .i64 4)) fun d18 =>
   bi (loadG false 1 d18 h0) fun d19 =>
   bi (cvK .i64 d19) fun d20 =>
   bi (mulK .i64 (I .i64 256) d20) fun d21 =>
   bi (idxSl 1 a0 (I .i64 5)) fun d22 =>
   bi (loadG false 1 d22 h0) fun d23 =>
   bi (cvK .i64 d23) fun d24 =>
   bi (addK .i64 d21 d24) fun d25 =>
  bi (ltK .i64 d25 (I .i64 2)) fun d26 =>
  bi (wantF d26 false (some d25)) fun d27 =>
  bi (wantF d26 false (gtK .i64 d27 (I .i64 254))) fun d28 =>
  bi (pickD d26 (Bo true) d28) fun d29 =>
  condR d29 (
   bi (buildS (.agg [(I .u16 0), (I .u8 0), (.list 0 [] .ti)]) [(0, 1), (1, 1), (2, 1)] []) fun d30 =>
   bi (storeG 3 (.ptr (List.length H) 0) d30 h0 fl) fun h31 =>
  bi (cellR true 3 (.ptr (List.length H) 0) h31) fun r0 =>
  some ((.tup [r0, (I .i64 0), (I .i64 2)]), h31)) (
  bi (lenD a0) fun d32 =>
  bi (ltK .i64 d32 (I .i64 7)) fun d33 =>
  bi (wantF d33 false (some a0)) fun d34 =>
  bi (wantF d33 false (lenD d34)) fun d35 =>
  bi (wantF d33 false (some d25)) fun d36 =>
  bi (wantF d33 false (addK .i64 (I .i64 6) d36)) fun d37 =>
  bi (wantF d33 false (ltK .i64 d35 d37)) fun d38 =>
  bi (pickD d33 (Bo true) d38) fun d39 =>
  condR d39 (
   bi (buildS (.agg [(I .u16 0), (I .u8 0), (.list 0 [] .ti)]) [(0, 1), (1, 1), (2, 1)] []) fun d40 =>
   bi (storeG 3 (.ptr (List.length H) 0) d40 h0 fl) fun h41 =>
  bi (cellR true 3 (.ptr (List.length H) 0) h41) fun r0 =>
  some ((.tup [r0, (I .i64 0), (I .i64 3)]), h41)) (
  bi (idxSl 1 a0 (I .i64 0)) fun d42 =>
  bi (loadE false 1 d42) fun d43 =>
  bi (cvK .u16 d43) fun d44 =>
  bi (mulK .u16 (I .u16 256) d44) fun d45 =>
  bi (idxSl 1 a0 (I .i64 1)) fun d46 =>
  bi (loadE false 1 d46) fun d47 =>
  bi (cvK .u16 d47) fun d48 =>
  bi (addK .u16 d45 d48) fun d49 =>
  bi (idxSl 1 a0 (I .i64 6)) fun d50 =>
  bi (loadE false 1 d50) fun d51 =>
  bi (buildL false 1 0 (I .u8 0) []) fun d52 =>
  bi (addK .i64 (I .i64 6) d25) fun d53 =>
  bi (slX 1 a0 (some (I .i64 7)) (some d53) none) fun d54 =>
  bi (appG 5 false 1 1 d52 d54 h0 fl) fun p55 =>
  bi (buildS (.agg [(I .u16 0), (I .u8 0), (.list 0 [] .ti)]) [(0, 1), (1, 1), (2, 1)] [(0, d49), (1, d51), (2, p55.1)]) fun d56 =>
  bi (addK .i64 (I .i64 6) d25) fun d57 =>
  bi (storeG 3 (.ptr (List.length H) 0) d56 p55.2 fl) fun h58 =>
  bi (cellR true 3 (.ptr (List.length H) 0) h58) fun r0 =>
  some ((.tup [r0, d57, (I .i64 0)]), h58)))) (
  bi (ltK .i64 (I .i64 2) (I .i64 2)) fun d59 =>
  bi (wantF d59 false (some (I .i64 2))) fun d60 =>
  bi (wantF d59 false (gtK .i64 d60 (I .i64 254))) fun d61 =>
  bi (pickD d59 (Bo true) d61) fun d62 =>
  condR d62 (
   bi (buildS (.agg [(I .u16 0), (I .u8 0), (.list 0 [] .ti)]) [(0, 1), (1, 1), (2, 1)] []) fun d63 =>
   bi (storeG 3 (.ptr (List.length H) 0) d63 h0 fl) fun h64 =>
  bi (cellR true 3 (.ptr (List.length H) 0) h64) fun r0 =>
  some ((.tup [r0, (I .i64 0), (I .i64 2)]), h64)) (
  bi (lenD a0) fun d65 =>
  bi (ltK .i64 d65 (I .i64 7)) fun d66 =>
  bi (wantF d66 false (some a0)) fun d67 =>
  bi (wantF d66 false (lenD d67)) fun d68 =>
  bi (wantF d66 false (some (I .i64 2))) fun d69 =>
  bi (wantF d66 false (addK .i64 (I .i64 6) d69)) fun d70 =>
  bi (wantF d66 false (ltK .i64 d68 d70)) fun d71 =>
  bi (pickD d66 (Bo true) d71) fun d72 =>
  condR d72 (
   bi (buildS (.agg [(I .u16 0), (I .u8 0), (.list 0 [] .ti)]) [(0, 1), (1, 1), (2, 1)] []) fun d73 =>
   bi (storeG 3 (.ptr (List.length H) 0) d73 h0 fl) fun h74 =>
  bi (cellR true 3 (.ptr (List.length H) 0) h74) fun r0 =>
  some ((.tup [r0, (I .i64 0), (I .i64 3)]), h74)) (
  bi (idxSl 1 a0 (I .i64 0)) fun d75 =>
  bi (loadE false 1 d75) fun d76 =>
  bi (cvK .u16 d76) fun d77 =>
  bi (mulK .u16 (I .u16 256) d77) fun d78 =>
  bi (idxSl 1 a0 (I .i64 1)) fun d79 =>
  bi (loadE false 1 d79) fun d80 =>
  bi (cvK .u16 d80) fun d81 =>
  bi (addK .u16 d78 d81) fun d82 =>
  bi (idxSl 1 a0 (I .i64 6)) fun d83 =>
  bi (loadE false 1 d83) fun d84 =>
  bi (buildL false 1 0 (I .u8 0) []) fun d85 =>
  bi (addK .i64 (I .i64 6) (I .i64 2)) fun d86 =>
  bi (slX 1 a0 (some (I .i64 7)) (some d86) none) fun d87 =>
  bi (appG 5 false 1 1 d85 d87 h0 fl) fun p88 =>
  bi (buildS (.agg [(I .u16 0), (I .u8 0), (.list 0 [] .ti)]) [(0, 1), (1, 1), (2, 1)] [(0, d82), (1, d84), (2, p88.1)]) fun d89 =>
  bi (addK .i64 (I .i64 6) (I .i64 2)) fun d90 =>
  bi (storeG 3 (.ptr (List.length H) 0) d89 p88.2 fl) fun h91 =>
  bi (cellR true 3 (.ptr (List.length H) 0) h91) fun r0 =>
  some ((.tup [r0, d90, (I .i64 0)]), h91)))))
theorem s_triuneref04_Read_eq (n : Nat) (H : Heap) (fl : Nat) (a0 : DV) : callG Try.prog ENV (n + 1) 56 [a0] H fl = s_triuneref04_Read n H fl a0 := by kernel_rfl

/-! triune/triuneref04.Bytes -/
noncomputable def s_triuneref04_Bytes (n : Nat) (H : Heap) (fl : Nat) (a0 : DV) : R :=
  bi (allocG 72 a0 (List.length H) (H ++ [.hole])) fun h0 =>
  bi (loadG false 1 (.ptr (List.length H) 2) h0) fun d1 =>
  bi (lenD d1) fun d2 =>
  bi (eqK .i64 d2 (I .i64 0)) fun d3 =>
  condR d3 (
  some ((.tup [(.list 0 [] .ti), (I .i64 3)]), h0)) (
  bi (gtK .i64 d2 (I .i64 253)) fun d4 =>
  condR d4 (
  some ((.tup [(.list 0 [] .ti), (I .i64 4)]), h0)) (
  bi (loadG false 1 (.ptr (List.length H) 0) h0) fun d5 =>
  bi (quoK .u16 d5 (I .u16 256)) fun d6 =>
  bi (cvK .u8 d6) fun d7 =>
  bi (loadG false 1 (.ptr (List.length H) 0) h0) fun d8 =>
  bi (remK .u16 d8 (I .u16 256)) fun d9 =>
  bi (cvK .u8 d9) fun d10 =>
  bi (addK .i64 d2 (I .i64 1)) fun d11 =>
  bi (quoK .i64 d11 (I .i64 256)) fun d12 =>
  bi (cvK .u8 d12) fun d13 =>
  bi (addK .i64 d2 (I .i64 1)) fun d14 =>
  bi (remK .i64 d14 (I .i64 256)) fun d15 =>
  bi (cvK .u8 d15) fun d16 =>
  bi (loadG false 1 (.ptr (List.length H) 1) h0) fun d17 =>
  bi (buildL false 1 7 (I .u8 0) [(0, d7), (1, d10), (2, (I .u8 0)), (3, (I .u8 0)), (4, d13), (5, d16), (6, d17)]) fun d18 =>
  bi (loadG false 1 (.ptr (List.length H) 2) h0) fun d19 =>
  bi (appG 5 false 1 1 d18 d19 h0 fl) fun p20 =>
  some ((.tup [p20.1, (I .i64 0)]), p20.2)))
theorem s_triuneref04_Bytes_eq (n : Nat) (H : Heap) (fl : Nat) (a0 : DV) : callG Try.prog ENV (n + 1) 54 [a0] H fl = s_triuneref04_Bytes n H fl a0 := by kernel_rfl

/-! triune/triuneref01.Same -/
def s_triuneref01_Same_I0 (x0 x1 x5 : DV) : List DV := [x0, x1, .any, .any, .any, x5, .any, .any, .any, .any, .any, .any, .any, .any, .any, .any, .any, .any, .any, .any, .any, .any, .any, .any, .any, .any]
def s_triuneref01_Same_O0 (x4 : DV) : List DV := [.any, .any, .any, .any, x4, .any, .any, .any, .any, .any, .any, .any, .any, .any, .any, .any, .any, .any, .any, .any, .any, .any, .any, .any, .any, .any]
noncomputable abbrev s_triuneref01_Same_b0 (n fl : Nat) : List DV → Heap → (Ex → KF) → R := execG ⟨Try.prog, callG Try.prog ENV n, ENV.md, fl, 26⟩ n (loopAt (bodyOf Try.f18) 0) []
noncomputable def s_triuneref01_Same_B0 (n fl : Nat) (rec : DV → DV → DV → Heap → R) (k : Ex → KF) (x0 x1 x5 : DV) (H : Heap) : R :=
  bi (lenD x0) fun d0 =>
  bi (ltK .i64 x5 d0) fun d1 =>
  condR d1 (
  bi (idxSl 1 x0 x5) fun d2 =>
  bi (loadG false 1 d2 H) fun d3 =>
  bi (idxSl 1 x1 x5) fun d4 =>
  bi (loadG false 1 d4 H) fun d5 =>
  bi (neK .u8 d3 d5) fun d6 =>
  condR d6 (
  k .ret (s_triuneref01_Same_O0 (Bo false)) H) (
  bi (addK .i64 x5 (I .i64 1)) fun d7 =>
  rec x0 x1 d7 H)) (
  k (.exit 0) (s_triuneref01_Same_O0 .any) H)
noncomputable def s_triuneref01_Same_L0 (n fl : Nat) (k : Ex → KF) : Nat → DV → DV → DV → Heap → R
  | 0, _, _, _, _ => none
  | m + 1, x0, x1, x5, H => s_triuneref01_Same_B0 n fl (s_triuneref01_Same_L0 n fl k m) k x0 x1 x5 H
theorem s_triuneref01_Same_S0 (n fl m : Nat) (k : Ex → KF) (x0 x1 x5 : DV) (H : Heap) : loopG [0, 1, 5] [4] 26 (s_triuneref01_Same_b0 n fl) (m + 1) (s_triuneref01_Same_I0 x0 x1 x5) H k = s_triuneref01_Same_B0 n fl (fun x0 x1 x5 H => loopG [0, 1, 5] [4] 26 (s_triuneref01_Same_b0 n fl) m (s_triuneref01_Same_I0 x0 x1 x5) H k) k x0 x1 x5 H := by kernel_rfl
theorem s_triuneref01_Same_L0_eq (n fl : Nat) (k : Ex → KF) : ∀ (m : Nat) (x0 x1 x5 : DV) (H : Heap), loopG [0, 1, 5] [4] 26 (s_triuneref01_Same_b0 n fl) m (s_triuneref01_Same_I0 x0 x1 x5) H k = s_triuneref01_Same_L0 n fl k m x0 x1 x5 H := by
  intro m
  induction m with
  | zero => intros; rfl
  | succ m ih =>
    intro x0 x1 x5 H
    rw [s_triuneref01_Same_S0, show (fun x0 x1 x5 H => loopG [0, 1, 5] [4] 26 (s_triuneref01_Same_b0 n fl) m (s_triuneref01_Same_I0 x0 x1 x5) H k) = s_triuneref01_Same_L0 n fl k m from by funext x0 x1 x5 H; exact ih _ _ _ _]
    rw [s_triuneref01_Same_L0]
noncomputable def s_triuneref01_Same (n : Nat) (H : Heap) (fl : Nat) (a0 a1 : DV) : R :=
  bi (lenD a0) fun d0 =>
  bi (lenD a1) fun d1 =>
  bi (neK .i64 d0 d1) fun d2 =>
  condR d2 (
  some ((Bo false), H)) (
  loopG [0, 1, 5] [4] 26 (s_triuneref01_Same_b0 n fl) n (s_triuneref01_Same_I0 a0 a1 (I .i64 0)) H fun x S3 h3 => match x with
  | .normal => none
  | .exit i3 => (
  if i3 = 0 then (
  some ((Bo true), h3)) else (
  none))
  | .ret => (
  some ((S3.getD 4 .any), h3)))
theorem s_triuneref01_Same_eq (n : Nat) (H : Heap) (fl : Nat) (a0 a1 : DV) : callG Try.prog ENV (n + 1) 18 [a0, a1] H fl = s_triuneref01_Same n H fl a0 a1 := by kernel_rfl

/-! triune/triuneref04.Same -/
noncomputable def s_triuneref04_Same (n : Nat) (H : Heap) (fl : Nat) (a0 a1 : DV) : R :=
  bi (allocG 72 a0 (List.length H) (H ++ [.hole, .hole])) fun h0 =>
  bi (allocG 72 a1 (List.length H + 1) h0) fun h1 =>
  bi (loadG false 1 (.ptr (List.length H) 0) h1) fun d2 =>
  bi (loadG false 1 (.ptr (List.length H + 1) 0) h1) fun d3 =>
  bi (eqK .u16 d2 d3) fun d4 =>
  bi (wantF d4 true (some (.ptr (List.length H) 1))) fun d5 =>
  bi (wantF d4 true (loadG false 1 d5 h1)) fun d6 =>
  bi (wantF d4 true (some (.ptr (List.length H + 1) 1))) fun d7 =>
  bi (wantF d4 true (loadG false 1 d7 h1)) fun d8 =>
  bi (wantF d4 true (eqK .u8 d6 d8)) fun d9 =>
  bi (pickD d4 d9 (Bo false)) fun d10 =>
  bi (wantF d10 true (some (.ptr (List.length H) 2))) fun d11 =>
  bi (wantF d10 true (loadG false 1 d11 h1)) fun d12 =>
  bi (wantF d10 true (some (.ptr (List.length H + 1) 2))) fun d13 =>
  bi (wantF d10 true (loadG false 1 d13 h1)) fun d14 =>
  bi (wantF d10 true (cP n 18 false [d12, d14])) fun d15 =>
  bi (pickD d10 d15 (Bo false)) fun d16 =>
  some (d16, h1)
theorem s_triuneref04_Same_eq (n : Nat) (H : Heap) (fl : Nat) (a0 a1 : DV) : callG Try.prog ENV (n + 1) 57 [a0, a1] H fl = s_triuneref04_Same n H fl a0 a1 := by kernel_rfl

/-! triune/mbap.Same -/
noncomputable def s_mbap_Same (n : Nat) (H : Heap) (fl : Nat) (a0 a1 : DV) : R :=
  bi (allocG 68 a0 (List.length H) (H ++ [.hole, .hole])) fun h0 =>
  bi (allocG 68 a1 (List.length H + 1) h0) fun h1 =>
  bi (loadG false 1 (.ptr (List.length H) 0) h1) fun d2 =>
  bi (loadG false 1 (.ptr (List.length H + 1) 0) h1) fun d3 =>
  bi (eqK .u16 d2 d3) fun d4 =>
  bi (wantF d4 true (some (.ptr (List.length H) 1))) fun d5 =>
  bi (wantF d4 true (loadG false 1 d5 h1)) fun d6 =>
  bi (wantF d4 true (some (.ptr (List.length H + 1) 1))) fun d7 =>
  bi (wantF d4 true (loadG false 1 d7 h1)) fun d8 =>
  bi (wantF d4 true (eqK .u8 d6 d8)) fun d9 =>
  bi (pickD d4 d9 (Bo false)) fun d10 =>
  bi (wantF d10 true (some (.ptr (List.length H) 2))) fun d11 =>
  bi (wantF d10 true (loadG false 1 d11 h1)) fun d12 =>
  bi (wantF d10 true (some (.ptr (List.length H + 1) 2))) fun d13 =>
  bi (wantF d10 true (loadG false 1 d13 h1)) fun d14 =>
  bi (wantF d10 true (cP n 73 false [d12, d14])) fun d15 =>
  bi (pickD d10 d15 (Bo false)) fun d16 =>
  some (d16, h1)
theorem s_mbap_Same_eq (n : Nat) (H : Heap) (fl : Nat) (a0 a1 : DV) : callG Try.prog ENV (n + 1) 58 [a0, a1] H fl = s_mbap_Same n H fl a0 a1 := by kernel_rfl

/-! triune/triunelaw04.MbapTells -/
noncomputable def s_triunelaw04_MbapTells (n : Nat) (H : Heap) (fl : Nat) (a0 a1 a2 : DV) : R :=
  bi (allocG 68 a0 (List.length H) (H ++ [.hole, .hole])) fun h0 =>
  bi (allocG 68 a1 (List.length H + 1) h0) fun h1 =>
  bi (cP n 52 false []) fun d2 =>
  bi (loadG false 1 (.ptr (List.length H) 2) h1) fun d3 =>
  bi (lenD d3) fun d4 =>
  bi (gtK .i64 d4 (I .i64 400)) fun d5 =>
  bi (wantF d5 false (some (.ptr (List.length H + 1) 2))) fun d6 =>
  bi (wantF d5 false (loadG false 1 d6 h1)) fun d7 =>
  bi (wantF d5 false (lenD d7)) fun d8 =>
  bi (wantF d5 false (gtK .i64 d8 (I .i64 400))) fun d9 =>
  bi (pickD d5 (Bo true) d9) fun d10 =>
  bi (wantF d10 false (some a2)) fun d11 =>
  bi (wantF d10 false (lenD d11)) fun d12 =>
  bi (wantF d10 false (gtK .i64 d12 (I .i64 600))) fun d13 =>
  bi (pickD d10 (Bo true) d13) fun d14 =>
  condR d14 (
  some (d2, h1)) (
  bi (loadG true 3 (.ptr (List.length H) 0) h1) fun d15 =>
  bi (cP n 53 true [d15]) fun d16 =>
  bi (extD 0 d16) fun d17 =>
  bi (extD 1 d16) fun d18 =>
  bi (loadG true 3 (.ptr (List.length H) 0) h1) fun d19 =>
  bi (cP n 54 false [d19]) fun d20 =>
  bi (extD 0 d20) fun d21 =>
  bi (extD 1 d20) fun d22 =>
  bi (cP n 55 false [a2]) fun d23 =>
  bi (extD 0 d23) fun d24 =>
  bi (extD 1 d23) fun d25 =>
  bi (extD 2 d23) fun d26 =>
  bi (allocG 68 (.agg [(I .u16 0), (I .u8 0), (.list 0 [] .ti)]) (List.length h1) (h1 ++ [.hole])) fun h27 =>
  bi (storeG 3 (.ptr (List.length h1) 0) d24 h27 fl) fun h28 =>
  bi (cP n 56 false [a2]) fun d29 =>
  bi (extD 0 d29) fun d30 =>
  bi (extD 1 d29) fun d31 =>
  bi (extD 2 d29) fun d32 =>
  bi (allocG 72 (.agg [(I .u16 0), (I .u8 0), (.list 0 [] .ti)]) (List.length h28) (h28 ++ [.hole])) fun h33 =>
  bi (storeG 3 (.ptr (List.length h28) 0) d30 h33 fl) fun h34 =>
  bi (cP n 18 false [d17, d21]) fun d35 =>
  bi (loadG true 3 (.ptr (List.length h1) 0) h34) fun d36 =>
  bi (loadG true 3 (.ptr (List.length h28) 0) h34) fun d37 =>
  bi (cP n 57 false [d36, d37]) fun d38 =>
  bi (wantF d2 true (some d35)) fun d39 =>
  bi (pickD d2 d39 (Bo false)) fun d40 =>
  bi (wantF d40 true (some d18)) fun d41 =>
  bi (wantF d40 true (some d22)) fun d42 =>
  bi (wantF d40 true (eqK .i64 d41 d42)) fun d43 =>
  bi (pickD d40 d43 (Bo false)) fun d44 =>
  bi (wantF d44 true (some d38)) fun d45 =>
  bi (pickD d44 d45 (Bo false)) fun d46 =>
  bi (wantF d46 true (some d25)) fun d47 =>
  bi (wantF d46 true (some d31)) fun d48 =>
  bi (wantF d46 true (eqK .i64 d47 d48)) fun d49 =>
  bi (pickD d46 d49 (Bo false)) fun d50 =>
  bi (wantF d50 true (some d26)) fun d51 =>
  bi (wantF d50 true (some d32)) fun d52 =>
  bi (wantF d50 true (eqK .i64 d51 d52)) fun d53 =>
  bi (pickD d50 d53 (Bo false)) fun d54 =>
  bi (wantF d54 true (loadG true 3 (.ptr (List.length H) 0) h34)) fun d55 =>
  bi (wantF d54 true (loadG true 3 (.ptr (List.length H + 1) 0) h34)) fun d56 =>
  bi (wantF d54 true (cP n 58 false [d55, d56])) fun d57 =>
  bi (wantF d54 true (loadG true 3 (.ptr (List.length H) 0) h34)) fun d58 =>
  bi (wantF d54 true (loadG true 3 (.ptr (List.length H + 1) 0) h34)) fun d59 =>
  bi (wantF d54 true (cP n 57 false [d58, d59])) fun d60 =>
  bi (wantF d54 true (eqB d57 d60)) fun d61 =>
  bi (pickD d54 d61 (Bo false)) fun d62 =>
  some (d62, h34))
theorem s_triunelaw04_MbapTells_eq (n : Nat) (H : Heap) (fl : Nat) (a0 a1 a2 : DV) : callG Try.prog ENV (n + 1) 10 [a0, a1, a2] H fl = s_triunelaw04_MbapTells n H fl a0 a1 a2 := by kernel_rfl

/-! bytes.Clone -/
noncomputable def s_bytes_Clone (n : Nat) (H : Heap) (fl : Nat) (a0 : DV) : R :=
  bi (binD Try.prog .eql 23 (.tmp 3) (.const (.slice none 0 0)) a0 (.list 0 [] .ti)) fun d0 =>
  condR d0 (
  some ((.list 0 [] .ti), H)) (
  bi (buildL false 1 0 (I .u8 0) []) fun d1 =>
  bi (appG 5 false 1 1 d1 a0 H fl) fun p2 =>
  some (p2.1, p2.2))
theorem s_bytes_Clone_eq (n : Nat) (H : Heap) (fl : Nat) (a0 : DV) : callG Try.prog ENV (n + 1) 72 [a0] H fl = s_bytes_Clone n H fl a0 := by kernel_rfl

/-! bytes.Equal -/
noncomputable def s_bytes_Equal (n : Nat) (H : Heap) (fl : Nat) (a0 a1 : DV) : R :=
  bi (convD Try.prog 23 9 a0) fun d0 =>
  bi (convD Try.prog 23 9 a1) fun d1 =>
  bi (eqS d0 d1) fun d2 =>
  some (d2, H)
theorem s_bytes_Equal_eq (n : Nat) (H : Heap) (fl : Nat) (a0 a1 : DV) : callG Try.prog ENV (n + 1) 73 [a0, a1] H fl = s_bytes_Equal n H fl a0 a1 := by kernel_rfl

end Go.Proofs.Ytigfninpflemnaa
