/- Go functions as Lean functions on deep values; printed by a program of mine. -/
import Derived.Test.YtigfninpflemnabEnv
namespace Go.Proofs.Ytigfninpflemnab
open Go
set_option maxRecDepth 100000
set_option linter.unusedVariables false
/-! triune/triuneref14.New -/
noncomputable def s_triuneref14_New (n : Nat) (H : Heap) (fl : Nat) (a0 : DV) : R :=
  bi (ltK .i64 a0 (I .i64 1)) fun d0 =>
  bi (wantF d0 false (some a0)) fun d1 =>
  bi (wantF d0 false (gtK .i64 d1 (I .i64 20))) fun d2 =>
  bi (pickD d0 (Bo true) d2) fun d3 =>
  condR d3 (
  some ((.tup [(.flat (.pointer none)), (I .i64 1)]), H)) (
  bi (cP n 59 false []) fun d4 =>
  bi (buildS (.agg [(I .i64 0), (Bo false), (Bo false), (Bo false), (I .i64 0), (I .i64 0), (I .i64 0), (I .i64 0), (I .i64 0), (I .i64 0), (I .i64 0), (I .i64 0), (Bo false)]) [(0, 1), (1, 12)] [(0, a0), (1, d4)]) fun d5 =>
  bi (allocG 75 d5 (List.length H) (H ++ [.hole])) fun h6 =>
  some ((.tup [(.ptr (List.length H) 0), (I .i64 0)]), h6))
theorem s_triuneref14_New_eq (n : Nat) (H : Heap) (fl : Nat) (a0 : DV) : callG Try.prog ENV (n + 1) 25 [a0] H fl = s_triuneref14_New n H fl a0 := by kernel_rfl

/-! (*triune/triuneref14.Modes).Round -/
def s___triuneref14_Modes__Round_I0 (x0 x2 x4 x6 : DV) : List DV := [x0, .any, x2, .any, x4, .any, x6, .any, .any, .any, .any, .any, .any, .any, .any, .any, .any, .any, .any, .any, .any, .any, .any, .any, .any, .any, .any, .any, .any, .any, .any, .any, .any, .any, .any, .any, .any, .any, .any, .any, .any, .any, .any, .any, .any, .any, .any, .any, .any, .any, .any, .any, .any, .any, .any, .any, .any, .any, .any, .any, .any, .any, .any, .any, .any, .any, .any, .any, .any, .any, .any, .any, .any, .any, .any, .any, .any, .any, .any, .any, .any, .any, .any, .any, .any, .any, .any, .any, .any, .any, .any, .any, .any, .any, .any, .any, .any, .any, .any, .any, .any, .any, .any, .any, .any, .any, .any, .any, .any, .any]
def s___triuneref14_Modes__Round_O0 (x0 x2 : DV) : List DV := [x0, .any, x2, .any, .any, .any, .any, .any, .any, .any, .any, .any, .any, .any, .any, .any, .any, .any, .any, .any, .any, .any, .any, .any, .any, .any, .any, .any, .any, .any, .any, .any, .any, .any, .any, .any, .any, .any, .any, .any, .any, .any, .any, .any, .any, .any, .any, .any, .any, .any, .any, .any, .any, .any, .any, .any, .any, .any, .any, .any, .any, .any, .any, .any, .any, .any, .any, .any, .any, .any, .any, .any, .any, .any, .any, .any, .any, .any, .any, .any, .any, .any, .any, .any, .any, .any, .any, .any, .any, .any, .any, .any, .any, .any, .any, .any, .any, .any, .any, .any, .any, .any, .any, .any, .any, .any, .any, .any, .any, .any]
noncomputable abbrev s___triuneref14_Modes__Round_b0 (n fl : Nat) : List DV → Heap → (Ex → KF) → R := execG ⟨Try.prog, callG Try.prog ENV n, ENV.md, fl, 110⟩ n (loopAt (bodyOf Try.f27) 0) []
noncomputable def s___triuneref14_Modes__Round_B0 (n fl : Nat) (rec : DV → DV → DV → DV → Heap → R) (k : Ex → KF) (x0 x2 x4 x6 : DV) (H : Heap) : R :=
  bi (ltK .i64 x6 (I .i64 3)) fun d0 =>
  condR d0 (
  bi (nilD x0) fun d1 =>
  bi (fieldD 1 12 d1) fun d2 =>
  bi (fieldD 0 3 d2) fun d3 =>
  bi (idxArr 3 1 d3 x6) fun d4 =>
  bi (loadG false 1 d4 H) fun d5 =>
  bi (notD d5) fun d6 =>
  condR d6 (
  bi (addK .i64 x6 (I .i64 1)) fun d7 =>
  rec x0 x2 x4 d7 H) (
  bi (idxArr 3 1 x4 x6) fun d8 =>
  bi (loadG false 1 d8 H) fun d9 =>
  condR d9 (
   bi (nilD x0) fun d10 =>
   bi (fieldD 1 12 d10) fun d11 =>
   bi (fieldD 3 3 d11) fun d12 =>
   bi (idxArr 3 1 d12 x6) fun d13 =>
   bi (loadG false 1 d13 H) fun d14 =>
   bi (addK .i64 d14 (I .i64 1)) fun d15 =>
   bi (nilD x0) fun d16 =>
   bi (fieldD 1 12 d16) fun d17 =>
   bi (fieldD 3 3 d17) fun d18 =>
   bi (idxArr 3 1 d18 x6) fun d19 =>
   bi (storeG 1 d19 d15 H fl) fun h20 =>
  bi (nilD x0) fun d21 =>
  bi (fieldD 1 12 d21) fun d22 =>
  bi (fieldD 3 3 d22) fun d23 =>
  bi (idxArr 3 1 d23 x6) fun d24 =>
  bi (loadG false 1 d24 h20) fun d25 =>
  bi (nilD x0) fun d26 =>
  bi (fieldD 0 1 d26) fun d27 =>
  bi (loadG false 1 d27 h20) fun d28 =>
  bi (geK .i64 d25 d28) fun d29 =>
  condR d29 (
   bi (nilD x0) fun d30 =>
   bi (fieldD 1 12 d30) fun d31 =>
   bi (fieldD 0 3 d31) fun d32 =>
   bi (idxArr 3 1 d32 x6) fun d33 =>
   bi (storeG 1 d33 (Bo false) h20 fl) fun h34 =>
   bi (nilD x0) fun d35 =>
   bi (fieldD 1 12 d35) fun d36 =>
   bi (fieldD 6 3 d36) fun d37 =>
   bi (idxArr 3 1 d37 x6) fun d38 =>
   bi (loadG false 1 d38 h34) fun d39 =>
   bi (quoK .i64 d39 (I .i64 2)) fun d40 =>
   bi (mulK .i64 d40 (I .i64 2)) fun d41 =>
   bi (addK .i64 d41 (I .i64 1)) fun d42 =>
   bi (nilD x0) fun d43 =>
   bi (fieldD 1 12 d43) fun d44 =>
   bi (fieldD 6 3 d44) fun d45 =>
   bi (idxArr 3 1 d45 x6) fun d46 =>
   bi (storeG 1 d46 d42 h34 fl) fun h47 =>
  bi (addK .i64 x6 (I .i64 1)) fun d48 =>
  rec x0 x2 x4 d48 h47) (
  bi (addK .i64 x6 (I .i64 1)) fun d49 =>
  rec x0 x2 x4 d49 h20)) (
   bi (nilD x0) fun d50 =>
   bi (fieldD 1 12 d50) fun d51 =>
   bi (fieldD 3 3 d51) fun d52 =>
   bi (idxArr 3 1 d52 x6) fun d53 =>
   bi (storeG 1 d53 (I .i64 0) H fl) fun h54 =>
  bi (nilD x0) fun d55 =>
  bi (fieldD 1 12 d55) fun d56 =>
  bi (fieldD 3 3 d56) fun d57 =>
  bi (idxArr 3 1 d57 x6) fun d58 =>
  bi (loadG false 1 d58 h54) fun d59 =>
  bi (nilD x0) fun d60 =>
  bi (fieldD 0 1 d60) fun d61 =>
  bi (loadG false 1 d61 h54) fun d62 =>
  bi (geK .i64 d59 d62) fun d63 =>
  condR d63 (
   bi (nilD x0) fun d64 =>
   bi (fieldD 1 12 d64) fun d65 =>
   bi (fieldD 0 3 d65) fun d66 =>
   bi (idxArr 3 1 d66 x6) fun d67 =>
   bi (storeG 1 d67 (Bo false) h54 fl) fun h68 =>
   bi (nilD x0) fun d69 =>
   bi (fieldD 1 12 d69) fun d70 =>
   bi (fieldD 6 3 d70) fun d71 =>
   bi (idxArr 3 1 d71 x6) fun d72 =>
   bi (loadG false 1 d72 h68) fun d73 =>
   bi (quoK .i64 d73 (I .i64 2)) fun d74 =>
   bi (mulK .i64 d74 (I .i64 2)) fun d75 =>
   bi (addK .i64 d75 (I .i64 1)) fun d76 =>
   bi (nilD x0) fun d77 =>
   bi (fieldD 1 12 d77) fun d78 =>
   bi (fieldD 6 3 d78) fun d79 =>
   bi (idxArr 3 1 d79 x6) fun d80 =>
   bi (storeG 1 d80 d76 h68 fl) fun h81 =>
  bi (addK .i64 x6 (I .i64 1)) fun d82 =>
  rec x0 x2 x4 d82 h81) (
  bi (addK .i64 x6 (I .i64 1)) fun d83 =>
  rec x0 x2 x4 d83 h54)))) (
  k (.exit 0) (s___triuneref14_Modes__Round_O0 x0 x2) H)
noncomputable def s___triuneref14_Modes__Round_L0 (n fl : Nat) (k : Ex → KF) : Nat → DV → DV → DV → DV → Heap → R
  | 0, _, _, _, _, _ => none
  | m + 1, x0, x2, x4, x6, H => s___triuneref14_Modes__Round_B0 n fl (s___triuneref14_Modes__Round_L0 n fl k m) k x0 x2 x4 x6 H
theorem s___triuneref14_Modes__Round_S0 (n fl m : Nat) (k : Ex → KF) (x0 x2 x4 x6 : DV) (H : Heap) : loopG [0, 2, 4, 6] [0, 2] 110 (s___triuneref14_Modes__Round_b0 n fl) (m + 1) (s___triuneref14_Modes__Round_I0 x0 x2 x4 x6) H k = s___triuneref14_Modes__Round_B0 n fl (fun x0 x2 x4 x6 H => loopG [0, 2, 4, 6] [0, 2] 110 (s___triuneref14_Modes__Round_b0 n fl) m (s___triuneref14_Modes__Round_I0 x0 x2 x4 x6) H k) k x0 x2 x4 x6 H := by kernel_rfl
theorem s___triuneref14_Modes__Round_L0_eq (n fl : Nat) (k : Ex → KF) : ∀ (m : Nat) (x0 x2 x4 x6 : DV) (H : Heap), loopG [0, 2, 4, 6] [0, 2] 110 (s___triuneref14_Modes__Round_b0 n fl) m (s___triuneref14_Modes__Round_I0 x0 x2 x4 x6) H k = s___triuneref14_Modes__Round_L0 n fl k m x0 x2 x4 x6 H := by
  intro m
  induction m with
  | zero => intros; rfl
  | succ m ih =>
    intro x0 x2 x4 x6 H
    rw [s___triuneref14_Modes__Round_S0, show (fun x0 x2 x4 x6 H => loopG [0, 2, 4, 6] [0, 2] 110 (s___triuneref14_Modes__Round_b0 n fl) m (s___triuneref14_Modes__Round_I0 x0 x2 x4 x6) H k) = s___triuneref14_Modes__Round_L0 n fl k m from by funext x0 x2 x4 x6 H; exact ih _ _ _ _ _]
    rw [s___triuneref14_Modes__Round_L0]
noncomputable def s___triuneref14_Modes__Round (n : Nat) (H : Heap) (fl : Nat) (a0 a1 a2 : DV) : R :=
  bi (allocG 60 a1 (List.length H) (H ++ [.hole])) fun h0 =>
  loopG [0, 2, 4, 6] [0, 2] 110 (s___triuneref14_Modes__Round_b0 n fl) n (s___triuneref14_Modes__Round_I0 a0 a2 (.ptr (List.length H) 0) (I .i64 0)) h0 fun x S1 h1 => match x with
  | .normal => none
  | .exit i1 => (
  if i1 = 0 then (
  condR (S1.getD 2 .any) (
   bi (nilD (S1.getD 0 .any)) fun d2 =>
   bi (fieldD 1 12 d2) fun d3 =>
   bi (fieldD 9 1 d3) fun d4 =>
   bi (loadG false 1 d4 h1) fun d5 =>
   bi (addK .i64 d5 (I .i64 1)) fun d6 =>
   bi (nilD (S1.getD 0 .any)) fun d7 =>
   bi (fieldD 1 12 d7) fun d8 =>
   bi (fieldD 9 1 d8) fun d9 =>
   bi (storeG 1 d9 d6 h1 fl) fun h10 =>
  bi (nilD (S1.getD 0 .any)) fun d11 =>
  bi (fieldD 1 12 d11) fun d12 =>
  bi (fieldD 9 1 d12) fun d13 =>
  bi (loadG false 1 d13 h10) fun d14 =>
  bi (nilD (S1.getD 0 .any)) fun d15 =>
  bi (fieldD 0 1 d15) fun d16 =>
  bi (loadG false 1 d16 h10) fun d17 =>
  bi (geK .i64 d14 d17) fun d18 =>
  bi (wantF d18 false (some (S1.getD 0 .any))) fun d19 =>
  bi (wantF d18 false (nilD d19)) fun d20 =>
  bi (wantF d18 false (fieldD 1 12 d20)) fun d21 =>
  bi (wantF d18 false (loadG true 12 d21 h10)) fun d22 =>
  bi (wantF d18 false (cP n 60 false [d22])) fun d23 =>
  bi (wantF d18 false (ltK .i64 d23 (I .i64 2))) fun d24 =>
  bi (pickD d18 (Bo true) d24) fun d25 =>
  condR d25 (
   bi (nilD (S1.getD 0 .any)) fun d26 =>
   bi (fieldD 1 12 d26) fun d27 =>
   bi (fieldD 11 1 d27) fun d28 =>
   bi (storeG 1 d28 (Bo true) h10 fl) fun h29 =>
  some ((.tup []), h29)) (
  some ((.tup []), h10))) (
   bi (nilD (S1.getD 0 .any)) fun d30 =>
   bi (fieldD 1 12 d30) fun d31 =>
   bi (fieldD 9 1 d31) fun d32 =>
   bi (storeG 1 d32 (I .i64 0) h1 fl) fun h33 =>
  bi (nilD (S1.getD 0 .any)) fun d34 =>
  bi (fieldD 1 12 d34) fun d35 =>
  bi (fieldD 9 1 d35) fun d36 =>
  bi (loadG false 1 d36 h33) fun d37 =>
  bi (nilD (S1.getD 0 .any)) fun d38 =>
  bi (fieldD 0 1 d38) fun d39 =>
  bi (loadG false 1 d39 h33) fun d40 =>
  bi (geK .i64 d37 d40) fun d41 =>
  bi (wantF d41 false (some (S1.getD 0 .any))) fun d42 =>
  bi (wantF d41 false (nilD d42)) fun d43 =>
  bi (wantF d41 false (fieldD 1 12 d43)) fun d44 =>
  bi (wantF d41 false (loadG true 12 d44 h33)) fun d45 =>
  bi (wantF d41 false (cP n 60 false [d45])) fun d46 =>
  bi (wantF d41 false (ltK .i64 d46 (I .i64 2))) fun d47 =>
  bi (pickD d41 (Bo true) d47) fun d48 =>
  condR d48 (
   bi (nilD (S1.getD 0 .any)) fun d49 =>
   bi (fieldD 1 12 d49) fun d50 =>
   bi (fieldD 11 1 d50) fun d51 =>
   bi (storeG 1 d51 (Bo true) h33 fl) fun h52 =>
  some ((.tup []), h52)) (
  some ((.tup []), h33)))) else (
  none))
  | .ret => (
  some ((.tup []), h1))
theorem s___triuneref14_Modes__Round_eq (n : Nat) (H : Heap) (fl : Nat) (a0 a1 a2 : DV) : callG Try.prog ENV (n + 1) 27 [a0, a1, a2] H fl = s___triuneref14_Modes__Round n H fl a0 a1 a2 := by kernel_rfl

/-! (*triune/triuneref14.Modes).Test -/
noncomputable def s___triuneref14_Modes__Test (n : Nat) (H : Heap) (fl : Nat) (a0 a1 : DV) : R :=
  bi (ltK .i64 a1 (I .i64 0)) fun d0 =>
  bi (wantF d0 false (some a1)) fun d1 =>
  bi (wantF d0 false (gtK .i64 d1 (I .i64 2))) fun d2 =>
  bi (pickD d0 (Bo true) d2) fun d3 =>
  condR d3 (
  some ((I .i64 1), H)) (
  bi (nilD a0) fun d4 =>
  bi (fieldD 1 12 d4) fun d5 =>
  bi (fieldD 11 1 d5) fun d6 =>
  bi (loadG false 1 d6 H) fun d7 =>
  bi (wantF d7 false (some a0)) fun d8 =>
  bi (wantF d7 false (nilD d8)) fun d9 =>
  bi (wantF d7 false (fieldD 1 12 d9)) fun d10 =>
  bi (wantF d7 false (loadG true 12 d10 H)) fun d11 =>
  bi (wantF d7 false (cP n 60 false [d11])) fun d12 =>
  bi (wantF d7 false (ltK .i64 d12 (I .i64 3))) fun d13 =>
  bi (pickD d7 (Bo true) d13) fun d14 =>
  condR d14 (
  some ((I .i64 8), H)) (
  bi (nilD a0) fun d15 =>
  bi (fieldD 1 12 d15) fun d16 =>
  bi (fieldD 0 3 d16) fun d17 =>
  bi (idxArr 3 1 d17 a1) fun d18 =>
  bi (storeG 1 d18 (Bo false) H fl) fun h19 =>
  bi (nilD a0) fun d20 =>
  bi (fieldD 1 12 d20) fun d21 =>
  bi (fieldD 3 3 d21) fun d22 =>
  bi (idxArr 3 1 d22 a1) fun d23 =>
  bi (storeG 1 d23 (I .i64 0) h19 fl) fun h24 =>
  bi (nilD a0) fun d25 =>
  bi (fieldD 1 12 d25) fun d26 =>
  bi (fieldD 10 1 d26) fun d27 =>
  bi (storeG 1 d27 a1 h24 fl) fun h28 =>
  some ((I .i64 0), h28)))
theorem s___triuneref14_Modes__Test_eq (n : Nat) (H : Heap) (fl : Nat) (a0 a1 : DV) : callG Try.prog ENV (n + 1) 28 [a0, a1] H fl = s___triuneref14_Modes__Test n H fl a0 a1 := by kernel_rfl

/-! (*triune/triuneref14.Modes).Reset -/
def s___triuneref14_Modes__Reset_I0 (x0 x3 x5 : DV) : List DV := [x0, .any, .any, x3, .any, x5, .any, .any, .any, .any, .any, .any, .any, .any, .any, .any, .any, .any, .any, .any, .any, .any, .any, .any, .any, .any, .any, .any]
def s___triuneref14_Modes__Reset_O0 (x0 x4 : DV) : List DV := [x0, .any, .any, .any, x4, .any, .any, .any, .any, .any, .any, .any, .any, .any, .any, .any, .any, .any, .any, .any, .any, .any, .any, .any, .any, .any, .any, .any]
noncomputable abbrev s___triuneref14_Modes__Reset_b0 (n fl : Nat) : List DV → Heap → (Ex → KF) → R := execG ⟨Try.prog, callG Try.prog ENV n, ENV.md, fl, 28⟩ n (loopAt (bodyOf Try.f29) 0) []
noncomputable def s___triuneref14_Modes__Reset_B0 (n fl : Nat) (rec : DV → DV → DV → Heap → R) (k : Ex → KF) (x0 x3 x5 : DV) (H : Heap) : R :=
  bi (ltK .i64 x5 (I .i64 3)) fun d0 =>
  condR d0 (
  bi (nilD x0) fun d1 =>
  bi (fieldD 1 12 d1) fun d2 =>
  bi (fieldD 0 3 d2) fun d3 =>
  bi (idxArr 3 1 d3 x5) fun d4 =>
  bi (loadG false 1 d4 H) fun d5 =>
  bi (notD d5) fun d6 =>
  bi (wantF d6 true (some x5)) fun d7 =>
  bi (wantF d6 true (idxArr 3 1 x3 d7)) fun d8 =>
  bi (wantF d6 true (loadG false 1 d8 H)) fun d9 =>
  bi (wantF d6 true (notD d9)) fun d10 =>
  bi (pickD d6 d10 (Bo false)) fun d11 =>
  condR d11 (
  k .ret (s___triuneref14_Modes__Reset_O0 x0 (I .i64 8)) H) (
  bi (addK .i64 x5 (I .i64 1)) fun d12 =>
  rec x0 x3 d12 H)) (
  k (.exit 0) (s___triuneref14_Modes__Reset_O0 x0 .any) H)
noncomputable def s___triuneref14_Modes__Reset_L0 (n fl : Nat) (k : Ex → KF) : Nat → DV → DV → DV → Heap → R
  | 0, _, _, _, _ => none
  | m + 1, x0, x3, x5, H => s___triuneref14_Modes__Reset_B0 n fl (s___triuneref14_Modes__Reset_L0 n fl k m) k x0 x3 x5 H
theorem s___triuneref14_Modes__Reset_S0 (n fl m : Nat) (k : Ex → KF) (x0 x3 x5 : DV) (H : Heap) : loopG [0, 3, 5] [0, 4] 28 (s___triuneref14_Modes__Reset_b0 n fl) (m + 1) (s___triuneref14_Modes__Reset_I0 x0 x3 x5) H k = s___triuneref14_Modes__Reset_B0 n fl (fun x0 x3 x5 H => loopG [0, 3, 5] [0, 4] 28 (s___triuneref14_Modes__Reset_b0 n fl) m (s___triuneref14_Modes__Reset_I0 x0 x3 x5) H k) k x0 x3 x5 H := by kernel_rfl
theorem s___triuneref14_Modes__Reset_L0_eq (n fl : Nat) (k : Ex → KF) : ∀ (m : Nat) (x0 x3 x5 : DV) (H : Heap), loopG [0, 3, 5] [0, 4] 28 (s___triuneref14_Modes__Reset_b0 n fl) m (s___triuneref14_Modes__Reset_I0 x0 x3 x5) H k = s___triuneref14_Modes__Reset_L0 n fl k m x0 x3 x5 H := by
  intro m
  induction m with
  | zero => intros; rfl
  | succ m ih =>
    intro x0 x3 x5 H
    rw [s___triuneref14_Modes__Reset_S0, show (fun x0 x3 x5 H => loopG [0, 3, 5] [0, 4] 28 (s___triuneref14_Modes__Reset_b0 n fl) m (s___triuneref14_Modes__Reset_I0 x0 x3 x5) H k) = s___triuneref14_Modes__Reset_L0 n fl k m from by funext x0 x3 x5 H; exact ih _ _ _ _]
    rw [s___triuneref14_Modes__Reset_L0]
noncomputable def s___triuneref14_Modes__Reset (n : Nat) (H : Heap) (fl : Nat) (a0 a1 : DV) : R :=
  bi (allocG 60 a1 (List.length H) (H ++ [.hole])) fun h0 =>
  loopG [0, 3, 5] [0, 4] 28 (s___triuneref14_Modes__Reset_b0 n fl) n (s___triuneref14_Modes__Reset_I0 a0 (.ptr (List.length H) 0) (I .i64 0)) h0 fun x S1 h1 => match x with
  | .normal => none
  | .exit i1 => (
  if i1 = 0 then (
  bi (cP n 59 false []) fun d2 =>
  bi (nilD (S1.getD 0 .any)) fun d3 =>
  bi (fieldD 1 12 d3) fun d4 =>
  bi (storeG 12 d4 d2 h1 fl) fun h5 =>
  some ((I .i64 0), h5)) else (
  none))
  | .ret => (
  some ((S1.getD 4 .any), h1))
theorem s___triuneref14_Modes__Reset_eq (n : Nat) (H : Heap) (fl : Nat) (a0 a1 : DV) : callG Try.prog ENV (n + 1) 29 [a0, a1] H fl = s___triuneref14_Modes__Reset n H fl a0 a1 := by kernel_rfl

/-! (*triune/triuneref14.Modes).Fault -/
noncomputable def s___triuneref14_Modes__Fault (n : Nat) (H : Heap) (fl : Nat) (a0 a1 : DV) : R :=
  bi (ltK .i64 a1 (I .i64 0)) fun d0 =>
  bi (wantF d0 false (some a1)) fun d1 =>
  bi (wantF d0 false (gtK .i64 d1 (I .i64 2))) fun d2 =>
  bi (pickD d0 (Bo true) d2) fun d3 =>
  condR d3 (
  some ((I .i64 1), H)) (
  bi (nilD a0) fun d4 =>
  bi (fieldD 1 12 d4) fun d5 =>
  bi (fieldD 6 3 d5) fun d6 =>
  bi (idxArr 3 1 d6 a1) fun d7 =>
  bi (loadG false 1 d7 H) fun d8 =>
  bi (remK .i64 d8 (I .i64 2)) fun d9 =>
  bi (addK .i64 d9 (I .i64 2)) fun d10 =>
  bi (nilD a0) fun d11 =>
  bi (fieldD 1 12 d11) fun d12 =>
  bi (fieldD 6 3 d12) fun d13 =>
  bi (idxArr 3 1 d13 a1) fun d14 =>
  bi (storeG 1 d14 d10 H fl) fun h15 =>
  some ((I .i64 0), h15))
theorem s___triuneref14_Modes__Fault_eq (n : Nat) (H : Heap) (fl : Nat) (a0 a1 : DV) : callG Try.prog ENV (n + 1) 30 [a0, a1] H fl = s___triuneref14_Modes__Fault n H fl a0 a1 := by kernel_rfl

/-! triune/triuneref14.Mode -/
noncomputable def s_triuneref14_Mode (n : Nat) (H : Heap) (fl : Nat) (a0 : DV) : R :=
  bi (allocG 71 a0 (List.length H) (H ++ [.hole])) fun h0 =>
  bi (loadG false 1 (.ptr (List.length H) 11) h0) fun d1 =>
  bi (wantF d1 false (loadG true 12 (.ptr (List.length H) 0) h0)) fun d2 =>
  bi (wantF d1 false (cP n 60 false [d2])) fun d3 =>
  bi (wantF d1 false (ltK .i64 d3 (I .i64 2))) fun d4 =>
  bi (pickD d1 (Bo true) d4) fun d5 =>
  condR d5 (
  some ((I .i64 0), h0)) (
  bi (loadG true 12 (.ptr (List.length H) 0) h0) fun d6 =>
  bi (cP n 60 false [d6]) fun d7 =>
  bi (subK .i64 d7 (I .i64 1)) fun d8 =>
  some (d8, h0))
theorem s_triuneref14_Mode_eq (n : Nat) (H : Heap) (fl : Nat) (a0 : DV) : callG Try.prog ENV (n + 1) 33 [a0] H fl = s_triuneref14_Mode n H fl a0 := by kernel_rfl

/-! triune/triuneref14.first -/
noncomputable def s_triuneref14_first (n : Nat) (H : Heap) (fl : Nat) : R :=
  bi (allocG 71 (.agg [(Bo false), (Bo false), (Bo false), (I .i64 0), (I .i64 0), (I .i64 0), (I .i64 0), (I .i64 0), (I .i64 0), (I .i64 0), (I .i64 0), (Bo false)]) (List.length H) (H ++ [.hole])) fun h0 =>
  bi (buildA (.agg [(Bo false), (Bo false), (Bo false)]) 1 [(0, (Bo true)), (1, (Bo true)), (2, (Bo true))]) fun d1 =>
  bi (buildS (.agg [(Bo false), (Bo false), (Bo false), (I .i64 0), (I .i64 0), (I .i64 0), (I .i64 0), (I .i64 0), (I .i64 0), (I .i64 0), (I .i64 0), (Bo false)]) [(0, 3), (3, 3), (6, 3), (9, 1), (10, 1), (11, 1)] [(0, d1), (4, (I .i64 (-1)))]) fun d2 =>
  bi (storeG 12 (.ptr (List.length H) 0) d2 h0 fl) fun h3 =>
  bi (cellR true 12 (.ptr (List.length H) 0) h3) fun r0 =>
  some (r0, h3)
theorem s_triuneref14_first_eq (n : Nat) (H : Heap) (fl : Nat) : callG Try.prog ENV (n + 1) 59 [] H fl = s_triuneref14_first n H fl  := by kernel_rfl

/-! triune/triuneref14.many -/
def s_triuneref14_many_I0 (x1 x3 x4 : DV) : List DV := [.any, x1, .any, x3, x4, .any, .any, .any, .any, .any, .any, .any, .any, .any, .any, .any]
def s_triuneref14_many_O0 (x3 : DV) : List DV := [.any, .any, .any, x3, .any, .any, .any, .any, .any, .any, .any, .any, .any, .any, .any, .any]
noncomputable abbrev s_triuneref14_many_b0 (n fl : Nat) : List DV → Heap → (Ex → KF) → R := execG ⟨Try.prog, callG Try.prog ENV n, ENV.md, fl, 16⟩ n (loopAt (bodyOf Try.f60) 0) []
noncomputable def s_triuneref14_many_B0 (n fl : Nat) (rec : DV → DV → DV → Heap → R) (k : Ex → KF) (x1 x3 x4 : DV) (H : Heap) : R :=
  bi (ltK .i64 x4 (I .i64 3)) fun d0 =>
  condR d0 (
  bi (fieldD 0 3 x1) fun d1 =>
  bi (idxArr 3 1 d1 x4) fun d2 =>
  bi (loadG false 1 d2 H) fun d3 =>
  condR d3 (
   bi (addK .i64 x3 (I .i64 1)) fun d4 =>
  bi (addK .i64 x4 (I .i64 1)) fun d5 =>
  rec x1 d4 d5 H) (
  bi (addK .i64 x4 (I .i64 1)) fun d6 =>
  rec x1 x3 d6 H)) (
  k (.exit 0) (s_triuneref14_many_O0 x3) H)
noncomputable def s_triuneref14_many_L0 (n fl : Nat) (k : Ex → KF) : Nat → DV → DV → DV → Heap → R
  | 0, _, _, _, _ => none
  | m + 1, x1, x3, x4, H => s_triuneref14_many_B0 n fl (s_triuneref14_many_L0 n fl k m) k x1 x3 x4 H
theorem s_triuneref14_many_S0 (n fl m : Nat) (k : Ex → KF) (x1 x3 x4 : DV) (H : Heap) : loopG [1, 3, 4] [3] 16 (s_triuneref14_many_b0 n fl) (m + 1) (s_triuneref14_many_I0 x1 x3 x4) H k = s_triuneref14_many_B0 n fl (fun x1 x3 x4 H => loopG [1, 3, 4] [3] 16 (s_triuneref14_many_b0 n fl) m (s_triuneref14_many_I0 x1 x3 x4) H k) k x1 x3 x4 H := by kernel_rfl
theorem s_triuneref14_many_L0_eq (n fl : Nat) (k : Ex → KF) : ∀ (m : Nat) (x1 x3 x4 : DV) (H : Heap), loopG [1, 3, 4] [3] 16 (s_triuneref14_many_b0 n fl) m (s_triuneref14_many_I0 x1 x3 x4) H k = s_triuneref14_many_L0 n fl k m x1 x3 x4 H := by
  intro m
  induction m with
  | zero => intros; rfl
  | succ m ih =>
    intro x1 x3 x4 H
    rw [s_triuneref14_many_S0, show (fun x1 x3 x4 H => loopG [1, 3, 4] [3] 16 (s_triuneref14_many_b0 n fl) m (s_triuneref14_many_I0 x1 x3 x4) H k) = s_triuneref14_many_L0 n fl k m from by funext x1 x3 x4 H; exact ih _ _ _ _]
    rw [s_triuneref14_many_L0]
noncomputable def s_triuneref14_many (n : Nat) (H : Heap) (fl : Nat) (a0 : DV) : R :=
  bi (allocG 71 a0 (List.length H) (H ++ [.hole])) fun h0 =>
  loopG [1, 3, 4] [3] 16 (s_triuneref14_many_b0 n fl) n (s_triuneref14_many_I0 (.ptr (List.length H) 0) (I .i64 0) (I .i64 0)) h0 fun x S1 h1 => match x with
  | .normal => none
  | .exit i1 => (
  if i1 = 0 then (
  some ((S1.getD 3 .any), h1)) else (
  none))
  | .ret => (
  some (.any, h1))
theorem s_triuneref14_many_eq (n : Nat) (H : Heap) (fl : Nat) (a0 : DV) : callG Try.prog ENV (n + 1) 60 [a0] H fl = s_triuneref14_many n H fl a0 := by kernel_rfl

end Go.Proofs.Ytigfninpflemnab
