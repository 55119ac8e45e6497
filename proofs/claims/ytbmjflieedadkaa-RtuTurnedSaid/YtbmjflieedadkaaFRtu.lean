/- Go functions as Lean functions on deep values; printed by a program of mine. -/
import Derived.Test.YtbmjflieedadkaaEnv
namespace Go.Proofs.Ytbmjflieedadkaa
open Go
set_option maxRecDepth 100000
set_option linter.unusedVariables false
/-! triune/rtu.within -/
noncomputable def s_rtu_within (n : Nat) (H : Heap) (fl : Nat) (a0 a1 a2 : DV) : R :=
  bi (ltK .i64 a0 a1) fun d0 =>
  condR d0 (
   bi (buildS (.agg [(I .i64 0), (.flat .nilIface)]) [(0, 1), (1, 1)] [(0, a0), (1, (.iface 26 (I .i64 3)))]) fun d1 =>
  some ((.iface 100 d1), H)) (
   bi (gtK .i64 a0 a2) fun d2 =>
   condR d2 (
    bi (buildS (.agg [(I .i64 0), (.flat .nilIface)]) [(0, 1), (1, 1)] [(0, a0), (1, (.iface 26 (I .i64 4)))]) fun d3 =>
  some ((.iface 100 d3), H)) (
  some ((.flat .nilIface), H)))
theorem s_rtu_within_eq (n : Nat) (H : Heap) (fl : Nat) (a0 a1 a2 : DV) : callG Try.prog ENV (n + 1) 36 [a0, a1, a2] H fl = s_rtu_within n H fl a0 a1 a2 := by kernel_rfl

/-! triune/rtu.told -/
def s_rtu_told_I0 (x0 x7 x8 x9 : DV) : List DV := [x0, .any, .any, .any, .any, .any, .any, x7, x8, x9, .any, .any, .any, .any, .any, .any, .any, .any, .any]
def s_rtu_told_O0 (x4 : DV) : List DV := [.any, .any, .any, .any, x4, .any, .any, .any, .any, .any, .any, .any, .any, .any, .any, .any, .any, .any, .any]
noncomputable abbrev s_rtu_told_b0 (n fl : Nat) : List DV → Heap → (Ex → KF) → R := execG ⟨Try.prog, callG Try.prog ENV n, ENV.md, fl, 19⟩ n (loopAt (bodyOf Try.f37) 0) []
noncomputable def s_rtu_told_B0 (n fl : Nat) (rec : DV → DV → DV → DV → Heap → R) (k : Ex → KF) (x0 x7 x8 x9 : DV) (H : Heap) : R :=
  bi (ltK .i64 x9 x8) fun d0 =>
  condR d0 (
  bi (idxSl 1 x7 x9) fun d1 =>
  bi (loadG false 1 d1 H) fun d2 =>
  bi (cO n 49 [x0, (.iface 26 d2)] H) fun d3 =>
  condR d3 (
  k .ret (s_rtu_told_O0 d2) H) (
  bi (addK .i64 x9 (I .i64 1)) fun d4 =>
  rec x0 x7 x8 d4 H)) (
  k (.exit 0) (s_rtu_told_O0 .any) H)
noncomputable def s_rtu_told_L0 (n fl : Nat) (k : Ex → KF) : Nat → DV → DV → DV → DV → Heap → R
  | 0, _, _, _, _, _ => none
  | m + 1, x0, x7, x8, x9, H => s_rtu_told_B0 n fl (s_rtu_told_L0 n fl k m) k x0 x7 x8 x9 H
theorem s_rtu_told_S0 (n fl m : Nat) (k : Ex → KF) (x0 x7 x8 x9 : DV) (H : Heap) : loopG [0, 7, 8, 9] [4] 19 (s_rtu_told_b0 n fl) (m + 1) (s_rtu_told_I0 x0 x7 x8 x9) H k = s_rtu_told_B0 n fl (fun x0 x7 x8 x9 H => loopG [0, 7, 8, 9] [4] 19 (s_rtu_told_b0 n fl) m (s_rtu_told_I0 x0 x7 x8 x9) H k) k x0 x7 x8 x9 H := by kernel_rfl
theorem s_rtu_told_L0_eq (n fl : Nat) (k : Ex → KF) : ∀ (m : Nat) (x0 x7 x8 x9 : DV) (H : Heap), loopG [0, 7, 8, 9] [4] 19 (s_rtu_told_b0 n fl) m (s_rtu_told_I0 x0 x7 x8 x9) H k = s_rtu_told_L0 n fl k m x0 x7 x8 x9 H := by
  intro m
  induction m with
  | zero => intros; rfl
  | succ m ih =>
    intro x0 x7 x8 x9 H
    rw [s_rtu_told_S0, show (fun x0 x7 x8 x9 H => loopG [0, 7, 8, 9] [4] 19 (s_rtu_told_b0 n fl) m (s_rtu_told_I0 x0 x7 x8 x9) H k) = s_rtu_told_L0 n fl k m from by funext x0 x7 x8 x9 H; exact ih _ _ _ _ _]
    rw [s_rtu_told_L0]
noncomputable def s_rtu_told (n : Nat) (H : Heap) (fl : Nat) (a0 a1 : DV) : R :=
  bi (lenD a1) fun d0 =>
  loopG [0, 7, 8, 9] [4] 19 (s_rtu_told_b0 n fl) n (s_rtu_told_I0 a0 a1 d0 (I .i64 0)) H fun x S1 h1 => match x with
  | .normal => none
  | .exit i1 => (
  if i1 = 0 then (
  some ((I .i64 0), h1)) else (
  none))
  | .ret => (
  some ((S1.getD 4 .any), h1))
theorem s_rtu_told_eq (n : Nat) (H : Heap) (fl : Nat) (a0 a1 : DV) : callG Try.prog ENV (n + 1) 37 [a0, a1] H fl = s_rtu_told n H fl a0 a1 := by kernel_rfl

/-! triune/rtu.Bytes -/
noncomputable def s_rtu_Bytes (n : Nat) (H : Heap) (fl : Nat) (a0 : DV) : R :=
  bi (allocG 24 a0 (List.length H) (H ++ [.hole])) fun h0 =>
  bi (loadG false 1 (.ptr (List.length H) 1) h0) fun d1 =>
  bi (lenD d1) fun d2 =>
  bi (cO n 36 [d2, (I .i64 1), (I .i64 253)] h0) fun d3 =>
  bi (binD Try.prog .neq 70 (.tmp 9) (.const .nilIface) d3 (.flat .nilIface)) fun d4 =>
  condR d4 (
   bi (buildL false 1 2 (I .i64 0) [(0, (I .i64 3)), (1, (I .i64 4))]) fun d5 =>
   bi (cO n 37 [d3, d5] h0) fun d6 =>
  some ((.tup [(.list 0 [] .ti), d6]), h0)) (
  bi (loadG false 1 (.ptr (List.length H) 0) h0) fun d7 =>
  bi (buildL false 1 1 (I .u8 0) [(0, d7)]) fun d8 =>
  bi (loadG false 1 (.ptr (List.length H) 1) h0) fun d9 =>
  bi (appG 5 false 1 1 d8 d9 h0 fl) fun p10 =>
  bi (cP n 38 false [p10.1]) fun d11 =>
  some ((.tup [d11, (I .i64 0)]), p10.2))
theorem s_rtu_Bytes_eq (n : Nat) (H : Heap) (fl : Nat) (a0 : DV) : callG Try.prog ENV (n + 1) 10 [a0] H fl = s_rtu_Bytes n H fl a0 := by kernel_rfl

/-! triune/rtu.Read -/
noncomputable def s_rtu_Read (n : Nat) (H : Heap) (fl : Nat) (a0 : DV) : R :=
  bi (allocG 24 (.agg [(I .u8 0), (.list 0 [] .ti)]) (List.length H) (H ++ [.hole])) fun h0 =>
  bi (lenD a0) fun d1 =>
  bi (cO n 36 [d1, (I .i64 4), (I .i64 256)] h0) fun d2 =>
  bi (binD Try.prog .neq 70 (.tmp 10) (.const .nilIface) d2 (.flat .nilIface)) fun d3 =>
  condR d3 (
   bi (buildS (.agg [(I .u8 0), (.list 0 [] .ti)]) [(0, 1), (1, 1)] []) fun d4 =>
   bi (buildL false 1 2 (I .i64 0) [(0, (I .i64 3)), (1, (I .i64 4))]) fun d5 =>
   bi (cO n 37 [d2, d5] h0) fun d6 =>
   bi (storeG 2 (.ptr (List.length H) 0) d4 h0 fl) fun h7 =>
  bi (cellR true 2 (.ptr (List.length H) 0) h7) fun r0 =>
  some ((.tup [r0, d6]), h7)) (
  bi (cP n 40 false [a0]) fun d8 =>
  bi (extD 0 d8) fun d9 =>
  bi (extD 1 d8) fun d10 =>
  bi (notD d10) fun d11 =>
  condR d11 (
   bi (buildS (.agg [(I .u8 0), (.list 0 [] .ti)]) [(0, 1), (1, 1)] []) fun d12 =>
   bi (storeG 2 (.ptr (List.length H) 0) d12 h0 fl) fun h13 =>
  bi (cellR true 2 (.ptr (List.length H) 0) h13) fun r0 =>
  some ((.tup [r0, (I .i64 6)]), h13)) (
  bi (idxSl 1 d9 (I .i64 0)) fun d14 =>
  bi (loadG false 1 d14 h0) fun d15 =>
  bi (slX 1 d9 (some (I .i64 1)) none none) fun d16 =>
  bi (buildS (.agg [(I .u8 0), (.list 0 [] .ti)]) [(0, 1), (1, 1)] [(0, d15), (1, d16)]) fun d17 =>
  bi (storeG 2 (.ptr (List.length H) 0) d17 h0 fl) fun h18 =>
  bi (cellR true 2 (.ptr (List.length H) 0) h18) fun r0 =>
  some ((.tup [r0, (I .i64 0)]), h18)))
theorem s_rtu_Read_eq (n : Nat) (H : Heap) (fl : Nat) (a0 : DV) : callG Try.prog ENV (n + 1) 12 [a0] H fl = s_rtu_Read n H fl a0 := by kernel_rfl

/-! triune/rtu.Same -/
noncomputable def s_rtu_Same (n : Nat) (H : Heap) (fl : Nat) (a0 a1 : DV) : R :=
  bi (allocG 24 a0 (List.length H) (H ++ [.hole, .hole])) fun h0 =>
  bi (allocG 24 a1 (List.length H + 1) h0) fun h1 =>
  bi (loadG false 1 (.ptr (List.length H) 0) h1) fun d2 =>
  bi (loadG false 1 (.ptr (List.length H + 1) 0) h1) fun d3 =>
  bi (eqK .u8 d2 d3) fun d4 =>
  bi (wantF d4 true (some (.ptr (List.length H) 1))) fun d5 =>
  bi (wantF d4 true (loadG false 1 d5 h1)) fun d6 =>
  bi (wantF d4 true (some (.ptr (List.length H + 1) 1))) fun d7 =>
  bi (wantF d4 true (loadG false 1 d7 h1)) fun d8 =>
  bi (wantF d4 true (cP n 42 false [d6, d8])) fun d9 =>
  bi (pickD d4 d9 (Bo false)) fun d10 =>
  some (d10, h1)
theorem s_rtu_Same_eq (n : Nat) (H : Heap) (fl : Nat) (a0 a1 : DV) : callG Try.prog ENV (n + 1) 16 [a0, a1] H fl = s_rtu_Same n H fl a0 a1 := by kernel_rfl

/-! triune/triuneref03.Bytes -/
noncomputable def s_triuneref03_Bytes (n : Nat) (H : Heap) (fl : Nat) (a0 : DV) : R :=
  bi (allocG 30 a0 (List.length H) (H ++ [.hole])) fun h0 =>
  bi (loadG false 1 (.ptr (List.length H) 1) h0) fun d1 =>
  bi (lenD d1) fun d2 =>
  bi (eqK .i64 d2 (I .i64 0)) fun d3 =>
  condR d3 (
  some ((.tup [(.list 0 [] .ti), (I .i64 3)]), h0)) (
  bi (loadG false 1 (.ptr (List.length H) 1) h0) fun d4 =>
  bi (lenD d4) fun d5 =>
  bi (gtK .i64 d5 (I .i64 253)) fun d6 =>
  condR d6 (
  some ((.tup [(.list 0 [] .ti), (I .i64 4)]), h0)) (
  bi (loadG false 1 (.ptr (List.length H) 0) h0) fun d7 =>
  bi (buildL false 1 1 (I .u8 0) [(0, d7)]) fun d8 =>
  bi (loadG false 1 (.ptr (List.length H) 1) h0) fun d9 =>
  bi (appG 5 false 1 1 d8 d9 h0 fl) fun p10 =>
  bi (cP n 39 false [p10.1]) fun d11 =>
  some ((.tup [d11, (I .i64 0)]), p10.2)))
theorem s_triuneref03_Bytes_eq (n : Nat) (H : Heap) (fl : Nat) (a0 : DV) : callG Try.prog ENV (n + 1) 11 [a0] H fl = s_triuneref03_Bytes n H fl a0 := by kernel_rfl

/-! triune/triuneref03.Read -/
noncomputable def s_triuneref03_Read (n : Nat) (H : Heap) (fl : Nat) (a0 : DV) : R :=
  bi (allocG 30 (.agg [(I .u8 0), (.list 0 [] .ti)]) (List.length H) (H ++ [.hole])) fun h0 =>
  bi (lenD a0) fun d1 =>
  bi (ltK .i64 d1 (I .i64 4)) fun d2 =>
  condR d2 (
   bi (buildS (.agg [(I .u8 0), (.list 0 [] .ti)]) [(0, 1), (1, 1)] []) fun d3 =>
   bi (storeG 2 (.ptr (List.length H) 0) d3 h0 fl) fun h4 =>
  bi (cellR true 2 (.ptr (List.length H) 0) h4) fun r0 =>
  some ((.tup [r0, (I .i64 3)]), h4)) (
  bi (lenD a0) fun d5 =>
  bi (gtK .i64 d5 (I .i64 256)) fun d6 =>
  condR d6 (
   bi (buildS (.agg [(I .u8 0), (.list 0 [] .ti)]) [(0, 1), (1, 1)] []) fun d7 =>
   bi (storeG 2 (.ptr (List.length H) 0) d7 h0 fl) fun h8 =>
  bi (cellR true 2 (.ptr (List.length H) 0) h8) fun r0 =>
  some ((.tup [r0, (I .i64 4)]), h8)) (
  bi (cP n 41 false [a0]) fun d9 =>
  bi (extD 0 d9) fun d10 =>
  bi (extD 1 d9) fun d11 =>
  bi (notD d11) fun d12 =>
  condR d12 (
   bi (buildS (.agg [(I .u8 0), (.list 0 [] .ti)]) [(0, 1), (1, 1)] []) fun d13 =>
   bi (storeG 2 (.ptr (List.length H) 0) d13 h0 fl) fun h14 =>
  bi (cellR true 2 (.ptr (List.length H) 0) h14) fun r0 =>
  some ((.tup [r0, (I .i64 6)]), h14)) (
  bi (idxSl 1 d10 (I .i64 0)) fun d15 =>
  bi (loadG false 1 d15 h0) fun d16 =>
  bi (slX 1 d10 (some (I .i64 1)) none none) fun d17 =>
  bi (buildS (.agg [(I .u8 0), (.list 0 [] .ti)]) [(0, 1), (1, 1)] [(0, d16), (1, d17)]) fun d18 =>
  bi (storeG 2 (.ptr (List.length H) 0) d18 h0 fl) fun h19 =>
  bi (cellR true 2 (.ptr (List.length H) 0) h19) fun r0 =>
  some ((.tup [r0, (I .i64 0)]), h19))))
theorem s_triuneref03_Read_eq (n : Nat) (H : Heap) (fl : Nat) (a0 : DV) : callG Try.prog ENV (n + 1) 13 [a0] H fl = s_triuneref03_Read n H fl a0 := by kernel_rfl

/-! triune/triuneref03.Same -/
noncomputable def s_triuneref03_Same (n : Nat) (H : Heap) (fl : Nat) (a0 a1 : DV) : R :=
  bi (allocG 30 a0 (List.length H) (H ++ [.hole, .hole])) fun h0 =>
  bi (allocG 30 a1 (List.length H + 1) h0) fun h1 =>
  bi (loadG false 1 (.ptr (List.length H) 0) h1) fun d2 =>
  bi (loadG false 1 (.ptr (List.length H + 1) 0) h1) fun d3 =>
  bi (eqK .u8 d2 d3) fun d4 =>
  bi (wantF d4 true (some (.ptr (List.length H) 1))) fun d5 =>
  bi (wantF d4 true (loadG false 1 d5 h1)) fun d6 =>
  bi (wantF d4 true (some (.ptr (List.length H + 1) 1))) fun d7 =>
  bi (wantF d4 true (loadG false 1 d7 h1)) fun d8 =>
  bi (wantF d4 true (cP n 14 false [d6, d8])) fun d9 =>
  bi (pickD d4 d9 (Bo false)) fun d10 =>
  some (d10, h1)
theorem s_triuneref03_Same_eq (n : Nat) (H : Heap) (fl : Nat) (a0 a1 : DV) : callG Try.prog ENV (n + 1) 15 [a0, a1] H fl = s_triuneref03_Same n H fl a0 a1 := by kernel_rfl

end Go.Proofs.Ytbmjflieedadkaa
