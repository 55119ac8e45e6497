/- Go functions as Lean functions on deep values; printed by a program of mine. -/
import Derived.Test.YtigfninpflemnabEnv
namespace Go.Proofs.Ytigfninpflemnab
open Go
set_option maxRecDepth 100000
set_option linter.unusedVariables false
/-! triune/bank.Read -/
def s_bank_Read_I0 (x1 x2 x4 x10 x20 x21 : DV) : List DV := [.any, x1, x2, .any, x4, .any, .any, .any, .any, .any, x10, .any, .any, .any, .any, .any, .any, .any, .any, .any, x20, x21, .any, .any, .any, .any, .any, .any, .any, .any, .any, .any, .any, .any, .any, .any, .any, .any, .any, .any, .any]
def s_bank_Read_O0 (x8 x9 x10 : DV) : List DV := [.any, .any, .any, .any, .any, .any, .any, .any, x8, x9, x10, .any, .any, .any, .any, .any, .any, .any, .any, .any, .any, .any, .any, .any, .any, .any, .any, .any, .any, .any, .any, .any, .any, .any, .any, .any, .any, .any, .any, .any, .any]
noncomputable abbrev s_bank_Read_b0 (n fl : Nat) : List DV → Heap → (Ex → KF) → R := execG ⟨Try.prog, callG Try.prog ENV n, ENV.md, fl, 41⟩ n (loopAt (bodyOf Try.f14) 0) []
noncomputable def s_bank_Read_B0 (n fl : Nat) (rec : DV → DV → DV → DV → DV → DV → Heap → R) (k : Ex → KF) (x1 x2 x4 x10 x20 x21 : DV) (H : Heap) : R :=
  bi (ltK .i64 x21 x20) fun d0 =>
  condR d0 (
  bi (loadG true 6 x4 H) fun d1 =>
  bi (addK .i64 x2 x21) fun d2 =>
  bi (cP n 51 false [d1, x1, d2]) fun d3 =>
  bi (extD 0 d3) fun d4 =>
  bi (extD 1 d3) fun d5 =>
  bi (notD d5) fun d6 =>
  condR d6 (
  k .ret (s_bank_Read_O0 (.list 0 [] .ti) (Bo false) x10) H) (
  bi (buildL false 1 1 (I .u16 0) [(0, d4)]) fun d7 =>
  bi (appG 45 false 1 2 x10 d7 H fl) fun p8 =>
  bi (addK .i64 x21 (I .i64 1)) fun d9 =>
  rec x1 x2 x4 p8.1 x20 d9 p8.2)) (
  k (.exit 0) (s_bank_Read_O0 .any .any x10) H)
noncomputable def s_bank_Read_L0 (n fl : Nat) (k : Ex → KF) : Nat → DV → DV → DV → DV → DV → DV → Heap → R
  | 0, _, _, _, _, _, _, _ => none
  | m + 1, x1, x2, x4, x10, x20, x21, H => s_bank_Read_B0 n fl (s_bank_Read_L0 n fl k m) k x1 x2 x4 x10 x20 x21 H
theorem s_bank_Read_S0 (n fl m : Nat) (k : Ex → KF) (x1 x2 x4 x10 x20 x21 : DV) (H : Heap) : loopG [1, 2, 4, 10, 20, 21] [8, 9, 10] 41 (s_bank_Read_b0 n fl) (m + 1) (s_bank_Read_I0 x1 x2 x4 x10 x20 x21) H k = s_bank_Read_B0 n fl (fun x1 x2 x4 x10 x20 x21 H => loopG [1, 2, 4, 10, 20, 21] [8, 9, 10] 41 (s_bank_Read_b0 n fl) m (s_bank_Read_I0 x1 x2 x4 x10 x20 x21) H k) k x1 x2 x4 x10 x20 x21 H := by kernel_rfl
theorem s_bank_Read_L0_eq (n fl : Nat) (k : Ex → KF) : ∀ (m : Nat) (x1 x2 x4 x10 x20 x21 : DV) (H : Heap), loopG [1, 2, 4, 10, 20, 21] [8, 9, 10] 41 (s_bank_Read_b0 n fl) m (s_bank_Read_I0 x1 x2 x4 x10 x20 x21) H k = s_bank_Read_L0 n fl k m x1 x2 x4 x10 x20 x21 H := by
  intro m
  induction m with
  | zero => intros; rfl
  | succ m ih =>
    intro x1 x2 x4 x10 x20 x21 H
    rw [s_bank_Read_S0, show (fun x1 x2 x4 x10 x20 x21 H => loopG [1, 2, 4, 10, 20, 21] [8, 9, 10] 41 (s_bank_Read_b0 n fl) m (s_bank_Read_I0 x1 x2 x4 x10 x20 x21) H k) = s_bank_Read_L0 n fl k m from by funext x1 x2 x4 x10 x20 x21 H; exact ih _ _ _ _ _ _ _]
    rw [s_bank_Read_L0]
noncomputable def s_bank_Read (n : Nat) (H : Heap) (fl : Nat) (a0 a1 a2 a3 : DV) : R :=
  bi (allocG 26 a0 (List.length H) (H ++ [.hole])) fun h0 =>
  bi (ltK .i64 a3 (I .i64 1)) fun d1 =>
  bi (wantF d1 false (some a3)) fun d2 =>
  bi (wantF d1 false (gtK .i64 d2 (I .i64 65536))) fun d3 =>
  bi (pickD d1 (Bo true) d3) fun d4 =>
  condR d4 (
  some ((.tup [(.list 0 [] .ti), (Bo false)]), h0)) (
  loopG [1, 2, 4, 10, 20, 21] [8, 9, 10] 41 (s_bank_Read_b0 n fl) n (s_bank_Read_I0 a1 a2 (.ptr (List.length H) 0) (.list 0 [] .ti) a3 (I .i64 0)) h0 fun x S5 h5 => match x with
  | .normal => none
  | .exit i5 => (
  if i5 = 0 then (
  some ((.tup [(S5.getD 10 .any), (Bo true)]), h5)) else (
  none))
  | .ret => (
  some ((.tup [(S5.getD 8 .any), (S5.getD 9 .any)]), h5)))
theorem s_bank_Read_eq (n : Nat) (H : Heap) (fl : Nat) (a0 a1 a2 a3 : DV) : callG Try.prog ENV (n + 1) 14 [a0, a1, a2, a3] H fl = s_bank_Read n H fl a0 a1 a2 a3 := by kernel_rfl

/-! triune/triuneref15.Read -/
def s_triuneref15_Read_I0 (x1 x2 x3 x4 x10 x11 : DV) : List DV := [.any, x1, x2, x3, x4, .any, .any, .any, .any, .any, x10, x11, .any, .any, .any, .any, .any, .any, .any, .any, .any, .any, .any, .any, .any, .any, .any, .any, .any, .any, .any, .any, .any, .any, .any, .any, .any, .any, .any, .any, .any]
def s_triuneref15_Read_O0 (x8 x9 x10 : DV) : List DV := [.any, .any, .any, .any, .any, .any, .any, .any, x8, x9, x10, .any, .any, .any, .any, .any, .any, .any, .any, .any, .any, .any, .any, .any, .any, .any, .any, .any, .any, .any, .any, .any, .any, .any, .any, .any, .any, .any, .any, .any, .any]
noncomputable abbrev s_triuneref15_Read_b0 (n fl : Nat) : List DV → Heap → (Ex → KF) → R := execG ⟨Try.prog, callG Try.prog ENV n, ENV.md, fl, 41⟩ n (loopAt (bodyOf Try.f15) 0) []
noncomputable def s_triuneref15_Read_B0 (n fl : Nat) (rec : DV → DV → DV → DV → DV → DV → Heap → R) (k : Ex → KF) (x1 x2 x3 x4 x10 x11 : DV) (H : Heap) : R :=
  bi (ltK .i64 x11 x3) fun d0 =>
  condR d0 (
  bi (loadG true 6 x4 H) fun d1 =>
  bi (addK .i64 x2 x11) fun d2 =>
  bi (cP n 52 false [d1, x1, d2]) fun d3 =>
  bi (extD 0 d3) fun d4 =>
  bi (extD 1 d3) fun d5 =>
  bi (notD d5) fun d6 =>
  condR d6 (
  k .ret (s_triuneref15_Read_O0 (.list 0 [] .ti) (Bo false) x10) H) (
  bi (buildL false 1 1 (I .u16 0) [(0, d4)]) fun d7 =>
  bi (appG 45 false 1 2 x10 d7 H fl) fun p8 =>
  bi (addK .i64 x11 (I .i64 1)) fun d9 =>
  rec x1 x2 x3 x4 p8.1 d9 p8.2)) (
  k (.exit 0) (s_triuneref15_Read_O0 .any .any x10) H)
noncomputable def s_triuneref15_Read_L0 (n fl : Nat) (k : Ex → KF) : Nat → DV → DV → DV → DV → DV → DV → Heap → R
  | 0, _, _, _, _, _, _, _ => none
  | m + 1, x1, x2, x3, x4, x10, x11, H => s_triuneref15_Read_B0 n fl (s_triuneref15_Read_L0 n fl k m) k x1 x2 x3 x4 x10 x11 H
theorem s_triuneref15_Read_S0 (n fl m : Nat) (k : Ex → KF) (x1 x2 x3 x4 x10 x11 : DV) (H : Heap) : loopG [1, 2, 3, 4, 10, 11] [8, 9, 10] 41 (s_triuneref15_Read_b0 n fl) (m + 1) (s_triuneref15_Read_I0 x1 x2 x3 x4 x10 x11) H k = s_triuneref15_Read_B0 n fl (fun x1 x2 x3 x4 x10 x11 H => loopG [1, 2, 3, 4, 10, 11] [8, 9, 10] 41 (s_triuneref15_Read_b0 n fl) m (s_triuneref15_Read_I0 x1 x2 x3 x4 x10 x11) H k) k x1 x2 x3 x4 x10 x11 H := by kernel_rfl
theorem s_triuneref15_Read_L0_eq (n fl : Nat) (k : Ex → KF) : ∀ (m : Nat) (x1 x2 x3 x4 x10 x11 : DV) (H : Heap), loopG [1, 2, 3, 4, 10, 11] [8, 9, 10] 41 (s_triuneref15_Read_b0 n fl) m (s_triuneref15_Read_I0 x1 x2 x3 x4 x10 x11) H k = s_triuneref15_Read_L0 n fl k m x1 x2 x3 x4 x10 x11 H := by
  intro m
  induction m with
  | zero => intros; rfl
  | succ m ih =>
    intro x1 x2 x3 x4 x10 x11 H
    rw [s_triuneref15_Read_S0, show (fun x1 x2 x3 x4 x10 x11 H => loopG [1, 2, 3, 4, 10, 11] [8, 9, 10] 41 (s_triuneref15_Read_b0 n fl) m (s_triuneref15_Read_I0 x1 x2 x3 x4 x10 x11) H k) = s_triuneref15_Read_L0 n fl k m from by funext x1 x2 x3 x4 x10 x11 H; exact ih _ _ _ _ _ _ _]
    rw [s_triuneref15_Read_L0]
noncomputable def s_triuneref15_Read (n : Nat) (H : Heap) (fl : Nat) (a0 a1 a2 a3 : DV) : R :=
  bi (allocG 33 a0 (List.length H) (H ++ [.hole])) fun h0 =>
  bi (ltK .i64 a3 (I .i64 1)) fun d1 =>
  bi (wantF d1 false (some a3)) fun d2 =>
  bi (wantF d1 false (gtK .i64 d2 (I .i64 65536))) fun d3 =>
  bi (pickD d1 (Bo true) d3) fun d4 =>
  condR d4 (
  some ((.tup [(.list 0 [] .ti), (Bo false)]), h0)) (
  loopG [1, 2, 3, 4, 10, 11] [8, 9, 10] 41 (s_triuneref15_Read_b0 n fl) n (s_triuneref15_Read_I0 a1 a2 a3 (.ptr (List.length H) 0) (.list 0 [] .ti) (I .i64 0)) h0 fun x S5 h5 => match x with
  | .normal => none
  | .exit i5 => (
  if i5 = 0 then (
  some ((.tup [(S5.getD 10 .any), (Bo true)]), h5)) else (
  none))
  | .ret => (
  some ((.tup [(S5.getD 8 .any), (S5.getD 9 .any)]), h5)))
theorem s_triuneref15_Read_eq (n : Nat) (H : Heap) (fl : Nat) (a0 a1 a2 a3 : DV) : callG Try.prog ENV (n + 1) 15 [a0, a1, a2, a3] H fl = s_triuneref15_Read n H fl a0 a1 a2 a3 := by kernel_rfl

end Go.Proofs.Ytigfninpflemnab
