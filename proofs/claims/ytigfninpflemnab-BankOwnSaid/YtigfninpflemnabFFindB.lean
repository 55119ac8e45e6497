/- Go functions as Lean functions on deep values; printed by a program of mine. -/
import Derived.Test.YtigfninpflemnabEnv
namespace Go.Proofs.Ytigfninpflemnab
open Go
set_option maxRecDepth 100000
set_option linter.unusedVariables false
/-! triune/bank.find -/
noncomputable def s_bank_find (n : Nat) (H : Heap) (fl : Nat) (a0 a1 a2 : DV) : R :=
  bi (allocG 3 a1 (List.length H) (H ++ [.hole, .hole])) fun h0 =>
  bi (allocG 3 a2 (List.length H + 1) h0) fun h1 =>
  bi (cO n 76 [a0, (.clo (.func 77) [] [(.ptr (List.length H) 0), (.ptr (List.length H + 1) 0)])] h1) fun d2 =>
  some (d2, h1)
theorem s_bank_find_eq (n : Nat) (H : Heap) (fl : Nat) (a0 a1 a2 : DV) : callG Try.prog ENV (n + 1) 53 [a0, a1, a2] H fl = s_bank_find n H fl a0 a1 a2 := by kernel_rfl

/-! triune/bank.find$1 -/
noncomputable def s_bank_find_1 (n : Nat) (H : Heap) (fl : Nat) (a0 a1 a2 : DV) : R :=
  bi (allocG 48 a0 (List.length H) (H ++ [.hole])) fun h0 =>
  bi (loadG false 1 (.ptr (List.length H) 0) h0) fun d1 =>
  bi (loadG false 1 a1 h0) fun d2 =>
  bi (eqK .i64 d1 d2) fun d3 =>
  bi (wantF d3 true (some (.ptr (List.length H) 2))) fun d4 =>
  bi (wantF d3 true (loadG false 1 d4 h0)) fun d5 =>
  bi (wantF d3 true (loadG false 1 a2 h0)) fun d6 =>
  bi (wantF d3 true (eqK .i64 d5 d6)) fun d7 =>
  bi (pickD d3 d7 (Bo false)) fun d8 =>
  some (d8, h0)
theorem s_bank_find_1_eq (n : Nat) (H : Heap) (fl : Nat) (a0 a1 a2 : DV) : callG Try.prog ENV (n + 1) 77 [a0, a1, a2] H fl = s_bank_find_1 n H fl a0 a1 a2 := by kernel_rfl

/-! slices.IndexFunc[[]triune/api.Point,triune/api.Point] -/
def s_slices_IndexFunc___api_Point_api_Point__I0 (x0 x1 x7 x8 : DV) : List DV := [x0, x1, .any, .any, .any, .any, .any, x7, x8, .any, .any, .any, .any, .any, .any, .any, .any, .any, .any]
def s_slices_IndexFunc___api_Point_api_Point__O0 (x4 : DV) : List DV := [.any, .any, .any, .any, x4, .any, .any, .any, .any, .any, .any, .any, .any, .any, .any, .any, .any, .any, .any]
noncomputable abbrev s_slices_IndexFunc___api_Point_api_Point__b0 (n fl : Nat) : List DV → Heap → (Ex → KF) → R := execG ⟨Try.prog, callG Try.prog ENV n, ENV.md, fl, 19⟩ n (loopAt (bodyOf Try.f76) 0) []
noncomputable def s_slices_IndexFunc___api_Point_api_Point__B0 (n fl : Nat) (rec : DV → DV → DV → DV → Heap → R) (k : Ex → KF) (x0 x1 x7 x8 : DV) (H : Heap) : R :=
  bi (ltK .i64 x8 x7) fun d0 =>
  condR d0 (
  bi (idxSl 5 x0 x8) fun d1 =>
  bi (loadG true 5 d1 H) fun d2 =>
  bi (cV n fl x1 [d2] H) fun p3 =>
  condR p3.1 (
  k .ret (s_slices_IndexFunc___api_Point_api_Point__O0 x8) p3.2) (
  bi (addK .i64 x8 (I .i64 1)) fun d4 =>
  rec x0 x1 x7 d4 p3.2)) (
  k (.exit 0) (s_slices_IndexFunc___api_Point_api_Point__O0 .any) H)
noncomputable def s_slices_IndexFunc___api_Point_api_Point__L0 (n fl : Nat) (k : Ex → KF) : Nat → DV → DV → DV → DV → Heap → R
  | 0, _, _, _, _, _ => none
  | m + 1, x0, x1, x7, x8, H => s_slices_IndexFunc___api_Point_api_Point__B0 n fl (s_slices_IndexFunc___api_Point_api_Point__L0 n fl k m) k x0 x1 x7 x8 H
theorem s_slices_IndexFunc___api_Point_api_Point__S0 (n fl m : Nat) (k : Ex → KF) (x0 x1 x7 x8 : DV) (H : Heap) : loopG [0, 1, 7, 8] [4] 19 (s_slices_IndexFunc___api_Point_api_Point__b0 n fl) (m + 1) (s_slices_IndexFunc___api_Point_api_Point__I0 x0 x1 x7 x8) H k = s_slices_IndexFunc___api_Point_api_Point__B0 n fl (fun x0 x1 x7 x8 H => loopG [0, 1, 7, 8] [4] 19 (s_slices_IndexFunc___api_Point_api_Point__b0 n fl) m (s_slices_IndexFunc___api_Point_api_Point__I0 x0 x1 x7 x8) H k) k x0 x1 x7 x8 H := by kernel_rfl
theorem s_slices_IndexFunc___api_Point_api_Point__L0_eq (n fl : Nat) (k : Ex → KF) : ∀ (m : Nat) (x0 x1 x7 x8 : DV) (H : Heap), loopG [0, 1, 7, 8] [4] 19 (s_slices_IndexFunc___api_Point_api_Point__b0 n fl) m (s_slices_IndexFunc___api_Point_api_Point__I0 x0 x1 x7 x8) H k = s_slices_IndexFunc___api_Point_api_Point__L0 n fl k m x0 x1 x7 x8 H := by
  intro m
  induction m with
  | zero => intros; rfl
  | succ m ih =>
    intro x0 x1 x7 x8 H
    rw [s_slices_IndexFunc___api_Point_api_Point__S0, show (fun x0 x1 x7 x8 H => loopG [0, 1, 7, 8] [4] 19 (s_slices_IndexFunc___api_Point_api_Point__b0 n fl) m (s_slices_IndexFunc___api_Point_api_Point__I0 x0 x1 x7 x8) H k) = s_slices_IndexFunc___api_Point_api_Point__L0 n fl k m from by funext x0 x1 x7 x8 H; exact ih _ _ _ _ _]
    rw [s_slices_IndexFunc___api_Point_api_Point__L0]
noncomputable def s_slices_IndexFunc___api_Point_api_Point_ (n : Nat) (H : Heap) (fl : Nat) (a0 a1 : DV) : R :=
  bi (lenD a0) fun d0 =>
  loopG [0, 1, 7, 8] [4] 19 (s_slices_IndexFunc___api_Point_api_Point__b0 n fl) n (s_slices_IndexFunc___api_Point_api_Point__I0 a0 a1 d0 (I .i64 0)) H fun x S1 h1 => match x with
  | .normal => none
  | .exit i1 => (
  if i1 = 0 then (
  some ((I .i64 (-1)), h1)) else (
  none))
  | .ret => (
  some ((S1.getD 4 .any), h1))
theorem s_slices_IndexFunc___api_Point_api_Point__eq (n : Nat) (H : Heap) (fl : Nat) (a0 a1 : DV) : callG Try.prog ENV (n + 1) 76 [a0, a1] H fl = s_slices_IndexFunc___api_Point_api_Point_ n H fl a0 a1 := by kernel_rfl

end Go.Proofs.Ytigfninpflemnab
