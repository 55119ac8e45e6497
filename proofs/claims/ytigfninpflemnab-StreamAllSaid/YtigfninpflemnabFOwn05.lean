/- Go functions as Lean functions on deep values; printed by a program of mine. -/
import Derived.Test.YtigfninpflemnabEnv
namespace Go.Proofs.Ytigfninpflemnab
open Go
set_option maxRecDepth 100000
set_option linter.unusedVariables false
/-! triune/triunelaw05.own -/
def s_triunelaw05_own_I0 (x0 x3 x4 : DV) : List DV := [x0, .any, .any, x3, x4, .any, .any, .any, .any, .any, .any, .any, .any, .any, .any, .any, .any, .any, .any]
def s_triunelaw05_own_O0 (x3 : DV) : List DV := [.any, .any, .any, x3, .any, .any, .any, .any, .any, .any, .any, .any, .any, .any, .any, .any, .any, .any, .any]
noncomputable abbrev s_triunelaw05_own_b0 (n fl : Nat) : List DV → Heap → (Ex → KF) → R := execG ⟨Try.prog, callG Try.prog ENV n, ENV.md, fl, 19⟩ n (loopAt (bodyOf Try.f40) 0) []
noncomputable def s_triunelaw05_own_B0 (n fl : Nat) (rec : DV → DV → DV → Heap → R) (k : Ex → KF) (x0 x3 x4 : DV) (H : Heap) : R :=
  bi (lenD x0) fun d0 =>
  bi (ltK .i64 x4 d0) fun d1 =>
  condR d1 (
  bi (idxSl 3 x0 x4) fun d2 =>
  bi (loadG true 3 d2 H) fun d3 =>
  bi (buildL true 3 1 (.agg [(I .u16 0), (I .u8 0), (.list 0 [] .ti)]) [(0, d3)]) fun d4 =>
  bi (appG 132 true 3 32 x3 d4 H fl) fun p5 =>
  bi (addK .i64 x4 (I .i64 1)) fun d6 =>
  rec x0 p5.1 d6 p5.2) (
  k (.exit 0) (s_triunelaw05_own_O0 x3) H)
noncomputable def s_triunelaw05_own_L0 (n fl : Nat) (k : Ex → KF) : Nat → DV → DV → DV → Heap → R
  | 0, _, _, _, _ => none
  | m + 1, x0, x3, x4, H => s_triunelaw05_own_B0 n fl (s_triunelaw05_own_L0 n fl k m) k x0 x3 x4 H
theorem s_triunelaw05_own_S0 (n fl m : Nat) (k : Ex → KF) (x0 x3 x4 : DV) (H : Heap) : loopG [0, 3, 4] [3] 19 (s_triunelaw05_own_b0 n fl) (m + 1) (s_triunelaw05_own_I0 x0 x3 x4) H k = s_triunelaw05_own_B0 n fl (fun x0 x3 x4 H => loopG [0, 3, 4] [3] 19 (s_triunelaw05_own_b0 n fl) m (s_triunelaw05_own_I0 x0 x3 x4) H k) k x0 x3 x4 H := by kernel_rfl
theorem s_triunelaw05_own_L0_eq (n fl : Nat) (k : Ex → KF) : ∀ (m : Nat) (x0 x3 x4 : DV) (H : Heap), loopG [0, 3, 4] [3] 19 (s_triunelaw05_own_b0 n fl) m (s_triunelaw05_own_I0 x0 x3 x4) H k = s_triunelaw05_own_L0 n fl k m x0 x3 x4 H := by
  intro m
  induction m with
  | zero => intros; rfl
  | succ m ih =>
    intro x0 x3 x4 H
    rw [s_triunelaw05_own_S0, show (fun x0 x3 x4 H => loopG [0, 3, 4] [3] 19 (s_triunelaw05_own_b0 n fl) m (s_triunelaw05_own_I0 x0 x3 x4) H k) = s_triunelaw05_own_L0 n fl k m from by funext x0 x3 x4 H; exact ih _ _ _ _]
    rw [s_triunelaw05_own_L0]
noncomputable def s_triunelaw05_own (n : Nat) (H : Heap) (fl : Nat) (a0 : DV) : R :=
  loopG [0, 3, 4] [3] 19 (s_triunelaw05_own_b0 n fl) n (s_triunelaw05_own_I0 a0 (.list 0 [] .ti) (I .i64 0)) H fun x S0 h0 => match x with
  | .normal => none
  | .exit i0 => (
  if i0 = 0 then (
  some ((S0.getD 3 .any), h0)) else (
  none))
  | .ret => (
  some (.any, h0))
theorem s_triunelaw05_own_eq (n : Nat) (H : Heap) (fl : Nat) (a0 : DV) : callG Try.prog ENV (n + 1) 40 [a0] H fl = s_triunelaw05_own n H fl a0 := by kernel_rfl

end Go.Proofs.Ytigfninpflemnab
