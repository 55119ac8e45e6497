/- Go functions as Lean functions on deep values; printed by a program of mine. -/
import Derived.Test.YtbmjflieedadkaaEnv
namespace Go.Proofs.Ytbmjflieedadkaa
open Go
set_option maxRecDepth 100000
set_option linter.unusedVariables false
/-! triune/triuneref01.Same -/
def s_triuneref01_Same_I0 (x0 x1 x5 : DV) : List DV := [x0, x1, .any, .any, .any, x5, .any, .any, .any, .any, .any, .any, .any, .any, .any, .any, .any, .any, .any, .any, .any, .any, .any, .any, .any, .any]
def s_triuneref01_Same_O0 (x4 : DV) : List DV := [.any, .any, .any, .any, x4, .any, .any, .any, .any, .any, .any, .any, .any, .any, .any, .any, .any, .any, .any, .any, .any, .any, .any, .any, .any, .any]
noncomputable abbrev s_triuneref01_Same_b0 (n fl : Nat) : List DV → Heap → (Ex → KF) → R := execG ⟨Try.prog, callG Try.prog ENV n, ENV.md, fl, 26⟩ n (loopAt (bodyOf Try.f14) 0) []
noncomputable def s_triuneref01_Same_B0 (n fl : Nat) (rec : DV → DV → DV → Heap → R) (k : Ex → KF) (x0 x1 x5 : DV) (H : Heap) : R :=
  bi (lenD x0) fun d0 =>
  bi (ltK .i64 x5 d0) fun d1 =>
  condR d1 (
  bi (idxSl 1 x0 x5) fun d2 =>
  bi (loadG false 1 d2 H) fun d3 =>
  bi (idxSl 1 x1 x5) fun d4 =>
  bi (loadG false 1 d4 H) fun d5 =>
  bi (neK .u8 d3 d5) fun d6 =>
  condR d6 (
  k .ret (s_triuneref01_Same_O0 (Bo false)) H) (
  bi (addK .i64 x5 (I .i64 1)) fun d7 =>
  rec x0 x1 d7 H)) (
  k (.exit 0) (s_triuneref01_Same_O0 .any) H)
noncomputable def s_triuneref01_Same_L0 (n fl : Nat) (k : Ex → KF) : Nat → DV → DV → DV → Heap → R
  | 0, _, _, _, _ => none
  | m + 1, x0, x1, x5, H => s_triuneref01_Same_B0 n fl (s_triuneref01_Same_L0 n fl k m) k x0 x1 x5 H
theorem s_triuneref01_Same_S0 (n fl m : Nat) (k : Ex → KF) (x0 x1 x5 : DV) (H : Heap) : loopG [0, 1, 5] [4] 26 (s_triuneref01_Same_b0 n fl) (m + 1) (s_triuneref01_Same_I0 x0 x1 x5) H k = s_triuneref01_Same_B0 n fl (fun x0 x1 x5 H => loopG [0, 1, 5] [4] 26 (s_triuneref01_Same_b0 n fl) m (s_triuneref01_Same_I0 x0 x1 x5) H k) k x0 x1 x5 H := by kernel_rfl
theorem s_triuneref01_Same_L0_eq (n fl : Nat) (k : Ex → KF) : ∀ (m : Nat) (x0 x1 x5 : DV) (H : Heap), loopG [0, 1, 5] [4] 26 (s_triuneref01_Same_b0 n fl) m (s_triuneref01_Same_I0 x0 x1 x5) H k = s_triuneref01_Same_L0 n fl k m x0 x1 x5 H := by
  intro m
  induction m with
  | zero => intros; rfl
  | succ m ih =>
    intro x0 x1 x5 H
    rw [s_triuneref01_Same_S0, show (fun x0 x1 x5 H => loopG [0, 1, 5] [4] 26 (s_triuneref01_Same_b0 n fl) m (s_triuneref01_Same_I0 x0 x1 x5) H k) = s_triuneref01_Same_L0 n fl k m from by funext x0 x1 x5 H; exact ih _ _ _ _]
    rw [s_triuneref01_Same_L0]
noncomputable def s_triuneref01_Same (n : Nat) (H : Heap) (fl : Nat) (a0 a1 : DV) : R :=
  bi (lenD a0) fun d0 =>
  bi (lenD a1) fun d1 =>
  bi (neK .i64 d0 d1) fun d2 =>
  condR d2 (
  some ((Bo false), H)) (
  loopG [0, 1, 5] [4] 26 (s_triuneref01_Same_b0 n fl) n (s_triuneref01_Same_I0 a0 a1 (I .i64 0)) H fun x S3 h3 => match x with
  | .normal => none
  | .exit i3 => (
  if i3 = 0 then (
  some ((Bo true), h3)) else (
  none))
  | .ret => (
  some ((S3.getD 4 .any), h3)))
theorem s_triuneref01_Same_eq (n : Nat) (H : Heap) (fl : Nat) (a0 a1 : DV) : callG Try.prog ENV (n + 1) 14 [a0, a1] H fl = s_triuneref01_Same n H fl a0 a1 := by kernel_rfl

end Go.Proofs.Ytbmjflieedadkaa
