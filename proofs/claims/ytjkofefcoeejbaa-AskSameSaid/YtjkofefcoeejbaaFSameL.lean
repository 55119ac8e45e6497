/- Go functions as Lean functions on deep values; printed by a program of mine. -/
import Derived.Test.YtjkofefcoeejbaaEnv
namespace Go.Proofs.Ytjkofefcoeejbaa
open Go
set_option maxRecDepth 100000
set_option linter.unusedVariables false
/-! slices.Equal[[]uint16,uint16] -/
def s_slices_Equal___uint16_uint16__I0 (x0 x1 x12 x13 : DV) : List DV := [x0, x1, .any, .any, .any, .any, .any, .any, .any, .any, .any, .any, x12, x13, .any, .any, .any, .any, .any, .any, .any, .any, .any, .any, .any, .any]
def s_slices_Equal___uint16_uint16__O0 (x4 : DV) : List DV := [.any, .any, .any, .any, x4, .any, .any, .any, .any, .any, .any, .any, .any, .any, .any, .any, .any, .any, .any, .any, .any, .any, .any, .any, .any, .any]
noncomputable abbrev s_slices_Equal___uint16_uint16__b0 (n fl : Nat) : List DV → Heap → (Ex → KF) → R := execG ⟨Try.prog, callG Try.prog ENV n, ENV.md, fl, 26⟩ n (loopAt (bodyOf Try.f58) 0) []
noncomputable def s_slices_Equal___uint16_uint16__B0 (n fl : Nat) (rec : DV → DV → DV → DV → Heap → R) (k : Ex → KF) (x0 x1 x12 x13 : DV) (H : Heap) : R :=
  bi (ltK .i64 x13 x12) fun d0 =>
  condR d0 (
  bi (idxSl 1 x0 x13) fun d1 =>
  bi (loadG false 1 d1 H) fun d2 =>
  bi (idxSl 1 x1 x13) fun d3 =>
  bi (loadG false 1 d3 H) fun d4 =>
  bi (neK .u16 d2 d4) fun d5 =>
  condR d5 (
  k .ret (s_slices_Equal___uint16_uint16__O0 (Bo false)) H) (
  bi (addK .i64 x13 (I .i64 1)) fun d6 =>
  rec x0 x1 x12 d6 H)) (
  k (.exit 0) (s_slices_Equal___uint16_uint16__O0 .any) H)
noncomputable def s_slices_Equal___uint16_uint16__L0 (n fl : Nat) (k : Ex → KF) : Nat → DV → DV → DV → DV → Heap → R
  | 0, _, _, _, _, _ => none
  | m + 1, x0, x1, x12, x13, H => s_slices_Equal___uint16_uint16__B0 n fl (s_slices_Equal___uint16_uint16__L0 n fl k m) k x0 x1 x12 x13 H
theorem s_slices_Equal___uint16_uint16__S0 (n fl m : Nat) (k : Ex → KF) (x0 x1 x12 x13 : DV) (H : Heap) : loopG [0, 1, 12, 13] [4] 26 (s_slices_Equal___uint16_uint16__b0 n fl) (m + 1) (s_slices_Equal___uint16_uint16__I0 x0 x1 x12 x13) H k = s_slices_Equal___uint16_uint16__B0 n fl (fun x0 x1 x12 x13 H => loopG [0, 1, 12, 13] [4] 26 (s_slices_Equal___uint16_uint16__b0 n fl) m (s_slices_Equal___uint16_uint16__I0 x0 x1 x12 x13) H k) k x0 x1 x12 x13 H := by kernel_rfl
theorem s_slices_Equal___uint16_uint16__L0_eq (n fl : Nat) (k : Ex → KF) : ∀ (m : Nat) (x0 x1 x12 x13 : DV) (H : Heap), loopG [0, 1, 12, 13] [4] 26 (s_slices_Equal___uint16_uint16__b0 n fl) m (s_slices_Equal___uint16_uint16__I0 x0 x1 x12 x13) H k = s_slices_Equal___uint16_uint16__L0 n fl k m x0 x1 x12 x13 H := by
  intro m
  induction m with
  | zero => intros; rfl
  | succ m ih =>
    intro x0 x1 x12 x13 H
    rw [s_slices_Equal___uint16_uint16__S0, show (fun x0 x1 x12 x13 H => loopG [0, 1, 12, 13] [4] 26 (s_slices_Equal___uint16_uint16__b0 n fl) m (s_slices_Equal___uint16_uint16__I0 x0 x1 x12 x13) H k) = s_slices_Equal___uint16_uint16__L0 n fl k m from by funext x0 x1 x12 x13 H; exact ih _ _ _ _ _]
    rw [s_slices_Equal___uint16_uint16__L0]
noncomputable def s_slices_Equal___uint16_uint16_ (n : Nat) (H : Heap) (fl : Nat) (a0 a1 : DV) : R :=
  bi (lenD a0) fun d0 =>
  bi (lenD a1) fun d1 =>
  bi (neK .i64 d0 d1) fun d2 =>
  condR d2 (
  some ((Bo false), H)) (
  bi (lenD a0) fun d3 =>
  loopG [0, 1, 12, 13] [4] 26 (s_slices_Equal___uint16_uint16__b0 n fl) n (s_slices_Equal___uint16_uint16__I0 a0 a1 d3 (I .i64 0)) H fun x S4 h4 => match x with
  | .normal => none
  | .exit i4 => (
  if i4 = 0 then (
  some ((Bo true), h4)) else (
  none))
  | .ret => (
  some ((S4.getD 4 .any), h4)))
theorem s_slices_Equal___uint16_uint16__eq (n : Nat) (H : Heap) (fl : Nat) (a0 a1 : DV) : callG Try.prog ENV (n + 1) 58 [a0, a1] H fl = s_slices_Equal___uint16_uint16_ n H fl a0 a1 := by kernel_rfl

/-! slices.Equal[[]bool,bool] -/
def s_slices_Equal___bool_bool__I0 (x0 x1 x12 x13 : DV) : List DV := [x0, x1, .any, .any, .any, .any, .any, .any, .any, .any, .any, .any, x12, x13, .any, .any, .any, .any, .any, .any, .any, .any, .any, .any, .any, .any]
def s_slices_Equal___bool_bool__O0 (x4 : DV) : List DV := [.any, .any, .any, .any, x4, .any, .any, .any, .any, .any, .any, .any, .any, .any, .any, .any, .any, .any, .any, .any, .any, .any, .any, .any, .any, .any]
noncomputable abbrev s_slices_Equal___bool_bool__b0 (n fl : Nat) : List DV → Heap → (Ex → KF) → R := execG ⟨Try.prog, callG Try.prog ENV n, ENV.md, fl, 26⟩ n (loopAt (bodyOf Try.f59) 0) []
noncomputable def s_slices_Equal___bool_bool__B0 (n fl : Nat) (rec : DV → DV → DV → DV → Heap → R) (k : Ex → KF) (x0 x1 x12 x13 : DV) (H : Heap) : R :=
  bi (ltK .i64 x13 x12) fun d0 =>
  condR d0 (
  bi (idxSl 1 x0 x13) fun d1 =>
  bi (loadG false 1 d1 H) fun d2 =>
  bi (idxSl 1 x1 x13) fun d3 =>
  bi (loadG false 1 d3 H) fun d4 =>
  bi (neB d2 d4) fun d5 =>
  condR d5 (
  k .ret (s_slices_Equal___bool_bool__O0 (Bo false)) H) (
  bi (addK .i64 x13 (I .i64 1)) fun d6 =>
  rec x0 x1 x12 d6 H)) (
  k (.exit 0) (s_slices_Equal___bool_bool__O0 .any) H)
noncomputable def s_slices_Equal___bool_bool__L0 (n fl : Nat) (k : Ex → KF) : Nat → DV → DV → DV → DV → Heap → R
  | 0, _, _, _, _, _ => none
  | m + 1, x0, x1, x12, x13, H => s_slices_Equal___bool_bool__B0 n fl (s_slices_Equal___bool_bool__L0 n fl k m) k x0 x1 x12 x13 H
theorem s_slices_Equal___bool_bool__S0 (n fl m : Nat) (k : Ex → KF) (x0 x1 x12 x13 : DV) (H : Heap) : loopG [0, 1, 12, 13] [4] 26 (s_slices_Equal___bool_bool__b0 n fl) (m + 1) (s_slices_Equal___bool_bool__I0 x0 x1 x12 x13) H k = s_slices_Equal___bool_bool__B0 n fl (fun x0 x1 x12 x13 H => loopG [0, 1, 12, 13] [4] 26 (s_slices_Equal___bool_bool__b0 n fl) m (s_slices_Equal___bool_bool__I0 x0 x1 x12 x13) H k) k x0 x1 x12 x13 H := by kernel_rfl
theorem s_slices_Equal___bool_bool__L0_eq (n fl : Nat) (k : Ex → KF) : ∀ (m : Nat) (x0 x1 x12 x13 : DV) (H : Heap), loopG [0, 1, 12, 13] [4] 26 (s_slices_Equal___bool_bool__b0 n fl) m (s_slices_Equal___bool_bool__I0 x0 x1 x12 x13) H k = s_slices_Equal___bool_bool__L0 n fl k m x0 x1 x12 x13 H := by
  intro m
  induction m with
  | zero => intros; rfl
  | succ m ih =>
    intro x0 x1 x12 x13 H
    rw [s_slices_Equal___bool_bool__S0, show (fun x0 x1 x12 x13 H => loopG [0, 1, 12, 13] [4] 26 (s_slices_Equal___bool_bool__b0 n fl) m (s_slices_Equal___bool_bool__I0 x0 x1 x12 x13) H k) = s_slices_Equal___bool_bool__L0 n fl k m from by funext x0 x1 x12 x13 H; exact ih _ _ _ _ _]
    rw [s_slices_Equal___bool_bool__L0]
noncomputable def s_slices_Equal___bool_bool_ (n : Nat) (H : Heap) (fl : Nat) (a0 a1 : DV) : R :=
  bi (lenD a0) fun d0 =>
  bi (lenD a1) fun d1 =>
  bi (neK .i64 d0 d1) fun d2 =>
  condR d2 (
  some ((Bo false), H)) (
  bi (lenD a0) fun d3 =>
  loopG [0, 1, 12, 13] [4] 26 (s_slices_Equal___bool_bool__b0 n fl) n (s_slices_Equal___bool_bool__I0 a0 a1 d3 (I .i64 0)) H fun x S4 h4 => match x with
  | .normal => none
  | .exit i4 => (
  if i4 = 0 then (
  some ((Bo true), h4)) else (
  none))
  | .ret => (
  some ((S4.getD 4 .any), h4)))
theorem s_slices_Equal___bool_bool__eq (n : Nat) (H : Heap) (fl : Nat) (a0 a1 : DV) : callG Try.prog ENV (n + 1) 59 [a0, a1] H fl = s_slices_Equal___bool_bool_ n H fl a0 a1 := by kernel_rfl

/-! triune/triuneref02.Same -/
def s_triuneref02_Same_I0 (x0 x1 x5 : DV) : List DV := [x0, x1, .any, .any, .any, x5, .any, .any, .any, .any, .any, .any, .any, .any, .any, .any, .any, .any, .any, .any, .any, .any, .any, .any, .any, .any]
def s_triuneref02_Same_O0 (x4 : DV) : List DV := [.any, .any, .any, .any, x4, .any, .any, .any, .any, .any, .any, .any, .any, .any, .any, .any, .any, .any, .any, .any, .any, .any, .any, .any, .any, .any]
noncomputable abbrev s_triuneref02_Same_b0 (n fl : Nat) : List DV → Heap → (Ex → KF) → R := execG ⟨Try.prog, callG Try.prog ENV n, ENV.md, fl, 26⟩ n (loopAt (bodyOf Try.f55) 0) []
noncomputable def s_triuneref02_Same_B0 (n fl : Nat) (rec : DV → DV → DV → Heap → R) (k : Ex → KF) (x0 x1 x5 : DV) (H : Heap) : R :=
  bi (lenD x0) fun d0 =>
  bi (ltK .i64 x5 d0) fun d1 =>
  condR d1 (
  bi (idxSl 1 x0 x5) fun d2 =>
  bi (loadG false 1 d2 H) fun d3 =>
  bi (idxSl 1 x1 x5) fun d4 =>
  bi (loadG false 1 d4 H) fun d5 =>
  bi (neK .u16 d3 d5) fun d6 =>
  condR d6 (
  k .ret (s_triuneref02_Same_O0 (Bo false)) H) (
  bi (addK .i64 x5 (I .i64 1)) fun d7 =>
  rec x0 x1 d7 H)) (
  k (.exit 0) (s_triuneref02_Same_O0 .any) H)
noncomputable def s_triuneref02_Same_L0 (n fl : Nat) (k : Ex → KF) : Nat → DV → DV → DV → Heap → R
  | 0, _, _, _, _ => none
  | m + 1, x0, x1, x5, H => s_triuneref02_Same_B0 n fl (s_triuneref02_Same_L0 n fl k m) k x0 x1 x5 H
theorem s_triuneref02_Same_S0 (n fl m : Nat) (k : Ex → KF) (x0 x1 x5 : DV) (H : Heap) : loopG [0, 1, 5] [4] 26 (s_triuneref02_Same_b0 n fl) (m + 1) (s_triuneref02_Same_I0 x0 x1 x5) H k = s_triuneref02_Same_B0 n fl (fun x0 x1 x5 H => loopG [0, 1, 5] [4] 26 (s_triuneref02_Same_b0 n fl) m (s_triuneref02_Same_I0 x0 x1 x5) H k) k x0 x1 x5 H := by kernel_rfl
theorem s_triuneref02_Same_L0_eq (n fl : Nat) (k : Ex → KF) : ∀ (m : Nat) (x0 x1 x5 : DV) (H : Heap), loopG [0, 1, 5] [4] 26 (s_triuneref02_Same_b0 n fl) m (s_triuneref02_Same_I0 x0 x1 x5) H k = s_triuneref02_Same_L0 n fl k m x0 x1 x5 H := by
  intro m
  induction m with
  | zero => intros; rfl
  | succ m ih =>
    intro x0 x1 x5 H
    rw [s_triuneref02_Same_S0, show (fun x0 x1 x5 H => loopG [0, 1, 5] [4] 26 (s_triuneref02_Same_b0 n fl) m (s_triuneref02_Same_I0 x0 x1 x5) H k) = s_triuneref02_Same_L0 n fl k m from by funext x0 x1 x5 H; exact ih _ _ _ _]
    rw [s_triuneref02_Same_L0]
noncomputable def s_triuneref02_Same (n : Nat) (H : Heap) (fl : Nat) (a0 a1 : DV) : R :=
  bi (lenD a0) fun d0 =>
  bi (lenD a1) fun d1 =>
  bi (neK .i64 d0 d1) fun d2 =>
  condR d2 (
  some ((Bo false), H)) (
  loopG [0, 1, 5] [4] 26 (s_triuneref02_Same_b0 n fl) n (s_triuneref02_Same_I0 a0 a1 (I .i64 0)) H fun x S3 h3 => match x with
  | .normal => none
  | .exit i3 => (
  if i3 = 0 then (
  some ((Bo true), h3)) else (
  none))
  | .ret => (
  some ((S3.getD 4 .any), h3)))
theorem s_triuneref02_Same_eq (n : Nat) (H : Heap) (fl : Nat) (a0 a1 : DV) : callG Try.prog ENV (n + 1) 55 [a0, a1] H fl = s_triuneref02_Same n H fl a0 a1 := by kernel_rfl

/-! triune/triuneref02.SameBits -/
def s_triuneref02_SameBits_I0 (x0 x1 x5 : DV) : List DV := [x0, x1, .any, .any, .any, x5, .any, .any, .any, .any, .any, .any, .any, .any, .any, .any, .any, .any, .any, .any, .any, .any, .any, .any, .any, .any]
def s_triuneref02_SameBits_O0 (x4 : DV) : List DV := [.any, .any, .any, .any, x4, .any, .any, .any, .any, .any, .any, .any, .any, .any, .any, .any, .any, .any, .any, .any, .any, .any, .any, .any, .any, .any]
noncomputable abbrev s_triuneref02_SameBits_b0 (n fl : Nat) : List DV → Heap → (Ex → KF) → R := execG ⟨Try.prog, callG Try.prog ENV n, ENV.md, fl, 26⟩ n (loopAt (bodyOf Try.f56) 0) []
noncomputable def s_triuneref02_SameBits_B0 (n fl : Nat) (rec : DV → DV → DV → Heap → R) (k : Ex → KF) (x0 x1 x5 : DV) (H : Heap) : R :=
  bi (lenD x0) fun d0 =>
  bi (ltK .i64 x5 d0) fun d1 =>
  condR d1 (
  bi (idxSl 1 x0 x5) fun d2 =>
  bi (loadG false 1 d2 H) fun d3 =>
  bi (idxSl 1 x1 x5) fun d4 =>
  bi (loadG false 1 d4 H) fun d5 =>
  bi (neB d3 d5) fun d6 =>
  condR d6 (
  k .ret (s_triuneref02_SameBits_O0 (Bo false)) H) (
  bi (addK .i64 x5 (I .i64 1)) fun d7 =>
  rec x0 x1 d7 H)) (
  k (.exit 0) (s_triuneref02_SameBits_O0 .any) H)
noncomputable def s_triuneref02_SameBits_L0 (n fl : Nat) (k : Ex → KF) : Nat → DV → DV → DV → Heap → R
  | 0, _, _, _, _ => none
  | m + 1, x0, x1, x5, H => s_triuneref02_SameBits_B0 n fl (s_triuneref02_SameBits_L0 n fl k m) k x0 x1 x5 H
theorem s_triuneref02_SameBits_S0 (n fl m : Nat) (k : Ex → KF) (x0 x1 x5 : DV) (H : Heap) : loopG [0, 1, 5] [4] 26 (s_triuneref02_SameBits_b0 n fl) (m + 1) (s_triuneref02_SameBits_I0 x0 x1 x5) H k = s_triuneref02_SameBits_B0 n fl (fun x0 x1 x5 H => loopG [0, 1, 5] [4] 26 (s_triuneref02_SameBits_b0 n fl) m (s_triuneref02_SameBits_I0 x0 x1 x5) H k) k x0 x1 x5 H := by kernel_rfl
theorem s_triuneref02_SameBits_L0_eq (n fl : Nat) (k : Ex → KF) : ∀ (m : Nat) (x0 x1 x5 : DV) (H : Heap), loopG [0, 1, 5] [4] 26 (s_triuneref02_SameBits_b0 n fl) m (s_triuneref02_SameBits_I0 x0 x1 x5) H k = s_triuneref02_SameBits_L0 n fl k m x0 x1 x5 H := by
  intro m
  induction m with
  | zero => intros; rfl
  | succ m ih =>
    intro x0 x1 x5 H
    rw [s_triuneref02_SameBits_S0, show (fun x0 x1 x5 H => loopG [0, 1, 5] [4] 26 (s_triuneref02_SameBits_b0 n fl) m (s_triuneref02_SameBits_I0 x0 x1 x5) H k) = s_triuneref02_SameBits_L0 n fl k m from by funext x0 x1 x5 H; exact ih _ _ _ _]
    rw [s_triuneref02_SameBits_L0]
noncomputable def s_triuneref02_SameBits (n : Nat) (H : Heap) (fl : Nat) (a0 a1 : DV) : R :=
  bi (lenD a0) fun d0 =>
  bi (lenD a1) fun d1 =>
  bi (neK .i64 d0 d1) fun d2 =>
  condR d2 (
  some ((Bo false), H)) (
  loopG [0, 1, 5] [4] 26 (s_triuneref02_SameBits_b0 n fl) n (s_triuneref02_SameBits_I0 a0 a1 (I .i64 0)) H fun x S3 h3 => match x with
  | .normal => none
  | .exit i3 => (
  if i3 = 0 then (
  some ((Bo true), h3)) else (
  none))
  | .ret => (
  some ((S3.getD 4 .any), h3)))
theorem s_triuneref02_SameBits_eq (n : Nat) (H : Heap) (fl : Nat) (a0 a1 : DV) : callG Try.prog ENV (n + 1) 56 [a0, a1] H fl = s_triuneref02_SameBits n H fl a0 a1 := by kernel_rfl

end Go.Proofs.Ytjkofefcoeejbaa
