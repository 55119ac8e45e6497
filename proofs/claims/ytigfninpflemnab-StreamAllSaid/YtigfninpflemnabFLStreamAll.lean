/- Go functions as Lean functions on deep values; printed by a program of mine. -/
import Derived.Test.YtigfninpflemnabEnv
namespace Go.Proofs.Ytigfninpflemnab
open Go
set_option maxRecDepth 100000
set_option linter.unusedVariables false
/-! triune/triunelaw05.StreamAll -/
def s_triunelaw05_StreamAll_I0 (x0 x1 x5 x6 x7 : DV) : List DV := [x0, x1, .any, .any, .any, x5, x6, x7, .any, .any, .any, .any, .any, .any, .any, .any, .any, .any, .any, .any, .any, .any, .any, .any, .any, .any, .any, .any, .any, .any, .any, .any, .any, .any, .any, .any, .any, .any, .any, .any, .any, .any, .any, .any, .any, .any, .any, .any, .any, .any, .any, .any, .any, .any, .any, .any, .any, .any, .any, .any, .any, .any, .any, .any, .any, .any, .any, .any, .any, .any, .any, .any, .any, .any, .any, .any, .any, .any, .any, .any, .any, .any, .any, .any, .any, .any, .any, .any, .any, .any, .any, .any, .any, .any, .any, .any, .any, .any]
def s_triunelaw05_StreamAll_O0 (x0 x1 x4 x5 x6 : DV) : List DV := [x0, x1, .any, .any, x4, x5, x6, .any, .any, .any, .any, .any, .any, .any, .any, .any, .any, .any, .any, .any, .any, .any, .any, .any, .any, .any, .any, .any, .any, .any, .any, .any, .any, .any, .any, .any, .any, .any, .any, .any, .any, .any, .any, .any, .any, .any, .any, .any, .any, .any, .any, .any, .any, .any, .any, .any, .any, .any, .any, .any, .any, .any, .any, .any, .any, .any, .any, .any, .any, .any, .any, .any, .any, .any, .any, .any, .any, .any, .any, .any, .any, .any, .any, .any, .any, .any, .any, .any, .any, .any, .any, .any, .any, .any, .any, .any, .any, .any]
noncomputable abbrev s_triunelaw05_StreamAll_b0 (n fl : Nat) : List DV → Heap → (Ex → KF) → R := execG ⟨Try.prog, callG Try.prog ENV n, ENV.md, fl, 98⟩ n (loopAt (bodyOf Try.f8) 0) []
noncomputable def s_triunelaw05_StreamAll_B0 (n fl : Nat) (rec : DV → DV → DV → DV → DV → Heap → R) (k : Ex → KF) (x0 x1 x5 x6 x7 : DV) (H : Heap) : R :=
  bi (lenD x0) fun d0 =>
  bi (ltK .i64 x7 d0) fun d1 =>
  condR d1 (
  bi (idxSl 3 x0 x7) fun d2 =>
  bi (fieldD 2 1 d2) fun d3 =>
  bi (loadG false 1 d3 H) fun d4 =>
  bi (lenD d4) fun d5 =>
  bi (gtK .i64 d5 (I .i64 400)) fun d6 =>
  condR d6 (
  k .ret (s_triunelaw05_StreamAll_O0 x0 x1 x5 x5 x6) H) (
  bi (idxSl 3 x0 x7) fun d7 =>
  bi (loadG true 3 d7 H) fun d8 =>
  bi (cP n 36 true [d8]) fun d9 =>
  bi (extD 0 d9) fun d10 =>
  bi (extD 1 d9) fun d11 =>
  bi (neK .i64 d11 (I .i64 0)) fun d12 =>
  condR d12 (
  k .ret (s_triunelaw05_StreamAll_O0 x0 x1 x5 x5 x6) H) (
  bi (appG 5 false 1 1 x6 d10 H fl) fun p13 =>
  bi (addK .i64 x7 (I .i64 1)) fun d14 =>
  rec x0 x1 x5 p13.1 d14 p13.2))) (
  k (.exit 0) (s_triunelaw05_StreamAll_O0 x0 x1 .any x5 x6) H)
noncomputable def s_triunelaw05_StreamAll_L0 (n fl : Nat) (k : Ex → KF) : Nat → DV → DV → DV → DV → DV → Heap → R
  | 0, _, _, _, _, _, _ => none
  | m + 1, x0, x1, x5, x6, x7, H => s_triunelaw05_StreamAll_B0 n fl (s_triunelaw05_StreamAll_L0 n fl k m) k x0 x1 x5 x6 x7 H
theorem s_triunelaw05_StreamAll_S0 (n fl m : Nat) (k : Ex → KF) (x0 x1 x5 x6 x7 : DV) (H : Heap) : loopG [0, 1, 5, 6, 7] [0, 1, 4, 5, 6] 98 (s_triunelaw05_StreamAll_b0 n fl) (m + 1) (s_triunelaw05_StreamAll_I0 x0 x1 x5 x6 x7) H k = s_triunelaw05_StreamAll_B0 n fl (fun x0 x1 x5 x6 x7 H => loopG [0, 1, 5, 6, 7] [0, 1, 4, 5, 6] 98 (s_triunelaw05_StreamAll_b0 n fl) m (s_triunelaw05_StreamAll_I0 x0 x1 x5 x6 x7) H k) k x0 x1 x5 x6 x7 H := by kernel_rfl
theorem s_triunelaw05_StreamAll_L0_eq (n fl : Nat) (k : Ex → KF) : ∀ (m : Nat) (x0 x1 x5 x6 x7 : DV) (H : Heap), loopG [0, 1, 5, 6, 7] [0, 1, 4, 5, 6] 98 (s_triunelaw05_StreamAll_b0 n fl) m (s_triunelaw05_StreamAll_I0 x0 x1 x5 x6 x7) H k = s_triunelaw05_StreamAll_L0 n fl k m x0 x1 x5 x6 x7 H := by
  intro m
  induction m with
  | zero => intros; rfl
  | succ m ih =>
    intro x0 x1 x5 x6 x7 H
    rw [s_triunelaw05_StreamAll_S0, show (fun x0 x1 x5 x6 x7 H => loopG [0, 1, 5, 6, 7] [0, 1, 4, 5, 6] 98 (s_triunelaw05_StreamAll_b0 n fl) m (s_triunelaw05_StreamAll_I0 x0 x1 x5 x6 x7) H k) = s_triunelaw05_StreamAll_L0 n fl k m from by funext x0 x1 x5 x6 x7 H; exact ih _ _ _ _ _ _]
    rw [s_triunelaw05_StreamAll_L0]
noncomputable def s_triunelaw05_StreamAll (n : Nat) (H : Heap) (fl : Nat) (a0 a1 : DV) : R :=
  bi (cP n 35 false []) fun d0 =>
  bi (lenD a0) fun d1 =>
  bi (gtK .i64 d1 (I .i64 20)) fun d2 =>
  condR d2 (
  some (d0, H)) (
  loopG [0, 1, 5, 6, 7] [0, 1, 4, 5, 6] 98 (s_triunelaw05_StreamAll_b0 n fl) n (s_triunelaw05_StreamAll_I0 a0 a1 d0 (.list 0 [] .ti) (I .i64 0)) H fun x S3 h3 => match x with
  | .normal => none
  | .exit i3 => (
  if i3 = 0 then (
  bi (cK n 37 [] h3 fl) fun p4 =>
  bi (binD Try.prog .eql 87 (.tmp 50) (.const (.pointer none)) p4.1 (.flat (.pointer none))) fun d5 =>
  condR d5 (
  some ((Bo false), p4.2)) (
  bi (maxI (S3.getD 1 .any) (I .i64 0)) fun d6 =>
  bi (lenD (S3.getD 6 .any)) fun d7 =>
  bi (minI d6 d7) fun d8 =>
  bi (slX 1 (S3.getD 6 .any) none (some d8) none) fun d9 =>
  bi (cW n 38 [p4.1, d9] p4.2 fl) fun p10 =>
  bi (extD 0 p10.1) fun d11 =>
  bi (extD 1 p10.1) fun d12 =>
  bi (slX 1 (S3.getD 6 .any) (some d8) none none) fun d13 =>
  bi (cW n 38 [p4.1, d13] p10.2 fl) fun p14 =>
  bi (extD 0 p14.1) fun d15 =>
  bi (extD 1 p14.1) fun d16 =>
  bi (cK n 40 [d11] p14.2 fl) fun p17 =>
  bi (cK n 40 [d15] p17.2 fl) fun p18 =>
  bi (appG 132 true 3 32 p17.1 p18.1 p18.2 fl) fun p19 =>
  bi (cK n 40 [(S3.getD 0 .any)] p19.2 fl) fun p20 =>
  bi (cP n 39 false [p19.1, p20.1]) fun d21 =>
  bi (wantF (S3.getD 5 .any) true (some d12)) fun d22 =>
  bi (wantF (S3.getD 5 .any) true (eqK .i64 d22 (I .i64 0))) fun d23 =>
  bi (pickD (S3.getD 5 .any) d23 (Bo false)) fun d24 =>
  bi (wantF d24 true (some d16)) fun d25 =>
  bi (wantF d24 true (eqK .i64 d25 (I .i64 0))) fun d26 =>
  bi (pickD d24 d26 (Bo false)) fun d27 =>
  bi (wantF d27 true (some d21)) fun d28 =>
  bi (pickD d27 d28 (Bo false)) fun d29 =>
  bi (wantF d29 true (some p4.1)) fun d30 =>
  bi (wantF d29 true (cO n 41 [d30] p20.2)) fun d31 =>
  bi (wantF d29 true (eqK .i64 d31 (I .i64 0))) fun d32 =>
  bi (pickD d29 d32 (Bo false)) fun d33 =>
  some (d33, p20.2))) else (
  none))
  | .ret => (
  some ((S3.getD 4 .any), h3)))
theorem s_triunelaw05_StreamAll_eq (n : Nat) (H : Heap) (fl : Nat) (a0 a1 : DV) : callG Try.prog ENV (n + 1) 8 [a0, a1] H fl = s_triunelaw05_StreamAll n H fl a0 a1 := by kernel_rfl

end Go.Proofs.Ytigfninpflemnab
