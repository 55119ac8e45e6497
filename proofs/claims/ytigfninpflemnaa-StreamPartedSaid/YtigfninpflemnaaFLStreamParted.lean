/- Go functions as Lean functions on deep values; printed by a program of mine. -/
import Derived.Test.YtigfninpflemnaaEnv
namespace Go.Proofs.Ytigfninpflemnaa
open Go
set_option maxRecDepth 100000
set_option linter.unusedVariables false
/-! triune/triunelaw05.StreamParted -/
def s_triunelaw05_StreamParted_I0 (x0 x1 x5 x6 x7 x8 x9 x10 x11 x12 x13 : DV) : List DV := [x0, x1, .any, .any, .any, x5, x6, x7, x8, x9, x10, x11, x12, x13, .any, .any, .any, .any, .any, .any, .any, .any, .any, .any, .any, .any, .any, .any, .any, .any, .any, .any, .any, .any, .any, .any, .any, .any, .any, .any, .any, .any, .any, .any, .any, .any, .any, .any, .any, .any, .any, .any, .any, .any, .any, .any, .any, .any, .any, .any, .any, .any, .any, .any, .any, .any, .any, .any, .any, .any, .any, .any, .any, .any, .any, .any, .any, .any, .any, .any, .any, .any, .any, .any, .any, .any, .any, .any, .any, .any, .any, .any, .any, .any, .any, .any, .any, .any, .any, .any, .any, .any, .any, .any, .any, .any, .any, .any, .any, .any, .any, .any, .any, .any, .any, .any, .any, .any, .any, .any, .any, .any, .any]
def s_triunelaw05_StreamParted_O0 (x4 x5 x6 x7 x8 x9 x10 x12 : DV) : List DV := [.any, .any, .any, .any, x4, x5, x6, x7, x8, x9, x10, .any, x12, .any, .any, .any, .any, .any, .any, .any, .any, .any, .any, .any, .any, .any, .any, .any, .any, .any, .any, .any, .any, .any, .any, .any, .any, .any, .any, .any, .any, .any, .any, .any, .any, .any, .any, .any, .any, .any, .any, .any, .any, .any, .any, .any, .any, .any, .any, .any, .any, .any, .any, .any, .any, .any, .any, .any, .any, .any, .any, .any, .any, .any, .any, .any, .any, .any, .any, .any, .any, .any, .any, .any, .any, .any, .any, .any, .any, .any, .any, .any, .any, .any, .any, .any, .any, .any, .any, .any, .any, .any, .any, .any, .any, .any, .any, .any, .any, .any, .any, .any, .any, .any, .any, .any, .any, .any, .any, .any, .any, .any, .any]
noncomputable abbrev s_triunelaw05_StreamParted_b0 (n fl : Nat) : List DV → Heap → (Ex → KF) → R := execG ⟨Try.prog, callG Try.prog ENV n, ENV.md, fl, 123⟩ n (loopAt (bodyOf Try.f14) 0) []
noncomputable def s_triunelaw05_StreamParted_B0 (n fl : Nat) (rec : DV → DV → DV → DV → DV → DV → DV → DV → DV → DV → DV → Heap → R) (k : Ex → KF) (x0 x1 x5 x6 x7 x8 x9 x10 x11 x12 x13 : DV) (H : Heap) : R :=
  bi (lenD x1) fun d0 =>
  bi (leK .i64 x13 d0) fun d1 =>
  bi (wantF d1 true (some x12)) fun d2 =>
  bi (wantF d1 true (notD d2)) fun d3 =>
  bi (pickD d1 d3 (Bo false)) fun d4 =>
  condR d4 (
  bi (lenD x0) fun d5 =>
  bi (lenD x1) fun d6 =>
  bi (ltK .i64 x13 d6) fun d7 =>
  condR d7 (
   bi (idxSl 1 x1 x13) fun d8 =>
   bi (loadG false 1 d8 H) fun d9 =>
   bi (maxI d9 x11) fun d10 =>
   bi (lenD x0) fun d11 =>
   bi (minI d10 d11) fun d12 =>
  bi (slX 1 x0 (some x11) (some d12) none) fun d13 =>
  bi (cW n 61 [x7, d13] H fl) fun p14 =>
  bi (extD 0 p14.1) fun d15 =>
  bi (extD 1 p14.1) fun d16 =>
  bi (cP n 64 false [d15]) fun d17 =>
  bi (appG 72 true 3 32 x10 d17 p14.2 fl) fun p18 =>
  bi (neK .i64 d16 (I .i64 0)) fun d19 =>
  bi (cO n 65 [x7] p18.2) fun d20 =>
  bi (geK .i64 d20 (I .i64 260)) fun d21 =>
  condR d21 (
  k .ret (s_triunelaw05_StreamParted_O0 (Bo false) x5 x6 x7 x8 x9 p18.1 d19) p18.2) (
  bi (addK .i64 x13 (I .i64 1)) fun d22 =>
  rec x0 x1 x5 x6 x7 x8 x9 p18.1 d12 d19 d22 p18.2)) (
  bi (slX 1 x0 (some x11) (some d5) none) fun d23 =>
  bi (cW n 61 [x7, d23] H fl) fun p24 =>
  bi (extD 0 p24.1) fun d25 =>
  bi (extD 1 p24.1) fun d26 =>
  bi (cP n 64 false [d25]) fun d27 =>
  bi (appG 72 true 3 32 x10 d27 p24.2 fl) fun p28 =>
  bi (neK .i64 d26 (I .i64 0)) fun d29 =>
  bi (cO n 65 [x7] p28.2) fun d30 =>
  bi (geK .i64 d30 (I .i64 260)) fun d31 =>
  condR d31 (
  k .ret (s_triunelaw05_StreamParted_O0 (Bo false) x5 x6 x7 x8 x9 p28.1 d29) p28.2) (
  bi (addK .i64 x13 (I .i64 1)) fun d32 =>
  rec x0 x1 x5 x6 x7 x8 x9 p28.1 d5 d29 d32 p28.2))) (
  k (.exit 0) (s_triunelaw05_StreamParted_O0 .any x5 x6 x7 x8 x9 x10 x12) H)
noncomputable def s_triunelaw05_StreamParted_L0 (n fl : Nat) (k : Ex → KF) : Nat → DV → DV → DV → DV → DV → DV → DV → DV → DV → DV → DV → Heap → R
  | 0, _, _, _, _, _, _, _, _, _, _, _, _ => none
  | m + 1, x0, x1, x5, x6, x7, x8, x9, x10, x11, x12, x13, H => s_triunelaw05_StreamParted_B0 n fl (s_triunelaw05_StreamParted_L0 n fl k m) k x0 x1 x5 x6 x7 x8 x9 x10 x11 x12 x13 H
theorem s_triunelaw05_StreamParted_S0 (n fl m : Nat) (k : Ex → KF) (x0 x1 x5 x6 x7 x8 x9 x10 x11 x12 x13 : DV) (H : Heap) : loopG [0, 1, 5, 6, 7, 8, 9, 10, 11, 12, 13] [4, 5, 6, 7, 8, 9, 10, 12] 123 (s_triunelaw05_StreamParted_b0 n fl) (m + 1) (s_triunelaw05_StreamParted_I0 x0 x1 x5 x6 x7 x8 x9 x10 x11 x12 x13) H k = s_triunelaw05_StreamParted_B0 n fl (fun x0 x1 x5 x6 x7 x8 x9 x10 x11 x12 x13 H => loopG [0, 1, 5, 6, 7, 8, 9, 10, 11, 12, 13] [4, 5, 6, 7, 8, 9, 10, 12] 123 (s_triunelaw05_StreamParted_b0 n fl) m (s_triunelaw05_StreamParted_I0 x0 x1 x5 x6 x7 x8 x9 x10 x11 x12 x13) H k) k x0 x1 x5 x6 x7 x8 x9 x10 x11 x12 x13 H := by kernel_rfl
theorem s_triunelaw05_StreamParted_L0_eq (n fl : Nat) (k : Ex → KF) : ∀ (m : Nat) (x0 x1 x5 x6 x7 x8 x9 x10 x11 x12 x13 : DV) (H : Heap), loopG [0, 1, 5, 6, 7, 8, 9, 10, 11, 12, 13] [4, 5, 6, 7, 8, 9, 10, 12] 123 (s_triunelaw05_StreamParted_b0 n fl) m (s_triunelaw05_StreamParted_I0 x0 x1 x5 x6 x7 x8 x9 x10 x11 x12 x13) H k = s_triunelaw05_StreamParted_L0 n fl k m x0 x1 x5 x6 x7 x8 x9 x10 x11 x12 x13 H := by
  intro m
  induction m with
  | zero => intros; rfl
  | succ m ih =>
    intro x0 x1 x5 x6 x7 x8 x9 x10 x11 x12 x13 H
    rw [s_triunelaw05_StreamParted_S0, show (fun x0 x1 x5 x6 x7 x8 x9 x10 x11 x12 x13 H => loopG [0, 1, 5, 6, 7, 8, 9, 10, 11, 12, 13] [4, 5, 6, 7, 8, 9, 10, 12] 123 (s_triunelaw05_StreamParted_b0 n fl) m (s_triunelaw05_StreamParted_I0 x0 x1 x5 x6 x7 x8 x9 x10 x11 x12 x13) H k) = s_triunelaw05_StreamParted_L0 n fl k m from by funext x0 x1 x5 x6 x7 x8 x9 x10 x11 x12 x13 H; exact ih _ _ _ _ _ _ _ _ _ _ _ _]
    rw [s_triunelaw05_StreamParted_L0]
noncomputable def s_triunelaw05_StreamParted (n : Nat) (H : Heap) (fl : Nat) (a0 a1 : DV) : R :=
  bi (cP n 59 false []) fun d0 =>
  bi (lenD a0) fun d1 =>
  bi (gtK .i64 d1 (I .i64 2000)) fun d2 =>
  bi (wantF d2 false (some a1)) fun d3 =>
  bi (wantF d2 false (lenD d3)) fun d4 =>
  bi (wantF d2 false (gtK .i64 d4 (I .i64 100))) fun d5 =>
  bi (pickD d2 (Bo true) d5) fun d6 =>
  condR d6 (
  some (d0, H)) (
  bi (cK n 60 [] H fl) fun p7 =>
  bi (cK n 60 [] p7.2 fl) fun p8 =>
  bi (binD Try.prog .eql 83 (.tmp 30) (.const (.pointer none)) p7.1 (.flat (.pointer none))) fun d9 =>
  bi (wantF d9 false (some p8.1)) fun d10 =>
  bi (wantF d9 false (binD Try.prog .eql 83 (.tmp 33) (.const (.pointer none)) d10 (.flat (.pointer none)))) fun d11 =>
  bi (pickD d9 (Bo true) d11) fun d12 =>
  condR d12 (
  some ((Bo false), p8.2)) (
  bi (cW n 61 [p7.1, a0] p8.2 fl) fun p13 =>
  bi (extD 0 p13.1) fun d14 =>
  bi (extD 1 p13.1) fun d15 =>
  loopG [0, 1, 5, 6, 7, 8, 9, 10, 11, 12, 13] [4, 5, 6, 7, 8, 9, 10, 12] 123 (s_triunelaw05_StreamParted_b0 n fl) n (s_triunelaw05_StreamParted_I0 a0 a1 d0 p7.1 p8.1 d14 d15 (.list 0 [] .ti) (I .i64 0) (Bo false) (I .i64 0)) p13.2 fun x S16 h16 => match x with
  | .normal => none
  | .exit i16 => (
  if i16 = 0 then (
  bi (cP n 64 false [(S16.getD 8 .any)]) fun d17 =>
  bi (cP n 63 false [d17, (S16.getD 10 .any)]) fun d18 =>
  bi (wantF (S16.getD 5 .any) true (some d18)) fun d19 =>
  bi (pickD (S16.getD 5 .any) d19 (Bo false)) fun d20 =>
  bi (wantF d20 true (some (S16.getD 6 .any))) fun d21 =>
  bi (wantF d20 true (cO n 66 [d21] h16)) fun d22 =>
  bi (wantF d20 true (some (S16.getD 7 .any))) fun d23 =>
  bi (wantF d20 true (cO n 66 [d23] h16)) fun d24 =>
  bi (wantF d20 true (eqB d22 d24)) fun d25 =>
  bi (pickD d20 d25 (Bo false)) fun d26 =>
  bi (wantF d26 true (some (S16.getD 6 .any))) fun d27 =>
  bi (wantF d26 true (cO n 66 [d27] h16)) fun d28 =>
  bi (wantF d26 true (some (S16.getD 9 .any))) fun d29 =>
  bi (wantF d26 true (neK .i64 d29 (I .i64 0))) fun d30 =>
  bi (wantF d26 true (eqB d28 d30)) fun d31 =>
  bi (pickD d26 d31 (Bo false)) fun d32 =>
  bi (wantF d32 true (some (S16.getD 12 .any))) fun d33 =>
  bi (wantF d32 true (some d33)) fun d34 =>
  bi (wantF d34 false (some (S16.getD 6 .any))) fun d35 =>
  bi (wantF d34 false (cO n 65 [d35] h16)) fun d36 =>
  bi (wantF d34 false (some (S16.getD 7 .any))) fun d37 =>
  bi (wantF d34 false (cO n 65 [d37] h16)) fun d38 =>
  bi (wantF d34 false (eqK .i64 d36 d38)) fun d39 =>
  bi (wantF d32 true (pickD d34 (Bo true) d39)) fun d40 =>
  bi (pickD d32 d40 (Bo false)) fun d41 =>
  bi (wantF d41 true (some (S16.getD 6 .any))) fun d42 =>
  bi (wantF d41 true (cO n 65 [d42] h16)) fun d43 =>
  bi (wantF d41 true (ltK .i64 d43 (I .i64 260))) fun d44 =>
  bi (pickD d41 d44 (Bo false)) fun d45 =>
  some (d45, h16)) else (
  none))
  | .ret => (
  some ((S16.getD 4 .any), h16))))
theorem s_triunelaw05_StreamParted_eq (n : Nat) (H : Heap) (fl : Nat) (a0 a1 : DV) : callG Try.prog ENV (n + 1) 14 [a0, a1] H fl = s_triunelaw05_StreamParted n H fl a0 a1 := by kernel_rfl

end Go.Proofs.Ytigfninpflemnaa
