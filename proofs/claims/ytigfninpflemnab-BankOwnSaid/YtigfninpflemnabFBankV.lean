/- Go functions as Lean functions on deep values; printed by a program of mine. -/
import Derived.Test.YtigfninpflemnabEnv
namespace Go.Proofs.Ytigfninpflemnab
open Go
set_option maxRecDepth 100000
set_option linter.unusedVariables false
/-! (triune/bank.View).one -/
noncomputable def s__bank_View__one (n : Nat) (H : Heap) (fl : Nat) (a0 a1 a2 : DV) : R :=
  bi (allocG 26 a0 (List.length H) (H ++ [.hole])) fun h0 =>
  bi (subK .i64 a2 (I .i64 9000)) fun d1 =>
  bi (eqK .i64 a1 (I .i64 1)) fun d2 =>
  bi (wantF d2 true (some d1)) fun d3 =>
  bi (wantF d2 true (geK .i64 d3 (I .i64 0))) fun d4 =>
  bi (pickD d2 d4 (Bo false)) fun d5 =>
  bi (wantF d5 true (some d1)) fun d6 =>
  bi (wantF d5 true (some (.ptr (List.length H) 5))) fun d7 =>
  bi (wantF d5 true (loadG false 1 d7 h0)) fun d8 =>
  bi (wantF d5 true (lenD d8)) fun d9 =>
  bi (wantF d5 true (ltK .i64 d6 d9)) fun d10 =>
  bi (pickD d5 d10 (Bo false)) fun d11 =>
  condR d11 (
   bi (loadG false 1 (.ptr (List.length H) 5) h0) fun d12 =>
   bi (idxSl 1 d12 d1) fun d13 =>
   bi (loadG false 1 d13 h0) fun d14 =>
  some ((.tup [d14, (Bo true)]), h0)) (
   bi (eqK .i64 a1 (I .i64 0)) fun d15 =>
   bi (wantF d15 true (some a2)) fun d16 =>
   bi (wantF d15 true (eqK .i64 d16 (I .i64 9500))) fun d17 =>
   bi (pickD d15 d17 (Bo false)) fun d18 =>
   condR d18 (
  some ((.tup [(I .u16 0), (Bo true)]), h0)) (
  bi (loadG false 1 (.ptr (List.length H) 0) h0) fun d19 =>
  bi (remK .i64 a2 (I .i64 1000)) fun d20 =>
  bi (cP n 53 false [d19, a1, d20]) fun d21 =>
  bi (quoK .i64 a2 (I .i64 1000)) fun d22 =>
  bi (subK .i64 d22 (I .i64 1)) fun d23 =>
  bi (eqK .i64 d21 (I .i64 (-1))) fun d24 =>
  bi (wantF d24 false (some d23)) fun d25 =>
  bi (wantF d24 false (geK .i64 d25 (I .i64 3))) fun d26 =>
  bi (pickD d24 (Bo true) d26) fun d27 =>
  condR d27 (
  some ((.tup [(I .u16 0), (Bo false)]), h0)) (
   bi (geK .i64 d23 (I .i64 0)) fun d28 =>
   condR d28 (
    bi (idxArr 3 1 (.ptr (List.length H) 2) d23) fun d29 =>
    bi (loadG false 1 d29 h0) fun d30 =>
    bi (idxSl 1 d30 d21) fun d31 =>
    bi (loadG false 1 d31 h0) fun d32 =>
  some ((.tup [d32, (Bo true)]), h0)) (
  bi (loadG false 1 (.ptr (List.length H) 1) h0) fun d33 =>
  bi (idxSl 1 d33 d21) fun d34 =>
  bi (loadG false 1 d34 h0) fun d35 =>
  some ((.tup [d35, (Bo true)]), h0)))))
theorem s__bank_View__one_eq (n : Nat) (H : Heap) (fl : Nat) (a0 a1 a2 : DV) : callG Try.prog ENV (n + 1) 51 [a0, a1, a2] H fl = s__bank_View__one n H fl a0 a1 a2 := by kernel_rfl

/-! triune/triuneref15.find -/
def s_triuneref15_find_I0 (x0 x1 x2 x7 : DV) : List DV := [x0, x1, x2, .any, .any, .any, .any, x7, .any, .any, .any, .any, .any, .any, .any, .any, .any, .any, .any, .any, .any, .any, .any, .any, .any, .any, .any, .any, .any, .any, .any]
def s_triuneref15_find_O0 (x6 : DV) : List DV := [.any, .any, .any, .any, .any, .any, x6, .any, .any, .any, .any, .any, .any, .any, .any, .any, .any, .any, .any, .any, .any, .any, .any, .any, .any, .any, .any, .any, .any, .any, .any]
noncomputable abbrev s_triuneref15_find_b0 (n fl : Nat) : List DV → Heap → (Ex → KF) → R := execG ⟨Try.prog, callG Try.prog ENV n, ENV.md, fl, 31⟩ n (loopAt (bodyOf Try.f54) 0) []
noncomputable def s_triuneref15_find_B0 (n fl : Nat) (rec : DV → DV → DV → DV → Heap → R) (k : Ex → KF) (x0 x1 x2 x7 : DV) (H : Heap) : R :=
  bi (lenD x0) fun d0 =>
  bi (ltK .i64 x7 d0) fun d1 =>
  condR d1 (
  bi (idxSl 5 x0 x7) fun d2 =>
  bi (fieldD 0 1 d2) fun d3 =>
  bi (loadG false 1 d3 H) fun d4 =>
  bi (eqK .i64 d4 x1) fun d5 =>
  bi (wantF d5 true (some x0)) fun d6 =>
  bi (wantF d5 true (some x7)) fun d7 =>
  bi (wantF d5 true (idxSl 5 d6 d7)) fun d8 =>
  bi (wantF d5 true (fieldD 2 1 d8)) fun d9 =>
  bi (wantF d5 true (loadG false 1 d9 H)) fun d10 =>
  bi (wantF d5 true (some x2)) fun d11 =>
  bi (wantF d5 true (eqK .i64 d10 d11)) fun d12 =>
  bi (pickD d5 d12 (Bo false)) fun d13 =>
  condR d13 (
  k .ret (s_triuneref15_find_O0 x7) H) (
  bi (addK .i64 x7 (I .i64 1)) fun d14 =>
  rec x0 x1 x2 d14 H)) (
  k (.exit 0) (s_triuneref15_find_O0 .any) H)
noncomputable def s_triuneref15_find_L0 (n fl : Nat) (k : Ex → KF) : Nat → DV → DV → DV → DV → Heap → R
  | 0, _, _, _, _, _ => none
  | m + 1, x0, x1, x2, x7, H => s_triuneref15_find_B0 n fl (s_triuneref15_find_L0 n fl k m) k x0 x1 x2 x7 H
theorem s_triuneref15_find_S0 (n fl m : Nat) (k : Ex → KF) (x0 x1 x2 x7 : DV) (H : Heap) : loopG [0, 1, 2, 7] [6] 31 (s_triuneref15_find_b0 n fl) (m + 1) (s_triuneref15_find_I0 x0 x1 x2 x7) H k = s_triuneref15_find_B0 n fl (fun x0 x1 x2 x7 H => loopG [0, 1, 2, 7] [6] 31 (s_triuneref15_find_b0 n fl) m (s_triuneref15_find_I0 x0 x1 x2 x7) H k) k x0 x1 x2 x7 H := by kernel_rfl
theorem s_triuneref15_find_L0_eq (n fl : Nat) (k : Ex → KF) : ∀ (m : Nat) (x0 x1 x2 x7 : DV) (H : Heap), loopG [0, 1, 2, 7] [6] 31 (s_triuneref15_find_b0 n fl) m (s_triuneref15_find_I0 x0 x1 x2 x7) H k = s_triuneref15_find_L0 n fl k m x0 x1 x2 x7 H := by
  intro m
  induction m with
  | zero => intros; rfl
  | succ m ih =>
    intro x0 x1 x2 x7 H
    rw [s_triuneref15_find_S0, show (fun x0 x1 x2 x7 H => loopG [0, 1, 2, 7] [6] 31 (s_triuneref15_find_b0 n fl) m (s_triuneref15_find_I0 x0 x1 x2 x7) H k) = s_triuneref15_find_L0 n fl k m from by funext x0 x1 x2 x7 H; exact ih _ _ _ _ _]
    rw [s_triuneref15_find_L0]
noncomputable def s_triuneref15_find (n : Nat) (H : Heap) (fl : Nat) (a0 a1 a2 : DV) : R :=
  loopG [0, 1, 2, 7] [6] 31 (s_triuneref15_find_b0 n fl) n (s_triuneref15_find_I0 a0 a1 a2 (I .i64 0)) H fun x S0 h0 => match x with
  | .normal => none
  | .exit i0 => (
  if i0 = 0 then (
  some ((I .i64 (-1)), h0)) else (
  none))
  | .ret => (
  some ((S0.getD 6 .any), h0))
theorem s_triuneref15_find_eq (n : Nat) (H : Heap) (fl : Nat) (a0 a1 a2 : DV) : callG Try.prog ENV (n + 1) 54 [a0, a1, a2] H fl = s_triuneref15_find n H fl a0 a1 a2 := by kernel_rfl

end Go.Proofs.Ytigfninpflemnab
