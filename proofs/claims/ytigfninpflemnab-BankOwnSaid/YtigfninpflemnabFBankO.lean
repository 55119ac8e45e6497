/- Go functions as Lean functions on deep values; printed by a program of mine. -/
import Derived.Test.YtigfninpflemnabEnv
namespace Go.Proofs.Ytigfninpflemnab
open Go
set_option maxRecDepth 100000
set_option linter.unusedVariables false
/-! triune/triuneref15.one -/
def s_triuneref15_one_I0 (x1 x2 x3 x9 : DV) : List DV := [.any, x1, x2, x3, .any, .any, .any, .any, .any, x9, .any, .any, .any, .any, .any, .any, .any, .any, .any, .any, .any, .any, .any, .any, .any, .any, .any, .any, .any, .any, .any, .any, .any, .any, .any, .any, .any, .any, .any, .any, .any, .any, .any, .any, .any, .any, .any, .any, .any, .any, .any, .any, .any, .any, .any, .any, .any, .any, .any, .any, .any, .any, .any, .any, .any, .any, .any, .any, .any, .any, .any]
def s_triuneref15_one_O0 (x1 x2 x3 x6 x7 : DV) : List DV := [.any, x1, x2, x3, .any, .any, x6, x7, .any, .any, .any, .any, .any, .any, .any, .any, .any, .any, .any, .any, .any, .any, .any, .any, .any, .any, .any, .any, .any, .any, .any, .any, .any, .any, .any, .any, .any, .any, .any, .any, .any, .any, .any, .any, .any, .any, .any, .any, .any, .any, .any, .any, .any, .any, .any, .any, .any, .any, .any, .any, .any, .any, .any, .any, .any, .any, .any, .any, .any, .any, .any]
noncomputable abbrev s_triuneref15_one_b0 (n fl : Nat) : List DV → Heap → (Ex → KF) → R := execG ⟨Try.prog, callG Try.prog ENV n, ENV.md, fl, 71⟩ n (loopAt (bodyOf Try.f52) 0) []
noncomputable def s_triuneref15_one_B0 (n fl : Nat) (rec : DV → DV → DV → DV → Heap → R) (k : Ex → KF) (x1 x2 x3 x9 : DV) (H : Heap) : R :=
  bi (ltK .i64 x9 (I .i64 3)) fun d0 =>
  condR d0 (
  bi (fieldD 0 1 x3) fun d1 =>
  bi (loadG false 1 d1 H) fun d2 =>
  bi (addK .i64 x9 (I .i64 1)) fun d3 =>
  bi (mulK .i64 (I .i64 1000) d3) fun d4 =>
  bi (subK .i64 x2 d4) fun d5 =>
  bi (cP n 54 false [d2, x1, d5]) fun d6 =>
  bi (geK .i64 d6 (I .i64 0)) fun d7 =>
  condR d7 (
   bi (fieldD 2 3 x3) fun d8 =>
   bi (idxArr 3 1 d8 x9) fun d9 =>
   bi (loadG false 1 d9 H) fun d10 =>
   bi (idxSl 1 d10 d6) fun d11 =>
   bi (loadG false 1 d11 H) fun d12 =>
  k .ret (s_triuneref15_one_O0 x1 x2 x3 d12 (Bo true)) H) (
  bi (addK .i64 x9 (I .i64 1)) fun d13 =>
  rec x1 x2 x3 d13 H)) (
  k (.exit 0) (s_triuneref15_one_O0 x1 x2 x3 .any .any) H)
noncomputable def s_triuneref15_one_L0 (n fl : Nat) (k : Ex → KF) : Nat → DV → DV → DV → DV → Heap → R
  | 0, _, _, _, _, _ => none
  | m + 1, x1, x2, x3, x9, H => s_triuneref15_one_B0 n fl (s_triuneref15_one_L0 n fl k m) k x1 x2 x3 x9 H
theorem s_triuneref15_one_S0 (n fl m : Nat) (k : Ex → KF) (x1 x2 x3 x9 : DV) (H : Heap) : loopG [1, 2, 3, 9] [1, 2, 3, 6, 7] 71 (s_triuneref15_one_b0 n fl) (m + 1) (s_triuneref15_one_I0 x1 x2 x3 x9) H k = s_triuneref15_one_B0 n fl (fun x1 x2 x3 x9 H => loopG [1, 2, 3, 9] [1, 2, 3, 6, 7] 71 (s_triuneref15_one_b0 n fl) m (s_triuneref15_one_I0 x1 x2 x3 x9) H k) k x1 x2 x3 x9 H := by kernel_rfl
theorem s_triuneref15_one_L0_eq (n fl : Nat) (k : Ex → KF) : ∀ (m : Nat) (x1 x2 x3 x9 : DV) (H : Heap), loopG [1, 2, 3, 9] [1, 2, 3, 6, 7] 71 (s_triuneref15_one_b0 n fl) m (s_triuneref15_one_I0 x1 x2 x3 x9) H k = s_triuneref15_one_L0 n fl k m x1 x2 x3 x9 H := by
  intro m
  induction m with
  | zero => intros; rfl
  | succ m ih =>
    intro x1 x2 x3 x9 H
    rw [s_triuneref15_one_S0, show (fun x1 x2 x3 x9 H => loopG [1, 2, 3, 9] [1, 2, 3, 6, 7] 71 (s_triuneref15_one_b0 n fl) m (s_triuneref15_one_I0 x1 x2 x3 x9) H k) = s_triuneref15_one_L0 n fl k m from by funext x1 x2 x3 x9 H; exact ih _ _ _ _ _]
    rw [s_triuneref15_one_L0]
noncomputable def s_triuneref15_one (n : Nat) (H : Heap) (fl : Nat) (a0 a1 a2 : DV) : R :=
  bi (allocG 33 a0 (List.length H) (H ++ [.hole])) fun h0 =>
  bi (loadG false 1 (.ptr (List.length H) 0) h0) fun d1 =>
  bi (cP n 54 false [d1, a1, a2]) fun d2 =>
  bi (geK .i64 d2 (I .i64 0)) fun d3 =>
  condR d3 (
   bi (loadG false 1 (.ptr (List.length H) 1) h0) fun d4 =>
   bi (idxSl 1 d4 d2) fun d5 =>
   bi (loadG false 1 d5 h0) fun d6 =>
  some ((.tup [d6, (Bo true)]), h0)) (
  loopG [1, 2, 3, 9] [1, 2, 3, 6, 7] 71 (s_triuneref15_one_b0 n fl) n (s_triuneref15_one_I0 a1 a2 (.ptr (List.length H) 0) (I .i64 0)) h0 fun x S7 h7 => match x with
  | .normal => none
  | .exit i7 => (
  if i7 = 0 then (
  bi (eqK .i64 (S7.getD 1 .any) (I .i64 1)) fun d8 =>
  bi (wantF d8 true (some (S7.getD 2 .any))) fun d9 =>
  bi (wantF d8 true (geK .i64 d9 (I .i64 9000))) fun d10 =>
  bi (pickD d8 d10 (Bo false)) fun d11 =>
  bi (wantF d11 true (some (S7.getD 2 .any))) fun d12 =>
  bi (wantF d11 true (subK .i64 d12 (I .i64 9000))) fun d13 =>
  bi (wantF d11 true (fieldD 5 1 (S7.getD 3 .any))) fun d14 =>
  bi (wantF d11 true (loadG false 1 d14 h7)) fun d15 =>
  bi (wantF d11 true (lenD d15)) fun d16 =>
  bi (wantF d11 true (ltK .i64 d13 d16)) fun d17 =>
  bi (pickD d11 d17 (Bo false)) fun d18 =>
  condR d18 (
   bi (fieldD 5 1 (S7.getD 3 .any)) fun d19 =>
   bi (loadG false 1 d19 h7) fun d20 =>
   bi (subK .i64 (S7.getD 2 .any) (I .i64 9000)) fun d21 =>
   bi (idxSl 1 d20 d21) fun d22 =>
   bi (loadG false 1 d22 h7) fun d23 =>
  some ((.tup [d23, (Bo true)]), h7)) (
  bi (eqK .i64 (S7.getD 1 .any) (I .i64 0)) fun d24 =>
  bi (wantF d24 true (some (S7.getD 2 .any))) fun d25 =>
  bi (wantF d24 true (eqK .i64 d25 (I .i64 9500))) fun d26 =>
  bi (pickD d24 d26 (Bo false)) fun d27 =>
  some ((.tup [(I .u16 0), d27]), h7))) else (
  none))
  | .ret => (
  some ((.tup [(S7.getD 6 .any), (S7.getD 7 .any)]), h7)))
theorem s_triuneref15_one_eq (n : Nat) (H : Heap) (fl : Nat) (a0 a1 a2 : DV) : callG Try.prog ENV (n + 1) 52 [a0, a1, a2] H fl = s_triuneref15_one n H fl a0 a1 a2 := by kernel_rfl

end Go.Proofs.Ytigfninpflemnab
