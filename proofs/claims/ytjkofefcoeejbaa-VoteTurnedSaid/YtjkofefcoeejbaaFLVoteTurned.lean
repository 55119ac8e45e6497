/- Go functions as Lean functions on deep values; printed by a program of mine. -/
import Derived.Test.YtjkofefcoeejbaaKV5
namespace Go.Proofs.Ytjkofefcoeejbaa
open Go
set_option maxRecDepth 100000
set_option linter.unusedVariables false
/-! triune/triunelaw12.VoteTurned -/
def s_triunelaw12_VoteTurned_I0 (x2 x5 x7 x8 x10 x11 x12 x13 : DV) : List DV := [.any, .any, x2, .any, .any, x5, .any, x7, x8, .any, x10, x11, x12, x13, .any, .any, .any, .any, .any, .any, .any, .any, .any, .any, .any, .any, .any, .any, .any, .any, .any, .any, .any, .any, .any, .any, .any, .any, .any, .any, .any, .any, .any, .any, .any, .any, .any, .any, .any, .any, .any, .any, .any, .any, .any, .any, .any, .any, .any, .any, .any, .any, .any, .any, .any, .any, .any, .any, .any, .any, .any, .any, .any, .any, .any, .any, .any, .any, .any, .any, .any, .any, .any, .any, .any, .any, .any, .any, .any, .any, .any, .any, .any, .any, .any, .any, .any, .any, .any, .any, .any, .any, .any, .any, .any, .any, .any, .any, .any, .any, .any, .any, .any, .any, .any, .any, .any, .any, .any, .any, .any, .any, .any, .any, .any, .any, .any, .any, .any, .any, .any]
def s_triunelaw12_VoteTurned_O0 (x2 x4 x5 x7 x8 : DV) : List DV := [.any, .any, x2, .any, x4, x5, .any, x7, x8, .any, .any, .any, .any, .any, .any, .any, .any, .any, .any, .any, .any, .any, .any, .any, .any, .any, .any, .any, .any, .any, .any, .any, .any, .any, .any, .any, .any, .any, .any, .any, .any, .any, .any, .any, .any, .any, .any, .any, .any, .any, .any, .any, .any, .any, .any, .any, .any, .any, .any, .any, .any, .any, .any, .any, .any, .any, .any, .any, .any, .any, .any, .any, .any, .any, .any, .any, .any, .any, .any, .any, .any, .any, .any, .any, .any, .any, .any, .any, .any, .any, .any, .any, .any, .any, .any, .any, .any, .any, .any, .any, .any, .any, .any, .any, .any, .any, .any, .any, .any, .any, .any, .any, .any, .any, .any, .any, .any, .any, .any, .any, .any, .any, .any, .any, .any, .any, .any, .any, .any, .any, .any]
noncomputable abbrev s_triunelaw12_VoteTurned_b0 (n fl : Nat) : List DV → Heap → (Ex → KF) → R := execG ⟨Try.prog, callG Try.prog ENV n, ENV.md, fl, 131⟩ n (loopAt (bodyOf Try.f10) 0) []
noncomputable def s_triunelaw12_VoteTurned_B0 (n fl : Nat) (rec : DV → DV → DV → DV → DV → DV → DV → DV → Heap → R) (k : Ex → KF) (x2 x5 x7 x8 x10 x11 x12 x13 : DV) (H : Heap) : R :=
  bi (lenD x12) fun d0 =>
  bi (ltK .i64 x13 d0) fun d1 =>
  condR d1 (
  bi (loadG true 5 x2 H) fun d2 =>
  bi (idxSl 1 x12 x13) fun d3 =>
  bi (loadG false 1 d3 H) fun d4 =>
  bi (cP n 41 false [d2, d4]) fun d5 =>
  bi (extD 0 d5) fun d6 =>
  bi (extD 1 d5) fun d7 =>
  bi (neK .u16 x10 d6) fun d8 =>
  bi (wantF d8 false (some x11)) fun d9 =>
  bi (wantF d8 false (some d7)) fun d10 =>
  bi (wantF d8 false (neB d9 d10)) fun d11 =>
  bi (pickD d8 (Bo true) d11) fun d12 =>
  condR d12 (
  k .ret (s_triunelaw12_VoteTurned_O0 x2 (Bo false) x5 x7 x8) H) (
  bi (addK .i64 x13 (I .i64 1)) fun d13 =>
  rec x2 x5 x7 x8 x10 x11 x12 d13 H)) (
  k (.exit 0) (s_triunelaw12_VoteTurned_O0 x2 .any x5 x7 x8) H)
noncomputable def s_triunelaw12_VoteTurned_L0 (n fl : Nat) (k : Ex → KF) : Nat → DV → DV → DV → DV → DV → DV → DV → DV → Heap → R
  | 0, _, _, _, _, _, _, _, _, _ => none
  | m + 1, x2, x5, x7, x8, x10, x11, x12, x13, H => s_triunelaw12_VoteTurned_B0 n fl (s_triunelaw12_VoteTurned_L0 n fl k m) k x2 x5 x7 x8 x10 x11 x12 x13 H
theorem s_triunelaw12_VoteTurned_S0 (n fl m : Nat) (k : Ex → KF) (x2 x5 x7 x8 x10 x11 x12 x13 : DV) (H : Heap) : loopG [2, 5, 7, 8, 10, 11, 12, 13] [2, 4, 5, 7, 8] 131 (s_triunelaw12_VoteTurned_b0 n fl) (m + 1) (s_triunelaw12_VoteTurned_I0 x2 x5 x7 x8 x10 x11 x12 x13) H k = s_triunelaw12_VoteTurned_B0 n fl (fun x2 x5 x7 x8 x10 x11 x12 x13 H => loopG [2, 5, 7, 8, 10, 11, 12, 13] [2, 4, 5, 7, 8] 131 (s_triunelaw12_VoteTurned_b0 n fl) m (s_triunelaw12_VoteTurned_I0 x2 x5 x7 x8 x10 x11 x12 x13) H k) k x2 x5 x7 x8 x10 x11 x12 x13 H := by kernel_rfl
theorem s_triunelaw12_VoteTurned_L0_eq (n fl : Nat) (k : Ex → KF) : ∀ (m : Nat) (x2 x5 x7 x8 x10 x11 x12 x13 : DV) (H : Heap), loopG [2, 5, 7, 8, 10, 11, 12, 13] [2, 4, 5, 7, 8] 131 (s_triunelaw12_VoteTurned_b0 n fl) m (s_triunelaw12_VoteTurned_I0 x2 x5 x7 x8 x10 x11 x12 x13) H k = s_triunelaw12_VoteTurned_L0 n fl k m x2 x5 x7 x8 x10 x11 x12 x13 H := by
  intro m
  induction m with
  | zero => intros; rfl
  | succ m ih =>
    intro x2 x5 x7 x8 x10 x11 x12 x13 H
    rw [s_triunelaw12_VoteTurned_S0, show (fun x2 x5 x7 x8 x10 x11 x12 x13 H => loopG [2, 5, 7, 8, 10, 11, 12, 13] [2, 4, 5, 7, 8] 131 (s_triunelaw12_VoteTurned_b0 n fl) m (s_triunelaw12_VoteTurned_I0 x2 x5 x7 x8 x10 x11 x12 x13) H k) = s_triunelaw12_VoteTurned_L0 n fl k m from by funext x2 x5 x7 x8 x10 x11 x12 x13 H; exact ih _ _ _ _ _ _ _ _ _]
    rw [s_triunelaw12_VoteTurned_L0]
noncomputable def s_triunelaw12_VoteTurned (n : Nat) (H : Heap) (fl : Nat) (a0 a1 : DV) : R :=
  bi (allocG 65 a0 (List.length H) (H ++ [.hole, .hole])) fun h0 =>
  bi (allocG 74 a1 (List.length H + 1) h0) fun h1 =>
  bi (cP n 35 false []) fun d2 =>
  bi (loadG true 5 (.ptr (List.length H) 0) h1) fun d3 =>
  bi (buildL true 5 1 (.agg [(I .i64 0), (I .i64 0), (I .i64 0), (I .i64 0), (I .i64 0)]) [(0, d3)]) fun d4 =>
  bi (cP n 36 false [d4]) fun d5 =>
  bi (notD d5) fun d6 =>
  condR d6 (
  some (d2, h1)) (
  bi (loadG false 1 (.ptr (List.length H + 1) 0) h1) fun d7 =>
  bi (loadG false 1 (.ptr (List.length H + 1) 1) h1) fun d8 =>
  bi (loadG false 1 (.ptr (List.length H + 1) 2) h1) fun d9 =>
  bi (loadG true 5 (.ptr (List.length H) 0) h1) fun d10 =>
  bi (buildL false 1 3 (I .u16 0) [(0, d7), (1, d8), (2, d9)]) fun d11 =>
  bi (cP n 41 false [d10, d11]) fun d12 =>
  bi (extD 0 d12) fun d13 =>
  bi (extD 1 d12) fun d14 =>
  bi (buildL false 1 3 (I .u16 0) [(0, d7), (1, d9), (2, d8)]) fun d15 =>
  bi (buildL false 1 3 (I .u16 0) [(0, d8), (1, d7), (2, d9)]) fun d16 =>
  bi (buildL false 1 3 (I .u16 0) [(0, d8), (1, d9), (2, d7)]) fun d17 =>
  bi (buildL false 1 3 (I .u16 0) [(0, d9), (1, d7), (2, d8)]) fun d18 =>
  bi (buildL false 1 3 (I .u16 0) [(0, d9), (1, d8), (2, d7)]) fun d19 =>
  bi (buildL false 1 5 (.list 0 [] .ti) [(0, d15), (1, d16), (2, d17), (3, d18), (4, d19)]) fun d20 =>
  loopG [2, 5, 7, 8, 10, 11, 12, 13] [2, 4, 5, 7, 8] 131 (s_triunelaw12_VoteTurned_b0 n fl) n (s_triunelaw12_VoteTurned_I0 (.ptr (List.length H) 0) d2 d7 d8 d13 d14 d20 (I .i64 0)) h1 fun x S21 h21 => match x with
  | .normal => none
  | .exit i21 => (
  if i21 = 0 then (
  bi (loadG true 5 (S21.getD 2 .any) h21) fun d22 =>
  bi (buildL false 1 2 (I .u16 0) [(0, (S21.getD 7 .any)), (1, (S21.getD 8 .any))]) fun d23 =>
  bi (cP n 41 false [d22, d23]) fun d24 =>
  bi (extD 0 d24) fun d25 =>
  bi (extD 1 d24) fun d26 =>
  bi (loadG true 5 (S21.getD 2 .any) h21) fun d27 =>
  bi (buildL false 1 2 (I .u16 0) [(0, (S21.getD 8 .any)), (1, (S21.getD 7 .any))]) fun d28 =>
  bi (cP n 41 false [d27, d28]) fun d29 =>
  bi (extD 0 d29) fun d30 =>
  bi (extD 1 d29) fun d31 =>
  bi (wantF (S21.getD 5 .any) true (some d25)) fun d32 =>
  bi (wantF (S21.getD 5 .any) true (some d30)) fun d33 =>
  bi (wantF (S21.getD 5 .any) true (eqK .u16 d32 d33)) fun d34 =>
  bi (pickD (S21.getD 5 .any) d34 (Bo false)) fun d35 =>
  bi (wantF d35 true (some d26)) fun d36 =>
  bi (wantF d35 true (some d31)) fun d37 =>
  bi (wantF d35 true (eqB d36 d37)) fun d38 =>
  bi (pickD d35 d38 (Bo false)) fun d39 =>
  bi (wantF d39 true (loadG true 5 (S21.getD 2 .any) h21)) fun d40 =>
  bi (wantF d39 true (some (S21.getD 7 .any))) fun d41 =>
  bi (wantF d39 true (some (S21.getD 7 .any))) fun d42 =>
  bi (wantF d39 true (cP n 43 false [d40, d41, d42])) fun d43 =>
  bi (wantF d39 true (notD d43)) fun d44 =>
  bi (pickD d39 d44 (Bo false)) fun d45 =>
  bi (wantF d45 true (loadG true 5 (S21.getD 2 .any) h21)) fun d46 =>
  bi (wantF d45 true (some (S21.getD 7 .any))) fun d47 =>
  bi (wantF d45 true (some (S21.getD 8 .any))) fun d48 =>
  bi (wantF d45 true (cP n 43 false [d46, d47, d48])) fun d49 =>
  bi (wantF d45 true (loadG true 5 (S21.getD 2 .any) h21)) fun d50 =>
  bi (wantF d45 true (some (S21.getD 8 .any))) fun d51 =>
  bi (wantF d45 true (some (S21.getD 7 .any))) fun d52 =>
  bi (wantF d45 true (cP n 43 false [d50, d51, d52])) fun d53 =>
  bi (wantF d45 true (eqB d49 d53)) fun d54 =>
  bi (pickD d45 d54 (Bo false)) fun d55 =>
  some (d55, h21)) else (
  none))
  | .ret => (
  some ((S21.getD 4 .any), h21)))
theorem s_triunelaw12_VoteTurned_eq (n : Nat) (H : Heap) (fl : Nat) (a0 a1 : DV) : callG Try.prog ENV (n + 1) 10 [a0, a1] H fl = s_triunelaw12_VoteTurned n H fl a0 a1 := by kernel_rfl

end Go.Proofs.Ytjkofefcoeejbaa
