/- Go functions as Lean functions on deep values; printed by a program of mine. -/
import Derived.Test.YtbmjflieedadkaaEnv
namespace Go.Proofs.Ytbmjflieedadkaa
open Go
set_option maxRecDepth 100000
set_option linter.unusedVariables false
/-! triune/triunelaw03.RtuTurned -/
def s_triunelaw03_RtuTurned_I0 (x1 x2 x7 x8 x10 : DV) : List DV := [.any, x1, x2, .any, .any, .any, .any, x7, x8, .any, x10, .any, .any, .any, .any, .any, .any, .any, .any, .any, .any, .any, .any, .any, .any, .any, .any, .any, .any, .any, .any, .any, .any, .any, .any, .any, .any, .any, .any, .any, .any, .any, .any, .any, .any, .any, .any, .any, .any, .any, .any, .any, .any, .any, .any, .any, .any, .any, .any, .any, .any, .any, .any, .any, .any, .any, .any, .any, .any, .any, .any, .any, .any, .any, .any, .any, .any, .any, .any, .any, .any, .any, .any, .any, .any, .any, .any, .any]
def s_triunelaw03_RtuTurned_O0 (x7 x8 : DV) : List DV := [.any, .any, .any, .any, .any, .any, .any, x7, x8, .any, .any, .any, .any, .any, .any, .any, .any, .any, .any, .any, .any, .any, .any, .any, .any, .any, .any, .any, .any, .any, .any, .any, .any, .any, .any, .any, .any, .any, .any, .any, .any, .any, .any, .any, .any, .any, .any, .any, .any, .any, .any, .any, .any, .any, .any, .any, .any, .any, .any, .any, .any, .any, .any, .any, .any, .any, .any, .any, .any, .any, .any, .any, .any, .any, .any, .any, .any, .any, .any, .any, .any, .any, .any, .any, .any, .any, .any, .any]
noncomputable abbrev s_triunelaw03_RtuTurned_b0 (n fl : Nat) : List DV → Heap → (Ex → KF) → R := execG ⟨Try.prog, callG Try.prog ENV n, ENV.md, fl, 88⟩ n (loopAt (bodyOf Try.f5) 0) []
noncomputable def s_triunelaw03_RtuTurned_B0 (n fl : Nat) (rec : DV → DV → DV → DV → DV → Heap → R) (k : Ex → KF) (x1 x2 x7 x8 x10 : DV) (H : Heap) : R :=
  bi (ltK .i64 x10 (I .i64 16)) fun d0 =>
  condR d0 (
  bi (remK .u16 x2 (I .u16 2)) fun d1 =>
  bi (quoK .u16 x2 (I .u16 2)) fun d2 =>
  bi (eqK .u16 d1 (I .u16 1)) fun d3 =>
  condR d3 (
   bi (addK .i64 x1 x10) fun d4 =>
   bi (quoK .i64 d4 (I .i64 8)) fun d5 =>
   bi (quoK .i64 d4 (I .i64 8)) fun d6 =>
   bi (idxSl 1 x8 d6) fun d7 =>
   bi (loadG false 1 d7 H) fun d8 =>
   bi (buildL false 1 8 (I .u8 0) [(0, (I .u8 1)), (1, (I .u8 2)), (2, (I .u8 4)), (3, (I .u8 8)), (4, (I .u8 16)), (5, (I .u8 32)), (6, (I .u8 64)), (7, (I .u8 128))]) fun d9 =>
   bi (remK .i64 d4 (I .i64 8)) fun d10 =>
   bi (idxSl 1 d9 d10) fun d11 =>
   bi (loadG false 1 d11 H) fun d12 =>
   bi (xorK .u8 d8 d12) fun d13 =>
   bi (idxSl 1 x8 d5) fun d14 =>
   bi (storeG 1 d14 d13 H fl) fun h15 =>
  bi (addK .i64 x10 (I .i64 1)) fun d16 =>
  rec x1 d2 x7 x8 d16 h15) (
  bi (addK .i64 x10 (I .i64 1)) fun d17 =>
  rec x1 d2 x7 x8 d17 H)) (
  k (.exit 0) (s_triunelaw03_RtuTurned_O0 x7 x8) H)
noncomputable def s_triunelaw03_RtuTurned_L0 (n fl : Nat) (k : Ex → KF) : Nat → DV → DV → DV → DV → DV → Heap → R
  | 0, _, _, _, _, _, _ => none
  | m + 1, x1, x2, x7, x8, x10, H => s_triunelaw03_RtuTurned_B0 n fl (s_triunelaw03_RtuTurned_L0 n fl k m) k x1 x2 x7 x8 x10 H
theorem s_triunelaw03_RtuTurned_S0 (n fl m : Nat) (k : Ex → KF) (x1 x2 x7 x8 x10 : DV) (H : Heap) : loopG [1, 2, 7, 8, 10] [7, 8] 88 (s_triunelaw03_RtuTurned_b0 n fl) (m + 1) (s_triunelaw03_RtuTurned_I0 x1 x2 x7 x8 x10) H k = s_triunelaw03_RtuTurned_B0 n fl (fun x1 x2 x7 x8 x10 H => loopG [1, 2, 7, 8, 10] [7, 8] 88 (s_triunelaw03_RtuTurned_b0 n fl) m (s_triunelaw03_RtuTurned_I0 x1 x2 x7 x8 x10) H k) k x1 x2 x7 x8 x10 H := by kernel_rfl
theorem s_triunelaw03_RtuTurned_L0_eq (n fl : Nat) (k : Ex → KF) : ∀ (m : Nat) (x1 x2 x7 x8 x10 : DV) (H : Heap), loopG [1, 2, 7, 8, 10] [7, 8] 88 (s_triunelaw03_RtuTurned_b0 n fl) m (s_triunelaw03_RtuTurned_I0 x1 x2 x7 x8 x10) H k = s_triunelaw03_RtuTurned_L0 n fl k m x1 x2 x7 x8 x10 H := by
  intro m
  induction m with
  | zero => intros; rfl
  | succ m ih =>
    intro x1 x2 x7 x8 x10 H
    rw [s_triunelaw03_RtuTurned_S0, show (fun x1 x2 x7 x8 x10 H => loopG [1, 2, 7, 8, 10] [7, 8] 88 (s_triunelaw03_RtuTurned_b0 n fl) m (s_triunelaw03_RtuTurned_I0 x1 x2 x7 x8 x10) H k) = s_triunelaw03_RtuTurned_L0 n fl k m from by funext x1 x2 x7 x8 x10 H; exact ih _ _ _ _ _ _]
    rw [s_triunelaw03_RtuTurned_L0]
noncomputable def s_triunelaw03_RtuTurned (n : Nat) (H : Heap) (fl : Nat) (a0 a1 a2 : DV) : R :=
  bi (allocG 24 a0 (List.length H) (H ++ [.hole])) fun h0 =>
  bi (cP n 9 false []) fun d1 =>
  bi (loadG false 1 (.ptr (List.length H) 1) h0) fun d2 =>
  bi (lenD d2) fun d3 =>
  bi (gtK .i64 d3 (I .i64 400)) fun d4 =>
  condR d4 (
  some (d1, h0)) (
  bi (loadG true 2 (.ptr (List.length H) 0) h0) fun d5 =>
  bi (cP n 10 false [d5]) fun d6 =>
  bi (extD 0 d6) fun d7 =>
  bi (extD 1 d6) fun d8 =>
  bi (neK .i64 d8 (I .i64 0)) fun d9 =>
  bi (wantF d9 false (some a2)) fun d10 =>
  bi (wantF d9 false (eqK .u16 d10 (I .u16 0))) fun d11 =>
  bi (pickD d9 (Bo true) d11) fun d12 =>
  bi (wantF d12 false (some d7)) fun d13 =>
  bi (wantF d12 false (lenD d13)) fun d14 =>
  bi (wantF d12 false (ltK .i64 d14 (I .i64 2))) fun d15 =>
  bi (pickD d12 (Bo true) d15) fun d16 =>
  bi (wantF d16 false (some a1)) fun d17 =>
  bi (wantF d16 false (ltK .i64 d17 (I .i64 0))) fun d18 =>
  bi (pickD d16 (Bo true) d18) fun d19 =>
  bi (wantF d19 false (some a1)) fun d20 =>
  bi (wantF d19 false (some d7)) fun d21 =>
  bi (wantF d19 false (lenD d21)) fun d22 =>
  bi (wantF d19 false (mulK .i64 (I .i64 8) d22)) fun d23 =>
  bi (wantF d19 false (subK .i64 d23 (I .i64 16))) fun d24 =>
  bi (wantF d19 false (gtK .i64 d20 d24)) fun d25 =>
  bi (pickD d19 (Bo true) d25) fun d26 =>
  condR d26 (
  some (d1, h0)) (
  loopG [1, 2, 7, 8, 10] [7, 8] 88 (s_triunelaw03_RtuTurned_b0 n fl) n (s_triunelaw03_RtuTurned_I0 a1 a2 d1 d7 (I .i64 0)) h0 fun x S27 h27 => match x with
  | .normal => none
  | .exit i27 => (
  if i27 = 0 then (
  bi (cP n 12 false [(S27.getD 8 .any)]) fun d28 =>
  bi (extD 0 d28) fun d29 =>
  bi (extD 1 d28) fun d30 =>
  bi (allocG 24 (.agg [(I .u8 0), (.list 0 [] .ti)]) (List.length h27) (h27 ++ [.hole])) fun h31 =>
  bi (storeG 2 (.ptr (List.length h27) 0) d29 h31 fl) fun h32 =>
  bi (wantF (S27.getD 7 .any) true (some d30)) fun d33 =>
  bi (wantF (S27.getD 7 .any) true (eqK .i64 d33 (I .i64 6))) fun d34 =>
  bi (pickD (S27.getD 7 .any) d34 (Bo false)) fun d35 =>
  some (d35, h32)) else (
  none))
  | .ret => (
  some (.any, h27))))
theorem s_triunelaw03_RtuTurned_eq (n : Nat) (H : Heap) (fl : Nat) (a0 a1 a2 : DV) : callG Try.prog ENV (n + 1) 5 [a0, a1, a2] H fl = s_triunelaw03_RtuTurned n H fl a0 a1 a2 := by kernel_rfl

end Go.Proofs.Ytbmjflieedadkaa
