/- Go functions as Lean functions on deep values; printed by a program of mine. -/
import Derived.Test.YtcpgmbpndpcmdaaKG8
namespace Go.Proofs.Ytcpgmbpndpcmdaa
open Go
set_option maxRecDepth 100000
set_option linter.unusedVariables false
/-! triune/triunelaw08.MasterGood -/
def s_triunelaw08_MasterGood_I0 (x3 x5 x7 x8 x12 x16 : DV) : List DV := [.any, .any, .any, x3, .any, x5, .any, x7, x8, .any, .any, .any, x12, .any, .any, .any, x16, .any, .any, .any, .any, .any, .any, .any, .any, .any, .any, .any, .any, .any, .any, .any, .any, .any, .any, .any, .any, .any, .any, .any, .any, .any, .any, .any, .any, .any, .any, .any, .any, .any, .any, .any, .any, .any, .any, .any, .any, .any, .any, .any, .any, .any, .any, .any, .any, .any, .any, .any, .any, .any, .any, .any, .any, .any, .any, .any, .any, .any, .any, .any, .any, .any, .any, .any, .any, .any, .any, .any, .any, .any, .any, .any, .any, .any, .any, .any, .any, .any, .any, .any, .any, .any, .any, .any, .any, .any, .any, .any, .any, .any, .any, .any, .any, .any, .any, .any, .any, .any, .any, .any, .any, .any, .any, .any, .any, .any, .any, .any, .any]
def s_triunelaw08_MasterGood_O0 (x6 x7 x8 x12 : DV) : List DV := [.any, .any, .any, .any, .any, .any, x6, x7, x8, .any, .any, .any, x12, .any, .any, .any, .any, .any, .any, .any, .any, .any, .any, .any, .any, .any, .any, .any, .any, .any, .any, .any, .any, .any, .any, .any, .any, .any, .any, .any, .any, .any, .any, .any, .any, .any, .any, .any, .any, .any, .any, .any, .any, .any, .any, .any, .any, .any, .any, .any, .any, .any, .any, .any, .any, .any, .any, .any, .any, .any, .any, .any, .any, .any, .any, .any, .any, .any, .any, .any, .any, .any, .any, .any, .any, .any, .any, .any, .any, .any, .any, .any, .any, .any, .any, .any, .any, .any, .any, .any, .any, .any, .any, .any, .any, .any, .any, .any, .any, .any, .any, .any, .any, .any, .any, .any, .any, .any, .any, .any, .any, .any, .any, .any, .any, .any, .any, .any, .any]
noncomputable abbrev s_triunelaw08_MasterGood_b0 (n fl : Nat) : List DV → Heap → (Ex → KF) → R := execG ⟨Try.prog, callG Try.prog ENV2 n, ENV2.md, fl, 129⟩ n (loopAt (bodyOf Try.f4) 0) []
noncomputable def s_triunelaw08_MasterGood_B0 (n fl : Nat) (rec : DV → DV → DV → DV → DV → DV → Heap → R) (k : Ex → KF) (x3 x5 x7 x8 x12 x16 : DV) (H : Heap) : R :=
  bi (fieldD 1 1 x3) fun d0 =>
  bi (loadG false 1 d0 H) fun d1 =>
  bi (ltK .i64 x16 d1) fun d2 =>
  condR d2 (
  bi (cW2 n 13 [x8] (H ++ [.hole]) fl) fun p3 =>
  bi (extD 0 p3.1) fun d4 =>
  bi (extD 1 p3.1) fun d5 =>
  bi (allocG 50 (.agg [(I .i64 0), (I .i64 0), (.list 0 [] .ti), (.list 0 [] .ti), (.list 0 [] .ti)]) (List.length H) p3.2) fun h6 =>
  bi (storeG 5 (.ptr (List.length H) 0) d5 h6 fl) fun h7 =>
  bi (lenD d4) fun d8 =>
  bi (gtK .i64 d8 (I .i64 0)) fun d9 =>
  bi (wantF d9 false (some x16)) fun d10 =>
  bi (wantF d9 false (fieldD 1 1 x3)) fun d11 =>
  bi (wantF d9 false (loadG false 1 d11 h7)) fun d12 =>
  bi (wantF d9 false (subK .i64 d12 (I .i64 1))) fun d13 =>
  bi (wantF d9 false (ltK .i64 d10 d13)) fun d14 =>
  bi (wantF d9 false (some (.ptr (List.length H) 0))) fun d15 =>
  bi (wantF d9 false (loadG false 1 d15 h7)) fun d16 =>
  bi (wantF d9 false (eqK .i64 d16 (I .i64 0))) fun d17 =>
  bi (wantF d9 false (neB d14 d17)) fun d18 =>
  bi (pickD d9 (Bo true) d18) fun d19 =>
  condR d19 (
  k .ret (s_triunelaw08_MasterGood_O0 (Bo false) x7 x8 x12) h7) (
  bi (fieldD 1 1 x3) fun d20 =>
  bi (loadG false 1 d20 h7) fun d21 =>
  bi (subK .i64 d21 (I .i64 1)) fun d22 =>
  bi (eqK .i64 x16 d22) fun d23 =>
  bi (wantF d23 true (some (.ptr (List.length H) 0))) fun d24 =>
  bi (wantF d23 true (loadG false 1 d24 h7)) fun d25 =>
  bi (wantF d23 true (neK .i64 d25 (I .i64 1))) fun d26 =>
  bi (wantF d23 true (some d26)) fun d27 =>
  bi (wantF d27 false (some (.ptr (List.length H) 1))) fun d28 =>
  bi (wantF d27 false (loadG true 4 d28 h7)) fun d29 =>
  bi (wantF d27 false (loadG true 4 x5 h7)) fun d30 =>
  bi (wantF d27 false (cP2 n 19 false [d29, d30])) fun d31 =>
  bi (wantF d27 false (notD d31)) fun d32 =>
  bi (wantF d23 true (pickD d27 (Bo true) d32)) fun d33 =>
  bi (pickD d23 d33 (Bo false)) fun d34 =>
  condR d34 (
  k .ret (s_triunelaw08_MasterGood_O0 (Bo false) x7 x8 x12) h7) (
  bi (addK .i64 x16 (I .i64 1)) fun d35 =>
  rec x3 x5 x7 x8 x12 d35 h7))) (
  k (.exit 0) (s_triunelaw08_MasterGood_O0 .any x7 x8 x12) H)
noncomputable def s_triunelaw08_MasterGood_L0 (n fl : Nat) (k : Ex → KF) : Nat → DV → DV → DV → DV → DV → DV → Heap → R
  | 0, _, _, _, _, _, _, _ => none
  | m + 1, x3, x5, x7, x8, x12, x16, H => s_triunelaw08_MasterGood_B0 n fl (s_triunelaw08_MasterGood_L0 n fl k m) k x3 x5 x7 x8 x12 x16 H
theorem s_triunelaw08_MasterGood_S0 (n fl m : Nat) (k : Ex → KF) (x3 x5 x7 x8 x12 x16 : DV) (H : Heap) : loopG [3, 5, 7, 8, 12, 16] [6, 7, 8, 12] 129 (s_triunelaw08_MasterGood_b0 n fl) (m + 1) (s_triunelaw08_MasterGood_I0 x3 x5 x7 x8 x12 x16) H k = s_triunelaw08_MasterGood_B0 n fl (fun x3 x5 x7 x8 x12 x16 H => loopG [3, 5, 7, 8, 12, 16] [6, 7, 8, 12] 129 (s_triunelaw08_MasterGood_b0 n fl) m (s_triunelaw08_MasterGood_I0 x3 x5 x7 x8 x12 x16) H k) k x3 x5 x7 x8 x12 x16 H := by kernel_rfl
theorem s_triunelaw08_MasterGood_L0_eq (n fl : Nat) (k : Ex → KF) : ∀ (m : Nat) (x3 x5 x7 x8 x12 x16 : DV) (H : Heap), loopG [3, 5, 7, 8, 12, 16] [6, 7, 8, 12] 129 (s_triunelaw08_MasterGood_b0 n fl) m (s_triunelaw08_MasterGood_I0 x3 x5 x7 x8 x12 x16) H k = s_triunelaw08_MasterGood_L0 n fl k m x3 x5 x7 x8 x12 x16 H := by
  intro m
  induction m with
  | zero => intros; rfl
  | succ m ih =>
    intro x3 x5 x7 x8 x12 x16 H
    rw [s_triunelaw08_MasterGood_S0, show (fun x3 x5 x7 x8 x12 x16 H => loopG [3, 5, 7, 8, 12, 16] [6, 7, 8, 12] 129 (s_triunelaw08_MasterGood_b0 n fl) m (s_triunelaw08_MasterGood_I0 x3 x5 x7 x8 x12 x16) H k) = s_triunelaw08_MasterGood_L0 n fl k m from by funext x3 x5 x7 x8 x12 x16 H; exact ih _ _ _ _ _ _ _]
    rw [s_triunelaw08_MasterGood_L0]
noncomputable def s_triunelaw08_MasterGood (n : Nat) (H : Heap) (fl : Nat) (a0 a1 a2 : DV) : R :=
  bi (allocG 23 a0 (List.length H) (H ++ [.hole, .hole, .hole])) fun h0 =>
  bi (allocG 28 a1 (List.length H + 1) h0) fun h1 =>
  bi (allocG 48 a2 (List.length H + 1 + 1) h1) fun h2 =>
  bi (cP2 n 5 false []) fun d3 =>
  bi (loadG true 4 (.ptr (List.length H) 0) h2) fun d4 =>
  bi (cK2 n 6 [d4] h2 fl) fun p5 =>
  bi (extD 0 p5.1) fun d6 =>
  bi (extD 1 p5.1) fun d7 =>
  bi (binD Try.prog .eql 31 (.tmp 25) (.const (.pointer none)) d6 (.flat (.pointer none))) fun d8 =>
  bi (wantF d8 false (loadG true 8 (.ptr (List.length H + 1) 0) p5.2)) fun d9 =>
  bi (wantF d8 false (cP2 n 8 false [d9])) fun d10 =>
  bi (pickD d8 (Bo true) d10) fun d11 =>
  bi (wantF d11 false (loadG true 4 (.ptr (List.length H + 1 + 1) 0) p5.2)) fun d12 =>
  bi (wantF d11 false (cP2 n 17 false [d12])) fun d13 =>
  bi (pickD d11 (Bo true) d13) fun d14 =>
  condR d14 (
  some (d3, p5.2)) (
  bi (loadG true 8 (.ptr (List.length H + 1) 0) p5.2) fun d15 =>
  bi (loadG true 4 (.ptr (List.length H + 1 + 1) 0) p5.2) fun d16 =>
  bi (cP2 n 18 false [d15, d16]) fun d17 =>
  bi (extD 0 d17) fun d18 =>
  bi (extD 1 d17) fun d19 =>
  bi (neK .i64 d19 (I .i64 0)) fun d20 =>
  bi (wantF d20 false (some d6)) fun d21 =>
  bi (wantF d20 false (loadG true 8 (.ptr (List.length H + 1) 0) p5.2)) fun d22 =>
  bi (wantH d20 false p5.2 (cW2 n 9 [d21, d22] p5.2 fl)) fun p23 =>
  bi (wantF d20 false (neK .i64 p23.1 (I .i64 0))) fun d24 =>
  bi (pickD d20 (Bo true) d24) fun d25 =>
  bi (wantF d25 false (some (.ptr (List.length H) 1))) fun d26 =>
  bi (wantF d25 false (loadG false 1 d26 p23.2)) fun d27 =>
  bi (wantF d25 false (some (.ptr (List.length H) 2))) fun d28 =>
  bi (wantF d25 false (loadG false 1 d28 p23.2)) fun d29 =>
  bi (wantF d25 false (mulK .i64 (I .i64 2) d29)) fun d30 =>
  bi (wantF d25 false (subK .i64 d30 (I .i64 1))) fun d31 =>
  bi (wantF d25 false (gtK .i64 d27 d31)) fun d32 =>
  bi (pickD d25 (Bo true) d32) fun d33 =>
  condR d33 (
  some (d3, p23.2)) (
  bi (cW2 n 13 [d6] (p23.2 ++ [.hole]) fl) fun p34 =>
  bi (extD 0 p34.1) fun d35 =>
  bi (extD 1 p34.1) fun d36 =>
  bi (allocG 50 (.agg [(I .i64 0), (I .i64 0), (.list 0 [] .ti), (.list 0 [] .ti), (.list 0 [] .ti)]) (List.length p23.2) p34.2) fun h37 =>
  bi (storeG 5 (.ptr (List.length p23.2) 0) d36 h37 fl) fun h38 =>
  bi (loadG false 1 (.ptr (List.length H) 0) h38) fun d39 =>
  bi (buildS (.agg [(I .u8 0), (.list 0 [] .ti)]) [(0, 1), (1, 1)] [(0, d39), (1, d18)]) fun d40 =>
  bi (cP2 n 11 false [d40]) fun d41 =>
  bi (extD 0 d41) fun d42 =>
  bi (extD 1 d41) fun d43 =>
  bi (cK2 n 12 [d6, d42] h38 fl) fun p44 =>
  loopG [3, 5, 7, 8, 12, 16] [6, 7, 8, 12] 129 (s_triunelaw08_MasterGood_b0 n fl) n (s_triunelaw08_MasterGood_I0 (.ptr (List.length H) 0) (.ptr (List.length H + 1 + 1) 0) d3 d6 d35 (I .i64 0)) p44.2 fun x S45 h45 => match x with
  | .normal => none
  | .exit i45 => (
  if i45 = 0 then (
  bi (wantF (S45.getD 7 .any) true (some (S45.getD 12 .any))) fun d46 =>
  bi (wantF (S45.getD 7 .any) true (lenD d46)) fun d47 =>
  bi (wantF (S45.getD 7 .any) true (gtK .i64 d47 (I .i64 0))) fun d48 =>
  bi (pickD (S45.getD 7 .any) d48 (Bo false)) fun d49 =>
  bi (wantF d49 true (some (S45.getD 8 .any))) fun d50 =>
  bi (wantF d49 true (cO2 n 15 [d50] h45)) fun d51 =>
  bi (wantF d49 true (notD d51)) fun d52 =>
  bi (pickD d49 d52 (Bo false)) fun d53 =>
  some (d53, h45)) else (
  none))
  | .ret => (
  some ((S45.getD 6 .any), h45))))
theorem s_triunelaw08_MasterGood_eq (n : Nat) (H : Heap) (fl : Nat) (a0 a1 a2 : DV) : callG Try.prog ENV2 (n + 1) 4 [a0, a1, a2] H fl = s_triunelaw08_MasterGood n H fl a0 a1 a2 := by kernel_rfl

end Go.Proofs.Ytcpgmbpndpcmdaa
