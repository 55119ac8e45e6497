/- Go functions as Lean functions on deep values; printed by a program of mine. -/
import Derived.Test.YtbhnkdnfmlnajaaKJ7
namespace Go.Proofs.Ytbhnkdnfmlnajaa
open Go
set_option maxRecDepth 100000
set_option linter.unusedVariables false
/-! triune/triunelaw13.JudgeFine -/
def s_triunelaw13_JudgeFine_I1 (x0 x2 x7 x14 x15 : DV) : List DV := [x0, .any, x2, .any, .any, .any, .any, x7, .any, .any, .any, .any, .any, .any, x14, x15, .any, .any, .any, .any, .any, .any, .any, .any, .any, .any, .any, .any, .any, .any, .any, .any, .any, .any, .any, .any, .any, .any, .any, .any, .any, .any, .any, .any, .any, .any, .any, .any, .any, .any, .any, .any, .any, .any, .any, .any, .any, .any, .any, .any, .any, .any, .any, .any, .any, .any, .any, .any, .any, .any, .any, .any, .any, .any, .any, .any, .any, .any, .any, .any, .any, .any, .any, .any, .any, .any, .any, .any, .any, .any, .any, .any, .any, .any, .any, .any, .any, .any, .any, .any, .any, .any, .any, .any, .any, .any, .any, .any, .any, .any, .any, .any, .any, .any, .any, .any, .any, .any, .any, .any, .any, .any, .any, .any, .any, .any, .any, .any, .any, .any, .any, .any, .any, .any, .any, .any, .any, .any, .any, .any, .any]
def s_triunelaw13_JudgeFine_O1 (x0 x7 x14 : DV) : List DV := [x0, .any, .any, .any, .any, .any, .any, x7, .any, .any, .any, .any, .any, .any, x14, .any, .any, .any, .any, .any, .any, .any, .any, .any, .any, .any, .any, .any, .any, .any, .any, .any, .any, .any, .any, .any, .any, .any, .any, .any, .any, .any, .any, .any, .any, .any, .any, .any, .any, .any, .any, .any, .any, .any, .any, .any, .any, .any, .any, .any, .any, .any, .any, .any, .any, .any, .any, .any, .any, .any, .any, .any, .any, .any, .any, .any, .any, .any, .any, .any, .any, .any, .any, .any, .any, .any, .any, .any, .any, .any, .any, .any, .any, .any, .any, .any, .any, .any, .any, .any, .any, .any, .any, .any, .any, .any, .any, .any, .any, .any, .any, .any, .any, .any, .any, .any, .any, .any, .any, .any, .any, .any, .any, .any, .any, .any, .any, .any, .any, .any, .any, .any, .any, .any, .any, .any, .any, .any, .any, .any, .any]
noncomputable abbrev s_triunelaw13_JudgeFine_b1 (n fl : Nat) : List DV → Heap → (Ex → KF) → R := execG ⟨Try.prog, callG Try.prog ENV n, ENV.md, fl, 141⟩ n (loopAt (bodyOf Try.f10) 1) []
noncomputable def s_triunelaw13_JudgeFine_B1 (n fl : Nat) (rec : DV → DV → DV → DV → DV → Heap → R) (k : Ex → KF) (x0 x2 x7 x14 x15 : DV) (H : Heap) : R :=
  bi (lenD x0) fun d0 =>
  bi (ltK .i64 x15 d0) fun d1 =>
  condR d1 (
  bi (idxSl 1 x2 x15) fun d2 =>
  bi (loadG false 1 d2 H) fun d3 =>
  bi (idxSl 5 x0 x15) fun d4 =>
  bi (fieldD 0 1 d4) fun d5 =>
  bi (loadG false 1 d5 H) fun d6 =>
  bi (geK .i64 d6 (I .i64 2)) fun d7 =>
  condR d7 (
   bi (remK .u16 d3 (I .u16 2)) fun d8 =>
  bi (buildS (.agg [(I .u16 0), (I .i64 0)]) [(0, 1), (1, 1)] [(0, d8)]) fun d9 =>
  bi (buildL true 2 1 (.agg [(I .u16 0), (I .i64 0)]) [(0, d9)]) fun d10 =>
  bi (appG 121 true 2 16 x14 d10 H fl) fun p11 =>
  bi (addK .i64 x15 (I .i64 1)) fun d12 =>
  rec x0 x2 x7 p11.1 d12 p11.2) (
  bi (buildS (.agg [(I .u16 0), (I .i64 0)]) [(0, 1), (1, 1)] [(0, d3)]) fun d13 =>
  bi (buildL true 2 1 (.agg [(I .u16 0), (I .i64 0)]) [(0, d13)]) fun d14 =>
  bi (appG 121 true 2 16 x14 d14 H fl) fun p15 =>
  bi (addK .i64 x15 (I .i64 1)) fun d16 =>
  rec x0 x2 x7 p15.1 d16 p15.2)) (
  k (.exit 2) (s_triunelaw13_JudgeFine_O1 x0 x7 x14) H)
noncomputable def s_triunelaw13_JudgeFine_L1 (n fl : Nat) (k : Ex → KF) : Nat → DV → DV → DV → DV → DV → Heap → R
  | 0, _, _, _, _, _, _ => none
  | m + 1, x0, x2, x7, x14, x15, H => s_triunelaw13_JudgeFine_B1 n fl (s_triunelaw13_JudgeFine_L1 n fl k m) k x0 x2 x7 x14 x15 H
theorem s_triunelaw13_JudgeFine_S1 (n fl m : Nat) (k : Ex → KF) (x0 x2 x7 x14 x15 : DV) (H : Heap) : loopG [0, 2, 7, 14, 15] [0, 7, 14] 141 (s_triunelaw13_JudgeFine_b1 n fl) (m + 1) (s_triunelaw13_JudgeFine_I1 x0 x2 x7 x14 x15) H k = s_triunelaw13_JudgeFine_B1 n fl (fun x0 x2 x7 x14 x15 H => loopG [0, 2, 7, 14, 15] [0, 7, 14] 141 (s_triunelaw13_JudgeFine_b1 n fl) m (s_triunelaw13_JudgeFine_I1 x0 x2 x7 x14 x15) H k) k x0 x2 x7 x14 x15 H := by kernel_rfl
theorem s_triunelaw13_JudgeFine_L1_eq (n fl : Nat) (k : Ex → KF) : ∀ (m : Nat) (x0 x2 x7 x14 x15 : DV) (H : Heap), loopG [0, 2, 7, 14, 15] [0, 7, 14] 141 (s_triunelaw13_JudgeFine_b1 n fl) m (s_triunelaw13_JudgeFine_I1 x0 x2 x7 x14 x15) H k = s_triunelaw13_JudgeFine_L1 n fl k m x0 x2 x7 x14 x15 H := by
  intro m
  induction m with
  | zero => intros; rfl
  | succ m ih =>
    intro x0 x2 x7 x14 x15 H
    rw [s_triunelaw13_JudgeFine_S1, show (fun x0 x2 x7 x14 x15 H => loopG [0, 2, 7, 14, 15] [0, 7, 14] 141 (s_triunelaw13_JudgeFine_b1 n fl) m (s_triunelaw13_JudgeFine_I1 x0 x2 x7 x14 x15) H k) = s_triunelaw13_JudgeFine_L1 n fl k m from by funext x0 x2 x7 x14 x15 H; exact ih _ _ _ _ _ _]
    rw [s_triunelaw13_JudgeFine_L1]
def s_triunelaw13_JudgeFine_I0 (x0 x2 x7 x9 x11 x12 x13 : DV) : List DV := [x0, .any, x2, .any, .any, .any, .any, x7, .any, x9, .any, x11, x12, x13, .any, .any, .any, .any, .any, .any, .any, .any, .any, .any, .any, .any, .any, .any, .any, .any, .any, .any, .any, .any, .any, .any, .any, .any, .any, .any, .any, .any, .any, .any, .any, .any, .any, .any, .any, .any, .any, .any, .any, .any, .any, .any, .any, .any, .any, .any, .any, .any, .any, .any, .any, .any, .any, .any, .any, .any, .any, .any, .any, .any, .any, .any, .any, .any, .any, .any, .any, .any, .any, .any, .any, .any, .any, .any, .any, .any, .any, .any, .any, .any, .any, .any, .any, .any, .any, .any, .any, .any, .any, .any, .any, .any, .any, .any, .any, .any, .any, .any, .any, .any, .any, .any, .any, .any, .any, .any, .any, .any, .any, .any, .any, .any, .any, .any, .any, .any, .any, .any, .any, .any, .any, .any, .any, .any, .any, .any, .any]
def s_triunelaw13_JudgeFine_O0 (x0 x2 x6 x7 : DV) : List DV := [x0, .any, x2, .any, .any, .any, x6, x7, .any, .any, .any, .any, .any, .any, .any, .any, .any, .any, .any, .any, .any, .any, .any, .any, .any, .any, .any, .any, .any, .any, .any, .any, .any, .any, .any, .any, .any, .any, .any, .any, .any, .any, .any, .any, .any, .any, .any, .any, .any, .any, .any, .any, .any, .any, .any, .any, .any, .any, .any, .any, .any, .any, .any, .any, .any, .any, .any, .any, .any, .any, .any, .any, .any, .any, .any, .any, .any, .any, .any, .any, .any, .any, .any, .any, .any, .any, .any, .any, .any, .any, .any, .any, .any, .any, .any, .any, .any, .any, .any, .any, .any, .any, .any, .any, .any, .any, .any, .any, .any, .any, .any, .any, .any, .any, .any, .any, .any, .any, .any, .any, .any, .any, .any, .any, .any, .any, .any, .any, .any, .any, .any, .any, .any, .any, .any, .any, .any, .any, .any, .any, .any]
noncomputable abbrev s_triunelaw13_JudgeFine_b0 (n fl : Nat) : List DV → Heap → (Ex → KF) → R := execG ⟨Try.prog, callG Try.prog ENV n, ENV.md, fl, 141⟩ n (loopAt (bodyOf Try.f10) 0) []
noncomputable def s_triunelaw13_JudgeFine_B0 (n fl : Nat) (rec : DV → DV → DV → DV → DV → DV → DV → Heap → R) (k : Ex → KF) (x0 x2 x7 x9 x11 x12 x13 : DV) (H : Heap) : R :=
  bi (ltK .i64 x13 (I .i64 3)) fun d0 =>
  condR d0 (
  bi (idxArr 3 1 x12 x13) fun d1 =>
  bi (loadG false 1 d1 H) fun d2 =>
  bi (wantF d2 true (some x13)) fun d3 =>
  bi (wantF d2 true (fieldD 0 3 x11)) fun d4 =>
  bi (wantF d2 true (idxArr 3 1 d4 d3)) fun d5 =>
  bi (wantF d2 true (loadG false 1 d5 H)) fun d6 =>
  bi (pickD d2 d6 (Bo false)) fun d7 =>
  bi (wantF d7 false (some x9)) fun d8 =>
  bi (wantF d7 false (some x13)) fun d9 =>
  bi (wantF d7 false (cO n 53 [d8, d9, (I .i64 7)] H)) fun d10 =>
  bi (wantF d7 false (notD d10)) fun d11 =>
  bi (wantF d7 false (some d11)) fun d12 =>
  bi (wantF d12 true (some x13)) fun d13 =>
  bi (wantF d12 true (idxArr 3 1 x12 d13)) fun d14 =>
  bi (wantF d12 true (loadG false 1 d14 H)) fun d15 =>
  bi (wantF d12 true (some d15)) fun d16 =>
  bi (wantF d16 false (some x13)) fun d17 =>
  bi (wantF d16 false (fieldD 0 3 x11)) fun d18 =>
  bi (wantF d16 false (idxArr 3 1 d18 d17)) fun d19 =>
  bi (wantF d16 false (loadG false 1 d19 H)) fun d20 =>
  bi (wantF d16 false (notD d20)) fun d21 =>
  bi (wantF d12 true (pickD d16 (Bo true) d21)) fun d22 =>
  bi (wantF d7 false (pickD d12 d22 (Bo false))) fun d23 =>
  bi (pickD d7 (Bo true) d23) fun d24 =>
  condR d24 (
  k .ret (s_triunelaw13_JudgeFine_O0 x0 x2 (Bo false) x7) H) (
  bi (addK .i64 x13 (I .i64 1)) fun d25 =>
  rec x0 x2 x7 x9 x11 x12 d25 H)) (
  k (.exit 0) (s_triunelaw13_JudgeFine_O0 x0 x2 .any x7) H)
noncomputable def s_triunelaw13_JudgeFine_L0 (n fl : Nat) (k : Ex → KF) : Nat → DV → DV → DV → DV → DV → DV → DV → Heap → R
  | 0, _, _, _, _, _, _, _, _ => none
  | m + 1, x0, x2, x7, x9, x11, x12, x13, H => s_triunelaw13_JudgeFine_B0 n fl (s_triunelaw13_JudgeFine_L0 n fl k m) k x0 x2 x7 x9 x11 x12 x13 H
theorem s_triunelaw13_JudgeFine_S0 (n fl m : Nat) (k : Ex → KF) (x0 x2 x7 x9 x11 x12 x13 : DV) (H : Heap) : loopG [0, 2, 7, 9, 11, 12, 13] [0, 2, 6, 7] 141 (s_triunelaw13_JudgeFine_b0 n fl) (m + 1) (s_triunelaw13_JudgeFine_I0 x0 x2 x7 x9 x11 x12 x13) H k = s_triunelaw13_JudgeFine_B0 n fl (fun x0 x2 x7 x9 x11 x12 x13 H => loopG [0, 2, 7, 9, 11, 12, 13] [0, 2, 6, 7] 141 (s_triunelaw13_JudgeFine_b0 n fl) m (s_triunelaw13_JudgeFine_I0 x0 x2 x7 x9 x11 x12 x13) H k) k x0 x2 x7 x9 x11 x12 x13 H := by kernel_rfl
theorem s_triunelaw13_JudgeFine_L0_eq (n fl : Nat) (k : Ex → KF) : ∀ (m : Nat) (x0 x2 x7 x9 x11 x12 x13 : DV) (H : Heap), loopG [0, 2, 7, 9, 11, 12, 13] [0, 2, 6, 7] 141 (s_triunelaw13_JudgeFine_b0 n fl) m (s_triunelaw13_JudgeFine_I0 x0 x2 x7 x9 x11 x12 x13) H k = s_triunelaw13_JudgeFine_L0 n fl k m x0 x2 x7 x9 x11 x12 x13 H := by
  intro m
  induction m with
  | zero => intros; rfl
  | succ m ih =>
    intro x0 x2 x7 x9 x11 x12 x13 H
    rw [s_triunelaw13_JudgeFine_S0, show (fun x0 x2 x7 x9 x11 x12 x13 H => loopG [0, 2, 7, 9, 11, 12, 13] [0, 2, 6, 7] 141 (s_triunelaw13_JudgeFine_b0 n fl) m (s_triunelaw13_JudgeFine_I0 x0 x2 x7 x9 x11 x12 x13) H k) = s_triunelaw13_JudgeFine_L0 n fl k m from by funext x0 x2 x7 x9 x11 x12 x13 H; exact ih _ _ _ _ _ _ _ _]
    rw [s_triunelaw13_JudgeFine_L0]
noncomputable def s_triunelaw13_JudgeFine (n : Nat) (H : Heap) (fl : Nat) (a0 a1 a2 : DV) : R :=
  bi (allocG 104 a1 (List.length H) (H ++ [.hole])) fun h0 =>
  bi (cP n 44 false []) fun d1 =>
  bi (cP n 24 false [a0]) fun d2 =>
  bi (notD d2) fun d3 =>
  bi (wantF d3 false (some (.ptr (List.length H) 0))) fun d4 =>
  bi (wantF d3 false (loadG false 1 d4 h0)) fun d5 =>
  bi (wantF d3 false (lenD d5)) fun d6 =>
  bi (wantF d3 false (some (.ptr (List.length H) 1))) fun d7 =>
  bi (wantF d3 false (loadG false 1 d7 h0)) fun d8 =>
  bi (wantF d3 false (lenD d8)) fun d9 =>
  bi (wantF d3 false (addK .i64 d6 d9)) fun d10 =>
  bi (wantF d3 false (some (.ptr (List.length H) 2))) fun d11 =>
  bi (wantF d3 false (loadG false 1 d11 h0)) fun d12 =>
  bi (wantF d3 false (lenD d12)) fun d13 =>
  bi (wantF d3 false (addK .i64 d10 d13)) fun d14 =>
  bi (wantF d3 false (gtK .i64 d14 (I .i64 200))) fun d15 =>
  bi (pickD d3 (Bo true) d15) fun d16 =>
  bi (wantF d16 false (some a2)) fun d17 =>
  bi (wantF d16 false (lenD d17)) fun d18 =>
  bi (wantF d16 false (some a0)) fun d19 =>
  bi (wantF d16 false (lenD d19)) fun d20 =>
  bi (wantF d16 false (ltK .i64 d18 d20)) fun d21 =>
  bi (pickD d16 (Bo true) d21) fun d22 =>
  bi (wantF d22 false (some a2)) fun d23 =>
  bi (wantF d22 false (lenD d23)) fun d24 =>
  bi (wantF d22 false (gtK .i64 d24 (I .i64 100))) fun d25 =>
  bi (pickD d22 (Bo true) d25) fun d26 =>
  condR d26 (
  some (d1, h0)) (
  bi (loadG true 3 (.ptr (List.length H) 0) h0) fun d27 =>
  bi (cK n 45 [a0, d27, (I .i64 7)] h0 fl) fun p28 =>
  bi (extD 0 p28.1) fun d29 =>
  bi (extD 1 p28.1) fun d30 =>
  bi (binD Try.prog .eql 105 (.tmp 57) (.const (.pointer none)) d29 (.flat (.pointer none))) fun d31 =>
  condR d31 (
  some ((Bo false), p28.2)) (
  bi (buildA (.agg [(Bo false), (Bo false), (Bo false)]) 1 [(0, (Bo true)), (1, (Bo true)), (2, (Bo true))]) fun d32 =>
  bi (cO n 46 [a0, d29, (I .i64 7), d32] (p28.2 ++ [.hole])) fun d33 =>
  bi (allocG 110 (.agg [(Bo false), (Bo false), (Bo false), (Bo false)]) (List.length p28.2) (p28.2 ++ [.hole])) fun h34 =>
  bi (storeG 4 (.ptr (List.length p28.2) 0) d33 h34 fl) fun h35 =>
  bi (cO n 51 [a0, d29, (I .i64 7)] (h35 ++ [.hole])) fun d36 =>
  bi (allocG 52 (.agg [(Bo false), (Bo false), (Bo false)]) (List.length h35) (h35 ++ [.hole])) fun h37 =>
  bi (storeG 3 (.ptr (List.length h35) 0) d36 h37 fl) fun h38 =>
  loopG [0, 2, 7, 9, 11, 12, 13] [0, 2, 6, 7] 141 (s_triunelaw13_JudgeFine_b0 n fl) n (s_triunelaw13_JudgeFine_I0 a0 a2 d1 d29 (.ptr (List.length p28.2) 0) (.ptr (List.length h35) 0) (I .i64 0)) h38 fun x S39 h39 => match x with
  | .normal => none
  | .exit i39 => (
  if i39 = 0 then (
  loopG [0, 2, 7, 14, 15] [0, 7, 14] 141 (s_triunelaw13_JudgeFine_b1 n fl) n (s_triunelaw13_JudgeFine_I1 (S39.getD 0 .any) (S39.getD 2 .any) (S39.getD 7 .any) (.list 0 [] .ti) (I .i64 0)) h39 fun x S40 h40 => match x with
  | .normal => none
  | .exit i40 => (
  if i40 = 2 then (
  bi (buildA (.agg [(.list 0 [] .ti), (.list 0 [] .ti), (.list 0 [] .ti)]) 1 [(0, (S40.getD 14 .any)), (1, (S40.getD 14 .any)), (2, (S40.getD 14 .any))]) fun d41 =>
  bi (cK n 45 [(S40.getD 0 .any), d41, (I .i64 7)] h40 fl) fun p42 =>
  bi (extD 0 p42.1) fun d43 =>
  bi (extD 1 p42.1) fun d44 =>
  bi (wantF (S40.getD 7 .any) true (some d43)) fun d45 =>
  bi (wantF (S40.getD 7 .any) true (binD Try.prog .neq 105 (.tmp 131) (.const (.pointer none)) d45 (.flat (.pointer none)))) fun d46 =>
  bi (pickD (S40.getD 7 .any) d46 (Bo false)) fun d47 =>
  bi (wantF d47 true (some (S40.getD 0 .any))) fun d48 =>
  bi (wantF d47 true (some d43)) fun d49 =>
  bi (wantF d47 true (cO n 51 [d48, d49, (I .i64 7)] p42.2)) fun d50 =>
  bi (wantF d47 true (buildA (.agg [(Bo false), (Bo false), (Bo false)]) 1 [(0, (Bo true)), (1, (Bo true)), (2, (Bo true))])) fun d51 =>
  bi (wantF d47 true (binD Try.prog .eql 52 (.tmp 137) (.tmp 138) d50 d51)) fun d52 =>
  bi (pickD d47 d52 (Bo false)) fun d53 =>
  some (d53, p42.2)) else (
  none))
  | .ret => (
  some (.any, h40))) else (
  none))
  | .ret => (
  some ((S39.getD 6 .any), h39))))
theorem s_triunelaw13_JudgeFine_eq (n : Nat) (H : Heap) (fl : Nat) (a0 a1 a2 : DV) : callG Try.prog ENV (n + 1) 10 [a0, a1, a2] H fl = s_triunelaw13_JudgeFine n H fl a0 a1 a2 := by kernel_rfl

end Go.Proofs.Ytbhnkdnfmlnajaa
