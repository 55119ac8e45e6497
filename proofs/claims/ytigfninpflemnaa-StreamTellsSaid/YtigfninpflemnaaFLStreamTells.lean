/- Go functions as Lean functions on deep values; printed by a program of mine. -/
import Derived.Test.YtigfninpflemnaaEnv
namespace Go.Proofs.Ytigfninpflemnaa
open Go
set_option maxRecDepth 100000
set_option linter.unusedVariables false
/-! triune/triunelaw05.StreamTells -/
def s_triunelaw05_StreamTells_I1 (x0 x3 x6 x7 x8 : DV) : List DV := [x0, .any, .any, x3, .any, .any, x6, x7, x8, .any, .any, .any, .any, .any, .any, .any, .any, .any, .any, .any, .any, .any, .any, .any, .any, .any, .any, .any, .any, .any, .any, .any, .any, .any, .any, .any, .any, .any, .any, .any, .any, .any, .any, .any, .any, .any, .any, .any, .any, .any, .any, .any, .any, .any, .any, .any, .any, .any, .any, .any, .any, .any, .any, .any, .any, .any, .any, .any, .any, .any, .any, .any, .any, .any, .any, .any, .any, .any, .any, .any, .any, .any, .any, .any, .any, .any, .any, .any, .any, .any, .any, .any, .any, .any, .any, .any]
def s_triunelaw05_StreamTells_O1 (x2 x3 : DV) : List DV := [.any, .any, x2, x3, .any, .any, .any, .any, .any, .any, .any, .any, .any, .any, .any, .any, .any, .any, .any, .any, .any, .any, .any, .any, .any, .any, .any, .any, .any, .any, .any, .any, .any, .any, .any, .any, .any, .any, .any, .any, .any, .any, .any, .any, .any, .any, .any, .any, .any, .any, .any, .any, .any, .any, .any, .any, .any, .any, .any, .any, .any, .any, .any, .any, .any, .any, .any, .any, .any, .any, .any, .any, .any, .any, .any, .any, .any, .any, .any, .any, .any, .any, .any, .any, .any, .any, .any, .any, .any, .any, .any, .any, .any, .any, .any, .any]
noncomputable abbrev s_triunelaw05_StreamTells_b1 (n fl : Nat) : List DV → Heap → (Ex → KF) → R := execG ⟨Try.prog, callG Try.prog ENV n, ENV.md, fl, 96⟩ n (loopAt (bodyOf Try.f13) 1) []
noncomputable def s_triunelaw05_StreamTells_B1 (n fl : Nat) (rec : DV → DV → DV → DV → DV → Heap → R) (k : Ex → KF) (x0 x3 x6 x7 x8 : DV) (H : Heap) : R :=
  bi (lenD x0) fun d0 =>
  bi (ltK .i64 x8 d0) fun d1 =>
  condR d1 (
  bi (idxSl 1 x0 x8) fun d2 =>
  bi (loadG false 1 d2 H) fun d3 =>
  bi (cW n 61 [x6, d3] H fl) fun p4 =>
  bi (extD 0 p4.1) fun d5 =>
  bi (extD 1 p4.1) fun d6 =>
  bi (idxSl 1 x0 x8) fun d7 =>
  bi (loadG false 1 d7 p4.2) fun d8 =>
  bi (cW n 62 [x7, d8] p4.2 fl) fun p9 =>
  bi (extD 0 p9.1) fun d10 =>
  bi (extD 1 p9.1) fun d11 =>
  bi (cP n 64 false [d5]) fun d12 =>
  bi (cP n 63 false [d12, d10]) fun d13 =>
  bi (notD d13) fun d14 =>
  bi (wantF d14 false (some d6)) fun d15 =>
  bi (wantF d14 false (some d11)) fun d16 =>
  bi (wantF d14 false (neK .i64 d15 d16)) fun d17 =>
  bi (pickD d14 (Bo true) d17) fun d18 =>
  bi (wantF d18 false (some x6)) fun d19 =>
  bi (wantF d18 false (cO n 65 [d19] p9.2)) fun d20 =>
  bi (wantF d18 false (some x7)) fun d21 =>
  bi (wantF d18 false (nilD d21)) fun d22 =>
  bi (wantF d18 false (fieldD 0 1 d22)) fun d23 =>
  bi (wantF d18 false (loadG false 1 d23 p9.2)) fun d24 =>
  bi (wantF d18 false (lenD d24)) fun d25 =>
  bi (wantF d18 false (neK .i64 d20 d25)) fun d26 =>
  bi (pickD d18 (Bo true) d26) fun d27 =>
  bi (wantF d27 false (some x6)) fun d28 =>
  bi (wantF d27 false (cO n 66 [d28] p9.2)) fun d29 =>
  bi (wantF d27 false (some x7)) fun d30 =>
  bi (wantF d27 false (nilD d30)) fun d31 =>
  bi (wantF d27 false (fieldD 1 1 d31)) fun d32 =>
  bi (wantF d27 false (loadG false 1 d32 p9.2)) fun d33 =>
  bi (wantF d27 false (neB d29 d33)) fun d34 =>
  bi (pickD d27 (Bo true) d34) fun d35 =>
  condR d35 (
  k .ret (s_triunelaw05_StreamTells_O1 (Bo false) x3) p9.2) (
  bi (addK .i64 x8 (I .i64 1)) fun d36 =>
  rec x0 x3 x6 x7 d36 p9.2)) (
  k (.exit 2) (s_triunelaw05_StreamTells_O1 .any x3) H)
noncomputable def s_triunelaw05_StreamTells_L1 (n fl : Nat) (k : Ex → KF) : Nat → DV → DV → DV → DV → DV → Heap → R
  | 0, _, _, _, _, _, _ => none
  | m + 1, x0, x3, x6, x7, x8, H => s_triunelaw05_StreamTells_B1 n fl (s_triunelaw05_StreamTells_L1 n fl k m) k x0 x3 x6 x7 x8 H
theorem s_triunelaw05_StreamTells_S1 (n fl m : Nat) (k : Ex → KF) (x0 x3 x6 x7 x8 : DV) (H : Heap) : loopG [0, 3, 6, 7, 8] [2, 3] 96 (s_triunelaw05_StreamTells_b1 n fl) (m + 1) (s_triunelaw05_StreamTells_I1 x0 x3 x6 x7 x8) H k = s_triunelaw05_StreamTells_B1 n fl (fun x0 x3 x6 x7 x8 H => loopG [0, 3, 6, 7, 8] [2, 3] 96 (s_triunelaw05_StreamTells_b1 n fl) m (s_triunelaw05_StreamTells_I1 x0 x3 x6 x7 x8) H k) k x0 x3 x6 x7 x8 H := by kernel_rfl
theorem s_triunelaw05_StreamTells_L1_eq (n fl : Nat) (k : Ex → KF) : ∀ (m : Nat) (x0 x3 x6 x7 x8 : DV) (H : Heap), loopG [0, 3, 6, 7, 8] [2, 3] 96 (s_triunelaw05_StreamTells_b1 n fl) m (s_triunelaw05_StreamTells_I1 x0 x3 x6 x7 x8) H k = s_triunelaw05_StreamTells_L1 n fl k m x0 x3 x6 x7 x8 H := by
  intro m
  induction m with
  | zero => intros; rfl
  | succ m ih =>
    intro x0 x3 x6 x7 x8 H
    rw [s_triunelaw05_StreamTells_S1, show (fun x0 x3 x6 x7 x8 H => loopG [0, 3, 6, 7, 8] [2, 3] 96 (s_triunelaw05_StreamTells_b1 n fl) m (s_triunelaw05_StreamTells_I1 x0 x3 x6 x7 x8) H k) = s_triunelaw05_StreamTells_L1 n fl k m from by funext x0 x3 x6 x7 x8 H; exact ih _ _ _ _ _ _]
    rw [s_triunelaw05_StreamTells_L1]
def s_triunelaw05_StreamTells_I0 (x0 x3 x4 x5 : DV) : List DV := [x0, .any, .any, x3, x4, x5, .any, .any, .any, .any, .any, .any, .any, .any, .any, .any, .any, .any, .any, .any, .any, .any, .any, .any, .any, .any, .any, .any, .any, .any, .any, .any, .any, .any, .any, .any, .any, .any, .any, .any, .any, .any, .any, .any, .any, .any, .any, .any, .any, .any, .any, .any, .any, .any, .any, .any, .any, .any, .any, .any, .any, .any, .any, .any, .any, .any, .any, .any, .any, .any, .any, .any, .any, .any, .any, .any, .any, .any, .any, .any, .any, .any, .any, .any, .any, .any, .any, .any, .any, .any, .any, .any, .any, .any, .any, .any]
def s_triunelaw05_StreamTells_O0 (x0 x3 x4 : DV) : List DV := [x0, .any, .any, x3, x4, .any, .any, .any, .any, .any, .any, .any, .any, .any, .any, .any, .any, .any, .any, .any, .any, .any, .any, .any, .any, .any, .any, .any, .any, .any, .any, .any, .any, .any, .any, .any, .any, .any, .any, .any, .any, .any, .any, .any, .any, .any, .any, .any, .any, .any, .any, .any, .any, .any, .any, .any, .any, .any, .any, .any, .any, .any, .any, .any, .any, .any, .any, .any, .any, .any, .any, .any, .any, .any, .any, .any, .any, .any, .any, .any, .any, .any, .any, .any, .any, .any, .any, .any, .any, .any, .any, .any, .any, .any, .any, .any]
noncomputable abbrev s_triunelaw05_StreamTells_b0 (n fl : Nat) : List DV → Heap → (Ex → KF) → R := execG ⟨Try.prog, callG Try.prog ENV n, ENV.md, fl, 96⟩ n (loopAt (bodyOf Try.f13) 0) []
noncomputable def s_triunelaw05_StreamTells_B0 (n fl : Nat) (rec : DV → DV → DV → DV → Heap → R) (k : Ex → KF) (x0 x3 x4 x5 : DV) (H : Heap) : R :=
  bi (lenD x0) fun d0 =>
  bi (ltK .i64 x5 d0) fun d1 =>
  bi (wantF d1 true (some x4)) fun d2 =>
  bi (wantF d1 true (ltK .i64 d2 (I .i64 10000))) fun d3 =>
  bi (pickD d1 d3 (Bo false)) fun d4 =>
  condR d4 (
  bi (idxSl 1 x0 x5) fun d5 =>
  bi (loadG false 1 d5 H) fun d6 =>
  bi (lenD d6) fun d7 =>
  bi (addK .i64 x4 d7) fun d8 =>
  bi (addK .i64 d8 (I .i64 1)) fun d9 =>
  bi (addK .i64 x5 (I .i64 1)) fun d10 =>
  rec x0 x3 d9 d10 H) (
  k (.exit 0) (s_triunelaw05_StreamTells_O0 x0 x3 x4) H)
noncomputable def s_triunelaw05_StreamTells_L0 (n fl : Nat) (k : Ex → KF) : Nat → DV → DV → DV → DV → Heap → R
  | 0, _, _, _, _, _ => none
  | m + 1, x0, x3, x4, x5, H => s_triunelaw05_StreamTells_B0 n fl (s_triunelaw05_StreamTells_L0 n fl k m) k x0 x3 x4 x5 H
theorem s_triunelaw05_StreamTells_S0 (n fl m : Nat) (k : Ex → KF) (x0 x3 x4 x5 : DV) (H : Heap) : loopG [0, 3, 4, 5] [0, 3, 4] 96 (s_triunelaw05_StreamTells_b0 n fl) (m + 1) (s_triunelaw05_StreamTells_I0 x0 x3 x4 x5) H k = s_triunelaw05_StreamTells_B0 n fl (fun x0 x3 x4 x5 H => loopG [0, 3, 4, 5] [0, 3, 4] 96 (s_triunelaw05_StreamTells_b0 n fl) m (s_triunelaw05_StreamTells_I0 x0 x3 x4 x5) H k) k x0 x3 x4 x5 H := by kernel_rfl
theorem s_triunelaw05_StreamTells_L0_eq (n fl : Nat) (k : Ex → KF) : ∀ (m : Nat) (x0 x3 x4 x5 : DV) (H : Heap), loopG [0, 3, 4, 5] [0, 3, 4] 96 (s_triunelaw05_StreamTells_b0 n fl) m (s_triunelaw05_StreamTells_I0 x0 x3 x4 x5) H k = s_triunelaw05_StreamTells_L0 n fl k m x0 x3 x4 x5 H := by
  intro m
  induction m with
  | zero => intros; rfl
  | succ m ih =>
    intro x0 x3 x4 x5 H
    rw [s_triunelaw05_StreamTells_S0, show (fun x0 x3 x4 x5 H => loopG [0, 3, 4, 5] [0, 3, 4] 96 (s_triunelaw05_StreamTells_b0 n fl) m (s_triunelaw05_StreamTells_I0 x0 x3 x4 x5) H k) = s_triunelaw05_StreamTells_L0 n fl k m from by funext x0 x3 x4 x5 H; exact ih _ _ _ _ _]
    rw [s_triunelaw05_StreamTells_L0]
noncomputable def s_triunelaw05_StreamTells (n : Nat) (H : Heap) (fl : Nat) (a0 : DV) : R :=
  bi (cP n 59 false []) fun d0 =>
  loopG [0, 3, 4, 5] [0, 3, 4] 96 (s_triunelaw05_StreamTells_b0 n fl) n (s_triunelaw05_StreamTells_I0 a0 d0 (I .i64 0) (I .i64 0)) H fun x S1 h1 => match x with
  | .normal => none
  | .exit i1 => (
  if i1 = 0 then (
  bi (cK n 60 [] h1 fl) fun p2 =>
  bi (buildS (.agg [(.list 0 [] .ti), (Bo false)]) [(0, 1), (1, 1)] []) fun d3 =>
  bi (allocG 87 d3 (List.length p2.2) (p2.2 ++ [.hole])) fun h4 =>
  bi (binD Try.prog .eql 83 (.tmp 36) (.const (.pointer none)) p2.1 (.flat (.pointer none))) fun d5 =>
  condR d5 (
  some ((Bo false), h4)) (
  bi (gtK .i64 (S1.getD 4 .any) (I .i64 3000)) fun d6 =>
  condR d6 (
  some ((S1.getD 3 .any), h4)) (
  loopG [0, 3, 6, 7, 8] [2, 3] 96 (s_triunelaw05_StreamTells_b1 n fl) n (s_triunelaw05_StreamTells_I1 (S1.getD 0 .any) (S1.getD 3 .any) p2.1 (.ptr (List.length p2.2) 0) (I .i64 0)) h4 fun x S7 h7 => match x with
  | .normal => none
  | .exit i7 => (
  if i7 = 2 then (
  some ((S7.getD 3 .any), h7)) else (
  none))
  | .ret => (
  some ((S7.getD 2 .any), h7))))) else (
  none))
  | .ret => (
  some (.any, h1))
theorem s_triunelaw05_StreamTells_eq (n : Nat) (H : Heap) (fl : Nat) (a0 : DV) : callG Try.prog ENV (n + 1) 13 [a0] H fl = s_triunelaw05_StreamTells n H fl a0 := by kernel_rfl

end Go.Proofs.Ytigfninpflemnaa
