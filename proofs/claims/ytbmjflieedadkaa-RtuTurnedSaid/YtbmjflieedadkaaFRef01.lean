/- Go functions as Lean functions on deep values; printed by a program of mine. -/
import Derived.Test.YtbmjflieedadkaaEnv
namespace Go.Proofs.Ytbmjflieedadkaa
open Go
set_option maxRecDepth 100000
set_option linter.unusedVariables false
/-! triune/triuneref01.step -/
def s_triuneref01_step_I1 (x0 x9 : DV) : List DV := [x0, .any, .any, .any, .any, .any, .any, .any, .any, x9, .any, .any, .any, .any, .any, .any, .any, .any, .any, .any, .any, .any, .any, .any, .any, .any, .any, .any, .any, .any, .any, .any, .any, .any, .any, .any, .any, .any, .any, .any, .any, .any, .any, .any, .any, .any, .any, .any, .any, .any, .any]
def s_triuneref01_step_O1 (x0 : DV) : List DV := [x0, .any, .any, .any, .any, .any, .any, .any, .any, .any, .any, .any, .any, .any, .any, .any, .any, .any, .any, .any, .any, .any, .any, .any, .any, .any, .any, .any, .any, .any, .any, .any, .any, .any, .any, .any, .any, .any, .any, .any, .any, .any, .any, .any, .any, .any, .any, .any, .any, .any, .any]
noncomputable abbrev s_triuneref01_step_b1 (n fl : Nat) : List DV → Heap → (Ex → KF) → R := execG ⟨Try.prog, callG Try.prog ENV n, ENV.md, fl, 51⟩ n (loopAt (bodyOf Try.f74) 1) []
noncomputable def s_triuneref01_step_B1 (n fl : Nat) (rec : DV → DV → Heap → R) (k : Ex → KF) (x0 x9 : DV) (H : Heap) : R :=
  bi (ltK .i64 x9 (I .i64 8)) fun d0 =>
  condR d0 (
  bi (remK .u16 x0 (I .u16 2)) fun d1 =>
  bi (eqK .u16 d1 (I .u16 1)) fun d2 =>
  bi (quoK .u16 x0 (I .u16 2)) fun d3 =>
  condR d2 (
   bi (xorK .u16 d3 (I .u16 40961)) fun d4 =>
  bi (addK .i64 x9 (I .i64 1)) fun d5 =>
  rec d4 d5 H) (
  bi (addK .i64 x9 (I .i64 1)) fun d6 =>
  rec d3 d6 H)) (
  k (.exit 2) (s_triuneref01_step_O1 x0) H)
noncomputable def s_triuneref01_step_L1 (n fl : Nat) (k : Ex → KF) : Nat → DV → DV → Heap → R
  | 0, _, _, _ => none
  | m + 1, x0, x9, H => s_triuneref01_step_B1 n fl (s_triuneref01_step_L1 n fl k m) k x0 x9 H
theorem s_triuneref01_step_S1 (n fl m : Nat) (k : Ex → KF) (x0 x9 : DV) (H : Heap) : loopG [0, 9] [0] 51 (s_triuneref01_step_b1 n fl) (m + 1) (s_triuneref01_step_I1 x0 x9) H k = s_triuneref01_step_B1 n fl (fun x0 x9 H => loopG [0, 9] [0] 51 (s_triuneref01_step_b1 n fl) m (s_triuneref01_step_I1 x0 x9) H k) k x0 x9 H := by kernel_rfl
theorem s_triuneref01_step_L1_eq (n fl : Nat) (k : Ex → KF) : ∀ (m : Nat) (x0 x9 : DV) (H : Heap), loopG [0, 9] [0] 51 (s_triuneref01_step_b1 n fl) m (s_triuneref01_step_I1 x0 x9) H k = s_triuneref01_step_L1 n fl k m x0 x9 H := by
  intro m
  induction m with
  | zero => intros; rfl
  | succ m ih =>
    intro x0 x9 H
    rw [s_triuneref01_step_S1, show (fun x0 x9 H => loopG [0, 9] [0] 51 (s_triuneref01_step_b1 n fl) m (s_triuneref01_step_I1 x0 x9) H k) = s_triuneref01_step_L1 n fl k m from by funext x0 x9 H; exact ih _ _ _]
    rw [s_triuneref01_step_L1]
def s_triuneref01_step_I0 (x1 x5 x6 x7 x8 : DV) : List DV := [.any, x1, .any, .any, .any, x5, x6, x7, x8, .any, .any, .any, .any, .any, .any, .any, .any, .any, .any, .any, .any, .any, .any, .any, .any, .any, .any, .any, .any, .any, .any, .any, .any, .any, .any, .any, .any, .any, .any, .any, .any, .any, .any, .any, .any, .any, .any, .any, .any, .any, .any]
def s_triuneref01_step_O0 (x5 x6 x7 : DV) : List DV := [.any, .any, .any, .any, .any, x5, x6, x7, .any, .any, .any, .any, .any, .any, .any, .any, .any, .any, .any, .any, .any, .any, .any, .any, .any, .any, .any, .any, .any, .any, .any, .any, .any, .any, .any, .any, .any, .any, .any, .any, .any, .any, .any, .any, .any, .any, .any, .any, .any, .any, .any]
noncomputable abbrev s_triuneref01_step_b0 (n fl : Nat) : List DV → Heap → (Ex → KF) → R := execG ⟨Try.prog, callG Try.prog ENV n, ENV.md, fl, 51⟩ n (loopAt (bodyOf Try.f74) 0) []
noncomputable def s_triuneref01_step_B0 (n fl : Nat) (rec : DV → DV → DV → DV → DV → Heap → R) (k : Ex → KF) (x1 x5 x6 x7 x8 : DV) (H : Heap) : R :=
  bi (ltK .i64 x8 (I .i64 256)) fun d0 =>
  condR d0 (
  bi (quoK .i64 x6 x8) fun d1 =>
  bi (remK .i64 d1 (I .i64 2)) fun d2 =>
  bi (cvK .i64 x1) fun d3 =>
  bi (quoK .i64 d3 x8) fun d4 =>
  bi (remK .i64 d4 (I .i64 2)) fun d5 =>
  bi (neK .i64 d2 d5) fun d6 =>
  condR d6 (
   bi (addK .i64 x7 x8) fun d7 =>
  bi (mulK .i64 (I .i64 2) x8) fun d8 =>
  rec x1 x5 x6 d7 d8 H) (
  bi (mulK .i64 (I .i64 2) x8) fun d9 =>
  rec x1 x5 x6 x7 d9 H)) (
  k (.exit 0) (s_triuneref01_step_O0 x5 x6 x7) H)
noncomputable def s_triuneref01_step_L0 (n fl : Nat) (k : Ex → KF) : Nat → DV → DV → DV → DV → DV → Heap → R
  | 0, _, _, _, _, _, _ => none
  | m + 1, x1, x5, x6, x7, x8, H => s_triuneref01_step_B0 n fl (s_triuneref01_step_L0 n fl k m) k x1 x5 x6 x7 x8 H
theorem s_triuneref01_step_S0 (n fl m : Nat) (k : Ex → KF) (x1 x5 x6 x7 x8 : DV) (H : Heap) : loopG [1, 5, 6, 7, 8] [5, 6, 7] 51 (s_triuneref01_step_b0 n fl) (m + 1) (s_triuneref01_step_I0 x1 x5 x6 x7 x8) H k = s_triuneref01_step_B0 n fl (fun x1 x5 x6 x7 x8 H => loopG [1, 5, 6, 7, 8] [5, 6, 7] 51 (s_triuneref01_step_b0 n fl) m (s_triuneref01_step_I0 x1 x5 x6 x7 x8) H k) k x1 x5 x6 x7 x8 H := by kernel_rfl
theorem s_triuneref01_step_L0_eq (n fl : Nat) (k : Ex → KF) : ∀ (m : Nat) (x1 x5 x6 x7 x8 : DV) (H : Heap), loopG [1, 5, 6, 7, 8] [5, 6, 7] 51 (s_triuneref01_step_b0 n fl) m (s_triuneref01_step_I0 x1 x5 x6 x7 x8) H k = s_triuneref01_step_L0 n fl k m x1 x5 x6 x7 x8 H := by
  intro m
  induction m with
  | zero => intros; rfl
  | succ m ih =>
    intro x1 x5 x6 x7 x8 H
    rw [s_triuneref01_step_S0, show (fun x1 x5 x6 x7 x8 H => loopG [1, 5, 6, 7, 8] [5, 6, 7] 51 (s_triuneref01_step_b0 n fl) m (s_triuneref01_step_I0 x1 x5 x6 x7 x8) H k) = s_triuneref01_step_L0 n fl k m from by funext x1 x5 x6 x7 x8 H; exact ih _ _ _ _ _ _]
    rw [s_triuneref01_step_L0]
noncomputable def s_triuneref01_step (n : Nat) (H : Heap) (fl : Nat) (a0 a1 : DV) : R :=
  bi (cvK .i64 a0) fun d0 =>
  bi (remK .i64 d0 (I .i64 256)) fun d1 =>
  loopG [1, 5, 6, 7, 8] [5, 6, 7] 51 (s_triuneref01_step_b0 n fl) n (s_triuneref01_step_I0 a1 d0 d1 (I .i64 0) (I .i64 1)) H fun x S2 h2 => match x with
  | .normal => none
  | .exit i2 => (
  if i2 = 0 then (
  bi (subK .i64 (S2.getD 5 .any) (S2.getD 6 .any)) fun d3 =>
  bi (addK .i64 d3 (S2.getD 7 .any)) fun d4 =>
  bi (cvK .u16 d4) fun d5 =>
  loopG [0, 9] [0] 51 (s_triuneref01_step_b1 n fl) n (s_triuneref01_step_I1 d5 (I .i64 0)) h2 fun x S6 h6 => match x with
  | .normal => none
  | .exit i6 => (
  if i6 = 2 then (
  some ((S6.getD 0 .any), h6)) else (
  none))
  | .ret => (
  some (.any, h6))) else (
  none))
  | .ret => (
  some (.any, h2))
theorem s_triuneref01_step_eq (n : Nat) (H : Heap) (fl : Nat) (a0 a1 : DV) : callG Try.prog ENV (n + 1) 74 [a0, a1] H fl = s_triuneref01_step n H fl a0 a1 := by kernel_rfl

/-! triune/triuneref01.More -/
def s_triuneref01_More_I0 (x0 x1 x5 : DV) : List DV := [x0, x1, .any, .any, .any, x5, .any, .any, .any, .any, .any, .any, .any, .any, .any, .any, .any, .any, .any]
def s_triuneref01_More_O0 (x0 : DV) : List DV := [x0, .any, .any, .any, .any, .any, .any, .any, .any, .any, .any, .any, .any, .any, .any, .any, .any, .any, .any]
noncomputable abbrev s_triuneref01_More_b0 (n fl : Nat) : List DV → Heap → (Ex → KF) → R := execG ⟨Try.prog, callG Try.prog ENV n, ENV.md, fl, 19⟩ n (loopAt (bodyOf Try.f60) 0) []
noncomputable def s_triuneref01_More_B0 (n fl : Nat) (rec : DV → DV → DV → Heap → R) (k : Ex → KF) (x0 x1 x5 : DV) (H : Heap) : R :=
  bi (lenD x1) fun d0 =>
  bi (ltK .i64 x5 d0) fun d1 =>
  condR d1 (
  bi (idxSl 1 x1 x5) fun d2 =>
  bi (loadG false 1 d2 H) fun d3 =>
  bi (cP n 74 false [x0, d3]) fun d4 =>
  bi (addK .i64 x5 (I .i64 1)) fun d5 =>
  rec d4 x1 d5 H) (
  k (.exit 0) (s_triuneref01_More_O0 x0) H)
noncomputable def s_triuneref01_More_L0 (n fl : Nat) (k : Ex → KF) : Nat → DV → DV → DV → Heap → R
  | 0, _, _, _, _ => none
  | m + 1, x0, x1, x5, H => s_triuneref01_More_B0 n fl (s_triuneref01_More_L0 n fl k m) k x0 x1 x5 H
theorem s_triuneref01_More_S0 (n fl m : Nat) (k : Ex → KF) (x0 x1 x5 : DV) (H : Heap) : loopG [0, 1, 5] [0] 19 (s_triuneref01_More_b0 n fl) (m + 1) (s_triuneref01_More_I0 x0 x1 x5) H k = s_triuneref01_More_B0 n fl (fun x0 x1 x5 H => loopG [0, 1, 5] [0] 19 (s_triuneref01_More_b0 n fl) m (s_triuneref01_More_I0 x0 x1 x5) H k) k x0 x1 x5 H := by kernel_rfl
theorem s_triuneref01_More_L0_eq (n fl : Nat) (k : Ex → KF) : ∀ (m : Nat) (x0 x1 x5 : DV) (H : Heap), loopG [0, 1, 5] [0] 19 (s_triuneref01_More_b0 n fl) m (s_triuneref01_More_I0 x0 x1 x5) H k = s_triuneref01_More_L0 n fl k m x0 x1 x5 H := by
  intro m
  induction m with
  | zero => intros; rfl
  | succ m ih =>
    intro x0 x1 x5 H
    rw [s_triuneref01_More_S0, show (fun x0 x1 x5 H => loopG [0, 1, 5] [0] 19 (s_triuneref01_More_b0 n fl) m (s_triuneref01_More_I0 x0 x1 x5) H k) = s_triuneref01_More_L0 n fl k m from by funext x0 x1 x5 H; exact ih _ _ _ _]
    rw [s_triuneref01_More_L0]
noncomputable def s_triuneref01_More (n : Nat) (H : Heap) (fl : Nat) (a0 a1 : DV) : R :=
  loopG [0, 1, 5] [0] 19 (s_triuneref01_More_b0 n fl) n (s_triuneref01_More_I0 a0 a1 (I .i64 0)) H fun x S0 h0 => match x with
  | .normal => none
  | .exit i0 => (
  if i0 = 0 then (
  some ((S0.getD 0 .any), h0)) else (
  none))
  | .ret => (
  some (.any, h0))
theorem s_triuneref01_More_eq (n : Nat) (H : Heap) (fl : Nat) (a0 a1 : DV) : callG Try.prog ENV (n + 1) 60 [a0, a1] H fl = s_triuneref01_More n H fl a0 a1 := by kernel_rfl

/-! triune/triuneref01.Sum -/
noncomputable def s_triuneref01_Sum (n : Nat) (H : Heap) (fl : Nat) (a0 : DV) : R :=
  bi (cP n 60 false [(I .u16 65535), a0]) fun d0 =>
  some (d0, H)
theorem s_triuneref01_Sum_eq (n : Nat) (H : Heap) (fl : Nat) (a0 : DV) : callG Try.prog ENV (n + 1) 51 [a0] H fl = s_triuneref01_Sum n H fl a0 := by kernel_rfl

/-! triune/triuneref01.Put -/
noncomputable def s_triuneref01_Put (n : Nat) (H : Heap) (fl : Nat) (a0 : DV) : R :=
  bi (cP n 51 false [a0]) fun d0 =>
  bi (buildL false 1 0 (I .u8 0) []) fun d1 =>
  bi (appG 5 false 1 1 d1 a0 H fl) fun p2 =>
  bi (remK .u16 d0 (I .u16 256)) fun d3 =>
  bi (cvK .u8 d3) fun d4 =>
  bi (quoK .u16 d0 (I .u16 256)) fun d5 =>
  bi (cvK .u8 d5) fun d6 =>
  bi (buildL false 1 2 (I .u8 0) [(0, d4), (1, d6)]) fun d7 =>
  bi (appG 5 false 1 1 p2.1 d7 p2.2 fl) fun p8 =>
  some (p8.1, p8.2)
theorem s_triuneref01_Put_eq (n : Nat) (H : Heap) (fl : Nat) (a0 : DV) : callG Try.prog ENV (n + 1) 39 [a0] H fl = s_triuneref01_Put n H fl a0 := by kernel_rfl

/-! triune/triuneref01.Cut -/
noncomputable def s_triuneref01_Cut (n : Nat) (H : Heap) (fl : Nat) (a0 : DV) : R :=
  bi (lenD a0) fun d0 =>
  bi (ltK .i64 d0 (I .i64 2)) fun d1 =>
  condR d1 (
  some ((.tup [(.list 0 [] .ti), (Bo false)]), H)) (
  bi (lenD a0) fun d2 =>
  bi (subK .i64 d2 (I .i64 2)) fun d3 =>
  bi (slX 1 a0 none (some d3) none) fun d4 =>
  bi (cP n 39 false [d4]) fun d5 =>
  bi (cP n 14 false [d5, a0]) fun d6 =>
  bi (notD d6) fun d7 =>
  condR d7 (
  some ((.tup [(.list 0 [] .ti), (Bo false)]), H)) (
  bi (buildL false 1 0 (I .u8 0) []) fun d8 =>
  bi (appG 5 false 1 1 d8 d4 H fl) fun p9 =>
  some ((.tup [p9.1, (Bo true)]), p9.2)))
theorem s_triuneref01_Cut_eq (n : Nat) (H : Heap) (fl : Nat) (a0 : DV) : callG Try.prog ENV (n + 1) 41 [a0] H fl = s_triuneref01_Cut n H fl a0 := by kernel_rfl

end Go.Proofs.Ytbmjflieedadkaa
