/- Go functions as Lean functions on deep values; printed by a program of mine. -/
import Derived.Test.YtbmjflieedadkaaEnv
namespace Go.Proofs.Ytbmjflieedadkaa
open Go
set_option maxRecDepth 100000
set_option linter.unusedVariables false
/-! triune/crc.More -/
def s_crc_More_I1 (x0 x8 x9 x10 x18 : DV) : List DV := [x0, .any, .any, .any, .any, .any, .any, .any, x8, x9, x10, .any, .any, .any, .any, .any, .any, .any, x18, .any, .any, .any, .any, .any, .any, .any, .any, .any, .any, .any, .any]
def s_crc_More_O1 (x0 x8 x9 x10 : DV) : List DV := [x0, .any, .any, .any, .any, .any, .any, .any, x8, x9, x10, .any, .any, .any, .any, .any, .any, .any, .any, .any, .any, .any, .any, .any, .any, .any, .any, .any, .any, .any, .any]
noncomputable abbrev s_crc_More_b1 (n fl : Nat) : List DV → Heap → (Ex → KF) → R := execG ⟨Try.prog, callG Try.prog ENV n, ENV.md, fl, 31⟩ n (loopAt (bodyOf Try.f59) 1) []
noncomputable def s_crc_More_B1 (n fl : Nat) (rec : DV → DV → DV → DV → DV → Heap → R) (k : Ex → KF) (x0 x8 x9 x10 x18 : DV) (H : Heap) : R :=
  bi (ltK .i64 x18 (I .i64 8)) fun d0 =>
  condR d0 (
  bi (andK .u16 x0 (I .u16 1)) fun d1 =>
  bi (shrK .u16 x0 (I .u64 1)) fun d2 =>
  bi (unD Try.prog .neg d1) fun d3 =>
  bi (andK .u16 (I .u16 40961) d3) fun d4 =>
  bi (xorK .u16 d2 d4) fun d5 =>
  bi (addK .i64 x18 (I .i64 1)) fun d6 =>
  rec d5 x8 x9 x10 d6 H) (
  k (.exit 2) (s_crc_More_O1 x0 x8 x9 x10) H)
noncomputable def s_crc_More_L1 (n fl : Nat) (k : Ex → KF) : Nat → DV → DV → DV → DV → DV → Heap → R
  | 0, _, _, _, _, _, _ => none
  | m + 1, x0, x8, x9, x10, x18, H => s_crc_More_B1 n fl (s_crc_More_L1 n fl k m) k x0 x8 x9 x10 x18 H
theorem s_crc_More_S1 (n fl m : Nat) (k : Ex → KF) (x0 x8 x9 x10 x18 : DV) (H : Heap) : loopG [0, 8, 9, 10, 18] [0, 8, 9, 10] 31 (s_crc_More_b1 n fl) (m + 1) (s_crc_More_I1 x0 x8 x9 x10 x18) H k = s_crc_More_B1 n fl (fun x0 x8 x9 x10 x18 H => loopG [0, 8, 9, 10, 18] [0, 8, 9, 10] 31 (s_crc_More_b1 n fl) m (s_crc_More_I1 x0 x8 x9 x10 x18) H k) k x0 x8 x9 x10 x18 H := by kernel_rfl
theorem s_crc_More_L1_eq (n fl : Nat) (k : Ex → KF) : ∀ (m : Nat) (x0 x8 x9 x10 x18 : DV) (H : Heap), loopG [0, 8, 9, 10, 18] [0, 8, 9, 10] 31 (s_crc_More_b1 n fl) m (s_crc_More_I1 x0 x8 x9 x10 x18) H k = s_crc_More_L1 n fl k m x0 x8 x9 x10 x18 H := by
  intro m
  induction m with
  | zero => intros; rfl
  | succ m ih =>
    intro x0 x8 x9 x10 x18 H
    rw [s_crc_More_S1, show (fun x0 x8 x9 x10 x18 H => loopG [0, 8, 9, 10, 18] [0, 8, 9, 10] 31 (s_crc_More_b1 n fl) m (s_crc_More_I1 x0 x8 x9 x10 x18) H k) = s_crc_More_L1 n fl k m from by funext x0 x8 x9 x10 x18 H; exact ih _ _ _ _ _ _]
    rw [s_crc_More_L1]
def s_crc_More_I0 (x0 x8 x9 x10 : DV) : List DV := [x0, .any, .any, .any, .any, .any, .any, .any, x8, x9, x10, .any, .any, .any, .any, .any, .any, .any, .any, .any, .any, .any, .any, .any, .any, .any, .any, .any, .any, .any, .any]
def s_crc_More_O0 (x0 : DV) : List DV := [x0, .any, .any, .any, .any, .any, .any, .any, .any, .any, .any, .any, .any, .any, .any, .any, .any, .any, .any, .any, .any, .any, .any, .any, .any, .any, .any, .any, .any, .any, .any]
noncomputable abbrev s_crc_More_b0 (n fl : Nat) : List DV → Heap → (Ex → KF) → R := execG ⟨Try.prog, callG Try.prog ENV n, ENV.md, fl, 31⟩ n (loopAt (bodyOf Try.f59) 0) [([0, 8, 9, 10, 18], [0, 8, 9, 10])]
noncomputable def s_crc_More_B0 (n fl : Nat) (rec : DV → DV → DV → DV → Heap → R) (k : Ex → KF) (x0 x8 x9 x10 : DV) (H : Heap) : R :=
  bi (ltK .i64 x10 x9) fun d0 =>
  condR d0 (
  bi (idxSl 1 x8 x10) fun d1 =>
  bi (loadG false 1 d1 H) fun d2 =>
  bi (cvK .u16 d2) fun d3 =>
  bi (xorK .u16 x0 d3) fun d4 =>
  loopG [0, 8, 9, 10, 18] [0, 8, 9, 10] 31 (s_crc_More_b1 n fl) n (s_crc_More_I1 d4 x8 x9 x10 (I .i64 0)) H fun x S5 h5 => match x with
  | .normal => none
  | .exit i5 => (
  if i5 = 2 then (
  bi (addK .i64 (S5.getD 10 .any) (I .i64 1)) fun d6 =>
  rec (S5.getD 0 .any) (S5.getD 8 .any) (S5.getD 9 .any) d6 h5) else (
  if i5 = 1 then (
  bi (addK .i64 (S5.getD 10 .any) (I .i64 1)) fun d7 =>
  rec (S5.getD 0 .any) (S5.getD 8 .any) (S5.getD 9 .any) d7 h5) else (
  k (.exit i5) (s_crc_More_O0 (S5.getD 0 .any)) h5)))
  | .ret => (
  k .ret (s_crc_More_O0 (S5.getD 0 .any)) h5)) (
  k (.exit 0) (s_crc_More_O0 x0) H)
noncomputable def s_crc_More_L0 (n fl : Nat) (k : Ex → KF) : Nat → DV → DV → DV → DV → Heap → R
  | 0, _, _, _, _, _ => none
  | m + 1, x0, x8, x9, x10, H => s_crc_More_B0 n fl (s_crc_More_L0 n fl k m) k x0 x8 x9 x10 H
theorem s_crc_More_S0 (n fl m : Nat) (k : Ex → KF) (x0 x8 x9 x10 : DV) (H : Heap) : loopG [0, 8, 9, 10] [0] 31 (s_crc_More_b0 n fl) (m + 1) (s_crc_More_I0 x0 x8 x9 x10) H k = s_crc_More_B0 n fl (fun x0 x8 x9 x10 H => loopG [0, 8, 9, 10] [0] 31 (s_crc_More_b0 n fl) m (s_crc_More_I0 x0 x8 x9 x10) H k) k x0 x8 x9 x10 H := by kernel_rfl
theorem s_crc_More_L0_eq (n fl : Nat) (k : Ex → KF) : ∀ (m : Nat) (x0 x8 x9 x10 : DV) (H : Heap), loopG [0, 8, 9, 10] [0] 31 (s_crc_More_b0 n fl) m (s_crc_More_I0 x0 x8 x9 x10) H k = s_crc_More_L0 n fl k m x0 x8 x9 x10 H := by
  intro m
  induction m with
  | zero => intros; rfl
  | succ m ih =>
    intro x0 x8 x9 x10 H
    rw [s_crc_More_S0, show (fun x0 x8 x9 x10 H => loopG [0, 8, 9, 10] [0] 31 (s_crc_More_b0 n fl) m (s_crc_More_I0 x0 x8 x9 x10) H k) = s_crc_More_L0 n fl k m from by funext x0 x8 x9 x10 H; exact ih _ _ _ _ _]
    rw [s_crc_More_L0]
noncomputable def s_crc_More (n : Nat) (H : Heap) (fl : Nat) (a0 a1 : DV) : R :=
  bi (lenD a1) fun d0 =>
  loopG [0, 8, 9, 10] [0] 31 (s_crc_More_b0 n fl) n (s_crc_More_I0 a0 a1 d0 (I .i64 0)) H fun x S1 h1 => match x with
  | .normal => none
  | .exit i1 => (
  if i1 = 0 then (
  some ((S1.getD 0 .any), h1)) else (
  none))
  | .ret => (
  some (.any, h1))
theorem s_crc_More_eq (n : Nat) (H : Heap) (fl : Nat) (a0 a1 : DV) : callG Try.prog ENV (n + 1) 59 [a0, a1] H fl = s_crc_More n H fl a0 a1 := by kernel_rfl

/-! triune/crc.Sum -/
noncomputable def s_crc_Sum (n : Nat) (H : Heap) (fl : Nat) (a0 : DV) : R :=
  bi (cP n 59 false [(I .u16 65535), a0]) fun d0 =>
  some (d0, H)
theorem s_crc_Sum_eq (n : Nat) (H : Heap) (fl : Nat) (a0 : DV) : callG Try.prog ENV (n + 1) 50 [a0] H fl = s_crc_Sum n H fl a0 := by kernel_rfl

/-! triune/crc.Put -/
noncomputable def s_crc_Put (n : Nat) (H : Heap) (fl : Nat) (a0 : DV) : R :=
  bi (cP n 50 false [a0]) fun d0 =>
  bi (lenD a0) fun d1 =>
  bi (lenD a0) fun d2 =>
  bi (slX 1 a0 none (some d1) (some d2)) fun d3 =>
  bi (cvK .u8 d0) fun d4 =>
  bi (shrK .u16 d0 (I .u64 8)) fun d5 =>
  bi (cvK .u8 d5) fun d6 =>
  bi (buildL false 1 2 (I .u8 0) [(0, d4), (1, d6)]) fun d7 =>
  bi (appG 5 false 1 1 d3 d7 H fl) fun p8 =>
  some (p8.1, p8.2)
theorem s_crc_Put_eq (n : Nat) (H : Heap) (fl : Nat) (a0 : DV) : callG Try.prog ENV (n + 1) 38 [a0] H fl = s_crc_Put n H fl a0 := by kernel_rfl

/-! triune/crc.Cut -/
noncomputable def s_crc_Cut (n : Nat) (H : Heap) (fl : Nat) (a0 : DV) : R :=
  bi (lenD a0) fun d0 =>
  bi (ltK .i64 d0 (I .i64 2)) fun d1 =>
  bi (wantF d1 false (some a0)) fun d2 =>
  bi (wantF d1 false (cP n 50 false [d2])) fun d3 =>
  bi (wantF d1 false (neK .u16 d3 (I .u16 0))) fun d4 =>
  bi (pickD d1 (Bo true) d4) fun d5 =>
  condR d5 (
  some ((.tup [(.list 0 [] .ti), (Bo false)]), H)) (
  bi (lenD a0) fun d6 =>
  bi (subK .i64 d6 (I .i64 2)) fun d7 =>
  bi (slX 1 a0 none (some d7) none) fun d8 =>
  bi (appG 5 false 1 1 (.list 0 [] .ti) d8 H fl) fun p9 =>
  some ((.tup [p9.1, (Bo true)]), p9.2))
theorem s_crc_Cut_eq (n : Nat) (H : Heap) (fl : Nat) (a0 : DV) : callG Try.prog ENV (n + 1) 40 [a0] H fl = s_crc_Cut n H fl a0 := by kernel_rfl

end Go.Proofs.Ytbmjflieedadkaa
