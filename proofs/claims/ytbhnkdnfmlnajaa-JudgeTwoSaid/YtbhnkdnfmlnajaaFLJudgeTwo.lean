/- Go functions as Lean functions on deep values; printed by a program of mine. -/
import Derived.Test.YtbhnkdnfmlnajaaKJ7
namespace Go.Proofs.Ytbhnkdnfmlnajaa
open Go
set_option maxRecDepth 100000
set_option linter.unusedVariables false
/-! triune/triunelaw13.JudgeTwo -/
def s_triunelaw13_JudgeTwo_I4 (x0 x2 x7 x9 x12 x20 x22 : DV) : List DV := [x0, .any, x2, .any, .any, .any, .any, x7, .any, x9, .any, .any, x12, .any, .any, .any, .any, .any, .any, .any, x20, .any, x22, .any, .any, .any, .any, .any, .any, .any, .any, .any, .any, .any, .any, .any, .any, .any, .any, .any, .any, .any, .any, .any, .any, .any, .any, .any, .any, .any, .any, .any, .any, .any, .any, .any, .any, .any, .any, .any, .any, .any, .any, .any, .any, .any, .any, .any, .any, .any, .any, .any, .any, .any, .any, .any, .any, .any, .any, .any, .any, .any, .any, .any, .any, .any, .any, .any, .any, .any, .any, .any, .any, .any, .any, .any, .any, .any, .any, .any, .any, .any, .any, .any, .any, .any, .any, .any, .any, .any, .any, .any, .any, .any, .any, .any, .any, .any, .any, .any, .any, .any, .any, .any, .any, .any, .any, .any, .any, .any, .any, .any, .any, .any, .any, .any, .any, .any, .any, .any, .any, .any, .any, .any, .any, .any, .any, .any, .any, .any, .any, .any, .any, .any, .any, .any, .any, .any, .any, .any, .any, .any, .any, .any, .any, .any, .any, .any, .any]
def s_triunelaw13_JudgeTwo_O4 (x0 x2 x6 x7 x9 x12 : DV) : List DV := [x0, .any, x2, .any, .any, .any, x6, x7, .any, x9, .any, .any, x12, .any, .any, .any, .any, .any, .any, .any, .any, .any, .any, .any, .any, .any, .any, .any, .any, .any, .any, .any, .any, .any, .any, .any, .any, .any, .any, .any, .any, .any, .any, .any, .any, .any, .any, .any, .any, .any, .any, .any, .any, .any, .any, .any, .any, .any, .any, .any, .any, .any, .any, .any, .any, .any, .any, .any, .any, .any, .any, .any, .any, .any, .any, .any, .any, .any, .any, .any, .any, .any, .any, .any, .any, .any, .any, .any, .any, .any, .any, .any, .any, .any, .any, .any, .any, .any, .any, .any, .any, .any, .any, .any, .any, .any, .any, .any, .any, .any, .any, .any, .any, .any, .any, .any, .any, .any, .any, .any, .any, .any, .any, .any, .any, .any, .any, .any, .any, .any, .any, .any, .any, .any, .any, .any, .any, .any, .any, .any, .any, .any, .any, .any, .any, .any, .any, .any, .any, .any, .any, .any, .any, .any, .any, .any, .any, .any, .any, .any, .any, .any, .any, .any, .any, .any, .any, .any, .any]
noncomputable abbrev s_triunelaw13_JudgeTwo_b4 (n fl : Nat) : List DV → Heap → (Ex → KF) → R := execG ⟨Try.prog, callG Try.prog ENV n, ENV.md, fl, 169⟩ n (loopAt (bodyOf Try.f9) 4) []
noncomputable def s_triunelaw13_JudgeTwo_B4 (n fl : Nat) (rec : DV → DV → DV → DV → DV → DV → DV → Heap → R) (k : Ex → KF) (x0 x2 x7 x9 x12 x20 x22 : DV) (H : Heap) : R :=
  bi (lenD x20) fun d0 =>
  bi (ltK .i64 x22 d0) fun d1 =>
  condR d1 (
  bi (idxSl 1 x20 x22) fun d2 =>
  bi (loadG false 1 d2 H) fun d3 =>
  bi (idxSl 2 x9 x22) fun d4 =>
  bi (fieldD 0 1 d4) fun d5 =>
  bi (loadG false 1 d5 H) fun d6 =>
  bi (neK .u16 d3 d6) fun d7 =>
  condR d7 (
  k .ret (s_triunelaw13_JudgeTwo_O4 x0 x2 (Bo false) x7 x9 x12) H) (
  bi (addK .i64 x22 (I .i64 1)) fun d8 =>
  rec x0 x2 x7 x9 x12 x20 d8 H)) (
  k (.exit 8) (s_triunelaw13_JudgeTwo_O4 x0 x2 .any x7 x9 x12) H)
noncomputable def s_triunelaw13_JudgeTwo_L4 (n fl : Nat) (k : Ex → KF) : Nat → DV → DV → DV → DV → DV → DV → DV → Heap → R
  | 0, _, _, _, _, _, _, _, _ => none
  | m + 1, x0, x2, x7, x9, x12, x20, x22, H => s_triunelaw13_JudgeTwo_B4 n fl (s_triunelaw13_JudgeTwo_L4 n fl k m) k x0 x2 x7 x9 x12 x20 x22 H
theorem s_triunelaw13_JudgeTwo_S4 (n fl m : Nat) (k : Ex → KF) (x0 x2 x7 x9 x12 x20 x22 : DV) (H : Heap) : loopG [0, 2, 7, 9, 12, 20, 22] [0, 2, 6, 7, 9, 12] 169 (s_triunelaw13_JudgeTwo_b4 n fl) (m + 1) (s_triunelaw13_JudgeTwo_I4 x0 x2 x7 x9 x12 x20 x22) H k = s_triunelaw13_JudgeTwo_B4 n fl (fun x0 x2 x7 x9 x12 x20 x22 H => loopG [0, 2, 7, 9, 12, 20, 22] [0, 2, 6, 7, 9, 12] 169 (s_triunelaw13_JudgeTwo_b4 n fl) m (s_triunelaw13_JudgeTwo_I4 x0 x2 x7 x9 x12 x20 x22) H k) k x0 x2 x7 x9 x12 x20 x22 H := by kernel_rfl
theorem s_triunelaw13_JudgeTwo_L4_eq (n fl : Nat) (k : Ex → KF) : ∀ (m : Nat) (x0 x2 x7 x9 x12 x20 x22 : DV) (H : Heap), loopG [0, 2, 7, 9, 12, 20, 22] [0, 2, 6, 7, 9, 12] 169 (s_triunelaw13_JudgeTwo_b4 n fl) m (s_triunelaw13_JudgeTwo_I4 x0 x2 x7 x9 x12 x20 x22) H k = s_triunelaw13_JudgeTwo_L4 n fl k m x0 x2 x7 x9 x12 x20 x22 H := by
  intro m
  induction m with
  | zero => intros; rfl
  | succ m ih =>
    intro x0 x2 x7 x9 x12 x20 x22 H
    rw [s_triunelaw13_JudgeTwo_S4, show (fun x0 x2 x7 x9 x12 x20 x22 H => loopG [0, 2, 7, 9, 12, 20, 22] [0, 2, 6, 7, 9, 12] 169 (s_triunelaw13_JudgeTwo_b4 n fl) m (s_triunelaw13_JudgeTwo_I4 x0 x2 x7 x9 x12 x20 x22) H k) = s_triunelaw13_JudgeTwo_L4 n fl k m from by funext x0 x2 x7 x9 x12 x20 x22 H; exact ih _ _ _ _ _ _ _ _]
    rw [s_triunelaw13_JudgeTwo_L4]
def s_triunelaw13_JudgeTwo_I3 (x0 x2 x7 x9 x12 x19 x20 x21 : DV) : List DV := [x0, .any, x2, .any, .any, .any, .any, x7, .any, x9, .any, .any, x12, .any, .any, .any, .any, .any, .any, x19, x20, x21, .any, .any, .any, .any, .any, .any, .any, .any, .any, .any, .any, .any, .any, .any, .any, .any, .any, .any, .any, .any, .any, .any, .any, .any, .any, .any, .any, .any, .any, .any, .any, .any, .any, .any, .any, .any, .any, .any, .any, .any, .any, .any, .any, .any, .any, .any, .any, .any, .any, .any, .any, .any, .any, .any, .any, .any, .any, .any, .any, .any, .any, .any, .any, .any, .any, .any, .any, .any, .any, .any, .any, .any, .any, .any, .any, .any, .any, .any, .any, .any, .any, .any, .any, .any, .any, .any, .any, .any, .any, .any, .any, .any, .any, .any, .any, .any, .any, .any, .any, .any, .any, .any, .any, .any, .any, .any, .any, .any, .any, .any, .any, .any, .any, .any, .any, .any, .any, .any, .any, .any, .any, .any, .any, .any, .any, .any, .any, .any, .any, .any, .any, .any, .any, .any, .any, .any, .any, .any, .any, .any, .any, .any, .any, .any, .any, .any, .any]
def s_triunelaw13_JudgeTwo_O3 (x0 x2 x6 x7 x9 x12 x20 : DV) : List DV := [x0, .any, x2, .any, .any, .any, x6, x7, .any, x9, .any, .any, x12, .any, .any, .any, .any, .any, .any, .any, x20, .any, .any, .any, .any, .any, .any, .any, .any, .any, .any, .any, .any, .any, .any, .any, .any, .any, .any, .any, .any, .any, .any, .any, .any, .any, .any, .any, .any, .any, .any, .any, .any, .any, .any, .any, .any, .any, .any, .any, .any, .any, .any, .any, .any, .any, .any, .any, .any, .any, .any, .any, .any, .any, .any, .any, .any, .any, .any, .any, .any, .any, .any, .any, .any, .any, .any, .any, .any, .any, .any, .any, .any, .any, .any, .any, .any, .any, .any, .any, .any, .any, .any, .any, .any, .any, .any, .any, .any, .any, .any, .any, .any, .any, .any, .any, .any, .any, .any, .any, .any, .any, .any, .any, .any, .any, .any, .any, .any, .any, .any, .any, .any, .any, .any, .any, .any, .any, .any, .any, .any, .any, .any, .any, .any, .any, .any, .any, .any, .any, .any, .any, .any, .any, .any, .any, .any, .any, .any, .any, .any, .any, .any, .any, .any, .any, .any, .any, .any]
noncomputable abbrev s_triunelaw13_JudgeTwo_b3 (n fl : Nat) : List DV → Heap → (Ex → KF) → R := execG ⟨Try.prog, callG Try.prog ENV n, ENV.md, fl, 169⟩ n (loopAt (bodyOf Try.f9) 3) []
noncomputable def s_triunelaw13_JudgeTwo_B3 (n fl : Nat) (rec : DV → DV → DV → DV → DV → DV → DV → DV → Heap → R) (k : Ex → KF) (x0 x2 x7 x9 x12 x19 x20 x21 : DV) (H : Heap) : R :=
  bi (ltK .i64 x21 (I .i64 3)) fun d0 =>
  condR d0 (
  bi (neK .i64 x21 x12) fun d1 =>
  bi (wantF d1 true (some x21)) fun d2 =>
  bi (wantF d1 true (fieldD 0 3 x19)) fun d3 =>
  bi (wantF d1 true (idxArr 3 1 d3 d2)) fun d4 =>
  bi (wantF d1 true (loadG false 1 d4 H)) fun d5 =>
  bi (pickD d1 d5 (Bo false)) fun d6 =>
  condR d6 (
  k .ret (s_triunelaw13_JudgeTwo_O3 x0 x2 (Bo false) x7 x9 x12 x20) H) (
  bi (addK .i64 x21 (I .i64 1)) fun d7 =>
  rec x0 x2 x7 x9 x12 x19 x20 d7 H)) (
  k (.exit 6) (s_triunelaw13_JudgeTwo_O3 x0 x2 .any x7 x9 x12 x20) H)
noncomputable def s_triunelaw13_JudgeTwo_L3 (n fl : Nat) (k : Ex → KF) : Nat → DV → DV → DV → DV → DV → DV → DV → DV → Heap → R
  | 0, _, _, _, _, _, _, _, _, _ => none
  | m + 1, x0, x2, x7, x9, x12, x19, x20, x21, H => s_triunelaw13_JudgeTwo_B3 n fl (s_triunelaw13_JudgeTwo_L3 n fl k m) k x0 x2 x7 x9 x12 x19 x20 x21 H
theorem s_triunelaw13_JudgeTwo_S3 (n fl m : Nat) (k : Ex → KF) (x0 x2 x7 x9 x12 x19 x20 x21 : DV) (H : Heap) : loopG [0, 2, 7, 9, 12, 19, 20, 21] [0, 2, 6, 7, 9, 12, 20] 169 (s_triunelaw13_JudgeTwo_b3 n fl) (m + 1) (s_triunelaw13_JudgeTwo_I3 x0 x2 x7 x9 x12 x19 x20 x21) H k = s_triunelaw13_JudgeTwo_B3 n fl (fun x0 x2 x7 x9 x12 x19 x20 x21 H => loopG [0, 2, 7, 9, 12, 19, 20, 21] [0, 2, 6, 7, 9, 12, 20] 169 (s_triunelaw13_JudgeTwo_b3 n fl) m (s_triunelaw13_JudgeTwo_I3 x0 x2 x7 x9 x12 x19 x20 x21) H k) k x0 x2 x7 x9 x12 x19 x20 x21 H := by kernel_rfl
theorem s_triunelaw13_JudgeTwo_L3_eq (n fl : Nat) (k : Ex → KF) : ∀ (m : Nat) (x0 x2 x7 x9 x12 x19 x20 x21 : DV) (H : Heap), loopG [0, 2, 7, 9, 12, 19, 20, 21] [0, 2, 6, 7, 9, 12, 20] 169 (s_triunelaw13_JudgeTwo_b3 n fl) m (s_triunelaw13_JudgeTwo_I3 x0 x2 x7 x9 x12 x19 x20 x21) H k = s_triunelaw13_JudgeTwo_L3 n fl k m x0 x2 x7 x9 x12 x19 x20 x21 H := by
  intro m
  induction m with
  | zero => intros; rfl
  | succ m ih =>
    intro x0 x2 x7 x9 x12 x19 x20 x21 H
    rw [s_triunelaw13_JudgeTwo_S3, show (fun x0 x2 x7 x9 x12 x19 x20 x21 H => loopG [0, 2, 7, 9, 12, 19, 20, 21] [0, 2, 6, 7, 9, 12, 20] 169 (s_triunelaw13_JudgeTwo_b3 n fl) m (s_triunelaw13_JudgeTwo_I3 x0 x2 x7 x9 x12 x19 x20 x21) H k) = s_triunelaw13_JudgeTwo_L3 n fl k m from by funext x0 x2 x7 x9 x12 x19 x20 x21 H; exact ih _ _ _ _ _ _ _ _ _]
    rw [s_triunelaw13_JudgeTwo_L3]
def s_triunelaw13_JudgeTwo_I2 (x0 x2 x7 x9 x12 x13 x14 : DV) : List DV := [x0, .any, x2, .any, .any, .any, .any, x7, .any, x9, .any, .any, x12, x13, x14, .any, .any, .any, .any, .any, .any, .any, .any, .any, .any, .any, .any, .any, .any, .any, .any, .any, .any, .any, .any, .any, .any, .any, .any, .any, .any, .any, .any, .any, .any, .any, .any, .any, .any, .any, .any, .any, .any, .any, .any, .any, .any, .any, .any, .any, .any, .any, .any, .any, .any, .any, .any, .any, .any, .any, .any, .any, .any, .any, .any, .any, .any, .any, .any, .any, .any, .any, .any, .any, .any, .any, .any, .any, .any, .any, .any, .any, .any, .any, .any, .any, .any, .any, .any, .any, .any, .any, .any, .any, .any, .any, .any, .any, .any, .any, .any, .any, .any, .any, .any, .any, .any, .any, .any, .any, .any, .any, .any, .any, .any, .any, .any, .any, .any, .any, .any, .any, .any, .any, .any, .any, .any, .any, .any, .any, .any, .any, .any, .any, .any, .any, .any, .any, .any, .any, .any, .any, .any, .any, .any, .any, .any, .any, .any, .any, .any, .any, .any, .any, .any, .any, .any, .any, .any]
def s_triunelaw13_JudgeTwo_O2 (x0 x2 x7 x9 x12 x13 : DV) : List DV := [x0, .any, x2, .any, .any, .any, .any, x7, .any, x9, .any, .any, x12, x13, .any, .any, .any, .any, .any, .any, .any, .any, .any, .any, .any, .any, .any, .any, .any, .any, .any, .any, .any, .any, .any, .any, .any, .any, .any, .any, .any, .any, .any, .any, .any, .any, .any, .any, .any, .any, .any, .any, .any, .any, .any, .any, .any, .any, .any, .any, .any, .any, .any, .any, .any, .any, .any, .any, .any, .any, .any, .any, .any, .any, .any, .any, .any, .any, .any, .any, .any, .any, .any, .any, .any, .any, .any, .any, .any, .any, .any, .any, .any, .any, .any, .any, .any, .any, .any, .any, .any, .any, .any, .any, .any, .any, .any, .any, .any, .any, .any, .any, .any, .any, .any, .any, .any, .any, .any, .any, .any, .any, .any, .any, .any, .any, .any, .any, .any, .any, .any, .any, .any, .any, .any, .any, .any, .any, .any, .any, .any, .any, .any, .any, .any, .any, .any, .any, .any, .any, .any, .any, .any, .any, .any, .any, .any, .any, .any, .any, .any, .any, .any, .any, .any, .any, .any, .any, .any]
noncomputable abbrev s_triunelaw13_JudgeTwo_b2 (n fl : Nat) : List DV → Heap → (Ex → KF) → R := execG ⟨Try.prog, callG Try.prog ENV n, ENV.md, fl, 169⟩ n (loopAt (bodyOf Try.f9) 2) []
noncomputable def s_triunelaw13_JudgeTwo_B2 (n fl : Nat) (rec : DV → DV → DV → DV → DV → DV → DV → Heap → R) (k : Ex → KF) (x0 x2 x7 x9 x12 x13 x14 : DV) (H : Heap) : R :=
  bi (lenD x2) fun d0 =>
  bi (ltK .i64 x14 d0) fun d1 =>
  condR d1 (
  bi (idxSl 2 x2 x14) fun d2 =>
  bi (loadG true 2 d2 (H ++ [.hole])) fun d3 =>
  bi (allocG 121 (.agg [(I .u16 0), (I .i64 0)]) (List.length H) (H ++ [.hole])) fun h4 =>
  bi (storeG 2 (.ptr (List.length H) 0) d3 h4 fl) fun h5 =>
  bi (lenD x0) fun d6 =>
  bi (ltK .i64 x14 d6) fun d7 =>
  bi (wantF d7 true (some x0)) fun d8 =>
  bi (wantF d7 true (some x14)) fun d9 =>
  bi (wantF d7 true (idxSl 5 d8 d9)) fun d10 =>
  bi (wantF d7 true (fieldD 0 1 d10)) fun d11 =>
  bi (wantF d7 true (loadG false 1 d11 h5)) fun d12 =>
  bi (wantF d7 true (geK .i64 d12 (I .i64 2))) fun d13 =>
  bi (pickD d7 d13 (Bo false)) fun d14 =>
  condR d14 (
   bi (loadG false 1 (.ptr (List.length H) 0) h5) fun d15 =>
   bi (remK .u16 d15 (I .u16 2)) fun d16 =>
   bi (storeG 1 (.ptr (List.length H) 0) d16 h5 fl) fun h17 =>
  bi (idxArr 3 1 x13 x12) fun d18 =>
  bi (loadG false 1 d18 h17) fun d19 =>
  bi (loadG true 2 (.ptr (List.length H) 0) h17) fun d20 =>
  bi (buildL true 2 1 (.agg [(I .u16 0), (I .i64 0)]) [(0, d20)]) fun d21 =>
  bi (appG 121 true 2 16 d19 d21 h17 fl) fun p22 =>
  bi (idxArr 3 1 x13 x12) fun d23 =>
  bi (storeG 1 d23 p22.1 p22.2 fl) fun h24 =>
  bi (addK .i64 x14 (I .i64 1)) fun d25 =>
  rec x0 x2 x7 x9 x12 x13 d25 h24) (
  bi (idxArr 3 1 x13 x12) fun d26 =>
  bi (loadG false 1 d26 h5) fun d27 =>
  bi (loadG true 2 (.ptr (List.length H) 0) h5) fun d28 =>
  bi (buildL true 2 1 (.agg [(I .u16 0), (I .i64 0)]) [(0, d28)]) fun d29 =>
  bi (appG 121 true 2 16 d27 d29 h5 fl) fun p30 =>
  bi (idxArr 3 1 x13 x12) fun d31 =>
  bi (storeG 1 d31 p30.1 p30.2 fl) fun h32 =>
  bi (addK .i64 x14 (I .i64 1)) fun d33 =>
  rec x0 x2 x7 x9 x12 x13 d33 h32)) (
  k (.exit 4) (s_triunelaw13_JudgeTwo_O2 x0 x2 x7 x9 x12 x13) H)
noncomputable def s_triunelaw13_JudgeTwo_L2 (n fl : Nat) (k : Ex → KF) : Nat → DV → DV → DV → DV → DV → DV → DV → Heap → R
  | 0, _, _, _, _, _, _, _, _ => none
  | m + 1, x0, x2, x7, x9, x12, x13, x14, H => s_triunelaw13_JudgeTwo_B2 n fl (s_triunelaw13_JudgeTwo_L2 n fl k m) k x0 x2 x7 x9 x12 x13 x14 H
theorem s_triunelaw13_JudgeTwo_S2 (n fl m : Nat) (k : Ex → KF) (x0 x2 x7 x9 x12 x13 x14 : DV) (H : Heap) : loopG [0, 2, 7, 9, 12, 13, 14] [0, 2, 7, 9, 12, 13] 169 (s_triunelaw13_JudgeTwo_b2 n fl) (m + 1) (s_triunelaw13_JudgeTwo_I2 x0 x2 x7 x9 x12 x13 x14) H k = s_triunelaw13_JudgeTwo_B2 n fl (fun x0 x2 x7 x9 x12 x13 x14 H => loopG [0, 2, 7, 9, 12, 13, 14] [0, 2, 7, 9, 12, 13] 169 (s_triunelaw13_JudgeTwo_b2 n fl) m (s_triunelaw13_JudgeTwo_I2 x0 x2 x7 x9 x12 x13 x14) H k) k x0 x2 x7 x9 x12 x13 x14 H := by kernel_rfl
theorem s_triunelaw13_JudgeTwo_L2_eq (n fl : Nat) (k : Ex → KF) : ∀ (m : Nat) (x0 x2 x7 x9 x12 x13 x14 : DV) (H : Heap), loopG [0, 2, 7, 9, 12, 13, 14] [0, 2, 7, 9, 12, 13] 169 (s_triunelaw13_JudgeTwo_b2 n fl) m (s_triunelaw13_JudgeTwo_I2 x0 x2 x7 x9 x12 x13 x14) H k = s_triunelaw13_JudgeTwo_L2 n fl k m x0 x2 x7 x9 x12 x13 x14 H := by
  intro m
  induction m with
  | zero => intros; rfl
  | succ m ih =>
    intro x0 x2 x7 x9 x12 x13 x14 H
    rw [s_triunelaw13_JudgeTwo_S2, show (fun x0 x2 x7 x9 x12 x13 x14 H => loopG [0, 2, 7, 9, 12, 13, 14] [0, 2, 7, 9, 12, 13] 169 (s_triunelaw13_JudgeTwo_b2 n fl) m (s_triunelaw13_JudgeTwo_I2 x0 x2 x7 x9 x12 x13 x14) H k) = s_triunelaw13_JudgeTwo_L2 n fl k m from by funext x0 x2 x7 x9 x12 x13 x14 H; exact ih _ _ _ _ _ _ _ _]
    rw [s_triunelaw13_JudgeTwo_L2]
def s_triunelaw13_JudgeTwo_I1 (x0 x2 x7 x9 x12 : DV) : List DV := [x0, .any, x2, .any, .any, .any, .any, x7, .any, x9, .any, .any, x12, .any, .any, .any, .any, .any, .any, .any, .any, .any, .any, .any, .any, .any, .any, .any, .any, .any, .any, .any, .any, .any, .any, .any, .any, .any, .any, .any, .any, .any, .any, .any, .any, .any, .any, .any, .any, .any, .any, .any, .any, .any, .any, .any, .any, .any, .any, .any, .any, .any, .any, .any, .any, .any, .any, .any, .any, .any, .any, .any, .any, .any, .any, .any, .any, .any, .any, .any, .any, .any, .any, .any, .any, .any, .any, .any, .any, .any, .any, .any, .any, .any, .any, .any, .any, .any, .any, .any, .any, .any, .any, .any, .any, .any, .any, .any, .any, .any, .any, .any, .any, .any, .any, .any, .any, .any, .any, .any, .any, .any, .any, .any, .any, .any, .any, .any, .any, .any, .any, .any, .any, .any, .any, .any, .any, .any, .any, .any, .any, .any, .any, .any, .any, .any, .any, .any, .any, .any, .any, .any, .any, .any, .any, .any, .any, .any, .any, .any, .any, .any, .any, .any, .any, .any, .any, .any, .any]
def s_triunelaw13_JudgeTwo_O1 (x6 x7 : DV) : List DV := [.any, .any, .any, .any, .any, .any, x6, x7, .any, .any, .any, .any, .any, .any, .any, .any, .any, .any, .any, .any, .any, .any, .any, .any, .any, .any, .any, .any, .any, .any, .any, .any, .any, .any, .any, .any, .any, .any, .any, .any, .any, .any, .any, .any, .any, .any, .any, .any, .any, .any, .any, .any, .any, .any, .any, .any, .any, .any, .any, .any, .any, .any, .any, .any, .any, .any, .any, .any, .any, .any, .any, .any, .any, .any, .any, .any, .any, .any, .any, .any, .any, .any, .any, .any, .any, .any, .any, .any, .any, .any, .any, .any, .any, .any, .any, .any, .any, .any, .any, .any, .any, .any, .any, .any, .any, .any, .any, .any, .any, .any, .any, .any, .any, .any, .any, .any, .any, .any, .any, .any, .any, .any, .any, .any, .any, .any, .any, .any, .any, .any, .any, .any, .any, .any, .any, .any, .any, .any, .any, .any, .any, .any, .any, .any, .any, .any, .any, .any, .any, .any, .any, .any, .any, .any, .any, .any, .any, .any, .any, .any, .any, .any, .any, .any, .any, .any, .any, .any, .any]
noncomputable abbrev s_triunelaw13_JudgeTwo_b1 (n fl : Nat) : List DV → Heap → (Ex → KF) → R := execG ⟨Try.prog, callG Try.prog ENV n, ENV.md, fl, 169⟩ n (loopAt (bodyOf Try.f9) 1) [([0, 2, 7, 9, 12, 13, 14], [0, 2, 7, 9, 12, 13]), ([0, 2, 7, 9, 12, 19, 20, 21], [0, 2, 6, 7, 9, 12, 20]), ([0, 2, 7, 9, 12, 20, 22], [0, 2, 6, 7, 9, 12])]
noncomputable def s_triunelaw13_JudgeTwo_B1 (n fl : Nat) (rec : DV → DV → DV → DV → DV → Heap → R) (k : Ex → KF) (x0 x2 x7 x9 x12 : DV) (H : Heap) : R :=
  bi (ltK .i64 x12 (I .i64 3)) fun d0 =>
  condR d0 (
  bi (buildA (.agg [(.list 0 [] .ti), (.list 0 [] .ti), (.list 0 [] .ti)]) 1 [(0, x9), (1, x9), (2, x9)]) fun d1 =>
  bi (allocG 104 (.agg [(.list 0 [] .ti), (.list 0 [] .ti), (.list 0 [] .ti)]) (List.length H) (H ++ [.hole])) fun h2 =>
  bi (storeG 3 (.ptr (List.length H) 0) d1 h2 fl) fun h3 =>
  bi (idxArr 3 1 (.ptr (List.length H) 0) x12) fun d4 =>
  bi (storeG 1 d4 (.list 0 [] .ti) h3 fl) fun h5 =>
  loopG [0, 2, 7, 9, 12, 13, 14] [0, 2, 7, 9, 12, 13] 169 (s_triunelaw13_JudgeTwo_b2 n fl) n (s_triunelaw13_JudgeTwo_I2 x0 x2 x7 x9 x12 (.ptr (List.length H) 0) (I .i64 0)) h5 fun x S6 h6 => match x with
  | .normal => none
  | .exit i6 => (
  if i6 = 4 then (
  bi (loadG true 3 (S6.getD 13 .any) h6) fun d7 =>
  bi (cK n 45 [(S6.getD 0 .any), d7, (I .i64 7)] h6 fl) fun p8 =>
  bi (extD 0 p8.1) fun d9 =>
  bi (extD 1 p8.1) fun d10 =>
  bi (binD Try.prog .eql 105 (.tmp 119) (.const (.pointer none)) d9 (.flat (.pointer none))) fun d11 =>
  condR d11 (
  k .ret (s_triunelaw13_JudgeTwo_O1 (Bo false) (S6.getD 7 .any)) p8.2) (
  bi (buildA (.agg [(Bo false), (Bo false), (Bo false)]) 1 [(0, (Bo true)), (1, (Bo true)), (2, (Bo true))]) fun d12 =>
  bi (allocG 52 (.agg [(Bo false), (Bo false), (Bo false)]) (List.length p8.2) (p8.2 ++ [.hole])) fun h13 =>
  bi (storeG 3 (.ptr (List.length p8.2) 0) d12 h13 fl) fun h14 =>
  bi (loadG true 3 (.ptr (List.length p8.2) 0) (h14 ++ [.hole])) fun d15 =>
  bi (cO n 46 [(S6.getD 0 .any), d9, (I .i64 7), d15] (h14 ++ [.hole])) fun d16 =>
  bi (allocG 110 (.agg [(Bo false), (Bo false), (Bo false), (Bo false)]) (List.length h14) (h14 ++ [.hole])) fun h17 =>
  bi (storeG 4 (.ptr (List.length h14) 0) d16 h17 fl) fun h18 =>
  bi (loadG true 3 (.ptr (List.length p8.2) 0) h18) fun d19 =>
  bi (cO n 49 [(S6.getD 0 .any), d9, (I .i64 7), d19] h18) fun d20 =>
  bi (loadG false 1 (.ptr (List.length h14) 3) h18) fun d21 =>
  bi (wantF d21 false (some d20)) fun d22 =>
  bi (wantF d21 false (lenD d22)) fun d23 =>
  bi (wantF d21 false (some (S6.getD 0 .any))) fun d24 =>
  bi (wantF d21 false (lenD d24)) fun d25 =>
  bi (wantF d21 false (neK .i64 d23 d25)) fun d26 =>
  bi (pickD d21 (Bo true) d26) fun d27 =>
  condR d27 (
  k .ret (s_triunelaw13_JudgeTwo_O1 (Bo false) (S6.getD 7 .any)) h18) (
  loopG [0, 2, 7, 9, 12, 19, 20, 21] [0, 2, 6, 7, 9, 12, 20] 169 (s_triunelaw13_JudgeTwo_b3 n fl) n (s_triunelaw13_JudgeTwo_I3 (S6.getD 0 .any) (S6.getD 2 .any) (S6.getD 7 .any) (S6.getD 9 .any) (S6.getD 12 .any) (.ptr (List.length h14) 0) d20 (I .i64 0)) h18 fun x S28 h28 => match x with
  | .normal => none
  | .exit i28 => (
  if i28 = 6 then (
  loopG [0, 2, 7, 9, 12, 20, 22] [0, 2, 6, 7, 9, 12] 169 (s_triunelaw13_JudgeTwo_b4 n fl) n (s_triunelaw13_JudgeTwo_I4 (S28.getD 0 .any) (S28.getD 2 .any) (S28.getD 7 .any) (S28.getD 9 .any) (S28.getD 12 .any) (S28.getD 20 .any) (I .i64 0)) h28 fun x S29 h29 => match x with
  | .normal => none
  | .exit i29 => (
  if i29 = 8 then (
  bi (addK .i64 (S29.getD 12 .any) (I .i64 1)) fun d30 =>
  rec (S29.getD 0 .any) (S29.getD 2 .any) (S29.getD 7 .any) (S29.getD 9 .any) d30 h29) else (
  if i29 = 3 then (
  bi (addK .i64 (S29.getD 12 .any) (I .i64 1)) fun d31 =>
  rec (S29.getD 0 .any) (S29.getD 2 .any) (S29.getD 7 .any) (S29.getD 9 .any) d31 h29) else (
  k (.exit i29) (s_triunelaw13_JudgeTwo_O1 (S29.getD 6 .any) (S29.getD 7 .any)) h29)))
  | .ret => (
  k .ret (s_triunelaw13_JudgeTwo_O1 (S29.getD 6 .any) (S29.getD 7 .any)) h29)) else (
  if i28 = 3 then (
  bi (addK .i64 (S28.getD 12 .any) (I .i64 1)) fun d32 =>
  rec (S28.getD 0 .any) (S28.getD 2 .any) (S28.getD 7 .any) (S28.getD 9 .any) d32 h28) else (
  k (.exit i28) (s_triunelaw13_JudgeTwo_O1 (S28.getD 6 .any) (S28.getD 7 .any)) h28)))
  | .ret => (
  k .ret (s_triunelaw13_JudgeTwo_O1 (S28.getD 6 .any) (S28.getD 7 .any)) h28)))) else (
  if i6 = 3 then (
  bi (addK .i64 (S6.getD 12 .any) (I .i64 1)) fun d33 =>
  rec (S6.getD 0 .any) (S6.getD 2 .any) (S6.getD 7 .any) (S6.getD 9 .any) d33 h6) else (
  k (.exit i6) (s_triunelaw13_JudgeTwo_O1 .any (S6.getD 7 .any)) h6)))
  | .ret => (
  k .ret (s_triunelaw13_JudgeTwo_O1 .any (S6.getD 7 .any)) h6)) (
  k (.exit 2) (s_triunelaw13_JudgeTwo_O1 .any x7) H)
noncomputable def s_triunelaw13_JudgeTwo_L1 (n fl : Nat) (k : Ex → KF) : Nat → DV → DV → DV → DV → DV → Heap → R
  | 0, _, _, _, _, _, _ => none
  | m + 1, x0, x2, x7, x9, x12, H => s_triunelaw13_JudgeTwo_B1 n fl (s_triunelaw13_JudgeTwo_L1 n fl k m) k x0 x2 x7 x9 x12 H
theorem s_triunelaw13_JudgeTwo_S1 (n fl m : Nat) (k : Ex → KF) (x0 x2 x7 x9 x12 : DV) (H : Heap) : loopG [0, 2, 7, 9, 12] [6, 7] 169 (s_triunelaw13_JudgeTwo_b1 n fl) (m + 1) (s_triunelaw13_JudgeTwo_I1 x0 x2 x7 x9 x12) H k = s_triunelaw13_JudgeTwo_B1 n fl (fun x0 x2 x7 x9 x12 H => loopG [0, 2, 7, 9, 12] [6, 7] 169 (s_triunelaw13_JudgeTwo_b1 n fl) m (s_triunelaw13_JudgeTwo_I1 x0 x2 x7 x9 x12) H k) k x0 x2 x7 x9 x12 H := by kernel_rfl
theorem s_triunelaw13_JudgeTwo_L1_eq (n fl : Nat) (k : Ex → KF) : ∀ (m : Nat) (x0 x2 x7 x9 x12 : DV) (H : Heap), loopG [0, 2, 7, 9, 12] [6, 7] 169 (s_triunelaw13_JudgeTwo_b1 n fl) m (s_triunelaw13_JudgeTwo_I1 x0 x2 x7 x9 x12) H k = s_triunelaw13_JudgeTwo_L1 n fl k m x0 x2 x7 x9 x12 H := by
  intro m
  induction m with
  | zero => intros; rfl
  | succ m ih =>
    intro x0 x2 x7 x9 x12 H
    rw [s_triunelaw13_JudgeTwo_S1, show (fun x0 x2 x7 x9 x12 H => loopG [0, 2, 7, 9, 12] [6, 7] 169 (s_triunelaw13_JudgeTwo_b1 n fl) m (s_triunelaw13_JudgeTwo_I1 x0 x2 x7 x9 x12) H k) = s_triunelaw13_JudgeTwo_L1 n fl k m from by funext x0 x2 x7 x9 x12 H; exact ih _ _ _ _ _ _]
    rw [s_triunelaw13_JudgeTwo_L1]
def s_triunelaw13_JudgeTwo_I0 (x0 x1 x2 x7 x9 x10 : DV) : List DV := [x0, x1, x2, .any, .any, .any, .any, x7, .any, x9, x10, .any, .any, .any, .any, .any, .any, .any, .any, .any, .any, .any, .any, .any, .any, .any, .any, .any, .any, .any, .any, .any, .any, .any, .any, .any, .any, .any, .any, .any, .any, .any, .any, .any, .any, .any, .any, .any, .any, .any, .any, .any, .any, .any, .any, .any, .any, .any, .any, .any, .any, .any, .any, .any, .any, .any, .any, .any, .any, .any, .any, .any, .any, .any, .any, .any, .any, .any, .any, .any, .any, .any, .any, .any, .any, .any, .any, .any, .any, .any, .any, .any, .any, .any, .any, .any, .any, .any, .any, .any, .any, .any, .any, .any, .any, .any, .any, .any, .any, .any, .any, .any, .any, .any, .any, .any, .any, .any, .any, .any, .any, .any, .any, .any, .any, .any, .any, .any, .any, .any, .any, .any, .any, .any, .any, .any, .any, .any, .any, .any, .any, .any, .any, .any, .any, .any, .any, .any, .any, .any, .any, .any, .any, .any, .any, .any, .any, .any, .any, .any, .any, .any, .any, .any, .any, .any, .any, .any, .any]
def s_triunelaw13_JudgeTwo_O0 (x0 x2 x7 x9 : DV) : List DV := [x0, .any, x2, .any, .any, .any, .any, x7, .any, x9, .any, .any, .any, .any, .any, .any, .any, .any, .any, .any, .any, .any, .any, .any, .any, .any, .any, .any, .any, .any, .any, .any, .any, .any, .any, .any, .any, .any, .any, .any, .any, .any, .any, .any, .any, .any, .any, .any, .any, .any, .any, .any, .any, .any, .any, .any, .any, .any, .any, .any, .any, .any, .any, .any, .any, .any, .any, .any, .any, .any, .any, .any, .any, .any, .any, .any, .any, .any, .any, .any, .any, .any, .any, .any, .any, .any, .any, .any, .any, .any, .any, .any, .any, .any, .any, .any, .any, .any, .any, .any, .any, .any, .any, .any, .any, .any, .any, .any, .any, .any, .any, .any, .any, .any, .any, .any, .any, .any, .any, .any, .any, .any, .any, .any, .any, .any, .any, .any, .any, .any, .any, .any, .any, .any, .any, .any, .any, .any, .any, .any, .any, .any, .any, .any, .any, .any, .any, .any, .any, .any, .any, .any, .any, .any, .any, .any, .any, .any, .any, .any, .any, .any, .any, .any, .any, .any, .any, .any, .any]
noncomputable abbrev s_triunelaw13_JudgeTwo_b0 (n fl : Nat) : List DV → Heap → (Ex → KF) → R := execG ⟨Try.prog, callG Try.prog ENV n, ENV.md, fl, 169⟩ n (loopAt (bodyOf Try.f9) 0) []
noncomputable def s_triunelaw13_JudgeTwo_B0 (n fl : Nat) (rec : DV → DV → DV → DV → DV → DV → Heap → R) (k : Ex → KF) (x0 x1 x2 x7 x9 x10 : DV) (H : Heap) : R :=
  bi (lenD x0) fun d0 =>
  bi (ltK .i64 x10 d0) fun d1 =>
  condR d1 (
  bi (idxSl 1 x1 x10) fun d2 =>
  bi (loadG false 1 d2 H) fun d3 =>
  bi (idxSl 5 x0 x10) fun d4 =>
  bi (fieldD 0 1 d4) fun d5 =>
  bi (loadG false 1 d5 H) fun d6 =>
  bi (geK .i64 d6 (I .i64 2)) fun d7 =>
  condR d7 (
   bi (remK .u16 d3 (I .u16 2)) fun d8 =>
  bi (buildS (.agg [(I .u16 0), (I .i64 0)]) [(0, 1), (1, 1)] [(0, d8)]) fun d9 =>
  bi (buildL true 2 1 (.agg [(I .u16 0), (I .i64 0)]) [(0, d9)]) fun d10 =>
  bi (appG 121 true 2 16 x9 d10 H fl) fun p11 =>
  bi (addK .i64 x10 (I .i64 1)) fun d12 =>
  rec x0 x1 x2 x7 p11.1 d12 p11.2) (
  bi (buildS (.agg [(I .u16 0), (I .i64 0)]) [(0, 1), (1, 1)] [(0, d3)]) fun d13 =>
  bi (buildL true 2 1 (.agg [(I .u16 0), (I .i64 0)]) [(0, d13)]) fun d14 =>
  bi (appG 121 true 2 16 x9 d14 H fl) fun p15 =>
  bi (addK .i64 x10 (I .i64 1)) fun d16 =>
  rec x0 x1 x2 x7 p15.1 d16 p15.2)) (
  k (.exit 0) (s_triunelaw13_JudgeTwo_O0 x0 x2 x7 x9) H)
noncomputable def s_triunelaw13_JudgeTwo_L0 (n fl : Nat) (k : Ex → KF) : Nat → DV → DV → DV → DV → DV → DV → Heap → R
  | 0, _, _, _, _, _, _, _ => none
  | m + 1, x0, x1, x2, x7, x9, x10, H => s_triunelaw13_JudgeTwo_B0 n fl (s_triunelaw13_JudgeTwo_L0 n fl k m) k x0 x1 x2 x7 x9 x10 H
theorem s_triunelaw13_JudgeTwo_S0 (n fl m : Nat) (k : Ex → KF) (x0 x1 x2 x7 x9 x10 : DV) (H : Heap) : loopG [0, 1, 2, 7, 9, 10] [0, 2, 7, 9] 169 (s_triunelaw13_JudgeTwo_b0 n fl) (m + 1) (s_triunelaw13_JudgeTwo_I0 x0 x1 x2 x7 x9 x10) H k = s_triunelaw13_JudgeTwo_B0 n fl (fun x0 x1 x2 x7 x9 x10 H => loopG [0, 1, 2, 7, 9, 10] [0, 2, 7, 9] 169 (s_triunelaw13_JudgeTwo_b0 n fl) m (s_triunelaw13_JudgeTwo_I0 x0 x1 x2 x7 x9 x10) H k) k x0 x1 x2 x7 x9 x10 H := by kernel_rfl
theorem s_triunelaw13_JudgeTwo_L0_eq (n fl : Nat) (k : Ex → KF) : ∀ (m : Nat) (x0 x1 x2 x7 x9 x10 : DV) (H : Heap), loopG [0, 1, 2, 7, 9, 10] [0, 2, 7, 9] 169 (s_triunelaw13_JudgeTwo_b0 n fl) m (s_triunelaw13_JudgeTwo_I0 x0 x1 x2 x7 x9 x10) H k = s_triunelaw13_JudgeTwo_L0 n fl k m x0 x1 x2 x7 x9 x10 H := by
  intro m
  induction m with
  | zero => intros; rfl
  | succ m ih =>
    intro x0 x1 x2 x7 x9 x10 H
    rw [s_triunelaw13_JudgeTwo_S0, show (fun x0 x1 x2 x7 x9 x10 H => loopG [0, 1, 2, 7, 9, 10] [0, 2, 7, 9] 169 (s_triunelaw13_JudgeTwo_b0 n fl) m (s_triunelaw13_JudgeTwo_I0 x0 x1 x2 x7 x9 x10) H k) = s_triunelaw13_JudgeTwo_L0 n fl k m from by funext x0 x1 x2 x7 x9 x10 H; exact ih _ _ _ _ _ _ _]
    rw [s_triunelaw13_JudgeTwo_L0]
noncomputable def s_triunelaw13_JudgeTwo (n : Nat) (H : Heap) (fl : Nat) (a0 a1 a2 : DV) : R :=
  bi (cP n 44 false []) fun d0 =>
  bi (cP n 24 false [a0]) fun d1 =>
  bi (notD d1) fun d2 =>
  bi (wantF d2 false (some a1)) fun d3 =>
  bi (wantF d2 false (lenD d3)) fun d4 =>
  bi (wantF d2 false (some a0)) fun d5 =>
  bi (wantF d2 false (lenD d5)) fun d6 =>
  bi (wantF d2 false (ltK .i64 d4 d6)) fun d7 =>
  bi (pickD d2 (Bo true) d7) fun d8 =>
  bi (wantF d8 false (some a1)) fun d9 =>
  bi (wantF d8 false (lenD d9)) fun d10 =>
  bi (wantF d8 false (gtK .i64 d10 (I .i64 100))) fun d11 =>
  bi (pickD d8 (Bo true) d11) fun d12 =>
  bi (wantF d12 false (some a2)) fun d13 =>
  bi (wantF d12 false (lenD d13)) fun d14 =>
  bi (wantF d12 false (gtK .i64 d14 (I .i64 100))) fun d15 =>
  bi (pickD d12 (Bo true) d15) fun d16 =>
  condR d16 (
  some (d0, H)) (
  loopG [0, 1, 2, 7, 9, 10] [0, 2, 7, 9] 169 (s_triunelaw13_JudgeTwo_b0 n fl) n (s_triunelaw13_JudgeTwo_I0 a0 a1 a2 d0 (.list 0 [] .ti) (I .i64 0)) H fun x S17 h17 => match x with
  | .normal => none
  | .exit i17 => (
  if i17 = 0 then (
  loopG [0, 2, 7, 9, 12] [6, 7] 169 (s_triunelaw13_JudgeTwo_b1 n fl) n (s_triunelaw13_JudgeTwo_I1 (S17.getD 0 .any) (S17.getD 2 .any) (S17.getD 7 .any) (S17.getD 9 .any) (I .i64 0)) h17 fun x S18 h18 => match x with
  | .normal => none
  | .exit i18 => (
  if i18 = 2 then (
  some ((S18.getD 7 .any), h18)) else (
  none))
  | .ret => (
  some ((S18.getD 6 .any), h18))) else (
  none))
  | .ret => (
  some (.any, h17)))
theorem s_triunelaw13_JudgeTwo_eq (n : Nat) (H : Heap) (fl : Nat) (a0 a1 a2 : DV) : callG Try.prog ENV (n + 1) 9 [a0, a1, a2] H fl = s_triunelaw13_JudgeTwo n H fl a0 a1 a2 := by kernel_rfl

end Go.Proofs.Ytbhnkdnfmlnajaa
