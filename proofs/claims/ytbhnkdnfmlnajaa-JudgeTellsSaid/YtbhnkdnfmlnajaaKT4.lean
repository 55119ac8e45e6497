/- Texts of mine, laid together: FImg, Ev, Hp, Eq, Eq2, FVote, FCon, GCon, PrimB, Base, PrimL. -/
import Derived.Test.YtbhnkdnfmlnajaaKT3
import Derived.Laws.StructEq
import Derived.WalkKit
import Derived.Below
import Derived.Test.YtbhnkdnfmlnajaaProg
import Derived.KernelRfl
import Derived.Deep.LoopGhost
import Derived.Lib.Hide
import Derived.Deep.QuietTactic
import Derived.BigQuiet
/- Go functions as Lean functions on deep values; printed by a program of mine. -/
namespace Go.Proofs.Ytbhnkdnfmlnajaa
open Go
set_option maxRecDepth 100000
set_option linter.unusedVariables false
/-! triune/image.New -/
def s_image_New_I0 (x0 x4 x14 : DV) : List DV := [x0, .any, .any, .any, x4, .any, .any, .any, .any, .any, .any, .any, .any, .any, x14, .any, .any, .any, .any, .any, .any, .any, .any, .any, .any, .any]
def s_image_New_O0 (x4 : DV) : List DV := [.any, .any, .any, .any, x4, .any, .any, .any, .any, .any, .any, .any, .any, .any, .any, .any, .any, .any, .any, .any, .any, .any, .any, .any, .any, .any]
noncomputable abbrev s_image_New_b0 (n fl : Nat) : List DV → Heap → (Ex → KF) → R := execG ⟨Try.prog, callG Try.prog ENV n, ENV.md, fl, 26⟩ n (loopAt (bodyOf Try.f71) 0) []
noncomputable def s_image_New_B0 (n fl : Nat) (rec : DV → DV → DV → Heap → R) (k : Ex → KF) (x0 x4 x14 : DV) (H : Heap) : R :=
  bi (ltK .i64 x14 (I .i64 3)) fun d0 =>
  condR d0 (
  bi (makeG true 3 24 182 (.agg [(I .u16 0), (I .i64 0), (Bo false)]) x0 x0 (List.length H) (H ++ [.hole])) fun p1 =>
  bi (nilD x4) fun d2 =>
  bi (fieldD 0 3 d2) fun d3 =>
  bi (idxArr 3 1 d3 x14) fun d4 =>
  bi (storeG 1 d4 p1.1 p1.2 fl) fun h5 =>
  bi (addK .i64 x14 (I .i64 1)) fun d6 =>
  rec x0 x4 d6 h5) (
  k (.exit 0) (s_image_New_O0 x4) H)
noncomputable def s_image_New_L0 (n fl : Nat) (k : Ex → KF) : Nat → DV → DV → DV → Heap → R
  | 0, _, _, _, _ => none
  | m + 1, x0, x4, x14, H => s_image_New_B0 n fl (s_image_New_L0 n fl k m) k x0 x4 x14 H
theorem s_image_New_S0 (n fl m : Nat) (k : Ex → KF) (x0 x4 x14 : DV) (H : Heap) : loopG [0, 4, 14] [4] 26 (s_image_New_b0 n fl) (m + 1) (s_image_New_I0 x0 x4 x14) H k = s_image_New_B0 n fl (fun x0 x4 x14 H => loopG [0, 4, 14] [4] 26 (s_image_New_b0 n fl) m (s_image_New_I0 x0 x4 x14) H k) k x0 x4 x14 H := by kernel_rfl
theorem s_image_New_L0_eq (n fl : Nat) (k : Ex → KF) : ∀ (m : Nat) (x0 x4 x14 : DV) (H : Heap), loopG [0, 4, 14] [4] 26 (s_image_New_b0 n fl) m (s_image_New_I0 x0 x4 x14) H k = s_image_New_L0 n fl k m x0 x4 x14 H := by
  intro m
  induction m with
  | zero => intros; rfl
  | succ m ih =>
    intro x0 x4 x14 H
    rw [s_image_New_S0, show (fun x0 x4 x14 H => loopG [0, 4, 14] [4] 26 (s_image_New_b0 n fl) m (s_image_New_I0 x0 x4 x14) H k) = s_image_New_L0 n fl k m from by funext x0 x4 x14 H; exact ih _ _ _ _]
    rw [s_image_New_L0]
noncomputable def s_image_New (n : Nat) (H : Heap) (fl : Nat) (a0 : DV) : R :=
  bi (ltK .i64 a0 (I .i64 1)) fun d0 =>
  bi (wantF d0 false (some a0)) fun d1 =>
  bi (wantF d0 false (gtK .i64 d1 (I .i64 48))) fun d2 =>
  bi (pickD d0 (Bo true) d2) fun d3 =>
  condR d3 (
  some ((.tup [(.flat (.pointer none)), (I .i64 1)]), H)) (
  bi (buildS (.agg [(.list 0 [] .ti), (.list 0 [] .ti), (.list 0 [] .ti)]) [(0, 3)] []) fun d4 =>
  bi (allocG 186 d4 (List.length H) (H ++ [.hole])) fun h5 =>
  loopG [0, 4, 14] [4] 26 (s_image_New_b0 n fl) n (s_image_New_I0 a0 (.ptr (List.length H) 0) (I .i64 0)) h5 fun x S6 h6 => match x with
  | .normal => none
  | .exit i6 => (
  if i6 = 0 then (
  some ((.tup [(S6.getD 4 .any), (I .i64 0)]), h6)) else (
  none))
  | .ret => (
  some ((.tup [.any, .any]), h6)))
theorem s_image_New_eq (n : Nat) (H : Heap) (fl : Nat) (a0 : DV) : callG Try.prog ENV (n + 1) 71 [a0] H fl = s_image_New n H fl a0 := by kernel_rfl

/-! triune/image.channel -/
noncomputable def s_image_channel (n : Nat) (H : Heap) (fl : Nat) (a0 : DV) : R :=
  bi (geK .i64 a0 (I .i64 0)) fun d0 =>
  bi (wantF d0 true (some a0)) fun d1 =>
  bi (wantF d0 true (ltK .i64 d1 (I .i64 3))) fun d2 =>
  bi (pickD d0 d2 (Bo false)) fun d3 =>
  some (d3, H)
theorem s_image_channel_eq (n : Nat) (H : Heap) (fl : Nat) (a0 : DV) : callG Try.prog ENV (n + 1) 89 [a0] H fl = s_image_channel n H fl a0 := by kernel_rfl

/-! (*triune/image.Image).Put$1 -/
noncomputable def s___image_Image__Put_1 (n : Nat) (H : Heap) (fl : Nat) (a0 a1 a2 : DV) : R :=
  bi (loadG false 1 a1 H) fun d0 =>
  bi (nilD d0) fun d1 =>
  bi (fieldD 0 3 d1) fun d2 =>
  bi (loadG false 1 a2 H) fun d3 =>
  bi (cO n 102 [d2, d3, a0] H) fun d4 =>
  bi (extD 0 d4) fun d5 =>
  bi (extD 1 d4) fun d6 =>
  bi (notD d6) fun d7 =>
  some (d7, H)
theorem s___image_Image__Put_1_eq (n : Nat) (H : Heap) (fl : Nat) (a0 a1 a2 : DV) : callG Try.prog ENV (n + 1) 101 [a0, a1, a2] H fl = s___image_Image__Put_1 n H fl a0 a1 a2 := by kernel_rfl

/-! (*triune/image.rows[triune/image.Sample]).at -/
noncomputable def s___image_rows_image_Sample___at (n : Nat) (H : Heap) (fl : Nat) (a0 a1 a2 : DV) : R :=
  bi (ltK .i64 a1 (I .i64 0)) fun d0 =>
  bi (wantF d0 false (some a1)) fun d1 =>
  bi (wantF d0 false (geK .i64 d1 (I .i64 3))) fun d2 =>
  bi (pickD d0 (Bo true) d2) fun d3 =>
  bi (wantF d3 false (some a2)) fun d4 =>
  bi (wantF d3 false (ltK .i64 d4 (I .i64 0))) fun d5 =>
  bi (pickD d3 (Bo true) d5) fun d6 =>
  bi (wantF d6 false (some a2)) fun d7 =>
  bi (wantF d6 false (some a0)) fun d8 =>
  bi (wantF d6 false (some a1)) fun d9 =>
  bi (wantF d6 false (nilD d8)) fun d10 =>
  bi (wantF d6 false (idxArr 3 1 d10 d9)) fun d11 =>
  bi (wantF d6 false (loadG false 1 d11 H)) fun d12 =>
  bi (wantF d6 false (lenD d12)) fun d13 =>
  bi (wantF d6 false (geK .i64 d7 d13)) fun d14 =>
  bi (pickD d6 (Bo true) d14) fun d15 =>
  condR d15 (
  some ((.tup [(.flat (.pointer none)), (Bo false)]), H)) (
  bi (nilD a0) fun d16 =>
  bi (idxArr 3 1 d16 a1) fun d17 =>
  bi (loadG false 1 d17 H) fun d18 =>
  bi (idxSl 3 d18 a2) fun d19 =>
  some ((.tup [d19, (Bo true)]), H))
theorem s___image_rows_image_Sample___at_eq (n : Nat) (H : Heap) (fl : Nat) (a0 a1 a2 : DV) : callG Try.prog ENV (n + 1) 102 [a0, a1, a2] H fl = s___image_rows_image_Sample___at n H fl a0 a1 a2 := by kernel_rfl

/-! (*triune/image.Image).Put -/
def s___image_Image__Put_I0 (x3 x4 x5 x6 x30 x31 x32 : DV) : List DV := [.any, .any, .any, x3, x4, x5, x6, .any, .any, .any, .any, .any, .any, .any, .any, .any, .any, .any, .any, .any, .any, .any, .any, .any, .any, .any, .any, .any, .any, .any, x30, x31, x32, .any, .any, .any, .any, .any, .any, .any, .any, .any, .any, .any, .any, .any, .any, .any, .any, .any, .any, .any]
def s___image_Image__Put_O0 : List DV := [.any, .any, .any, .any, .any, .any, .any, .any, .any, .any, .any, .any, .any, .any, .any, .any, .any, .any, .any, .any, .any, .any, .any, .any, .any, .any, .any, .any, .any, .any, .any, .any, .any, .any, .any, .any, .any, .any, .any, .any, .any, .any, .any, .any, .any, .any, .any, .any, .any, .any, .any, .any]
noncomputable abbrev s___image_Image__Put_b0 (n fl : Nat) : List DV → Heap → (Ex → KF) → R := execG ⟨Try.prog, callG Try.prog ENV n, ENV.md, fl, 52⟩ n (loopAt (bodyOf Try.f73) 0) []
noncomputable def s___image_Image__Put_B0 (n fl : Nat) (rec : DV → DV → DV → DV → DV → DV → DV → Heap → R) (k : Ex → KF) (x3 x4 x5 x6 x30 x31 x32 : DV) (H : Heap) : R :=
  bi (ltK .i64 x32 x31) fun d0 =>
  condR d0 (
  bi (idxSl 1 x30 x32) fun d1 =>
  bi (loadG false 1 d1 H) fun d2 =>
  bi (loadG false 1 x5 H) fun d3 =>
  bi (loadG false 1 x6 H) fun d4 =>
  bi (nilD d3) fun d5 =>
  bi (fieldD 0 3 d5) fun d6 =>
  bi (idxArr 3 1 d6 d4) fun d7 =>
  bi (loadG false 1 d7 H) fun d8 =>
  bi (idxSl 1 x3 x32) fun d9 =>
  bi (loadG false 1 d9 H) fun d10 =>
  bi (buildS (.agg [(I .u16 0), (I .i64 0), (Bo false)]) [(0, 1), (1, 1), (2, 1)] [(0, d10), (1, x4), (2, (Bo true))]) fun d11 =>
  bi (idxSl 3 d8 d2) fun d12 =>
  bi (storeG 3 d12 d11 H fl) fun h13 =>
  bi (addK .i64 x32 (I .i64 1)) fun d14 =>
  rec x3 x4 x5 x6 x30 x31 d14 h13) (
  k (.exit 1) (s___image_Image__Put_O0 ) H)
noncomputable def s___image_Image__Put_L0 (n fl : Nat) (k : Ex → KF) : Nat → DV → DV → DV → DV → DV → DV → DV → Heap → R
  | 0, _, _, _, _, _, _, _, _ => none
  | m + 1, x3, x4, x5, x6, x30, x31, x32, H => s___image_Image__Put_B0 n fl (s___image_Image__Put_L0 n fl k m) k x3 x4 x5 x6 x30 x31 x32 H
theorem s___image_Image__Put_S0 (n fl m : Nat) (k : Ex → KF) (x3 x4 x5 x6 x30 x31 x32 : DV) (H : Heap) : loopG [3, 4, 5, 6, 30, 31, 32] [] 52 (s___image_Image__Put_b0 n fl) (m + 1) (s___image_Image__Put_I0 x3 x4 x5 x6 x30 x31 x32) H k = s___image_Image__Put_B0 n fl (fun x3 x4 x5 x6 x30 x31 x32 H => loopG [3, 4, 5, 6, 30, 31, 32] [] 52 (s___image_Image__Put_b0 n fl) m (s___image_Image__Put_I0 x3 x4 x5 x6 x30 x31 x32) H k) k x3 x4 x5 x6 x30 x31 x32 H := by kernel_rfl
theorem s___image_Image__Put_L0_eq (n fl : Nat) (k : Ex → KF) : ∀ (m : Nat) (x3 x4 x5 x6 x30 x31 x32 : DV) (H : Heap), loopG [3, 4, 5, 6, 30, 31, 32] [] 52 (s___image_Image__Put_b0 n fl) m (s___image_Image__Put_I0 x3 x4 x5 x6 x30 x31 x32) H k = s___image_Image__Put_L0 n fl k m x3 x4 x5 x6 x30 x31 x32 H := by
  intro m
  induction m with
  | zero => intros; rfl
  | succ m ih =>
    intro x3 x4 x5 x6 x30 x31 x32 H
    rw [s___image_Image__Put_S0, show (fun x3 x4 x5 x6 x30 x31 x32 H => loopG [3, 4, 5, 6, 30, 31, 32] [] 52 (s___image_Image__Put_b0 n fl) m (s___image_Image__Put_I0 x3 x4 x5 x6 x30 x31 x32) H k) = s___image_Image__Put_L0 n fl k m from by funext x3 x4 x5 x6 x30 x31 x32 H; exact ih _ _ _ _ _ _ _ _]
    rw [s___image_Image__Put_L0]
noncomputable def s___image_Image__Put (n : Nat) (H : Heap) (fl : Nat) (a0 a1 a2 a3 a4 : DV) : R :=
  bi (allocG 105 a0 (List.length H) (H ++ [.hole, .hole])) fun h0 =>
  bi (allocG 3 a1 (List.length H + 1) h0) fun h1 =>
  bi (loadG false 1 (.ptr (List.length H + 1) 0) h1) fun d2 =>
  bi (cP n 89 false [d2]) fun d3 =>
  bi (notD d3) fun d4 =>
  bi (wantF d4 false (some a2)) fun d5 =>
  bi (wantF d4 false (some (.clo (.func 101) [] [(.ptr (List.length H) 0), (.ptr (List.length H + 1) 0)]))) fun d6 =>
  bi (wantF d4 false (cO n 103 [d5, d6] h1)) fun d7 =>
  bi (pickD d4 (Bo true) d7) fun d8 =>
  condR d8 (
  some ((I .i64 5), h1)) (
   bi (lenD a2) fun d9 =>
   bi (lenD a3) fun d10 =>
   bi (neK .i64 d9 d10) fun d11 =>
   condR d11 (
  some ((I .i64 1), h1)) (
  bi (lenD a2) fun d12 =>
  loopG [3, 4, 5, 6, 30, 31, 32] [] 52 (s___image_Image__Put_b0 n fl) n (s___image_Image__Put_I0 a3 a4 (.ptr (List.length H) 0) (.ptr (List.length H + 1) 0) a2 d12 (I .i64 0)) h1 fun x S13 h13 => match x with
  | .normal => none
  | .exit i13 => (
  if i13 = 1 then (
  some ((I .i64 0), h13)) else (
  none))
  | .ret => (
  some (.any, h13))))
theorem s___image_Image__Put_eq (n : Nat) (H : Heap) (fl : Nat) (a0 a1 a2 a3 a4 : DV) : callG Try.prog ENV (n + 1) 73 [a0, a1, a2, a3, a4] H fl = s___image_Image__Put n H fl a0 a1 a2 a3 a4 := by kernel_rfl

/-! slices.ContainsFunc[[]int,int] -/
noncomputable def s_slices_ContainsFunc___int_int_ (n : Nat) (H : Heap) (fl : Nat) (a0 a1 : DV) : R :=
  bi (cO n 115 [a0, a1] H) fun d0 =>
  bi (geK .i64 d0 (I .i64 0)) fun d1 =>
  some (d1, H)
theorem s_slices_ContainsFunc___int_int__eq (n : Nat) (H : Heap) (fl : Nat) (a0 a1 : DV) : callG Try.prog ENV (n + 1) 103 [a0, a1] H fl = s_slices_ContainsFunc___int_int_ n H fl a0 a1 := by kernel_rfl

/-! slices.IndexFunc[[]int,int] -/
def s_slices_IndexFunc___int_int__I0 (x0 x1 x7 x8 : DV) : List DV := [x0, x1, .any, .any, .any, .any, .any, x7, x8, .any, .any, .any, .any, .any, .any, .any, .any, .any, .any]
def s_slices_IndexFunc___int_int__O0 (x4 : DV) : List DV := [.any, .any, .any, .any, x4, .any, .any, .any, .any, .any, .any, .any, .any, .any, .any, .any, .any, .any, .any]
noncomputable abbrev s_slices_IndexFunc___int_int__b0 (n fl : Nat) : List DV → Heap → (Ex → KF) → R := execG ⟨Try.prog, callG Try.prog ENV n, ENV.md, fl, 19⟩ n (loopAt (bodyOf Try.f115) 0) []
noncomputable def s_slices_IndexFunc___int_int__B0 (n fl : Nat) (rec : DV → DV → DV → DV → Heap → R) (k : Ex → KF) (x0 x1 x7 x8 : DV) (H : Heap) : R :=
  bi (ltK .i64 x8 x7) fun d0 =>
  condR d0 (
  bi (idxSl 1 x0 x8) fun d1 =>
  bi (loadG false 1 d1 H) fun d2 =>
  bi (cV n fl x1 [d2] H) fun p3 =>
  condR p3.1 (
  k .ret (s_slices_IndexFunc___int_int__O0 x8) p3.2) (
  bi (addK .i64 x8 (I .i64 1)) fun d4 =>
  rec x0 x1 x7 d4 p3.2)) (
  k (.exit 0) (s_slices_IndexFunc___int_int__O0 .any) H)
noncomputable def s_slices_IndexFunc___int_int__L0 (n fl : Nat) (k : Ex → KF) : Nat → DV → DV → DV → DV → Heap → R
  | 0, _, _, _, _, _ => none
  | m + 1, x0, x1, x7, x8, H => s_slices_IndexFunc___int_int__B0 n fl (s_slices_IndexFunc___int_int__L0 n fl k m) k x0 x1 x7 x8 H
theorem s_slices_IndexFunc___int_int__S0 (n fl m : Nat) (k : Ex → KF) (x0 x1 x7 x8 : DV) (H : Heap) : loopG [0, 1, 7, 8] [4] 19 (s_slices_IndexFunc___int_int__b0 n fl) (m + 1) (s_slices_IndexFunc___int_int__I0 x0 x1 x7 x8) H k = s_slices_IndexFunc___int_int__B0 n fl (fun x0 x1 x7 x8 H => loopG [0, 1, 7, 8] [4] 19 (s_slices_IndexFunc___int_int__b0 n fl) m (s_slices_IndexFunc___int_int__I0 x0 x1 x7 x8) H k) k x0 x1 x7 x8 H := by kernel_rfl
theorem s_slices_IndexFunc___int_int__L0_eq (n fl : Nat) (k : Ex → KF) : ∀ (m : Nat) (x0 x1 x7 x8 : DV) (H : Heap), loopG [0, 1, 7, 8] [4] 19 (s_slices_IndexFunc___int_int__b0 n fl) m (s_slices_IndexFunc___int_int__I0 x0 x1 x7 x8) H k = s_slices_IndexFunc___int_int__L0 n fl k m x0 x1 x7 x8 H := by
  intro m
  induction m with
  | zero => intros; rfl
  | succ m ih =>
    intro x0 x1 x7 x8 H
    rw [s_slices_IndexFunc___int_int__S0, show (fun x0 x1 x7 x8 H => loopG [0, 1, 7, 8] [4] 19 (s_slices_IndexFunc___int_int__b0 n fl) m (s_slices_IndexFunc___int_int__I0 x0 x1 x7 x8) H k) = s_slices_IndexFunc___int_int__L0 n fl k m from by funext x0 x1 x7 x8 H; exact ih _ _ _ _ _]
    rw [s_slices_IndexFunc___int_int__L0]
noncomputable def s_slices_IndexFunc___int_int_ (n : Nat) (H : Heap) (fl : Nat) (a0 a1 : DV) : R :=
  bi (lenD a0) fun d0 =>
  loopG [0, 1, 7, 8] [4] 19 (s_slices_IndexFunc___int_int__b0 n fl) n (s_slices_IndexFunc___int_int__I0 a0 a1 d0 (I .i64 0)) H fun x S1 h1 => match x with
  | .normal => none
  | .exit i1 => (
  if i1 = 0 then (
  some ((I .i64 (-1)), h1)) else (
  none))
  | .ret => (
  some ((S1.getD 4 .any), h1))
theorem s_slices_IndexFunc___int_int__eq (n : Nat) (H : Heap) (fl : Nat) (a0 a1 : DV) : callG Try.prog ENV (n + 1) 115 [a0, a1] H fl = s_slices_IndexFunc___int_int_ n H fl a0 a1 := by kernel_rfl

/-! (triune/image.Sample).of -/
noncomputable def s__image_Sample__of (n : Nat) (H : Heap) (fl : Nat) (a0 a1 : DV) : R :=
  bi (allocG 182 a0 (List.length H) (H ++ [.hole])) fun h0 =>
  bi (loadG true 3 (.ptr (List.length H) 0) h0) fun d1 =>
  bi (loadG false 1 (.ptr (List.length H) 0) h0) fun d2 =>
  bi (buildS (.agg [(I .u16 0), (I .i64 0), (Bo false)]) [(0, 1), (1, 1), (2, 1)] [(0, d2), (1, a1), (2, (Bo true))]) fun d3 =>
  bi (binD Try.prog .eql 182 (.tmp 5) (.tmp 9) d1 d3) fun d4 =>
  some (d4, h0)
theorem s__image_Sample__of_eq (n : Nat) (H : Heap) (fl : Nat) (a0 a1 : DV) : callG Try.prog ENV (n + 1) 92 [a0, a1] H fl = s__image_Sample__of n H fl a0 a1 := by kernel_rfl

/-! (*triune/image.Image).Fresh -/
def s___image_Image__Fresh_I0 (x0 x1 x2 x7 x10 x11 x15 : DV) : List DV := [x0, x1, x2, .any, .any, .any, .any, x7, .any, .any, x10, x11, .any, .any, .any, x15, .any, .any, .any, .any, .any, .any, .any, .any, .any, .any, .any, .any, .any, .any, .any, .any, .any, .any, .any, .any, .any, .any, .any, .any, .any, .any, .any, .any, .any, .any, .any, .any, .any, .any, .any, .any, .any, .any]
def s___image_Image__Fresh_O0 (x10 x11 : DV) : List DV := [.any, .any, .any, .any, .any, .any, .any, .any, .any, .any, x10, x11, .any, .any, .any, .any, .any, .any, .any, .any, .any, .any, .any, .any, .any, .any, .any, .any, .any, .any, .any, .any, .any, .any, .any, .any, .any, .any, .any, .any, .any, .any, .any, .any, .any, .any, .any, .any, .any, .any, .any, .any, .any, .any]
noncomputable abbrev s___image_Image__Fresh_b0 (n fl : Nat) : List DV → Heap → (Ex → KF) → R := execG ⟨Try.prog, callG Try.prog ENV n, ENV.md, fl, 54⟩ n (loopAt (bodyOf Try.f105) 0) []
noncomputable def s___image_Image__Fresh_B0 (n fl : Nat) (rec : DV → DV → DV → DV → DV → DV → DV → Heap → R) (k : Ex → KF) (x0 x1 x2 x7 x10 x11 x15 : DV) (H : Heap) : R :=
  bi (ltK .i64 x15 (I .i64 3)) fun d0 =>
  condR d0 (
  bi (nilD x0) fun d1 =>
  bi (fieldD 0 3 d1) fun d2 =>
  bi (cO n 102 [d2, x15, x1] H) fun d3 =>
  bi (extD 0 d3) fun d4 =>
  bi (extD 1 d3) fun d5 =>
  bi (wantF d5 true (some x15)) fun d6 =>
  bi (wantF d5 true (idxArr 3 1 x7 d6)) fun d7 =>
  bi (wantF d5 true (loadG false 1 d7 H)) fun d8 =>
  bi (pickD d5 d8 (Bo false)) fun d9 =>
  bi (wantF d9 true (some d4)) fun d10 =>
  bi (wantF d9 true (nilD d10)) fun d11 =>
  bi (wantF d9 true (loadG true 3 d11 H)) fun d12 =>
  bi (wantF d9 true (some x2)) fun d13 =>
  bi (wantF d9 true (cP n 92 false [d12, d13])) fun d14 =>
  bi (pickD d9 d14 (Bo false)) fun d15 =>
  condR d15 (
   bi (nilD d4) fun d16 =>
   bi (fieldD 0 1 d16) fun d17 =>
   bi (loadG false 1 d17 H) fun d18 =>
   bi (buildL false 1 1 (I .u16 0) [(0, d18)]) fun d19 =>
   bi (appG 75 false 1 2 x10 d19 H fl) fun p20 =>
   bi (buildL false 1 1 (I .i64 0) [(0, x15)]) fun d21 =>
   bi (appG 3 false 1 8 x11 d21 p20.2 fl) fun p22 =>
  bi (addK .i64 x15 (I .i64 1)) fun d23 =>
  rec x0 x1 x2 x7 p20.1 p22.1 d23 p22.2) (
  bi (addK .i64 x15 (I .i64 1)) fun d24 =>
  rec x0 x1 x2 x7 x10 x11 d24 H)) (
  k (.exit 0) (s___image_Image__Fresh_O0 x10 x11) H)
noncomputable def s___image_Image__Fresh_L0 (n fl : Nat) (k : Ex → KF) : Nat → DV → DV → DV → DV → DV → DV → DV → Heap → R
  | 0, _, _, _, _, _, _, _, _ => none
  | m + 1, x0, x1, x2, x7, x10, x11, x15, H => s___image_Image__Fresh_B0 n fl (s___image_Image__Fresh_L0 n fl k m) k x0 x1 x2 x7 x10 x11 x15 H
theorem s___image_Image__Fresh_S0 (n fl m : Nat) (k : Ex → KF) (x0 x1 x2 x7 x10 x11 x15 : DV) (H : Heap) : loopG [0, 1, 2, 7, 10, 11, 15] [10, 11] 54 (s___image_Image__Fresh_b0 n fl) (m + 1) (s___image_Image__Fresh_I0 x0 x1 x2 x7 x10 x11 x15) H k = s___image_Image__Fresh_B0 n fl (fun x0 x1 x2 x7 x10 x11 x15 H => loopG [0, 1, 2, 7, 10, 11, 15] [10, 11] 54 (s___image_Image__Fresh_b0 n fl) m (s___image_Image__Fresh_I0 x0 x1 x2 x7 x10 x11 x15) H k) k x0 x1 x2 x7 x10 x11 x15 H := by kernel_rfl
theorem s___image_Image__Fresh_L0_eq (n fl : Nat) (k : Ex → KF) : ∀ (m : Nat) (x0 x1 x2 x7 x10 x11 x15 : DV) (H : Heap), loopG [0, 1, 2, 7, 10, 11, 15] [10, 11] 54 (s___image_Image__Fresh_b0 n fl) m (s___image_Image__Fresh_I0 x0 x1 x2 x7 x10 x11 x15) H k = s___image_Image__Fresh_L0 n fl k m x0 x1 x2 x7 x10 x11 x15 H := by
  intro m
  induction m with
  | zero => intros; rfl
  | succ m ih =>
    intro x0 x1 x2 x7 x10 x11 x15 H
    rw [s___image_Image__Fresh_S0, show (fun x0 x1 x2 x7 x10 x11 x15 H => loopG [0, 1, 2, 7, 10, 11, 15] [10, 11] 54 (s___image_Image__Fresh_b0 n fl) m (s___image_Image__Fresh_I0 x0 x1 x2 x7 x10 x11 x15) H k) = s___image_Image__Fresh_L0 n fl k m from by funext x0 x1 x2 x7 x10 x11 x15 H; exact ih _ _ _ _ _ _ _ _]
    rw [s___image_Image__Fresh_L0]
noncomputable def s___image_Image__Fresh (n : Nat) (H : Heap) (fl : Nat) (a0 a1 a2 a3 : DV) : R :=
  bi (allocG 52 a3 (List.length H) (H ++ [.hole])) fun h0 =>
  loopG [0, 1, 2, 7, 10, 11, 15] [10, 11] 54 (s___image_Image__Fresh_b0 n fl) n (s___image_Image__Fresh_I0 a0 a1 a2 (.ptr (List.length H) 0) (.list 0 [] .ti) (.list 0 [] .ti) (I .i64 0)) h0 fun x S1 h1 => match x with
  | .normal => none
  | .exit i1 => (
  if i1 = 0 then (
  some ((.tup [(S1.getD 10 .any), (S1.getD 11 .any)]), h1)) else (
  none))
  | .ret => (
  some ((.tup [.any, .any]), h1))
theorem s___image_Image__Fresh_eq (n : Nat) (H : Heap) (fl : Nat) (a0 a1 a2 a3 : DV) : callG Try.prog ENV (n + 1) 105 [a0, a1, a2, a3] H fl = s___image_Image__Fresh n H fl a0 a1 a2 a3 := by kernel_rfl

/-! (*triune/image.Image).Whole -/
noncomputable def s___image_Image__Whole (n : Nat) (H : Heap) (fl : Nat) (a0 a1 a2 : DV) : R :=
  bi (allocG 3 a2 (List.length H) (H ++ [.hole])) fun h0 =>
  bi (cP n 89 false [a1]) fun d1 =>
  bi (wantF d1 true (some a0)) fun d2 =>
  bi (wantF d1 true (some a1)) fun d3 =>
  bi (wantF d1 true (nilD d2)) fun d4 =>
  bi (wantF d1 true (fieldD 0 3 d4)) fun d5 =>
  bi (wantF d1 true (idxArr 3 1 d5 d3)) fun d6 =>
  bi (wantF d1 true (loadG false 1 d6 h0)) fun d7 =>
  bi (wantF d1 true (some (.clo (.func 91) [] [(.ptr (List.length H) 0)]))) fun d8 =>
  bi (wantF d1 true (cO n 90 [d7, d8] h0)) fun d9 =>
  bi (wantF d1 true (notD d9)) fun d10 =>
  bi (pickD d1 d10 (Bo false)) fun d11 =>
  some (d11, h0)
theorem s___image_Image__Whole_eq (n : Nat) (H : Heap) (fl : Nat) (a0 a1 a2 : DV) : callG Try.prog ENV (n + 1) 53 [a0, a1, a2] H fl = s___image_Image__Whole n H fl a0 a1 a2 := by kernel_rfl

/-! (*triune/image.Image).Whole$1 -/
noncomputable def s___image_Image__Whole_1 (n : Nat) (H : Heap) (fl : Nat) (a0 a1 : DV) : R :=
  bi (allocG 182 a0 (List.length H) (H ++ [.hole])) fun h0 =>
  bi (loadG true 3 (.ptr (List.length H) 0) h0) fun d1 =>
  bi (loadG false 1 a1 h0) fun d2 =>
  bi (cP n 92 false [d1, d2]) fun d3 =>
  bi (notD d3) fun d4 =>
  some (d4, h0)
theorem s___image_Image__Whole_1_eq (n : Nat) (H : Heap) (fl : Nat) (a0 a1 : DV) : callG Try.prog ENV (n + 1) 91 [a0, a1] H fl = s___image_Image__Whole_1 n H fl a0 a1 := by kernel_rfl

/-! slices.ContainsFunc[[]triune/image.Sample,triune/image.Sample] -/
noncomputable def s_slices_ContainsFunc___image_Sample_image_Sample_ (n : Nat) (H : Heap) (fl : Nat) (a0 a1 : DV) : R :=
  bi (cO n 110 [a0, a1] H) fun d0 =>
  bi (geK .i64 d0 (I .i64 0)) fun d1 =>
  some (d1, H)
theorem s_slices_ContainsFunc___image_Sample_image_Sample__eq (n : Nat) (H : Heap) (fl : Nat) (a0 a1 : DV) : callG Try.prog ENV (n + 1) 90 [a0, a1] H fl = s_slices_ContainsFunc___image_Sample_image_Sample_ n H fl a0 a1 := by kernel_rfl

/-! slices.IndexFunc[[]triune/image.Sample,triune/image.Sample] -/
def s_slices_IndexFunc___image_Sample_image_Sample__I0 (x0 x1 x7 x8 : DV) : List DV := [x0, x1, .any, .any, .any, .any, .any, x7, x8, .any, .any, .any, .any, .any, .any, .any, .any, .any, .any]
def s_slices_IndexFunc___image_Sample_image_Sample__O0 (x4 : DV) : List DV := [.any, .any, .any, .any, x4, .any, .any, .any, .any, .any, .any, .any, .any, .any, .any, .any, .any, .any, .any]
noncomputable abbrev s_slices_IndexFunc___image_Sample_image_Sample__b0 (n fl : Nat) : List DV → Heap → (Ex → KF) → R := execG ⟨Try.prog, callG Try.prog ENV n, ENV.md, fl, 19⟩ n (loopAt (bodyOf Try.f110) 0) []
noncomputable def s_slices_IndexFunc___image_Sample_image_Sample__B0 (n fl : Nat) (rec : DV → DV → DV → DV → Heap → R) (k : Ex → KF) (x0 x1 x7 x8 : DV) (H : Heap) : R :=
  bi (ltK .i64 x8 x7) fun d0 =>
  condR d0 (
  bi (idxSl 3 x0 x8) fun d1 =>
  bi (loadG true 3 d1 H) fun d2 =>
  bi (cV n fl x1 [d2] H) fun p3 =>
  condR p3.1 (
  k .ret (s_slices_IndexFunc___image_Sample_image_Sample__O0 x8) p3.2) (
  bi (addK .i64 x8 (I .i64 1)) fun d4 =>
  rec x0 x1 x7 d4 p3.2)) (
  k (.exit 0) (s_slices_IndexFunc___image_Sample_image_Sample__O0 .any) H)
noncomputable def s_slices_IndexFunc___image_Sample_image_Sample__L0 (n fl : Nat) (k : Ex → KF) : Nat → DV → DV → DV → DV → Heap → R
  | 0, _, _, _, _, _ => none
  | m + 1, x0, x1, x7, x8, H => s_slices_IndexFunc___image_Sample_image_Sample__B0 n fl (s_slices_IndexFunc___image_Sample_image_Sample__L0 n fl k m) k x0 x1 x7 x8 H
theorem s_slices_IndexFunc___image_Sample_image_Sample__S0 (n fl m : Nat) (k : Ex → KF) (x0 x1 x7 x8 : DV) (H : Heap) : loopG [0, 1, 7, 8] [4] 19 (s_slices_IndexFunc___image_Sample_image_Sample__b0 n fl) (m + 1) (s_slices_IndexFunc___image_Sample_image_Sample__I0 x0 x1 x7 x8) H k = s_slices_IndexFunc___image_Sample_image_Sample__B0 n fl (fun x0 x1 x7 x8 H => loopG [0, 1, 7, 8] [4] 19 (s_slices_IndexFunc___image_Sample_image_Sample__b0 n fl) m (s_slices_IndexFunc___image_Sample_image_Sample__I0 x0 x1 x7 x8) H k) k x0 x1 x7 x8 H := by kernel_rfl
theorem s_slices_IndexFunc___image_Sample_image_Sample__L0_eq (n fl : Nat) (k : Ex → KF) : ∀ (m : Nat) (x0 x1 x7 x8 : DV) (H : Heap), loopG [0, 1, 7, 8] [4] 19 (s_slices_IndexFunc___image_Sample_image_Sample__b0 n fl) m (s_slices_IndexFunc___image_Sample_image_Sample__I0 x0 x1 x7 x8) H k = s_slices_IndexFunc___image_Sample_image_Sample__L0 n fl k m x0 x1 x7 x8 H := by
  intro m
  induction m with
  | zero => intros; rfl
  | succ m ih =>
    intro x0 x1 x7 x8 H
    rw [s_slices_IndexFunc___image_Sample_image_Sample__S0, show (fun x0 x1 x7 x8 H => loopG [0, 1, 7, 8] [4] 19 (s_slices_IndexFunc___image_Sample_image_Sample__b0 n fl) m (s_slices_IndexFunc___image_Sample_image_Sample__I0 x0 x1 x7 x8) H k) = s_slices_IndexFunc___image_Sample_image_Sample__L0 n fl k m from by funext x0 x1 x7 x8 H; exact ih _ _ _ _ _]
    rw [s_slices_IndexFunc___image_Sample_image_Sample__L0]
noncomputable def s_slices_IndexFunc___image_Sample_image_Sample_ (n : Nat) (H : Heap) (fl : Nat) (a0 a1 : DV) : R :=
  bi (lenD a0) fun d0 =>
  loopG [0, 1, 7, 8] [4] 19 (s_slices_IndexFunc___image_Sample_image_Sample__b0 n fl) n (s_slices_IndexFunc___image_Sample_image_Sample__I0 a0 a1 d0 (I .i64 0)) H fun x S1 h1 => match x with
  | .normal => none
  | .exit i1 => (
  if i1 = 0 then (
  some ((I .i64 (-1)), h1)) else (
  none))
  | .ret => (
  some ((S1.getD 4 .any), h1))
theorem s_slices_IndexFunc___image_Sample_image_Sample__eq (n : Nat) (H : Heap) (fl : Nat) (a0 a1 : DV) : callG Try.prog ENV (n + 1) 110 [a0, a1] H fl = s_slices_IndexFunc___image_Sample_image_Sample_ n H fl a0 a1 := by kernel_rfl

end Go.Proofs.Ytbhnkdnfmlnajaa

/- Words of the front evaluator at lists and numbers: what each operation answers. -/
namespace Go.Proofs.Ytbhnkdnfmlnajaa
open Go
set_option linter.unusedSimpArgs false

attribute [simp] bi_some bi_none
/-- a word that simp always turns, so that it never looks into what comes behind a step that is stuck -/
def mk0 (_ : Unit) : Bool := true
@[simp] theorem mk0_s : mk0 () = true := by unfold mk0; rfl
@[congr] theorem bi_congr {α β : Type} {x x' : Option α} {u : Bool} (k : α → Option β) (h : Unit → x = x') (_ : Unit → mk0 () = u) : bi x k = bi x' k := by rw [h ()]
@[congr] theorem condR_congr {d d' : DV} {u : Bool} (x y : R) (h : Unit → d = d') (_ : Unit → mk0 () = u) : condR d x y = condR d' x y := by rw [h ()]
@[congr] theorem wantF_congr {d d' : DV} {u : Bool} (w : Bool) (x : Option DV) (h : Unit → d = d') (_ : Unit → mk0 () = u) : wantF d w x = wantF d' w x := by rw [h ()]
@[congr] theorem wantH_congr {d d' : DV} {u : Bool} (w : Bool) (H : Heap) (x : Option (DV × Heap)) (h : Unit → d = d') (_ : Unit → mk0 () = u) : wantH d w H x = wantH d' w H x := by rw [h ()]
@[simp ↓] theorem condR_pos (p : Prop) [Decidable p] (x y : R) (h : p) : condR (.flat (.bool (decide p))) x y = x := by simp [h, condR]
@[simp ↓] theorem condR_neg (p : Prop) [Decidable p] (x y : R) (h : ¬p) : condR (.flat (.bool (decide p))) x y = y := by simp [h, condR]
@[simp ↓] theorem wantF_pos (p : Prop) [Decidable p] (x : Option DV) (h : p) : wantF (.flat (.bool (decide p))) true x = x := by simp [h, wantF, guardD]
@[simp ↓] theorem wantF_neg (p : Prop) [Decidable p] (x : Option DV) (h : ¬p) : wantF (.flat (.bool (decide p))) true x = some (.flat undef) := by simp [h, wantF, guardD]
@[simp ↓] theorem wantF_pos' (p : Prop) [Decidable p] (x : Option DV) (h : p) : wantF (.flat (.bool (decide p))) false x = some (.flat undef) := by simp [h, wantF, guardD]
@[simp ↓] theorem wantF_neg' (p : Prop) [Decidable p] (x : Option DV) (h : ¬p) : wantF (.flat (.bool (decide p))) false x = x := by simp [h, wantF, guardD]
@[simp] theorem pickD_pos (p : Prop) [Decidable p] (x y : DV) (h : p) : pickD (.flat (.bool (decide p))) x y = some x := by simp [pickD, h]
@[simp] theorem pickD_neg (p : Prop) [Decidable p] (x y : DV) (h : ¬p) : pickD (.flat (.bool (decide p))) x y = some y := by simp [pickD, h]
@[simp ↓] theorem wantF_n (p : Prop) [Decidable p] (w : Bool) (x : Option DV) : wantF (.flat (.bool (!decide p))) w x = wantF (.flat (.bool (decide p))) (!w) x := by
  by_cases h : p <;> cases w <;> simp [h, wantF, guardD]
@[simp ↓] theorem condR_n (p : Prop) [Decidable p] (x y : R) : condR (.flat (.bool (!decide p))) x y = condR (.flat (.bool (decide p))) y x := by
  by_cases h : p <;> simp [h, condR]
@[simp ↓] theorem condR_t (x y : R) : condR (.flat (.bool true)) x y = x := rfl
@[simp ↓] theorem condR_f (x y : R) : condR (.flat (.bool false)) x y = y := rfl
theorem condR_b (b : Bool) (x y : R) : condR (.flat (.bool b)) x y = if b = true then x else y := by cases b <;> rfl
theorem condR_d (p : Prop) [Decidable p] (x y : R) : condR (.flat (.bool (decide p))) x y = if p then x else y := by
  by_cases h : p <;> simp [h]
theorem pickD_d (p : Prop) [Decidable p] (x y : DV) : pickD (.flat (.bool (decide p))) x y = some (if p then x else y) := by
  by_cases h : p <;> simp [pickD, h]
@[simp] theorem pickD_t (x y : DV) : pickD (.flat (.bool true)) x y = some x := rfl
@[simp] theorem pickD_f (x y : DV) : pickD (.flat (.bool false)) x y = some y := rfl
@[simp ↓] theorem wantF_tt (x : Option DV) : wantF (.flat (.bool true)) true x = x := rfl
@[simp ↓] theorem wantF_ff (x : Option DV) : wantF (.flat (.bool false)) false x = x := rfl
@[simp ↓] theorem wantF_tf (x : Option DV) : wantF (.flat (.bool true)) false x = some (.flat undef) := rfl
@[simp ↓] theorem wantF_ft (x : Option DV) : wantF (.flat (.bool false)) true x = some (.flat undef) := rfl
@[simp ↓] theorem wantF_u (w : Bool) (x : Option DV) : wantF (.flat undef) w x = some (.flat undef) := rfl
@[simp ↓] theorem wantH_tt (H : Heap) (x : Option (DV × Heap)) : wantH (.flat (.bool true)) true H x = x := rfl
@[simp ↓] theorem wantH_ff (H : Heap) (x : Option (DV × Heap)) : wantH (.flat (.bool false)) false H x = x := rfl
@[simp ↓] theorem wantH_tf (H : Heap) (x : Option (DV × Heap)) : wantH (.flat (.bool true)) false H x = some (.flat undef, H) := rfl
@[simp ↓] theorem wantH_ft (H : Heap) (x : Option (DV × Heap)) : wantH (.flat (.bool false)) true H x = some (.flat undef, H) := rfl
@[simp ↓] theorem wantH_u (w : Bool) (H : Heap) (x : Option (DV × Heap)) : wantH (.flat undef) w H x = some (.flat undef, H) := rfl
@[simp] theorem notD_b (b : Bool) : notD (.flat (.bool b)) = some (.flat (.bool (!b))) := rfl
@[simp] theorem eqB_b (a b : Bool) : eqB (.flat (.bool a)) (.flat (.bool b)) = some (.flat (.bool (a == b))) := rfl
@[simp] theorem neB_b (a b : Bool) : neB (.flat (.bool a)) (.flat (.bool b)) = some (.flat (.bool (a != b))) := rfl
@[simp] theorem addK_i (k : IntKind) (x y : Int) : addK k (.flat (.int k x)) (.flat (.int k y)) = some (.flat (.int k (k.wrap (x + y)))) := by simp [addK, arI]
@[simp] theorem subK_i (k : IntKind) (x y : Int) : subK k (.flat (.int k x)) (.flat (.int k y)) = some (.flat (.int k (k.wrap (x - y)))) := by simp [subK, arI]
@[simp] theorem mulK_i (k : IntKind) (x y : Int) : mulK k (.flat (.int k x)) (.flat (.int k y)) = some (.flat (.int k (k.wrap (x * y)))) := by simp [mulK, arI]
def andI (k : IntKind) (x y : Int) : Int := k.wrap (BitVec.ofInt k.bits x &&& BitVec.ofInt k.bits y).toNat
def orI (k : IntKind) (x y : Int) : Int := k.wrap (BitVec.ofInt k.bits x ||| BitVec.ofInt k.bits y).toNat
def xorI (k : IntKind) (x y : Int) : Int := k.wrap (BitVec.ofInt k.bits x ^^^ BitVec.ofInt k.bits y).toNat
def andNotI (k : IntKind) (x y : Int) : Int := k.wrap (BitVec.ofInt k.bits x &&& ~~~BitVec.ofInt k.bits y).toNat
def shlI (k : IntKind) (x y : Int) : Int := k.wrap (x * 2 ^ (min y.toNat k.bits))
def shrI (k : IntKind) (x y : Int) : Int := x.fdiv (2 ^ (min y.toNat k.bits))
@[simp] theorem andK_i (k : IntKind) (x y : Int) : andK k (.flat (.int k x)) (.flat (.int k y)) = some (.flat (.int k (andI k x y))) := by simp [andK, arI, andI]
@[simp] theorem orK_i (k : IntKind) (x y : Int) : orK k (.flat (.int k x)) (.flat (.int k y)) = some (.flat (.int k (orI k x y))) := by simp [orK, arI, orI]
@[simp] theorem xorK_i (k : IntKind) (x y : Int) : xorK k (.flat (.int k x)) (.flat (.int k y)) = some (.flat (.int k (xorI k x y))) := by simp [xorK, arI, xorI]
@[simp] theorem andNotK_i (k : IntKind) (x y : Int) : andNotK k (.flat (.int k x)) (.flat (.int k y)) = some (.flat (.int k (andNotI k x y))) := by simp [andNotK, arI, andNotI]
@[simp] theorem quoK_i (k : IntKind) (x y : Int) (h : y ≠ 0) : quoK k (.flat (.int k x)) (.flat (.int k y)) = some (.flat (.int k (k.wrap (x.tdiv y)))) := by simp [quoK, divI, h]
@[simp] theorem remK_i (k : IntKind) (x y : Int) (h : y ≠ 0) : remK k (.flat (.int k x)) (.flat (.int k y)) = some (.flat (.int k (x.tmod y))) := by simp [remK, divI, h]
@[simp] theorem shlK_i (k k2 : IntKind) (x y : Int) (h : 0 ≤ y) : shlK k (.flat (.int k x)) (.flat (.int k2 y)) = some (.flat (.int k (shlI k x y))) := by simp [shlK, shI, h, shlI]
@[simp] theorem shrK_i (k k2 : IntKind) (x y : Int) (h : 0 ≤ y) : shrK k (.flat (.int k x)) (.flat (.int k2 y)) = some (.flat (.int k (shrI k x y))) := by simp [shrK, shI, h, shrI]
@[simp] theorem eqK_i (k : IntKind) (x y : Int) : eqK k (.flat (.int k x)) (.flat (.int k y)) = some (.flat (.bool (decide (x = y)))) := by simp [eqK, cmI]; rfl
@[simp] theorem neK_i (k : IntKind) (x y : Int) : neK k (.flat (.int k x)) (.flat (.int k y)) = some (.flat (.bool (decide (¬ x = y)))) := by
  simp only [neK, cmI, and_self, if_true, bne]
  by_cases h : x = y <;> simp [h]
@[simp] theorem ltK_i (k : IntKind) (x y : Int) : ltK k (.flat (.int k x)) (.flat (.int k y)) = some (.flat (.bool (decide (x < y)))) := by simp [ltK, cmI]
@[simp] theorem leK_i (k : IntKind) (x y : Int) : leK k (.flat (.int k x)) (.flat (.int k y)) = some (.flat (.bool (decide (x ≤ y)))) := by simp [leK, cmI]
@[simp] theorem gtK_i (k : IntKind) (x y : Int) : gtK k (.flat (.int k x)) (.flat (.int k y)) = some (.flat (.bool (decide (y < x)))) := by simp [gtK, cmI]
@[simp] theorem geK_i (k : IntKind) (x y : Int) : geK k (.flat (.int k x)) (.flat (.int k y)) = some (.flat (.bool (decide (y ≤ x)))) := by simp [geK, cmI]
@[simp] theorem cvK_i (k k2 : IntKind) (x : Int) : cvK k (.flat (.int k2 x)) = some (.flat (.int k (k.wrap x))) := rfl
@[simp] theorem maxI_i (k : IntKind) (x y : Int) : maxI (.flat (.int k x)) (.flat (.int k y)) = some (.flat (.int k (max x y))) := rfl
@[simp] theorem minI_i (k : IntKind) (x y : Int) : minI (.flat (.int k x)) (.flat (.int k y)) = some (.flat (.int k (min x y))) := rfl
theorem wrap_i64 (x : Int) (h0 : -9223372036854775808 ≤ x) (h1 : x < 9223372036854775808) : IntKind.wrap .i64 x = x := by
  unfold IntKind.wrap
  have hb : (2 : Int) ^ IntKind.i64.bits = 18446744073709551616 := rfl
  have hb2 : (2 : Int) ^ (IntKind.i64.bits - 1) = 9223372036854775808 := rfl
  have hs : IntKind.i64.signed = true := rfl
  simp only [hb, hb2, hs, Bool.true_and, decide_eq_true_eq]
  split <;> omega
theorem wrap_u8 (x : Int) : IntKind.wrap .u8 x = x % 256 := rfl
theorem wrap_u16 (x : Int) : IntKind.wrap .u16 x = x % 65536 := rfl
theorem wrap_u8_id (x : Int) (h0 : 0 ≤ x) (h1 : x < 256) : IntKind.wrap .u8 x = x := by rw [wrap_u8]; omega
theorem wrap_u16_id (x : Int) (h0 : 0 ≤ x) (h1 : x < 65536) : IntKind.wrap .u16 x = x := by rw [wrap_u16]; omega
theorem shrI_w8 (x : Int) : shrI .u16 x 8 = x / 256 := by
  unfold shrI
  have : (2 : Int) ^ min (8 : Int).toNat IntKind.u16.bits = 256 := rfl
  rw [this, Int.fdiv_eq_ediv_of_nonneg _ (by omega)]
theorem shlI_w8 (x : Int) (h0 : 0 ≤ x) (h1 : x < 256) : shlI .u16 x 8 = 256 * x := by
  unfold shlI
  have : (2 : Int) ^ min (8 : Int).toNat IntKind.u16.bits = 256 := rfl
  rw [this, wrap_u16]; omega
theorem orI_nat (k : IntKind) (a b : Nat) (hk : k.signed = false) (ha : a < 2 ^ k.bits) (hb : b < 2 ^ k.bits) : orI k a b = ((a ||| b : Nat) : Int) := by
  unfold orI IntKind.wrap
  have h : a ||| b < 2 ^ k.bits := Nat.or_lt_two_pow ha hb
  simp only [hk, Bool.false_and, Bool.false_eq_true, if_false]
  rw [BitVec.toNat_or, BitVec.toNat_ofInt, BitVec.toNat_ofInt]
  have e1 : ((a : Int) % ((2 ^ k.bits : Nat) : Int)).toNat = a := by rw [Int.emod_eq_of_lt (by omega) (by exact_mod_cast ha)]; simp
  have e2 : ((b : Int) % ((2 ^ k.bits : Nat) : Int)).toNat = b := by rw [Int.emod_eq_of_lt (by omega) (by exact_mod_cast hb)]; simp
  rw [e1, e2]
  have : (2 : Int) ^ k.bits = ((2 ^ k.bits : Nat) : Int) := by simp
  rw [this]
  exact Int.emod_eq_of_lt (by omega) (by exact_mod_cast h)
theorem orI_add (k : IntKind) (n : Nat) (a b : Int) (hk : k.signed = false) (ha : 0 ≤ a) (hb : 0 ≤ b) (hbn : b < 2 ^ n) (h : 2 ^ n * a < 2 ^ k.bits) (hn : n ≤ k.bits) : orI k (2 ^ n * a) b = 2 ^ n * a + b := by
  obtain ⟨a, rfl⟩ := Int.eq_ofNat_of_zero_le ha
  obtain ⟨b, rfl⟩ := Int.eq_ofNat_of_zero_le hb
  have hb' : b < 2 ^ n := by exact_mod_cast hbn
  have h' : 2 ^ n * a < 2 ^ k.bits := by exact_mod_cast h
  have e : (2 : Int) ^ n * (a : Int) = ((2 ^ n * a : Nat) : Int) := by simp
  rw [e, orI_nat k _ _ hk h' (Nat.lt_of_lt_of_le hb' (Nat.pow_le_pow_right (by omega) hn)), ← Nat.two_pow_add_eq_or_of_lt hb' a]
  simp
theorem orI_w8 (a b : Int) (h0 : 0 ≤ a) (h1 : a < 256) (h2 : 0 ≤ b) (h3 : b < 256) : orI .u16 (256 * a) b = 256 * a + b :=
  orI_add .u16 8 a b rfl h0 h2 (by omega) (by show 256 * a < 65536; omega) (by decide)
theorem andI_i64 (a b : Nat) (ha : a < 9223372036854775808) (hb : b < 9223372036854775808) : andI .i64 a b = ((a &&& b : Nat) : Int) := by
  unfold andI
  have h : a &&& b ≤ a := Nat.and_le_left
  rw [BitVec.toNat_and, BitVec.toNat_ofInt, BitVec.toNat_ofInt]
  have e1 : ((a : Int) % ((2 ^ IntKind.i64.bits : Nat) : Int)).toNat = a := by
    have : ((2 ^ IntKind.i64.bits : Nat) : Int) = 18446744073709551616 := rfl
    rw [this]; omega
  have e2 : ((b : Int) % ((2 ^ IntKind.i64.bits : Nat) : Int)).toNat = b := by
    have : ((2 ^ IntKind.i64.bits : Nat) : Int) = 18446744073709551616 := rfl
    rw [this]; omega
  rw [e1, e2, wrap_i64 _ (by omega) (by omega)]
theorem andI_one (a : Nat) (ha : a < 9223372036854775808) : andI .i64 a 1 = ((a % 2 : Nat) : Int) := by
  have := andI_i64 a 1 ha (by omega)
  rw [Nat.and_one_is_mod] at this
  exact this
theorem tdiv_pos (x y : Int) (h : 0 ≤ x) : x.tdiv y = x / y := Int.tdiv_eq_ediv_of_nonneg h
theorem tmod_pos (x y : Int) (h : 0 ≤ x) : x.tmod y = x % y := Int.tmod_eq_emod_of_nonneg h
@[simp] theorem extD_0 (a : DV) (l : List DV) : extD 0 (.tup (a :: l)) = some a := rfl
@[simp] theorem extD_1 (a b : DV) (l : List DV) : extD 1 (.tup (a :: b :: l)) = some b := rfl
@[simp] theorem extD_2 (a b c : DV) (l : List DV) : extD 2 (.tup (a :: b :: c :: l)) = some c := rfl

/-! lists -/
def LV {α : Type} (sz : Nat) (enc : α → DV) (l : List α) (t : Tag) : DV := mkl sz (l.map enc) t
theorem LV_nil {α : Type} (sz : Nat) (enc : α → DV) (t : Tag) : DV.list 0 [] t = LV sz enc [] t := rfl
theorem LV_cons {α : Type} (sz : Nat) (enc : α → DV) (a : α) (l : List α) (t : Tag) : LV sz enc (a :: l) t = .list sz (enc a :: l.map enc) t := rfl
@[simp] theorem lenD_LV {α : Type} (sz : Nat) (enc : α → DV) (l : List α) (t : Tag) : lenD (LV sz enc l t) = some (.flat (.int .i64 l.length)) := by
  cases l <;> simp [LV, mkl, lenD]
@[simp] theorem lenD_nil (t : Tag) : lenD (.list 0 [] t) = some (.flat (.int .i64 0)) := rfl
@[simp] theorem LV_cells {α : Type} (sz : Nat) (enc : α → DV) (l : List α) (t : Tag) : (LV sz enc l t).cells = [LV sz enc l t] := by cases l <;> rfl
@[simp] theorem LV_leaf {α : Type} (sz : Nat) (enc : α → DV) (l : List α) (t : Tag) : (LV sz enc l t).leaf = true := by cases l <;> rfl
@[simp] theorem idxSl_LV {α : Type} (sz : Nat) (enc : α → DV) (l : List α) (t : Tag) (k : IntKind) (i : Int) (h0 : 0 ≤ i) (h1 : i.toNat < l.length) :
    idxSl sz (LV sz enc l t) (.flat (.int k i)) = some (.elem (enc (l[i.toNat]'h1)) 0) := by
  cases l with
  | nil => simp at h1
  | cons a l =>
    rw [LV_cons]
    simp only [idxSl, intD, h0, if_true]
    rw [← List.map_cons, List.getElem?_map, List.getElem?_eq_getElem h1]
    rfl
@[simp] theorem loadG_elem (ag : Bool) (sz : Nat) (x : DV) (off : Nat) (H : Heap) : loadG ag sz (.elem x off) H = partD ag sz off x.cells := rfl
@[simp] theorem loadE_elem (ag : Bool) (sz : Nat) (x : DV) (off : Nat) : loadE ag sz (.elem x off) = partD ag sz off x.cells := rfl
@[simp] theorem partD_flat (v : Value) : partD false 1 0 [.flat v] = some (.flat v) := rfl
@[simp] theorem cells_flat (v : Value) : (DV.flat v).cells = [.flat v] := rfl
@[simp] theorem cells_agg (l : List DV) : (DV.agg l).cells = l := rfl
def slT (t : Tag) (full : Bool) : Tag := if full ∧ t = .ti then .ti else .sh
@[simp] theorem slT_sh (b : Bool) : slT .sh b = .sh := by simp [slT]
theorem mkl_drop {α : Type} (sz : Nat) (enc : α → DV) (l : List α) (a b : Nat) (t : Tag) : mkl sz (((l.map enc).take b).drop a) t = LV sz enc ((l.take b).drop a) t := by
  rw [← List.map_take, ← List.map_drop]; rfl
theorem LV_list {α : Type} (sz : Nat) (enc : α → DV) (l : List α) (t : Tag) : ∃ s, LV sz enc l t = .list s (l.map enc) t ∧ ((l.map enc).isEmpty || s == sz) = true := by
  cases l with
  | nil => exact ⟨0, rfl, rfl⟩
  | cons a l => exact ⟨sz, rfl, by simp⟩
theorem slX_gen {α : Type} (sz : Nat) (enc : α → DV) (l : List α) (t : Tag) (lo hi mx : Option DV) (a b m : Option Int) (ha : optD lo = some a) (hb : optD hi = some b) (hm : optD mx = some m) :
    slX sz (LV sz enc l t) lo hi mx = sliceL sz (l.map enc) t a b m := by
  obtain ⟨s, h1, h2⟩ := LV_list sz enc l t
  simp only [slX, ha, hb, hm, h1, sliceSl, h2, if_true]
@[simp] theorem slX_ab {α : Type} (sz : Nat) (enc : α → DV) (l : List α) (t : Tag) (k1 k2 : IntKind) (a b : Int) (h0 : 0 ≤ a) (h1 : a ≤ b) (h2 : b ≤ l.length) :
    slX sz (LV sz enc l t) (some (.flat (.int k1 a))) (some (.flat (.int k2 b))) none = some (LV sz enc ((l.take b.toNat).drop a.toNat) (slT t (b.toNat == l.length))) := by
  rw [slX_gen sz enc l t _ _ _ (some a) (some b) none rfl rfl rfl]
  simp only [sliceL, boundsD, List.length_map, Option.getD_some, Option.getD_none, h0, h1, h2, Option.isNone_none, true_or, or_true, and_true, true_and, Int.le_refl, if_true, Option.isSome_none, Bool.false_eq_true, false_and, if_false]
  rw [mkl_drop]
  simp only [slT, beq_iff_eq]
@[simp] theorem slX_a {α : Type} (sz : Nat) (enc : α → DV) (l : List α) (t : Tag) (k1 : IntKind) (a : Int) (h0 : 0 ≤ a) (h1 : a ≤ l.length) :
    slX sz (LV sz enc l t) (some (.flat (.int k1 a))) none none = some (LV sz enc (l.drop a.toNat) (slT t true)) := by
  rw [slX_gen sz enc l t _ _ _ (some a) none none rfl rfl rfl]
  simp only [sliceL, boundsD, List.length_map, Option.getD_some, Option.getD_none, h0, h1, Option.isNone_none, true_or, or_true, and_true, true_and, Int.le_refl, if_true, Option.isSome_none, Bool.false_eq_true, false_and, if_false, Int.toNat_natCast]
  rw [mkl_drop, List.take_length]
  simp only [slT, true_and]
@[simp] theorem slX_b {α : Type} (sz : Nat) (enc : α → DV) (l : List α) (t : Tag) (k2 : IntKind) (b : Int) (h1 : 0 ≤ b) (h2 : b ≤ l.length) :
    slX sz (LV sz enc l t) none (some (.flat (.int k2 b))) none = some (LV sz enc (l.take b.toNat) (slT t (b.toNat == l.length))) := by
  rw [slX_gen sz enc l t _ _ _ none (some b) none rfl rfl rfl]
  simp only [sliceL, boundsD, List.length_map, Option.getD_some, Option.getD_none, h1, h2, Option.isNone_none, true_or, or_true, and_true, true_and, Int.le_refl, if_true, Option.isSome_none, Bool.false_eq_true, false_and, if_false]
  rw [mkl_drop]
  simp only [slT, beq_iff_eq, Int.toNat_zero, List.drop_zero]
@[simp] theorem slX_bm {α : Type} (sz : Nat) (enc : α → DV) (l : List α) (t : Tag) (k2 k3 : IntKind) (b : Int) (h1 : 0 ≤ b) (h2 : b ≤ l.length) :
    slX sz (LV sz enc l t) none (some (.flat (.int k2 b))) (some (.flat (.int k3 b))) = some (LV sz enc (l.take b.toNat) .ti) := by
  rw [slX_gen sz enc l t _ _ _ none (some b) (some b) rfl rfl rfl]
  simp only [sliceL, boundsD, List.length_map, Option.getD_some, Option.getD_none, h1, h2, or_true, and_true, true_and, Int.le_refl, if_true, Option.isSome_some]
  rw [mkl_drop]
  simp only [Int.toNat_zero, List.drop_zero]
theorem appG_ti {α : Type} {e : TypeId} {ag : Bool} {sz by_ : Nat} {enc : α → DV} {xs ys : List α} {t' : Tag} {H : Heap} {fl : Nat} (hne : ys ≠ []) (hc : chunkOk ag sz 0 = true) (hb : (xs.length + ys.length) * by_ ≤ 140737488355328) (hb2 : xs.length + ys.length ≤ 140737488355328) :
    appG e ag sz by_ (LV sz enc xs .ti) (LV sz enc ys t') H fl = some (LV sz enc (xs ++ ys) (.own H.length), H ++ [.token e sz (xs.length + ys.length)]) := by
  obtain ⟨s1, h1, g1⟩ := LV_list sz enc xs .ti
  obtain ⟨s2, h2, g2⟩ := LV_list sz enc ys t'
  have hl : ∀ k, LV sz enc (xs ++ ys) (.own k) = .list sz (xs.map enc ++ ys.map enc) (.own k) := by
    intro k
    cases xs with
    | nil => cases ys with
      | nil => exact absurd rfl hne
      | cons y ys => rfl
    | cons x xs => simp [LV, mkl]
  rw [hl, h1, h2]
  unfold appG appendD srcD
  simp only [g2, if_true]
  cases ys with
  | nil => exact absurd rfl hne
  | cons y ys =>
    have g3 : ¬xs = [] → s1 = sz := by
      intro h
      have : xs.isEmpty = false := by cases xs <;> simp_all
      simpa [this] using g1
    simp only [List.map_cons, List.length_map, List.length_cons] at *
    simp [hc, hb, hb2, effH, Eff.heap]
    exact g3

@[simp] theorem leaf_int (k : IntKind) (x : Int) : (DV.flat (.int k x)).leaf = true := rfl
@[simp] theorem leaf_bool (b : Bool) : (DV.flat (.bool b)).leaf = true := rfl
@[simp] theorem leaf_string (b : ByteArray) : (DV.flat (.string b)).leaf = true := rfl
@[simp] theorem leaf_ptr (k o : Nat) : (DV.ptr k o).leaf = true := rfl
@[simp] theorem leaf_list (sz : Nat) (l : List DV) (t : Tag) : (DV.list sz l t).leaf = true := rfl
@[simp] theorem leaf_nilp : (DV.flat (.pointer none)).leaf = true := rfl
@[simp] theorem cells_list (sz : Nat) (l : List DV) (t : Tag) : (DV.list sz l t).cells = [.list sz l t] := rfl
@[simp] theorem cells_ptr (k o : Nat) : (DV.ptr k o).cells = [.ptr k o] := rfl
@[simp] theorem loadG_ptr (ag : Bool) (sz k off : Nat) (H : Heap) : loadG ag sz (.ptr k off) H = match H[k]? with | some (.cells _ cs) => partD ag sz off cs | _ => none := rfl
@[simp] theorem partD_t (sz off : Nat) (cs : List DV) : partD true sz off cs = if off + sz ≤ cs.length then some (.agg ((cs.drop off).take sz)) else none := rfl
@[simp] theorem partD_f (sz off : Nat) (cs : List DV) : partD false sz off cs = cs[off]? := rfl
@[simp] theorem allocG_s (e : TypeId) (d : DV) (nid : Nat) (H : Heap) (h : d.cells.all DV.leaf = true) : allocG e d nid H = some (H.set nid (.cells e d.cells)) := by unfold allocG; rw [if_pos h]
@[simp] theorem storeG_s (sz k off : Nat) (d : DV) (H : Heap) (fl : Nat) (h : fl ≤ k) : storeG sz (.ptr k off) d H fl = match H[k]? with
    | some (.cells e cs) => if d.cells.length = sz ∧ off + sz ≤ cs.length ∧ d.cells.all DV.leaf = true then some (H.set k (.cells e (splice off d.cells cs))) else none
    | _ => none := by
  unfold storeG
  simp only [h, true_and]
  rfl
@[simp] theorem buildA_s (zero : DV) (size : Nat) (parts : List (Nat × DV)) : buildA zero size parts = (fillD (fun i => some (i * size, size)) zero.cells parts).map .agg := by unfold buildA; rfl
@[simp] theorem buildS_s (zero : DV) (pl : List (Nat × Nat)) (parts : List (Nat × DV)) : buildS zero pl parts = (fillD (pl[·]?) zero.cells parts).map .agg := by unfold buildS; rfl
@[simp] theorem fillD_n (place : Nat → Option (Nat × Nat)) (cells : List DV) : fillD place cells [] = some cells := by unfold fillD; rfl
@[simp] theorem fillD_c (place : Nat → Option (Nat × Nat)) (cells : List DV) (i : Nat) (d : DV) (rest : List (Nat × DV)) :
    fillD place cells ((i, d) :: rest) = match place i with
      | none => none
      | some (off, size) => if d.cells.length ≠ size ∨ off + d.cells.length > cells.length ∨ d.cells.all DV.leaf = false then none else fillD place (splice off d.cells cells) rest := by
  rw [fillD]
  rfl
@[simp] theorem splice_s (off : Nat) (new old : List DV) : splice off new old = old.take off ++ new ++ old.drop (off + new.length) := by unfold splice; rfl
@[simp] theorem buildL_i1 (k : IntKind) (x a : Int) : buildL false 1 1 (.flat (.int k x)) [(0, .flat (.int k a))] = some (LV 1 (I k) [a] .ti) := rfl

/-! pure calls -/
@[simp] theorem mapO_nil {α β : Type} (f : α → Option β) : mapO f [] = some [] := rfl
@[simp] theorem mapO_cons {α β : Type} (f : α → Option β) (x : α) (l : List α) : mapO f (x :: l) = bi (f x) fun y => bi (mapO f l) fun r => some (y :: r) := by
  simp only [mapO, bi]
  cases f x with
  | none => rfl
  | some y => dsimp only; cases mapO f l <;> rfl
@[simp] theorem outLeaf_LV {α : Type} (ti : Bool) (H : Heap) (sz : Nat) (enc : α → DV) (l : List α) (t : Tag) : outLeaf ti H (LV sz enc l t) = some (LV sz enc l (shTag ti t)) := by cases l <;> rfl
@[simp] theorem outEl_LV {α : Type} (ti : Bool) (H : Heap) (sz : Nat) (enc : α → DV) (l : List α) (t : Tag) : outEl ti H (LV sz enc l t) = some (LV sz enc l (shTag ti t)) := by cases l <;> rfl
@[simp] theorem outD_LV {α : Type} (ti : Bool) (H : Heap) (sz : Nat) (enc : α → DV) (l : List α) (t : Tag) : outD ti H (LV sz enc l t) = some (LV sz enc l (shTag ti t)) := by cases l <;> rfl
@[simp] theorem outEl_nil (ti : Bool) (H : Heap) (t : Tag) : outEl ti H (.list 0 [] t) = some (.list 0 [] (shTag ti t)) := rfl
@[simp] theorem outLeaf_nil (ti : Bool) (H : Heap) (t : Tag) : outLeaf ti H (.list 0 [] t) = some (.list 0 [] (shTag ti t)) := rfl
@[simp] theorem outD_nil (ti : Bool) (H : Heap) (t : Tag) : outD ti H (.list 0 [] t) = some (.list 0 [] (shTag ti t)) := rfl
@[simp] theorem outLeaf_i (ti : Bool) (H : Heap) (k : IntKind) (x : Int) : outLeaf ti H (.flat (.int k x)) = some (.flat (.int k x)) := rfl
@[simp] theorem outLeaf_b (ti : Bool) (H : Heap) (b : Bool) : outLeaf ti H (.flat (.bool b)) = some (.flat (.bool b)) := rfl
@[simp] theorem outLeaf_s (ti : Bool) (H : Heap) (s : ByteArray) : outLeaf ti H (.flat (.string s)) = some (.flat (.string s)) := rfl
@[simp] theorem outEl_flat (ti : Bool) (H : Heap) (v : Value) : outEl ti H (.flat v) = some (.flat v) := rfl
@[simp] theorem outEl_agg (ti : Bool) (H : Heap) (cs : List DV) : outEl ti H (.agg cs) = (mapO (outLeaf ti H) cs).map .agg := rfl
@[simp] theorem outD_tup (ti : Bool) (H : Heap) (cs : List DV) : outD ti H (.tup cs) = (mapO (outEl ti H) cs).map .tup := rfl
@[simp] theorem outD_agg (ti : Bool) (H : Heap) (cs : List DV) : outD ti H (.agg cs) = (mapO (outLeaf ti H) cs).map .agg := rfl
@[simp] theorem outD_flat (ti : Bool) (H : Heap) (v : Value) : outD ti H (.flat v) = some (.flat v) := rfl
@[simp] theorem shTag_sh (ti : Bool) : shTag ti .sh = .sh := by cases ti <;> rfl
@[simp] theorem shTag_f (t : Tag) : shTag false t = .sh := by cases t <;> rfl
@[simp] theorem shTag_ti : shTag true .ti = .ti := rfl
@[simp] theorem shTag_own (ti : Bool) (k : Nat) : shTag ti (.own k) = .sh := by cases ti <;> rfl
theorem argEl_eq (d : DV) : argEl d = outEl false [] d := rfl
theorem cP_of {n f : Nat} {ti : Bool} {args args' : List DV} {H' : Heap} {r r' : DV} (h1 : mapO argEl args = some args') (h2 : callG Try.prog ENV n f args' [] 0 = some (r, H')) (h3 : outD ti H' r = some r') : cP n f ti args = some r' := by
  unfold cP callP
  rw [h1, bi_some, h2, bi_some]
  exact h3
@[simp] theorem cellR_ptr (ag : Bool) (sz k off : Nat) (H : Heap) : cellR ag sz (.ptr k off) H = loadG ag sz (.ptr k off) H := rfl

@[simp] theorem get_0 {α : Type} (a : α) (l : List α) : (a :: l)[0]? = some a := rfl
@[simp] theorem get_1 {α : Type} (a b : α) (l : List α) : (a :: b :: l)[1]? = some b := rfl
@[simp] theorem get_2 {α : Type} (a b c : α) (l : List α) : (a :: b :: c :: l)[2]? = some c := rfl
@[simp] theorem get_3 {α : Type} (a b c d : α) (l : List α) : (a :: b :: c :: d :: l)[3]? = some d := rfl
/-! a list that a loop builds -/
def TgOk (t : Tag) (e : TypeId) (sz fl n : Nat) (H : Heap) : Prop := t = .ti ∨ ∃ k, t = .own k ∧ H[k]? = some (.token e sz n) ∧ fl ≤ k
def HExt (H H' : Heap) : Prop := H.length ≤ H'.length ∧ ∀ (j : Nat) (b : DBlk), H[j]? = some b → (∀ e s n, b ≠ .token e s n) → H'[j]? = some b
theorem HExt.refl (H : Heap) : HExt H H := ⟨Nat.le_refl _, fun _ _ h _ => h⟩
theorem HExt.trans {H1 H2 H3 : Heap} (h : HExt H1 H2) (k : HExt H2 H3) : HExt H1 H3 := ⟨Nat.le_trans h.1 k.1, fun j b hb hn => k.2 j b (h.2 j b hb hn) hn⟩
theorem HExt.app (H X : Heap) : HExt H (H ++ X) := ⟨by simp, fun j b hb _ => by
  have : j < H.length := by rcases Nat.lt_or_ge j H.length with h | h; exact h; rw [List.getElem?_eq_none h] at hb; cases hb
  rw [List.getElem?_append_left this]; exact hb⟩
theorem appG_ok {α : Type} {e : TypeId} {ag : Bool} {sz by_ : Nat} {enc : α → DV} {xs ys : List α} {t t' : Tag} {H : Heap} {fl : Nat} (ht : TgOk t e sz fl xs.length H) (hfl : fl ≤ H.length) (hne : ys ≠ []) (hc : chunkOk ag sz 0 = true) (hb : (xs.length + ys.length) * by_ ≤ 140737488355328) (hb2 : xs.length + ys.length ≤ 140737488355328) :
    ∃ t2 H', appG e ag sz by_ (LV sz enc xs t) (LV sz enc ys t') H fl = some (LV sz enc (xs ++ ys) t2, H') ∧ TgOk t2 e sz fl (xs ++ ys).length H' ∧ HExt H H' ∧ fl ≤ H'.length := by
  rcases ht with rfl | ⟨k, rfl, hk, hkf⟩
  · refine ⟨_, _, appG_ti hne hc hb hb2, .inr ⟨_, rfl, by simp, hfl⟩, HExt.app _ _, by simp; omega⟩
  · have hkl : k < H.length := by rcases Nat.lt_or_ge k H.length with h | h; exact h; rw [List.getElem?_eq_none h] at hk; cases hk
    have hl : ∀ k, LV sz enc (xs ++ ys) (.own k) = .list sz (xs.map enc ++ ys.map enc) (.own k) := by
      intro k
      cases xs with
      | nil => cases ys with
        | nil => exact absurd rfl hne
        | cons y ys => rfl
      | cons x xs => simp [LV, mkl]
    refine ⟨.own k, H.set k (.token e sz (xs ++ ys).length), ?_, .inr ⟨k, rfl, by rw [List.getElem?_set]; simp [hkl], hkf⟩, ⟨by simp, fun j b hb hn => ?_⟩, by simpa using hfl⟩
    · obtain ⟨s1, h1, g1⟩ := LV_list sz enc xs (.own k)
      obtain ⟨s2, h2, g2⟩ := LV_list sz enc ys t'
      rw [hl, h1, h2]
      unfold appG appendD srcD
      simp only [g2, if_true]
      cases ys with
      | nil => exact absurd rfl hne
      | cons y ys =>
        have g3 : ¬xs = [] → s1 = sz := by
          intro h
          have : xs.isEmpty = false := by cases xs <;> simp_all
          simpa [this] using g1
        simp only [List.map_cons, List.length_map, List.length_cons] at *
        simp [hc, hb, hb2, effH, Eff.heap, hk, hkf]
        exact g3
    · rw [List.getElem?_set, if_neg]
      · exact hb
      · intro e; subst e
        rw [hk] at hb; cases hb
        exact hn _ _ _ rfl

/-! rows of the call's own -/
theorem flat_one {α : Type} (n : Nat) (a : α) : (List.replicate n [a]).flatten = List.replicate n a := by
  induction n with
  | zero => rfl
  | succ n ih => rw [List.replicate_succ, List.flatten_cons, ih]; rfl
@[simp] theorem makeG_i (by_ : Nat) (e : TypeId) (k k1 : IntKind) (z n : Int) (nid : Nat) (H : Heap) (h0 : 0 ≤ n) (h1 : n ≤ 100000) (hb : by_ ≤ 8) :
    makeG false 1 by_ e (.flat (.int k z)) (.flat (.int k1 n)) (.flat (.int k1 n)) nid H = some (.row false 1 nid 0 n.toNat n.toNat, H.set nid (.cells e ((List.replicate n.toNat z).map (I k)))) := by
  have hm : n * (by_ : Int) ≤ 140737488355328 := by
    have : n * (by_ : Int) ≤ 100000 * 8 := by
      refine Int.mul_le_mul h1 (by omega) (by omega) (by omega)
    omega
  unfold makeG makeD
  simp [intD, h0, hm, show n ≤ 140737488355328 by omega, effH, Eff.heap, flat_one]
theorem plainEl_map {k : IntKind} (l : List Int) : mapO plainEl (l.map (I k)) = some (l.map (I k)) := by
  induction l with
  | nil => rfl
  | cons a l ih => rw [List.map_cons, mapO_cons, ih]; rfl
theorem chunk_one (n : Nat) (cs : List DV) (h : n ≤ cs.length) : chunk false 1 n cs = cs.take n := by
  induction n generalizing cs with
  | zero => simp [chunk]
  | succ n ih => cases cs with
    | nil => simp at h
    | cons c cs => simp [chunk, ih cs (by simpa using h)]
theorem cells_map (k : IntKind) (l : List Int) : ((l.map (I k)).map DV.cells).flatten = l.map (I k) := by
  induction l with
  | nil => rfl
  | cons a l ih => simp only [List.map_cons, List.flatten_cons, ih]; rfl
/-- the elements of a source -/
theorem srcD_LV {α : Type} (ag : Bool) (sz : Nat) (enc : α → DV) (l : List α) (t : Tag) (H : Heap) : srcD ag sz (LV sz enc l t) H = some (l.map enc) := by
  obtain ⟨s, h1, h2⟩ := LV_list sz enc l t
  rw [h1]
  show (if _ then _ else _) = _
  rw [if_pos h2]
theorem srcD_row (k : IntKind) (b off n c : Nat) (H : Heap) (e : TypeId) (l : List Int) (h : H[b]? = some (.cells e (l.map (I k)))) (hl : off + n ≤ l.length) (hl2 : l.length ≤ 100000) :
    srcD false 1 (.row false 1 b off n c) H = some (((l.drop off).take n).map (I k)) := by
  have hck : chunkOk false 1 n = true := by simp [chunkOk]; omega
  unfold srcD
  simp only [hck, and_self, if_true, rowCells, h, Nat.mul_one, List.length_map, hl, Option.bind_some]
  rw [chunk_one _ _ (by simp; omega)]
  rw [← List.map_drop, ← List.map_take, ← List.map_take, List.take_take, Nat.min_self, plainEl_map]
theorem copyG_row (k : IntKind) (y : DV) (b off n c : Nat) (H : Heap) (fl : Nat) (e : TypeId) (l ys : List Int) (h : H[b]? = some (.cells e (l.map (I k)))) (hs : srcD false 1 y H = some (ys.map (I k))) (hfl : fl ≤ b) (hl : off + min ys.length n ≤ l.length) :
    copyG false 1 (.row false 1 b off n c) y H fl = some (.flat (.int .i64 (min ys.length n : Nat)), H.set b (.cells e ((l.take off ++ ys.take (min ys.length n) ++ l.drop (off + min ys.length n)).map (I k)))) := by
  have hm : min (min ys.length n) ys.length = min ys.length n := by omega
  unfold copyG copyD
  rw [hs]
  simp only [hfl, and_self, if_true, h, List.length_map, ← List.map_take, cells_map, Nat.mul_one, hl, List.length_take, hm, effH, Option.map_some, Eff.heap, splice, List.map_append, List.map_drop]

@[simp] theorem saX_all (ag : Bool) (n sz k off : Nat) : saX ag n sz (.ptr k off) none none none = some (.row ag sz k off n n) := by
  simp only [saX, optD, sliceAr, boundsD, Option.getD_none, Int.le_refl, Option.isNone_none, true_or, and_self, true_and, and_true, if_true, Int.toNat_natCast, Int.toNat_zero]
  simp
@[simp] theorem slX_row_a (ag : Bool) (sz k off n c : Nat) (k1 : IntKind) (a : Int) (h0 : 0 ≤ a) (h1 : a ≤ n) (h2 : n ≤ c) (h3 : a < c) :
    slX sz (.row ag sz k off n c) (some (.flat (.int k1 a))) none none = some (.row ag sz k (off + a.toNat * sz) (n - a.toNat) (c - a.toNat)) := by
  have h4 : (n : Int) ≤ c := by omega
  have h5 : ¬ c = a.toNat := by omega
  simp only [slX, optD, intD, Option.map_some, sliceSl, boundsD, Option.getD_none, Option.getD_some, h0, h1, h4, Int.le_refl, Option.isNone_none, true_or, and_self, true_and, and_true, if_true, Int.toNat_natCast]
  simp [h5, Nat.not_lt.mpr h2]
@[simp] theorem idxSl_row (ag : Bool) (sz k off n c : Nat) (k1 : IntKind) (i : Int) (h0 : 0 ≤ i) (h1 : i < n) : idxSl sz (.row ag sz k off n c) (.flat (.int k1 i)) = some (.ptr k (off + i.toNat * sz)) := by
  simp [idxSl, intD, h0, h1]

theorem outEl_row (ti : Bool) (k : IntKind) (b off n c : Nat) (H : Heap) (e : TypeId) (l : List Int) (h : H[b]? = some (.cells e (l.map (I k)))) (hl : off + n ≤ l.length) (hl2 : l.length ≤ 100000) (hc : n ≤ c) :
    outEl ti H (.row false 1 b off n c) = some (LV 1 (I k) ((l.drop off).take n) (if ti && n == c then .ti else .sh)) := by
  have hck : chunkOk false 1 n = true := by simp [chunkOk]; omega
  have hrw : outEl ti H (.row false 1 b off n c) = outLeaf ti H (.row false 1 b off n c) := rfl
  rw [hrw]
  unfold outLeaf
  simp only [hck, hc, and_self, if_true, rowCells, h, Nat.mul_one, List.length_map, hl, Option.bind_some]
  rw [chunk_one _ _ (by simp; omega)]
  rw [← List.map_drop, ← List.map_take, ← List.map_take, List.take_take, Nat.min_self, plainEl_map]
  rfl
end Go.Proofs.Ytbhnkdnfmlnajaa

/- Heaps: what stands where, and what a call that writes leaves. -/
namespace Go.Proofs.Ytbhnkdnfmlnajaa
open Go

@[simp] theorem hp_get_left (H X : Heap) (k : Nat) (h : k < H.length) : (H ++ X)[k]? = H[k]? := List.getElem?_append_left h
@[simp] theorem hp_get_0 (H X : Heap) (a : DBlk) (n : Nat) (h : n = H.length) : (H ++ a :: X)[n]? = some a := by subst h; simp
@[simp] theorem hp_get_1 (H X : Heap) (a b : DBlk) (n : Nat) (h : n = H.length + 1) : (H ++ a :: b :: X)[n]? = some b := by
  subst h; rw [List.getElem?_append_right (by omega)]; simp
@[simp] theorem hp_get_2 (H X : Heap) (a b c : DBlk) (n : Nat) (h : n = H.length + 2) : (H ++ a :: b :: c :: X)[n]? = some c := by
  subst h; rw [List.getElem?_append_right (by omega)]; simp
@[simp] theorem hp_get_3 (H X : Heap) (a b c d : DBlk) (n : Nat) (h : n = H.length + 3) : (H ++ a :: b :: c :: d :: X)[n]? = some d := by
  subst h; rw [List.getElem?_append_right (by omega)]; simp
@[simp] theorem hp_set_left (H X : Heap) (k : Nat) (y : DBlk) (h : k < H.length) : (H ++ X).set k y = H.set k y ++ X := by
  rw [List.set_append_left _ _ h]
@[simp] theorem hp_set_0 (H X : Heap) (a y : DBlk) (n : Nat) (h : n = H.length) : (H ++ a :: X).set n y = H ++ y :: X := by subst h; rw [List.set_append_right _ _ (by omega)]; simp
@[simp] theorem hp_set_1 (H X : Heap) (a b y : DBlk) (n : Nat) (h : n = H.length + 1) : (H ++ a :: b :: X).set n y = H ++ a :: y :: X := by
  subst h; rw [List.set_append_right _ _ (by omega), Nat.add_sub_cancel_left]; rfl
@[simp] theorem hp_set_2 (H X : Heap) (a b c y : DBlk) (n : Nat) (h : n = H.length + 2) : (H ++ a :: b :: c :: X).set n y = H ++ a :: b :: y :: X := by
  subst h; rw [List.set_append_right _ _ (by omega), Nat.add_sub_cancel_left]; rfl
@[simp] theorem hp_set_3 (H X : Heap) (a b c d y : DBlk) (n : Nat) (h : n = H.length + 3) : (H ++ a :: b :: c :: d :: X).set n y = H ++ a :: b :: c :: y :: X := by
  subst h; rw [List.set_append_right _ _ (by omega), Nat.add_sub_cancel_left]; rfl
@[simp] theorem hp_set_get (H : Heap) (k : Nat) (y : DBlk) (h : k < H.length) : (H.set k y)[k]? = some y := by simp [h]
@[simp] theorem hp_set_ne (H : Heap) (k j : Nat) (y : DBlk) (h : j ≠ k) : (H.set k y)[j]? = H[j]? := by rw [List.getElem?_set, if_neg (fun e => h e.symm)]
theorem hp_lt {H : Heap} {k : Nat} {b : DBlk} (h : H[k]? = some b) : k < H.length := by
  rcases Nat.lt_or_ge k H.length with h' | h'
  · exact h'
  · rw [List.getElem?_eq_none h'] at h; cases h
@[simp] theorem nilD_ptr (k o : Nat) : nilD (.ptr k o) = some (.ptr k o) := rfl
@[simp] theorem fieldD_ptr (fo sz k o : Nat) (h : sz ≠ 0) : fieldD fo sz (.ptr k o) = some (.ptr k (o + fo)) := by simp [fieldD, h]
@[simp] theorem fieldD_elem (fo sz o : Nat) (x : DV) (h : sz ≠ 0) : fieldD fo sz (.elem x o) = some (.elem x (o + fo)) := by simp [fieldD, h]

/-- a block that names none but old ones -/
def WfB (n : Nat) : DBlk → Prop
  | .cells _ cs => ∀ d ∈ cs, (d.leaf && inSc n d) = true
  | _ => True
def WfH (H : Heap) : Prop := ∀ b ∈ H, WfB H.length b
theorem wf_nil : WfH [] := fun b h => by simp at h
@[simp] theorem inSc_LV_sh {α : Type} (n sz : Nat) (enc : α → DV) (l : List α) : inSc n (LV sz enc l .sh) = true := by cases l <;> rfl
@[simp] theorem inSc_LV_ti {α : Type} (n sz : Nat) (enc : α → DV) (l : List α) : inSc n (LV sz enc l .ti) = true := by cases l <;> rfl
@[simp] theorem inSc_flat (n : Nat) (v : Value) : inSc n (.flat v) = true := rfl
@[simp] theorem inSc_ptr (n k o : Nat) : inSc n (.ptr k o) = decide (k < n) := rfl
@[simp] theorem inSc_nil (n : Nat) : inSc n (.list 0 [] .sh) = true := rfl
@[simp] theorem inSc_nilt (n : Nat) : inSc n (.list 0 [] .ti) = true := rfl
mutual
theorem inSc_mono {n m : Nat} (h : n ≤ m) : ∀ d : DV, inSc n d = true → inSc m d = true
  | .any, _ => rfl
  | .flat _, _ => rfl
  | .agg cs, k => by simp only [inSc] at k ⊢; exact inScL_mono h cs k
  | .tup cs, k => by simp only [inSc] at k ⊢; exact inScL_mono h cs k
  | .list _ _ t, k => by
    cases t with
    | own j => simp only [inSc, decide_eq_true_eq] at k ⊢; omega
    | _ => rfl
  | .ptr j _, k => by simp only [inSc, decide_eq_true_eq] at k ⊢; omega
  | .row _ _ j _ _ _, k => by simp only [inSc, decide_eq_true_eq] at k ⊢; omega
  | .elem _ _, _ => rfl
  | .clo _ f c, k => by simp only [inSc, Bool.and_eq_true] at k ⊢; exact ⟨inScL_mono h f k.1, inScL_mono h c k.2⟩
  | .iface _ d, k => by simp only [inSc] at k ⊢; exact inSc_mono h d k
theorem inScL_mono {n m : Nat} (h : n ≤ m) : ∀ l : List DV, inScL n l = true → inScL m l = true
  | [], _ => rfl
  | d :: l, k => by simp only [inScL, Bool.and_eq_true] at k ⊢; exact ⟨inSc_mono h d k.1, inScL_mono h l k.2⟩
end
theorem WfB.mono {n m : Nat} (h : n ≤ m) {b : DBlk} (k : WfB n b) : WfB m b := by
  cases b with
  | cells e cs =>
    intro d hd
    have := k d hd
    simp only [Bool.and_eq_true] at this ⊢
    exact ⟨this.1, inSc_mono h d this.2⟩
  | _ => trivial
theorem WfH.app {H X : Heap} (h : WfH H) (hx : ∀ b ∈ X, WfB (H ++ X).length b) : WfH (H ++ X) := fun b hb => by
  rcases List.mem_append.mp hb with hb | hb
  · exact (h b hb).mono (by simp)
  · exact hx b hb
theorem WfH.set {H : Heap} (h : WfH H) (k : Nat) {b : DBlk} (hb : WfB H.length b) : WfH (H.set k b) := fun c hc => by
  rw [List.length_set]
  rcases List.mem_or_eq_of_mem_set hc with hc | rfl
  · exact h c hc
  · exact hb
theorem mapO_id {α : Type} (f : α → Option α) : ∀ (l : List α), (∀ x ∈ l, f x = some x) → mapO f l = some l
  | [], _ => rfl
  | x :: l, h => by rw [mapO_cons, h x (by simp), mapO_id f l (fun y hy => h y (by simp [hy]))]; rfl
theorem mapO_set {α : Type} (f : α → Option α) : ∀ (l : List α) (k : Nat) (b c : α), (∀ x ∈ l, f x = some x) → f b = some c → mapO f (l.set k b) = some (l.set k c)
  | [], _, _, _, _, _ => rfl
  | x :: l, 0, b, c, h, hb => by rw [List.set_cons_zero, mapO_cons, hb, mapO_id f l (fun y hy => h y (by simp [hy]))]; rfl
  | x :: l, k + 1, b, c, h, hb => by rw [List.set_cons_succ, mapO_cons, h x (by simp), mapO_set f l k b c (fun y hy => h y (by simp [hy])) hb]; rfl
theorem oldBlk_wf {n : Nat} {H' : Heap} {b : DBlk} (h : WfB n b) : oldBlk n H' b = some b := by
  cases b with
  | cells e cs =>
    show (mapO (oldLeaf n H') cs).map (DBlk.cells e) = _
    rw [mapO_id _ cs fun d hd => by
      have := h d hd
      unfold oldLeaf
      rw [if_pos this]]
    rfl
  | _ => rfl
/-- what a call that writes one block leaves -/
theorem cutH_set {H H' : Heap} (h : WfH H) {k : Nat} {b c : DBlk} (hk : k < H.length) (hb : H'[k]? = some b) (hj : ∀ j, j < H.length → j ≠ k → H'[j]? = H[j]?) (hc : oldBlk H.length H' b = some c) : cutH H.length H' = some (H.set k c) := by
  have e : H'.take H.length = H.set k b := by
    apply List.ext_getElem?
    intro j
    rw [List.getElem?_take]
    by_cases hjn : j < H.length
    · rw [if_pos hjn]
      by_cases hjk : j = k
      · subst hjk; rw [hb, List.getElem?_set_self hjn]
      · rw [hj j hjn hjk, List.getElem?_set_ne (fun e => hjk e.symm)]
    · rw [if_neg hjn, List.getElem?_eq_none (by simp; omega)]
  unfold cutH
  rw [e]
  exact mapO_set _ H k b c (fun x hx => oldBlk_wf (h x hx)) hc
theorem cutH_same {H H' : Heap} (h : WfH H) (hj : ∀ j, j < H.length → H'[j]? = H[j]?) : cutH H.length H' = some H := by
  have e : H'.take H.length = H := by
    apply List.ext_getElem?
    intro j
    rw [List.getElem?_take]
    by_cases hjn : j < H.length
    · rw [if_pos hjn, hj j hjn]
    · rw [if_neg hjn, List.getElem?_eq_none (by omega)]
  unfold cutH
  rw [e]
  exact mapO_id _ H fun x hx => oldBlk_wf (h x hx)
theorem cW_of {n f : Nat} {args : List DV} {H H' H2 : Heap} {fl : Nat} {r r' : DV} (h1 : callG Try.prog ENV n f args H fl = some (r, H')) (h2 : oldD H.length H' r = some r') (h3 : cutH H.length H' = some H2) : cW n f args H fl = some (r', H2) := by
  unfold cW callW
  rw [h1, bi_some, h2, bi_some, h3, bi_some]
theorem cO_of {n f : Nat} {args : List DV} {H H' : Heap} {r r' : DV} (h1 : callG Try.prog ENV n f args H H.length = some (r, H')) (h2 : oldD H.length H' r = some r') : cO n f args H = some r' := by
  unfold cO callO
  rw [h1, bi_some, h2]
@[simp] theorem oldLeaf_sh {α : Type} (n : Nat) (H : Heap) (sz : Nat) (enc : α → DV) (l : List α) : oldLeaf n H (LV sz enc l .sh) = some (LV sz enc l .sh) := by cases l <;> rfl
@[simp] theorem oldLeaf_ti {α : Type} (n : Nat) (H : Heap) (sz : Nat) (enc : α → DV) (l : List α) : oldLeaf n H (LV sz enc l .ti) = some (LV sz enc l .ti) := by cases l <;> rfl
theorem oldLeaf_own {α : Type} (n : Nat) (H : Heap) (sz : Nat) (enc : α → DV) (l : List α) (k : Nat) (hk : n ≤ k) : oldLeaf n H (LV sz enc l (.own k)) = some (LV sz enc l .sh) := by
  have : ¬ k < n := by omega
  cases l <;> simp [LV, mkl, oldLeaf, inSc, this]
@[simp] theorem oldLeaf_i (n : Nat) (H : Heap) (k : IntKind) (x : Int) : oldLeaf n H (.flat (.int k x)) = some (.flat (.int k x)) := rfl
@[simp] theorem oldLeaf_b (n : Nat) (H : Heap) (b : Bool) : oldLeaf n H (.flat (.bool b)) = some (.flat (.bool b)) := rfl
@[simp] theorem oldLeaf_nil (n : Nat) (H : Heap) : oldLeaf n H (.list 0 [] .ti) = some (.list 0 [] .ti) := rfl
@[simp] theorem oldLeaf_nils (n : Nat) (H : Heap) : oldLeaf n H (.list 0 [] .sh) = some (.list 0 [] .sh) := rfl
@[simp] theorem oldEl_agg (n : Nat) (H : Heap) (cs : List DV) : oldEl n H (.agg cs) = (mapO (oldLeaf n H) cs).map .agg := rfl
@[simp] theorem oldEl_flat (n : Nat) (H : Heap) (v : Value) : oldEl n H (.flat v) = some (.flat v) := rfl
@[simp] theorem oldEl_LV {α : Type} (n : Nat) (H : Heap) (sz : Nat) (enc : α → DV) (l : List α) (t : Tag) : oldEl n H (LV sz enc l t) = oldLeaf n H (LV sz enc l t) := by cases l <;> rfl
@[simp] theorem oldEl_nil (n : Nat) (H : Heap) (t : Tag) : oldEl n H (.list 0 [] t) = oldLeaf n H (.list 0 [] t) := rfl
@[simp] theorem oldD_tup (n : Nat) (H : Heap) (cs : List DV) : oldD n H (.tup cs) = (mapO (oldEl n H) cs).map .tup := rfl
@[simp] theorem oldD_flat (n : Nat) (H : Heap) (v : Value) : oldD n H (.flat v) = some (.flat v) := rfl
@[simp] theorem oldD_LV {α : Type} (n : Nat) (H : Heap) (sz : Nat) (enc : α → DV) (l : List α) (t : Tag) : oldD n H (LV sz enc l t) = oldLeaf n H (LV sz enc l t) := by cases l <;> rfl
@[simp] theorem oldD_agg (n : Nat) (H : Heap) (cs : List DV) : oldD n H (.agg cs) = (mapO (oldLeaf n H) cs).map .agg := rfl
@[simp] theorem oldBlk_cells (n : Nat) (H : Heap) (e : TypeId) (cs : List DV) : oldBlk n H (.cells e cs) = (mapO (oldLeaf n H) cs).map (.cells e) := rfl

/-- append to a list that this call builds: what it leaves of the heap -/
theorem appG_fr {α : Type} {e : TypeId} {ag : Bool} {sz by_ n0 : Nat} {enc : α → DV} {xs ys : List α} {t t' : Tag} {H : Heap} {fl : Nat} (hfl : fl ≤ n0) (hn0 : n0 ≤ H.length) (ht : TgOk t e sz n0 xs.length H) (hne : ys ≠ []) (hc : chunkOk ag sz 0 = true) (hb : (xs.length + ys.length) * by_ ≤ 140737488355328) (hb2 : xs.length + ys.length ≤ 140737488355328) :
    ∃ t2 H', appG e ag sz by_ (LV sz enc xs t) (LV sz enc ys t') H fl = some (LV sz enc (xs ++ ys) t2, H') ∧ TgOk t2 e sz n0 (xs ++ ys).length H' ∧ H.length ≤ H'.length ∧ (∀ j, j < n0 → H'[j]? = H[j]?) ∧ (WfH H → WfH H') ∧ HExt H H' := by
  rcases ht with rfl | ⟨k, rfl, hk, hkf⟩
  · refine ⟨_, _, appG_ti hne hc hb hb2, .inr ⟨_, rfl, by simp, hn0⟩, by simp, fun j hj => hp_get_left _ _ _ (by omega), fun h => h.app (fun b hb => by simp at hb; subst hb; trivial), HExt.app _ _⟩
  · have hkl := hp_lt hk
    obtain ⟨t2, H', h1, h2, h3, h4⟩ := appG_ok (e := e) (ag := ag) (sz := sz) (by_ := by_) (enc := enc) (xs := xs) (ys := ys) (t := .own k) (t' := t') (H := H) (fl := fl) (.inr ⟨k, rfl, hk, by omega⟩) (by omega) hne hc hb hb2
    have hl : LV sz enc (xs ++ ys) (.own k) = .list sz (xs.map enc ++ ys.map enc) (.own k) := by
      cases xs with
      | nil => cases ys with
        | nil => exact absurd rfl hne
        | cons y ys => rfl
      | cons x xs => simp [LV, mkl]
    have he : appG e ag sz by_ (LV sz enc xs (.own k)) (LV sz enc ys t') H fl = some (LV sz enc (xs ++ ys) (.own k), H.set k (.token e sz (xs ++ ys).length)) := by
      obtain ⟨s1, h1, g1⟩ := LV_list sz enc xs (.own k)
      obtain ⟨s2, h2, g2⟩ := LV_list sz enc ys t'
      have hkf' : fl ≤ k := by omega
      rw [hl, h1, h2]
      unfold appG appendD srcD
      simp only [g2, if_true]
      cases ys with
      | nil => exact absurd rfl hne
      | cons y ys =>
        have g3 : ¬xs = [] → s1 = sz := by
          intro h
          have : xs.isEmpty = false := by cases xs <;> simp_all
          simpa [this] using g1
        simp only [List.map_cons, List.length_map, List.length_cons] at *
        simp [hc, hb, hb2, effH, Eff.heap, hk, hkf']
        exact g3
    rw [he] at h1
    simp only [Option.some.injEq, Prod.mk.injEq] at h1
    obtain ⟨_, rfl⟩ := h1
    exact ⟨_, _, he, .inr ⟨k, rfl, hp_set_get _ _ _ hkl, hkf⟩, by simp, fun j hj => hp_set_ne _ _ _ _ (by omega), fun h => h.set k trivial, h3⟩

/-- a list's end as a call that writes hands it out -/
def okT (t : Tag) : Prop := t = .sh ∨ t = .ti
def oT (n0 : Nat) (t : Tag) : Prop := t = .ti ∨ ∃ k, t = .own k ∧ n0 ≤ k
theorem TgOk.oT {t : Tag} {e : TypeId} {sz n0 n : Nat} {H : Heap} (h : TgOk t e sz n0 n H) : oT n0 t := h.imp id fun ⟨k, h1, _, h2⟩ => ⟨k, h1, h2⟩
theorem oldLeaf_oT {α : Type} {n : Nat} {t : Tag} (h : oT n t) (H : Heap) (sz : Nat) (enc : α → DV) (l : List α) : ∃ t', okT t' ∧ oldLeaf n H (LV sz enc l t) = some (LV sz enc l t') := by
  rcases h with rfl | ⟨k, rfl, hk⟩
  · exact ⟨.ti, .inr rfl, oldLeaf_ti _ _ _ _ _⟩
  · exact ⟨.sh, .inl rfl, oldLeaf_own _ _ _ _ _ _ hk⟩
theorem oldLeaf_okT {α : Type} {n : Nat} {t : Tag} (h : okT t) (H : Heap) (sz : Nat) (enc : α → DV) (l : List α) : oldLeaf n H (LV sz enc l t) = some (LV sz enc l t) := by
  rcases h with rfl | rfl <;> simp
theorem inSc_okT {α : Type} {t : Tag} (h : okT t) (n sz : Nat) (enc : α → DV) (l : List α) : inSc n (LV sz enc l t) = true := by
  rcases h with rfl | rfl <;> simp

/-- the same, whatever is appended -/
theorem appG_all {α : Type} {e : TypeId} {ag : Bool} {sz by_ n0 : Nat} {enc : α → DV} {xs ys : List α} {t t' : Tag} {H : Heap} {fl : Nat} (hfl : fl ≤ n0) (hn0 : n0 ≤ H.length) (ht : TgOk t e sz n0 xs.length H) (hc : chunkOk ag sz 0 = true) (hb : (xs.length + ys.length) * by_ ≤ 140737488355328) (hb2 : xs.length + ys.length ≤ 140737488355328) :
    ∃ t2 H', appG e ag sz by_ (LV sz enc xs t) (LV sz enc ys t') H fl = some (LV sz enc (xs ++ ys) t2, H') ∧ TgOk t2 e sz n0 (xs ++ ys).length H' ∧ H.length ≤ H'.length ∧ (∀ j, j < n0 → H'[j]? = H[j]?) ∧ (WfH H → WfH H') ∧ HExt H H' := by
  by_cases h : ys = []
  · subst h
    refine ⟨t, H, ?_, by simpa using ht, Nat.le_refl _, fun _ _ => rfl, id, HExt.refl H⟩
    obtain ⟨s, h1, h2⟩ := LV_list sz enc xs t
    rw [List.append_nil, h1]
    rfl
  · exact appG_fr hfl hn0 ht h hc hb hb2
theorem binD_ptr_nil {t e : TypeId} (hu : Try.prog.underlying t = some (.pointer e)) (x y : Operand) (k o : Nat) : binD Try.prog .eql t x y (.ptr k o) (.flat (.pointer none)) = some (Bo false) := by
  have : nilEq Try.prog t (.ptr k o) (.pointer none) = true := by unfold nilEq; rw [hu]
  show (if nilEq Try.prog t (.ptr k o) (.pointer none) = true then eqRes .eql else none) = _
  rw [if_pos this]; rfl
theorem binD_ptr_nen {t e : TypeId} (hu : Try.prog.underlying t = some (.pointer e)) (x y : Operand) (k o : Nat) : binD Try.prog .neq t x y (.ptr k o) (.flat (.pointer none)) = some (Bo true) := by
  have : nilEq Try.prog t (.ptr k o) (.pointer none) = true := by unfold nilEq; rw [hu]
  show (if nilEq Try.prog t (.ptr k o) (.pointer none) = true then eqRes .neq else none) = _
  rw [if_pos this]; rfl
end Go.Proofs.Ytbhnkdnfmlnajaa

/- Structs compared, in the pure evaluator. -/
namespace Go.Proofs.Ytbhnkdnfmlnajaa
open Go
set_option linter.unusedSimpArgs false
set_option linter.unusedVariables false
section
variable {P : Program}
theorem pr_bind {α β : Type} : ∀ (s : Sem α) (f : α → Sem β), pureRun P (s >>= f) = (pureRun P s).bind fun a => pureRun P (f a)
  | .pure a, f => rfl
  | .program k, f => pr_bind (k P) f
  | .mark m k, f => pr_bind k f
  | .load .., _ => rfl
  | .store .., _ => rfl
  | .new .., _ => rfl
  | .shape .., _ => rfl
  | .freeze .., _ => rfl
  | .frozen .., _ => rfl
  | .getObj .., _ => rfl
  | .setObj .., _ => rfl
  | .choose .., _ => rfl
  | .sys .., _ => rfl
  | .halt .., _ => rfl
theorem pr_pure {α : Type} (a : α) : pureRun P (pure a : Sem α) = some a := rfl
theorem pr_program : pureRun P program = some P := rfl
theorem pr_underlying {t : TypeId} {d : TypeDesc} (h : P.underlying t = some d) : pureRun P (underlying t) = some d := by
  unfold underlying
  rw [pr_bind, pr_program]
  simp only [Option.bind_some, h]
  rfl
theorem pr_ite {α : Type} (c : Prop) [Decidable c] (a b : Sem α) : pureRun P (if c then a else b) = if c then pureRun P a else pureRun P b := by split <;> rfl
theorem pr_equalIn_struct (d : Nat) (t : TypeId) (xs ys : Array Value) (ht : P.underlying t = some (.struct (P.fieldsOf t))) (hp : P.stoodInHeld t = false) :
    pureRun P (Op.equalIn (d + 1) t (.agg xs) (.agg ys)) = pureRun P (Op.eqFields d xs ys (P.fieldsOf t).toList) := by
  simp only [Op.equalIn, pr_bind, pr_underlying ht, Option.bind_some, pr_program, hp, Bool.false_eq_true, if_false]
  rw [← Array.forIn_toList]
  generalize (P.fieldsOf t).toList = fs
  clear ht
  induction fs with
  | nil => simp [Op.eqFields, pr_pure]
  | cons f fs ih =>
    simp only [List.forIn_cons, Op.eqFields, pr_bind, pr_ite]
    split
    · cases pureRun P (part f.type xs f.offset) with
      | none => rfl
      | some a =>
        simp only [Option.bind_some]
        cases pureRun P (part f.type ys f.offset) with
        | none => rfl
        | some b =>
          simp only [Option.bind_some]
          cases pureRun P (Op.equalIn d f.type a b) with
          | none => rfl
          | some r =>
            cases r
            · simp only [Option.bind_some, Bool.not_false, if_true, pr_pure]
            · simp only [Option.bind_some, Bool.not_true, Bool.false_eq_true, if_false, pr_pure]
              simpa only [pr_bind] using ih
    · simp only [pr_pure, Option.bind_some]
      simpa only [pr_bind] using ih
theorem pr_eqFields_cons {d : Nat} {xs ys : Array Value} {f : Field} {fs : List Field} {a b : Value} {r : Bool} (hn : f.name ≠ "_") (ha : pureRun P (part f.type xs f.offset) = some a) (hb : pureRun P (part f.type ys f.offset) = some b) (h : pureRun P (Op.equalIn d f.type a b) = some r) :
    pureRun P (Op.eqFields d xs ys (f :: fs)) = if r = true then pureRun P (Op.eqFields d xs ys fs) else some false := by
  rw [Op.eqFields, if_pos hn, pr_bind, ha, Option.bind_some, pr_bind, hb, Option.bind_some, pr_bind, h, Option.bind_some]
  cases r <;> rfl
theorem pr_eqFields_nil {d : Nat} {xs ys : Array Value} : pureRun P (Op.eqFields d xs ys []) = some true := rfl
theorem pr_part_int {t : TypeId} {k : IntKind} {cs : Array Value} {off : Nat} {v : Value} (hu : P.underlying t = some (.int k)) (hv : cs[off]? = some v) : pureRun P (part t cs off) = some v := by
  simp only [part, isAgg, pr_bind, pr_underlying hu, pr_pure, Option.bind_some, Bool.false_eq_true, if_false, hv]
theorem pr_part_bool {t : TypeId} {cs : Array Value} {off : Nat} {v : Value} (hu : P.underlying t = some .bool) (hv : cs[off]? = some v) : pureRun P (part t cs off) = some v := by
  simp only [part, isAgg, pr_bind, pr_underlying hu, pr_pure, Option.bind_some, Bool.false_eq_true, if_false, hv]
theorem pr_equalIn_int (d : Nat) (t : TypeId) (k k' : IntKind) (a b : Int) (h : P.underlying t = some (.int k')) : pureRun P (Op.equalIn (d + 1) t (.int k a) (.int k b)) = some (a == b) := by
  simp only [Op.equalIn, pr_bind, pr_underlying h, Option.bind_some, if_true]
  rfl
theorem pr_equalIn_bool (d : Nat) (t : TypeId) (a b : Bool) (h : P.underlying t = some .bool) : pureRun P (Op.equalIn (d + 1) t (.bool a) (.bool b)) = some (a == b) := by
  simp only [Op.equalIn, pr_bind, pr_underlying h, Option.bind_some, if_true]
  rfl
theorem pr_guard (op : BinOp) (t : TypeId) (x y : Operand) (xs ys : Array Value) (hm : P.eqGuardType P.depth t = false) : pureRun P (eqGuard op t x y (.agg xs) (.agg ys)) = some () := by
  cases op <;> simp only [eqGuard, pr_bind, pr_program, Option.bind_some, hm, Bool.not_false, if_true, Bool.not_true, Bool.false_eq_true, if_false] <;> rfl
theorem binD_neq_agg {t : TypeId} {x y : Operand} {us ws : List DV} {va vb : List Value} {r : Bool} (ha : mapO flatV us = some va) (hb : mapO flatV ws = some vb) (hm : P.eqGuardType P.depth t = false) (h : pureRun P (Op.equalIn 10000 t (.agg va.toArray) (.agg vb.toArray)) = some r) :
    binD P .neq t x y (.agg us) (.agg ws) = some (Bo (!r)) := by
  show eqD P .neq t x y (.agg us) (.agg ws) = _
  unfold eqD
  have e1 : toVal (.agg us) = some (.agg va.toArray) := by simp only [toVal, ha, Option.map_some]
  have e2 : toVal (.agg ws) = some (.agg vb.toArray) := by simp only [toVal, hb, Option.map_some]
  rw [e1, e2]
  simp only [pureV, pr_bind, pr_guard .neq t x y _ _ hm, Option.bind_some]
  have : pureRun P (binOp .neq t (.agg va.toArray) (.agg vb.toArray)) = some (.bool (!r)) := by
    show pureRun P (Op.equal t _ _ >>= fun b => pure (Value.bool !b)) = _
    rw [pr_bind]
    have h' : pureRun P (Op.equal t (.agg va.toArray) (.agg vb.toArray)) = some r := h
    rw [h']
    rfl
  rw [this]
  rfl
theorem binD_eql_agg {t : TypeId} {x y : Operand} {us ws : List DV} {va vb : List Value} {r : Bool} (ha : mapO flatV us = some va) (hb : mapO flatV ws = some vb) (hm : P.eqGuardType P.depth t = false) (h : pureRun P (Op.equalIn 10000 t (.agg va.toArray) (.agg vb.toArray)) = some r) :
    binD P .eql t x y (.agg us) (.agg ws) = some (Bo r) := by
  show eqD P .eql t x y (.agg us) (.agg ws) = _
  unfold eqD
  have e1 : toVal (.agg us) = some (.agg va.toArray) := by simp only [toVal, ha, Option.map_some]
  have e2 : toVal (.agg ws) = some (.agg vb.toArray) := by simp only [toVal, hb, Option.map_some]
  rw [e1, e2]
  simp only [pureV, pr_bind, pr_guard .eql t x y _ _ hm, Option.bind_some]
  have : pureRun P (binOp .eql t (.agg va.toArray) (.agg vb.toArray)) = some (.bool r) := by
    show pureRun P (Op.equal t _ _ >>= fun b => pure (Value.bool b)) = _
    rw [pr_bind]
    have h' : pureRun P (Op.equal t (.agg va.toArray) (.agg vb.toArray)) = some r := h
    rw [h']
    rfl
  rw [this]
  rfl
end
end Go.Proofs.Ytbhnkdnfmlnajaa

/- Arrays compared, in the pure evaluator; states of modes. -/
namespace Go.Proofs.Ytbhnkdnfmlnajaa
open Go
set_option linter.unusedSimpArgs false
set_option linter.unusedVariables false
section
variable {P : Program}
theorem pr_sizeOf {t : TypeId} {i : TypeInfo} (h : P.info? t = some i) : pureRun P (sizeOf t) = some i.size := by
  unfold sizeOf typeInfo
  simp only [pr_bind, pr_program, Option.bind_some, h]
  rfl
/-- an array's elements compared, one by one -/
def eqElems (d : Nat) (e : TypeId) (n : Nat) (xs ys : Array Value) : List Nat → Sem Bool
  | [] => pure true
  | i :: l => do
    let a ← part e xs (i * n)
    let b ← part e ys (i * n)
    let r ← Op.equalIn d e a b
    if (!r) = true then pure false else eqElems d e n xs ys l
theorem pr_equalIn_array (d len : Nat) (t e : TypeId) (i : TypeInfo) (xs ys : Array Value) (ht : P.underlying t = some (.array len e)) (hi : P.info? e = some i) :
    pureRun P (Op.equalIn (d + 1) t (.agg xs) (.agg ys)) = pureRun P (eqElems d e i.size xs ys (List.range' 0 len)) := by
  simp only [Op.equalIn, pr_bind, pr_underlying ht, pr_sizeOf hi, Option.bind_some]
  rw [Std.Legacy.Range.forIn_eq_forIn_range']
  have hl : Std.Legacy.Range.size [0:len] = len := by simp [Std.Legacy.Range.size]
  simp only [hl]
  generalize List.range' 0 len = fs
  induction fs with
  | nil => simp [eqElems, pr_pure]
  | cons f fs ih =>
    simp only [List.forIn_cons, eqElems, pr_bind, pr_ite]
    cases pureRun P (part e xs (f * i.size)) with
    | none => rfl
    | some a =>
      simp only [Option.bind_some]
      cases pureRun P (part e ys (f * i.size)) with
      | none => rfl
      | some b =>
        simp only [Option.bind_some]
        cases pureRun P (Op.equalIn d e a b) with
        | none => rfl
        | some r =>
          cases r
          · simp only [Option.bind_some, Bool.not_false, if_true, pr_pure]
          · simp only [Option.bind_some, Bool.not_true, Bool.false_eq_true, if_false, pr_pure]
            simpa only [pr_bind] using ih
theorem pr_eqElems_cons {d : Nat} {e : TypeId} {n : Nat} {xs ys : Array Value} {i : Nat} {l : List Nat} {a b : Value} {r : Bool} (ha : pureRun P (part e xs (i * n)) = some a) (hb : pureRun P (part e ys (i * n)) = some b) (h : pureRun P (Op.equalIn d e a b) = some r) :
    pureRun P (eqElems d e n xs ys (i :: l)) = if r = true then pureRun P (eqElems d e n xs ys l) else some false := by
  rw [eqElems, pr_bind, ha, Option.bind_some, pr_bind, hb, Option.bind_some, pr_bind, h, Option.bind_some]
  cases r <;> rfl
theorem info_of {t : TypeId} {n : Nat} (h : ((P.info? t).map (·.size)) = some n) : ∃ i, P.info? t = some i ∧ i.size = n := by
  cases hi : P.info? t with
  | none => rw [hi] at h; cases h
  | some i => rw [hi] at h; exact ⟨i, rfl, by simpa using h⟩
theorem pr_eq3_bool {d : Nat} {t e : TypeId} (ht : P.underlying t = some (.array 3 e)) (he : P.underlying e = some .bool) (hs : ((P.info? e).map (·.size)) = some 1) (a b c a' b' c' : Bool) :
    pureRun P (Op.equalIn (d + 2) t (.agg #[.bool a, .bool b, .bool c]) (.agg #[.bool a', .bool b', .bool c'])) = some (a == a' && b == b' && c == c') := by
  obtain ⟨i, hi, h1⟩ := info_of hs
  rw [pr_equalIn_array (d + 1) 3 t e i _ _ ht hi, h1]
  show pureRun P (eqElems (d + 1) e 1 _ _ [0, 1, 2]) = _
  rw [pr_eqElems_cons (a := .bool a) (b := .bool a') (r := a == a') (pr_part_bool he rfl) (pr_part_bool he rfl) (pr_equalIn_bool d e a a' he)]
  rw [pr_eqElems_cons (a := .bool b) (b := .bool b') (r := b == b') (pr_part_bool he rfl) (pr_part_bool he rfl) (pr_equalIn_bool d e b b' he)]
  rw [pr_eqElems_cons (a := .bool c) (b := .bool c') (r := c == c') (pr_part_bool he rfl) (pr_part_bool he rfl) (pr_equalIn_bool d e c c' he)]
  show (if (a == a') = true then (if (b == b') = true then (if (c == c') = true then some true else some false) else some false) else some false) = _
  cases (a == a') <;> cases (b == b') <;> cases (c == c') <;> rfl
theorem pr_eq3_int {d : Nat} {t e : TypeId} {k : IntKind} (ht : P.underlying t = some (.array 3 e)) (he : P.underlying e = some (.int k)) (hs : ((P.info? e).map (·.size)) = some 1) (a b c a' b' c' : Int) :
    pureRun P (Op.equalIn (d + 2) t (.agg #[.int k a, .int k b, .int k c]) (.agg #[.int k a', .int k b', .int k c'])) = some (a == a' && b == b' && c == c') := by
  obtain ⟨i, hi, h1⟩ := info_of hs
  rw [pr_equalIn_array (d + 1) 3 t e i _ _ ht hi, h1]
  show pureRun P (eqElems (d + 1) e 1 _ _ [0, 1, 2]) = _
  rw [pr_eqElems_cons (a := .int k a) (b := .int k a') (r := a == a') (pr_part_int he rfl) (pr_part_int he rfl) (pr_equalIn_int d e k k a a' he)]
  rw [pr_eqElems_cons (a := .int k b) (b := .int k b') (r := b == b') (pr_part_int he rfl) (pr_part_int he rfl) (pr_equalIn_int d e k k b b' he)]
  rw [pr_eqElems_cons (a := .int k c) (b := .int k c') (r := c == c') (pr_part_int he rfl) (pr_part_int he rfl) (pr_equalIn_int d e k k c c' he)]
  show (if (a == a') = true then (if (b == b') = true then (if (c == c') = true then some true else some false) else some false) else some false) = _
  cases (a == a') <;> cases (b == b') <;> cases (c == c') <;> rfl
end
theorem neq_b3 (a b c a' b' c' : Bool) (x y : Operand) : binD Try.prog .neq 52 x y (.agg [Bo a, Bo b, Bo c]) (.agg [Bo a', Bo b', Bo c']) = some (Bo (!(a == a' && b == b' && c == c'))) :=
  binD_neq_agg (va := [.bool a, .bool b, .bool c]) (vb := [.bool a', .bool b', .bool c']) rfl rfl (by kernel_rfl) (pr_eq3_bool Try.underlying52 Try.underlying4 (by kernel_rfl) a b c a' b' c')
end Go.Proofs.Ytbhnkdnfmlnajaa

/- Go functions as Lean functions on deep values; printed by a program of mine. -/
namespace Go.Proofs.Ytbhnkdnfmlnajaa
open Go
set_option maxRecDepth 100000
set_option linter.unusedVariables false
/-! triune/vote.Majority -/
def s_vote_Majority_I0 (x0 x4 x7 x8 x9 : DV) : List DV := [x0, .any, .any, .any, x4, .any, .any, x7, x8, x9, .any, .any, .any, .any, .any, .any, .any, .any, .any, .any, .any, .any, .any, .any, .any, .any, .any, .any, .any, .any, .any, .any, .any, .any, .any, .any, .any, .any]
def s_vote_Majority_O0 (x0 x2 x3 x4 : DV) : List DV := [x0, .any, x2, x3, x4, .any, .any, .any, .any, .any, .any, .any, .any, .any, .any, .any, .any, .any, .any, .any, .any, .any, .any, .any, .any, .any, .any, .any, .any, .any, .any, .any, .any, .any, .any, .any, .any, .any]
noncomputable abbrev s_vote_Majority_b0 (n fl : Nat) : List DV → Heap → (Ex → KF) → R := execG ⟨Try.prog, callG Try.prog ENV n, ENV.md, fl, 38⟩ n (loopAt (bodyOf Try.f117) 0) []
noncomputable def s_vote_Majority_B0 (n fl : Nat) (rec : DV → DV → DV → DV → DV → Heap → R) (k : Ex → KF) (x0 x4 x7 x8 x9 : DV) (H : Heap) : R :=
  bi (ltK .i64 x9 x8) fun d0 =>
  condR d0 (
  bi (idxSl 1 x7 x9) fun d1 =>
  bi (loadG false 1 d1 H) fun d2 =>
  bi (geK .u16 d2 (I .u16 2)) fun d3 =>
  condR d3 (
  k .ret (s_vote_Majority_O0 x0 (I .u16 0) (Bo false) x4) H) (
  bi (idxArr 2 1 x4 d2) fun d4 =>
  bi (loadG false 1 d4 H) fun d5 =>
  bi (addK .i64 d5 (I .i64 1)) fun d6 =>
  bi (idxArr 2 1 x4 d2) fun d7 =>
  bi (storeG 1 d7 d6 H fl) fun h8 =>
  bi (addK .i64 x9 (I .i64 1)) fun d9 =>
  rec x0 x4 x7 x8 d9 h8)) (
  k (.exit 0) (s_vote_Majority_O0 x0 .any .any x4) H)
noncomputable def s_vote_Majority_L0 (n fl : Nat) (k : Ex → KF) : Nat → DV → DV → DV → DV → DV → Heap → R
  | 0, _, _, _, _, _, _ => none
  | m + 1, x0, x4, x7, x8, x9, H => s_vote_Majority_B0 n fl (s_vote_Majority_L0 n fl k m) k x0 x4 x7 x8 x9 H
theorem s_vote_Majority_S0 (n fl m : Nat) (k : Ex → KF) (x0 x4 x7 x8 x9 : DV) (H : Heap) : loopG [0, 4, 7, 8, 9] [0, 2, 3, 4] 38 (s_vote_Majority_b0 n fl) (m + 1) (s_vote_Majority_I0 x0 x4 x7 x8 x9) H k = s_vote_Majority_B0 n fl (fun x0 x4 x7 x8 x9 H => loopG [0, 4, 7, 8, 9] [0, 2, 3, 4] 38 (s_vote_Majority_b0 n fl) m (s_vote_Majority_I0 x0 x4 x7 x8 x9) H k) k x0 x4 x7 x8 x9 H := by kernel_rfl
theorem s_vote_Majority_L0_eq (n fl : Nat) (k : Ex → KF) : ∀ (m : Nat) (x0 x4 x7 x8 x9 : DV) (H : Heap), loopG [0, 4, 7, 8, 9] [0, 2, 3, 4] 38 (s_vote_Majority_b0 n fl) m (s_vote_Majority_I0 x0 x4 x7 x8 x9) H k = s_vote_Majority_L0 n fl k m x0 x4 x7 x8 x9 H := by
  intro m
  induction m with
  | zero => intros; rfl
  | succ m ih =>
    intro x0 x4 x7 x8 x9 H
    rw [s_vote_Majority_S0, show (fun x0 x4 x7 x8 x9 H => loopG [0, 4, 7, 8, 9] [0, 2, 3, 4] 38 (s_vote_Majority_b0 n fl) m (s_vote_Majority_I0 x0 x4 x7 x8 x9) H k) = s_vote_Majority_L0 n fl k m from by funext x0 x4 x7 x8 x9 H; exact ih _ _ _ _ _ _]
    rw [s_vote_Majority_L0]
noncomputable def s_vote_Majority (n : Nat) (H : Heap) (fl : Nat) (a0 : DV) : R :=
  bi (allocG 225 (.agg [(I .i64 0), (I .i64 0)]) (List.length H) (H ++ [.hole])) fun h0 =>
  bi (lenD a0) fun d1 =>
  loopG [0, 4, 7, 8, 9] [0, 2, 3, 4] 38 (s_vote_Majority_b0 n fl) n (s_vote_Majority_I0 a0 (.ptr (List.length H) 0) a0 d1 (I .i64 0)) h0 fun x S2 h2 => match x with
  | .normal => none
  | .exit i2 => (
  if i2 = 0 then (
  bi (lenD (S2.getD 0 .any)) fun d3 =>
  bi (gtK .i64 d3 (I .i64 3)) fun d4 =>
  bi (wantF d4 false (idxArr 2 1 (S2.getD 4 .any) (I .i64 0))) fun d5 =>
  bi (wantF d4 false (loadG false 1 d5 h2)) fun d6 =>
  bi (wantF d4 false (idxArr 2 1 (S2.getD 4 .any) (I .i64 1))) fun d7 =>
  bi (wantF d4 false (loadG false 1 d7 h2)) fun d8 =>
  bi (wantF d4 false (eqK .i64 d6 d8)) fun d9 =>
  bi (pickD d4 (Bo true) d9) fun d10 =>
  condR d10 (
  some ((.tup [(I .u16 0), (Bo false)]), h2)) (
   bi (idxArr 2 1 (S2.getD 4 .any) (I .i64 1)) fun d11 =>
   bi (loadG false 1 d11 h2) fun d12 =>
   bi (idxArr 2 1 (S2.getD 4 .any) (I .i64 0)) fun d13 =>
   bi (loadG false 1 d13 h2) fun d14 =>
   bi (gtK .i64 d12 d14) fun d15 =>
   condR d15 (
  some ((.tup [(I .u16 1), (Bo true)]), h2)) (
  some ((.tup [(I .u16 0), (Bo true)]), h2)))) else (
  none))
  | .ret => (
  some ((.tup [(S2.getD 2 .any), (S2.getD 3 .any)]), h2))
theorem s_vote_Majority_eq (n : Nat) (H : Heap) (fl : Nat) (a0 : DV) : callG Try.prog ENV (n + 1) 117 [a0] H fl = s_vote_Majority n H fl a0 := by kernel_rfl

/-! triune/vote.Apart -/
noncomputable def s_vote_Apart (n : Nat) (H : Heap) (fl : Nat) (a0 a1 a2 : DV) : R :=
  bi (allocG 87 a0 (List.length H) (H ++ [.hole])) fun h0 =>
  bi (maxI a1 a2) fun d1 =>
  bi (minI a1 a2) fun d2 =>
  bi (subK .u16 d1 d2) fun d3 =>
  bi (cvK .i64 d3) fun d4 =>
  bi (loadG false 1 (.ptr (List.length H) 3) h0) fun d5 =>
  bi (gtK .i64 d4 d5) fun d6 =>
  some (d6, h0)
theorem s_vote_Apart_eq (n : Nat) (H : Heap) (fl : Nat) (a0 a1 a2 : DV) : callG Try.prog ENV (n + 1) 106 [a0, a1, a2] H fl = s_vote_Apart n H fl a0 a1 a2 := by kernel_rfl

/-! triune/vote.of -/
noncomputable def s_vote_of (n : Nat) (H : Heap) (fl : Nat) (a0 : DV) : R :=
  bi (allocG 206 (.agg [(.flat .nilFunc)]) (List.length H) (H ++ [.hole])) fun h0 =>
  bi (eqK .i64 a0 (I .i64 0)) fun d1 =>
  bi (wantF d1 false (some a0)) fun d2 =>
  bi (wantF d1 false (eqK .i64 d2 (I .i64 1))) fun d3 =>
  bi (pickD d1 (Bo true) d3) fun d4 =>
  condR d4 (
   bi (buildS (.agg [(.flat .nilFunc)]) [(0, 1)] [(0, (.flat (.func (.func 116) #[] #[])))]) fun d5 =>
   bi (storeG 1 (.ptr (List.length H) 0) d5 h0 fl) fun h6 =>
  bi (cellR true 1 (.ptr (List.length H) 0) h6) fun r0 =>
  some (r0, h6)) (
  bi (buildS (.agg [(.flat .nilFunc)]) [(0, 1)] [(0, (.flat (.func (.func 117) #[] #[])))]) fun d7 =>
  bi (storeG 1 (.ptr (List.length H) 0) d7 h0 fl) fun h8 =>
  bi (cellR true 1 (.ptr (List.length H) 0) h8) fun r0 =>
  some (r0, h8))
theorem s_vote_of_eq (n : Nat) (H : Heap) (fl : Nat) (a0 : DV) : callG Try.prog ENV (n + 1) 109 [a0] H fl = s_vote_of n H fl a0 := by kernel_rfl

/-! triune/vote.Vote -/
noncomputable def s_vote_Vote (n : Nat) (H : Heap) (fl : Nat) (a0 a1 : DV) : R :=
  bi (allocG 87 a0 (List.length H) (H ++ [.hole])) fun h0 =>
  bi (loadG false 1 (.ptr (List.length H) 0) h0) fun d1 =>
  bi (cP n 109 false [d1]) fun d2 =>
  bi (fldD false 1 0 d2) fun d3 =>
  bi (cV n fl d3 [a1] h0) fun p4 =>
  bi (extD 0 p4.1) fun d5 =>
  bi (extD 1 p4.1) fun d6 =>
  bi (notD d6) fun d7 =>
  condR d7 (
   bi (loadG false 1 (.ptr (List.length H) 4) p4.2) fun d8 =>
   bi (cvK .u16 d8) fun d9 =>
  some ((.tup [d9, (Bo false)]), p4.2)) (
  some ((.tup [d5, (Bo true)]), p4.2))
theorem s_vote_Vote_eq (n : Nat) (H : Heap) (fl : Nat) (a0 a1 : DV) : callG Try.prog ENV (n + 1) 85 [a0, a1] H fl = s_vote_Vote n H fl a0 a1 := by kernel_rfl

/-! triune/triuneref12.Median -/
def s_triuneref12_Median_I1 (x0 x4 x5 x6 x7 : DV) : List DV := [x0, .any, .any, .any, x4, x5, x6, x7, .any, .any, .any, .any, .any, .any, .any, .any, .any, .any, .any, .any, .any, .any, .any, .any, .any, .any, .any, .any, .any, .any, .any, .any, .any, .any, .any, .any, .any, .any, .any, .any, .any, .any, .any, .any, .any, .any, .any, .any, .any, .any, .any, .any, .any, .any, .any, .any, .any, .any, .any, .any, .any, .any, .any, .any, .any, .any, .any, .any, .any, .any, .any]
def s_triuneref12_Median_O1 (x0 x4 x5 x6 : DV) : List DV := [x0, .any, .any, .any, x4, x5, x6, .any, .any, .any, .any, .any, .any, .any, .any, .any, .any, .any, .any, .any, .any, .any, .any, .any, .any, .any, .any, .any, .any, .any, .any, .any, .any, .any, .any, .any, .any, .any, .any, .any, .any, .any, .any, .any, .any, .any, .any, .any, .any, .any, .any, .any, .any, .any, .any, .any, .any, .any, .any, .any, .any, .any, .any, .any, .any, .any, .any, .any, .any, .any, .any]
noncomputable abbrev s_triuneref12_Median_b1 (n fl : Nat) : List DV → Heap → (Ex → KF) → R := execG ⟨Try.prog, callG Try.prog ENV n, ENV.md, fl, 71⟩ n (loopAt (bodyOf Try.f108) 1) []
noncomputable def s_triuneref12_Median_B1 (n fl : Nat) (rec : DV → DV → DV → DV → DV → Heap → R) (k : Ex → KF) (x0 x4 x5 x6 x7 : DV) (H : Heap) : R :=
  bi (ltK .i64 x7 (I .i64 3)) fun d0 =>
  condR d0 (
  bi (idxSl 1 x0 x7) fun d1 =>
  bi (loadG false 1 d1 H) fun d2 =>
  bi (idxSl 1 x0 x4) fun d3 =>
  bi (loadG false 1 d3 H) fun d4 =>
  bi (ltK .u16 d2 d4) fun d5 =>
  condR d5 (
   bi (addK .i64 x5 (I .i64 1)) fun d6 =>
  bi (idxSl 1 x0 x7) fun d7 =>
  bi (loadG false 1 d7 H) fun d8 =>
  bi (idxSl 1 x0 x4) fun d9 =>
  bi (loadG false 1 d9 H) fun d10 =>
  bi (gtK .u16 d8 d10) fun d11 =>
  condR d11 (
   bi (addK .i64 x6 (I .i64 1)) fun d12 =>
  bi (addK .i64 x7 (I .i64 1)) fun d13 =>
  rec x0 x4 d6 d12 d13 H) (
  bi (addK .i64 x7 (I .i64 1)) fun d14 =>
  rec x0 x4 d6 x6 d14 H)) (
  bi (idxSl 1 x0 x7) fun d15 =>
  bi (loadG false 1 d15 H) fun d16 =>
  bi (idxSl 1 x0 x4) fun d17 =>
  bi (loadG false 1 d17 H) fun d18 =>
  bi (gtK .u16 d16 d18) fun d19 =>
  condR d19 (
   bi (addK .i64 x6 (I .i64 1)) fun d20 =>
  bi (addK .i64 x7 (I .i64 1)) fun d21 =>
  rec x0 x4 x5 d20 d21 H) (
  bi (addK .i64 x7 (I .i64 1)) fun d22 =>
  rec x0 x4 x5 x6 d22 H))) (
  k (.exit 2) (s_triuneref12_Median_O1 x0 x4 x5 x6) H)
noncomputable def s_triuneref12_Median_L1 (n fl : Nat) (k : Ex → KF) : Nat → DV → DV → DV → DV → DV → Heap → R
  | 0, _, _, _, _, _, _ => none
  | m + 1, x0, x4, x5, x6, x7, H => s_triuneref12_Median_B1 n fl (s_triuneref12_Median_L1 n fl k m) k x0 x4 x5 x6 x7 H
theorem s_triuneref12_Median_S1 (n fl m : Nat) (k : Ex → KF) (x0 x4 x5 x6 x7 : DV) (H : Heap) : loopG [0, 4, 5, 6, 7] [0, 4, 5, 6] 71 (s_triuneref12_Median_b1 n fl) (m + 1) (s_triuneref12_Median_I1 x0 x4 x5 x6 x7) H k = s_triuneref12_Median_B1 n fl (fun x0 x4 x5 x6 x7 H => loopG [0, 4, 5, 6, 7] [0, 4, 5, 6] 71 (s_triuneref12_Median_b1 n fl) m (s_triuneref12_Median_I1 x0 x4 x5 x6 x7) H k) k x0 x4 x5 x6 x7 H := by kernel_rfl
theorem s_triuneref12_Median_L1_eq (n fl : Nat) (k : Ex → KF) : ∀ (m : Nat) (x0 x4 x5 x6 x7 : DV) (H : Heap), loopG [0, 4, 5, 6, 7] [0, 4, 5, 6] 71 (s_triuneref12_Median_b1 n fl) m (s_triuneref12_Median_I1 x0 x4 x5 x6 x7) H k = s_triuneref12_Median_L1 n fl k m x0 x4 x5 x6 x7 H := by
  intro m
  induction m with
  | zero => intros; rfl
  | succ m ih =>
    intro x0 x4 x5 x6 x7 H
    rw [s_triuneref12_Median_S1, show (fun x0 x4 x5 x6 x7 H => loopG [0, 4, 5, 6, 7] [0, 4, 5, 6] 71 (s_triuneref12_Median_b1 n fl) m (s_triuneref12_Median_I1 x0 x4 x5 x6 x7) H k) = s_triuneref12_Median_L1 n fl k m from by funext x0 x4 x5 x6 x7 H; exact ih _ _ _ _ _ _]
    rw [s_triuneref12_Median_L1]
def s_triuneref12_Median_I0 (x0 x4 : DV) : List DV := [x0, .any, .any, .any, x4, .any, .any, .any, .any, .any, .any, .any, .any, .any, .any, .any, .any, .any, .any, .any, .any, .any, .any, .any, .any, .any, .any, .any, .any, .any, .any, .any, .any, .any, .any, .any, .any, .any, .any, .any, .any, .any, .any, .any, .any, .any, .any, .any, .any, .any, .any, .any, .any, .any, .any, .any, .any, .any, .any, .any, .any, .any, .any, .any, .any, .any, .any, .any, .any, .any, .any]
def s_triuneref12_Median_O0 (x2 x3 : DV) : List DV := [.any, .any, x2, x3, .any, .any, .any, .any, .any, .any, .any, .any, .any, .any, .any, .any, .any, .any, .any, .any, .any, .any, .any, .any, .any, .any, .any, .any, .any, .any, .any, .any, .any, .any, .any, .any, .any, .any, .any, .any, .any, .any, .any, .any, .any, .any, .any, .any, .any, .any, .any, .any, .any, .any, .any, .any, .any, .any, .any, .any, .any, .any, .any, .any, .any, .any, .any, .any, .any, .any, .any]
noncomputable abbrev s_triuneref12_Median_b0 (n fl : Nat) : List DV → Heap → (Ex → KF) → R := execG ⟨Try.prog, callG Try.prog ENV n, ENV.md, fl, 71⟩ n (loopAt (bodyOf Try.f108) 0) [([0, 4, 5, 6, 7], [0, 4, 5, 6])]
noncomputable def s_triuneref12_Median_B0 (n fl : Nat) (rec : DV → DV → Heap → R) (k : Ex → KF) (x0 x4 : DV) (H : Heap) : R :=
  bi (ltK .i64 x4 (I .i64 3)) fun d0 =>
  condR d0 (
  loopG [0, 4, 5, 6, 7] [0, 4, 5, 6] 71 (s_triuneref12_Median_b1 n fl) n (s_triuneref12_Median_I1 x0 x4 (I .i64 0) (I .i64 0) (I .i64 0)) H fun x S1 h1 => match x with
  | .normal => none
  | .exit i1 => (
  if i1 = 2 then (
  bi (leK .i64 (S1.getD 5 .any) (I .i64 1)) fun d2 =>
  bi (wantF d2 true (some (S1.getD 6 .any))) fun d3 =>
  bi (wantF d2 true (leK .i64 d3 (I .i64 1))) fun d4 =>
  bi (pickD d2 d4 (Bo false)) fun d5 =>
  condR d5 (
   bi (idxSl 1 (S1.getD 0 .any) (S1.getD 4 .any)) fun d6 =>
   bi (loadG false 1 d6 h1) fun d7 =>
  k .ret (s_triuneref12_Median_O0 d7 (Bo true)) h1) (
  bi (addK .i64 (S1.getD 4 .any) (I .i64 1)) fun d8 =>
  rec (S1.getD 0 .any) d8 h1)) else (
  if i1 = 1 then (
  bi (addK .i64 (S1.getD 4 .any) (I .i64 1)) fun d9 =>
  rec (S1.getD 0 .any) d9 h1) else (
  k (.exit i1) (s_triuneref12_Median_O0 .any .any) h1)))
  | .ret => (
  k .ret (s_triuneref12_Median_O0 .any .any) h1)) (
  k (.exit 0) (s_triuneref12_Median_O0 .any .any) H)
noncomputable def s_triuneref12_Median_L0 (n fl : Nat) (k : Ex → KF) : Nat → DV → DV → Heap → R
  | 0, _, _, _ => none
  | m + 1, x0, x4, H => s_triuneref12_Median_B0 n fl (s_triuneref12_Median_L0 n fl k m) k x0 x4 H
theorem s_triuneref12_Median_S0 (n fl m : Nat) (k : Ex → KF) (x0 x4 : DV) (H : Heap) : loopG [0, 4] [2, 3] 71 (s_triuneref12_Median_b0 n fl) (m + 1) (s_triuneref12_Median_I0 x0 x4) H k = s_triuneref12_Median_B0 n fl (fun x0 x4 H => loopG [0, 4] [2, 3] 71 (s_triuneref12_Median_b0 n fl) m (s_triuneref12_Median_I0 x0 x4) H k) k x0 x4 H := by kernel_rfl
theorem s_triuneref12_Median_L0_eq (n fl : Nat) (k : Ex → KF) : ∀ (m : Nat) (x0 x4 : DV) (H : Heap), loopG [0, 4] [2, 3] 71 (s_triuneref12_Median_b0 n fl) m (s_triuneref12_Median_I0 x0 x4) H k = s_triuneref12_Median_L0 n fl k m x0 x4 H := by
  intro m
  induction m with
  | zero => intros; rfl
  | succ m ih =>
    intro x0 x4 H
    rw [s_triuneref12_Median_S0, show (fun x0 x4 H => loopG [0, 4] [2, 3] 71 (s_triuneref12_Median_b0 n fl) m (s_triuneref12_Median_I0 x0 x4) H k) = s_triuneref12_Median_L0 n fl k m from by funext x0 x4 H; exact ih _ _ _]
    rw [s_triuneref12_Median_L0]
noncomputable def s_triuneref12_Median (n : Nat) (H : Heap) (fl : Nat) (a0 : DV) : R :=
  bi (lenD a0) fun d0 =>
  bi (eqK .i64 d0 (I .i64 1)) fun d1 =>
  condR d1 (
   bi (idxSl 1 a0 (I .i64 0)) fun d2 =>
   bi (loadG false 1 d2 H) fun d3 =>
  some ((.tup [d3, (Bo true)]), H)) (
  bi (lenD a0) fun d4 =>
  bi (eqK .i64 d4 (I .i64 2)) fun d5 =>
  condR d5 (
   bi (idxSl 1 a0 (I .i64 0)) fun d6 =>
   bi (loadG false 1 d6 H) fun d7 =>
   bi (cvK .i64 d7) fun d8 =>
   bi (idxSl 1 a0 (I .i64 1)) fun d9 =>
   bi (loadG false 1 d9 H) fun d10 =>
   bi (cvK .i64 d10) fun d11 =>
   bi (addK .i64 d8 d11) fun d12 =>
   bi (quoK .i64 d12 (I .i64 2)) fun d13 =>
   bi (cvK .u16 d13) fun d14 =>
  some ((.tup [d14, (Bo true)]), H)) (
  bi (lenD a0) fun d15 =>
  bi (neK .i64 d15 (I .i64 3)) fun d16 =>
  condR d16 (
  some ((.tup [(I .u16 0), (Bo false)]), H)) (
  loopG [0, 4] [2, 3] 71 (s_triuneref12_Median_b0 n fl) n (s_triuneref12_Median_I0 a0 (I .i64 0)) H fun x S17 h17 => match x with
  | .normal => none
  | .exit i17 => (
  if i17 = 0 then (
  some ((.tup [(I .u16 0), (Bo false)]), h17)) else (
  none))
  | .ret => (
  some ((.tup [(S17.getD 2 .any), (S17.getD 3 .any)]), h17)))))
theorem s_triuneref12_Median_eq (n : Nat) (H : Heap) (fl : Nat) (a0 : DV) : callG Try.prog ENV (n + 1) 108 [a0] H fl = s_triuneref12_Median n H fl a0 := by kernel_rfl

/-! triune/triuneref12.Majority -/
def s_triuneref12_Majority_I0 (x0 x4 x5 : DV) : List DV := [x0, .any, .any, .any, x4, x5, .any, .any, .any, .any, .any, .any, .any, .any, .any, .any, .any, .any, .any, .any, .any, .any, .any, .any, .any, .any, .any, .any, .any, .any, .any, .any, .any, .any, .any, .any, .any, .any, .any, .any, .any, .any, .any, .any, .any, .any, .any, .any]
def s_triuneref12_Majority_O0 (x0 x2 x3 x4 : DV) : List DV := [x0, .any, x2, x3, x4, .any, .any, .any, .any, .any, .any, .any, .any, .any, .any, .any, .any, .any, .any, .any, .any, .any, .any, .any, .any, .any, .any, .any, .any, .any, .any, .any, .any, .any, .any, .any, .any, .any, .any, .any, .any, .any, .any, .any, .any, .any, .any, .any]
noncomputable abbrev s_triuneref12_Majority_b0 (n fl : Nat) : List DV → Heap → (Ex → KF) → R := execG ⟨Try.prog, callG Try.prog ENV n, ENV.md, fl, 48⟩ n (loopAt (bodyOf Try.f107) 0) []
noncomputable def s_triuneref12_Majority_B0 (n fl : Nat) (rec : DV → DV → DV → Heap → R) (k : Ex → KF) (x0 x4 x5 : DV) (H : Heap) : R :=
  bi (lenD x0) fun d0 =>
  bi (ltK .i64 x5 d0) fun d1 =>
  bi (wantF d1 true (some x5)) fun d2 =>
  bi (wantF d1 true (ltK .i64 d2 (I .i64 4))) fun d3 =>
  bi (pickD d1 d3 (Bo false)) fun d4 =>
  condR d4 (
  bi (idxSl 1 x0 x5) fun d5 =>
  bi (loadG false 1 d5 H) fun d6 =>
  bi (gtK .u16 d6 (I .u16 1)) fun d7 =>
  condR d7 (
  k .ret (s_triuneref12_Majority_O0 x0 (I .u16 0) (Bo false) x4) H) (
  bi (idxSl 1 x0 x5) fun d8 =>
  bi (loadG false 1 d8 H) fun d9 =>
  bi (cvK .i64 d9) fun d10 =>
  bi (addK .i64 x4 d10) fun d11 =>
  bi (addK .i64 x5 (I .i64 1)) fun d12 =>
  rec x0 d11 d12 H)) (
  k (.exit 0) (s_triuneref12_Majority_O0 x0 .any .any x4) H)
noncomputable def s_triuneref12_Majority_L0 (n fl : Nat) (k : Ex → KF) : Nat → DV → DV → DV → Heap → R
  | 0, _, _, _, _ => none
  | m + 1, x0, x4, x5, H => s_triuneref12_Majority_B0 n fl (s_triuneref12_Majority_L0 n fl k m) k x0 x4 x5 H
theorem s_triuneref12_Majority_S0 (n fl m : Nat) (k : Ex → KF) (x0 x4 x5 : DV) (H : Heap) : loopG [0, 4, 5] [0, 2, 3, 4] 48 (s_triuneref12_Majority_b0 n fl) (m + 1) (s_triuneref12_Majority_I0 x0 x4 x5) H k = s_triuneref12_Majority_B0 n fl (fun x0 x4 x5 H => loopG [0, 4, 5] [0, 2, 3, 4] 48 (s_triuneref12_Majority_b0 n fl) m (s_triuneref12_Majority_I0 x0 x4 x5) H k) k x0 x4 x5 H := by kernel_rfl
theorem s_triuneref12_Majority_L0_eq (n fl : Nat) (k : Ex → KF) : ∀ (m : Nat) (x0 x4 x5 : DV) (H : Heap), loopG [0, 4, 5] [0, 2, 3, 4] 48 (s_triuneref12_Majority_b0 n fl) m (s_triuneref12_Majority_I0 x0 x4 x5) H k = s_triuneref12_Majority_L0 n fl k m x0 x4 x5 H := by
  intro m
  induction m with
  | zero => intros; rfl
  | succ m ih =>
    intro x0 x4 x5 H
    rw [s_triuneref12_Majority_S0, show (fun x0 x4 x5 H => loopG [0, 4, 5] [0, 2, 3, 4] 48 (s_triuneref12_Majority_b0 n fl) m (s_triuneref12_Majority_I0 x0 x4 x5) H k) = s_triuneref12_Majority_L0 n fl k m from by funext x0 x4 x5 H; exact ih _ _ _ _]
    rw [s_triuneref12_Majority_L0]
noncomputable def s_triuneref12_Majority (n : Nat) (H : Heap) (fl : Nat) (a0 : DV) : R :=
  loopG [0, 4, 5] [0, 2, 3, 4] 48 (s_triuneref12_Majority_b0 n fl) n (s_triuneref12_Majority_I0 a0 (I .i64 0) (I .i64 0)) H fun x S0 h0 => match x with
  | .normal => none
  | .exit i0 => (
  if i0 = 0 then (
  bi (lenD (S0.getD 0 .any)) fun d1 =>
  bi (ltK .i64 d1 (I .i64 1)) fun d2 =>
  bi (wantF d2 false (some (S0.getD 0 .any))) fun d3 =>
  bi (wantF d2 false (lenD d3)) fun d4 =>
  bi (wantF d2 false (gtK .i64 d4 (I .i64 3))) fun d5 =>
  bi (pickD d2 (Bo true) d5) fun d6 =>
  bi (wantF d6 false (some (S0.getD 4 .any))) fun d7 =>
  bi (wantF d6 false (mulK .i64 (I .i64 2) d7)) fun d8 =>
  bi (wantF d6 false (some (S0.getD 0 .any))) fun d9 =>
  bi (wantF d6 false (lenD d9)) fun d10 =>
  bi (wantF d6 false (eqK .i64 d8 d10)) fun d11 =>
  bi (pickD d6 (Bo true) d11) fun d12 =>
  condR d12 (
  some ((.tup [(I .u16 0), (Bo false)]), h0)) (
  bi (mulK .i64 (I .i64 2) (S0.getD 4 .any)) fun d13 =>
  bi (lenD (S0.getD 0 .any)) fun d14 =>
  bi (gtK .i64 d13 d14) fun d15 =>
  condR d15 (
  some ((.tup [(I .u16 1), (Bo true)]), h0)) (
  some ((.tup [(I .u16 0), (Bo true)]), h0)))) else (
  none))
  | .ret => (
  some ((.tup [(S0.getD 2 .any), (S0.getD 3 .any)]), h0))
theorem s_triuneref12_Majority_eq (n : Nat) (H : Heap) (fl : Nat) (a0 : DV) : callG Try.prog ENV (n + 1) 107 [a0] H fl = s_triuneref12_Majority n H fl a0 := by kernel_rfl

/-! triune/triuneref12.Apart -/
noncomputable def s_triuneref12_Apart (n : Nat) (H : Heap) (fl : Nat) (a0 a1 a2 : DV) : R :=
  bi (allocG 87 a0 (List.length H) (H ++ [.hole])) fun h0 =>
  bi (cvK .i64 a1) fun d1 =>
  bi (cvK .i64 a2) fun d2 =>
  bi (subK .i64 d1 d2) fun d3 =>
  bi (ltK .i64 d3 (I .i64 0)) fun d4 =>
  condR d4 (
   bi (unD Try.prog .neg d3) fun d5 =>
  bi (loadG false 1 (.ptr (List.length H) 3) h0) fun d6 =>
  bi (gtK .i64 d5 d6) fun d7 =>
  some (d7, h0)) (
  bi (loadG false 1 (.ptr (List.length H) 3) h0) fun d8 =>
  bi (gtK .i64 d3 d8) fun d9 =>
  some (d9, h0))
theorem s_triuneref12_Apart_eq (n : Nat) (H : Heap) (fl : Nat) (a0 a1 a2 : DV) : callG Try.prog ENV (n + 1) 83 [a0, a1, a2] H fl = s_triuneref12_Apart n H fl a0 a1 a2 := by kernel_rfl

/-! triune/triuneref12.Vote -/
noncomputable def s_triuneref12_Vote (n : Nat) (H : Heap) (fl : Nat) (a0 a1 : DV) : R :=
  bi (allocG 87 a0 (List.length H) (H ++ [.hole])) fun h0 =>
  bi (cP n 107 false [a1]) fun d1 =>
  bi (extD 0 d1) fun d2 =>
  bi (extD 1 d1) fun d3 =>
  bi (loadG false 1 (.ptr (List.length H) 0) h0) fun d4 =>
  bi (leK .i64 d4 (I .i64 1)) fun d5 =>
  condR d5 (
   bi (cP n 108 false [a1]) fun d6 =>
   bi (extD 0 d6) fun d7 =>
   bi (extD 1 d6) fun d8 =>
  bi (notD d8) fun d9 =>
  condR d9 (
   bi (loadG false 1 (.ptr (List.length H) 4) h0) fun d10 =>
   bi (cvK .u16 d10) fun d11 =>
  some ((.tup [d11, (Bo false)]), h0)) (
  some ((.tup [d7, (Bo true)]), h0))) (
  bi (notD d3) fun d12 =>
  condR d12 (
   bi (loadG false 1 (.ptr (List.length H) 4) h0) fun d13 =>
   bi (cvK .u16 d13) fun d14 =>
  some ((.tup [d14, (Bo false)]), h0)) (
  some ((.tup [d2, (Bo true)]), h0)))
theorem s_triuneref12_Vote_eq (n : Nat) (H : Heap) (fl : Nat) (a0 a1 : DV) : callG Try.prog ENV (n + 1) 82 [a0, a1] H fl = s_triuneref12_Vote n H fl a0 a1 := by kernel_rfl

end Go.Proofs.Ytbhnkdnfmlnajaa

/- Go functions as Lean functions on deep values; printed by a program of mine. -/
namespace Go.Proofs.Ytbhnkdnfmlnajaa
open Go
set_option maxRecDepth 100000
set_option linter.unusedVariables false
/-! slices.Concat[[]byte,byte] -/
def s_slices_Concat___byte_byte__I1 (x6 x25 x26 x27 : DV) : List DV := [.any, .any, .any, .any, .any, .any, x6, .any, .any, .any, .any, .any, .any, .any, .any, .any, .any, .any, .any, .any, .any, .any, .any, .any, .any, x25, x26, x27, .any, .any, .any, .any, .any, .any, .any, .any]
def s_slices_Concat___byte_byte__O1 (x6 : DV) : List DV := [.any, .any, .any, .any, .any, .any, x6, .any, .any, .any, .any, .any, .any, .any, .any, .any, .any, .any, .any, .any, .any, .any, .any, .any, .any, .any, .any, .any, .any, .any, .any, .any, .any, .any, .any, .any]
noncomputable abbrev s_slices_Concat___byte_byte__b1 (n fl : Nat) : List DV → Heap → (Ex → KF) → R := execG ⟨Try.prog, callG Try.prog ENV n, ENV.md, fl, 36⟩ n (loopAt (bodyOf Try.f172) 1) []
noncomputable def s_slices_Concat___byte_byte__B1 (n fl : Nat) (rec : DV → DV → DV → DV → Heap → R) (k : Ex → KF) (x6 x25 x26 x27 : DV) (H : Heap) : R :=
  bi (ltK .i64 x27 x26) fun d0 =>
  condR d0 (
  bi (idxSl 1 x25 x27) fun d1 =>
  bi (loadG false 1 d1 H) fun d2 =>
  bi (appG 5 false 1 1 x6 d2 H fl) fun p3 =>
  bi (addK .i64 x27 (I .i64 1)) fun d4 =>
  rec p3.1 x25 x26 d4 p3.2) (
  k (.exit 2) (s_slices_Concat___byte_byte__O1 x6) H)
noncomputable def s_slices_Concat___byte_byte__L1 (n fl : Nat) (k : Ex → KF) : Nat → DV → DV → DV → DV → Heap → R
  | 0, _, _, _, _, _ => none
  | m + 1, x6, x25, x26, x27, H => s_slices_Concat___byte_byte__B1 n fl (s_slices_Concat___byte_byte__L1 n fl k m) k x6 x25 x26 x27 H
theorem s_slices_Concat___byte_byte__S1 (n fl m : Nat) (k : Ex → KF) (x6 x25 x26 x27 : DV) (H : Heap) : loopG [6, 25, 26, 27] [6] 36 (s_slices_Concat___byte_byte__b1 n fl) (m + 1) (s_slices_Concat___byte_byte__I1 x6 x25 x26 x27) H k = s_slices_Concat___byte_byte__B1 n fl (fun x6 x25 x26 x27 H => loopG [6, 25, 26, 27] [6] 36 (s_slices_Concat___byte_byte__b1 n fl) m (s_slices_Concat___byte_byte__I1 x6 x25 x26 x27) H k) k x6 x25 x26 x27 H := by kernel_rfl
theorem s_slices_Concat___byte_byte__L1_eq (n fl : Nat) (k : Ex → KF) : ∀ (m : Nat) (x6 x25 x26 x27 : DV) (H : Heap), loopG [6, 25, 26, 27] [6] 36 (s_slices_Concat___byte_byte__b1 n fl) m (s_slices_Concat___byte_byte__I1 x6 x25 x26 x27) H k = s_slices_Concat___byte_byte__L1 n fl k m x6 x25 x26 x27 H := by
  intro m
  induction m with
  | zero => intros; rfl
  | succ m ih =>
    intro x6 x25 x26 x27 H
    rw [s_slices_Concat___byte_byte__S1, show (fun x6 x25 x26 x27 H => loopG [6, 25, 26, 27] [6] 36 (s_slices_Concat___byte_byte__b1 n fl) m (s_slices_Concat___byte_byte__I1 x6 x25 x26 x27) H k) = s_slices_Concat___byte_byte__L1 n fl k m from by funext x6 x25 x26 x27 H; exact ih _ _ _ _ _]
    rw [s_slices_Concat___byte_byte__L1]
def s_slices_Concat___byte_byte__I0 (x0 x3 x9 x10 x11 : DV) : List DV := [x0, .any, .any, x3, .any, .any, .any, .any, .any, x9, x10, x11, .any, .any, .any, .any, .any, .any, .any, .any, .any, .any, .any, .any, .any, .any, .any, .any, .any, .any, .any, .any, .any, .any, .any, .any]
def s_slices_Concat___byte_byte__O0 (x0 x3 : DV) : List DV := [x0, .any, .any, x3, .any, .any, .any, .any, .any, .any, .any, .any, .any, .any, .any, .any, .any, .any, .any, .any, .any, .any, .any, .any, .any, .any, .any, .any, .any, .any, .any, .any, .any, .any, .any, .any]
noncomputable abbrev s_slices_Concat___byte_byte__b0 (n fl : Nat) : List DV → Heap → (Ex → KF) → R := execG ⟨Try.prog, callG Try.prog ENV n, ENV.md, fl, 36⟩ n (loopAt (bodyOf Try.f172) 0) []
noncomputable def s_slices_Concat___byte_byte__B0 (n fl : Nat) (rec : DV → DV → DV → DV → DV → Heap → R) (k : Ex → KF) (x0 x3 x9 x10 x11 : DV) (H : Heap) : R :=
  bi (ltK .i64 x11 x10) fun d0 =>
  condR d0 (
  bi (idxSl 1 x9 x11) fun d1 =>
  bi (loadG false 1 d1 H) fun d2 =>
  bi (lenD d2) fun d3 =>
  bi (addK .i64 x3 d3) fun d4 =>
  bi (ltK .i64 d4 (I .i64 0)) fun d5 =>
  condR d5 (
   none /- 1: panic t21 :T0 -/) (
  bi (addK .i64 x11 (I .i64 1)) fun d6 =>
  rec x0 d4 x9 x10 d6 H)) (
  k (.exit 0) (s_slices_Concat___byte_byte__O0 x0 x3) H)
noncomputable def s_slices_Concat___byte_byte__L0 (n fl : Nat) (k : Ex → KF) : Nat → DV → DV → DV → DV → DV → Heap → R
  | 0, _, _, _, _, _, _ => none
  | m + 1, x0, x3, x9, x10, x11, H => s_slices_Concat___byte_byte__B0 n fl (s_slices_Concat___byte_byte__L0 n fl k m) k x0 x3 x9 x10 x11 H
theorem s_slices_Concat___byte_byte__S0 (n fl m : Nat) (k : Ex → KF) (x0 x3 x9 x10 x11 : DV) (H : Heap) : loopG [0, 3, 9, 10, 11] [0, 3] 36 (s_slices_Concat___byte_byte__b0 n fl) (m + 1) (s_slices_Concat___byte_byte__I0 x0 x3 x9 x10 x11) H k = s_slices_Concat___byte_byte__B0 n fl (fun x0 x3 x9 x10 x11 H => loopG [0, 3, 9, 10, 11] [0, 3] 36 (s_slices_Concat___byte_byte__b0 n fl) m (s_slices_Concat___byte_byte__I0 x0 x3 x9 x10 x11) H k) k x0 x3 x9 x10 x11 H := by kernel_rfl
theorem s_slices_Concat___byte_byte__L0_eq (n fl : Nat) (k : Ex → KF) : ∀ (m : Nat) (x0 x3 x9 x10 x11 : DV) (H : Heap), loopG [0, 3, 9, 10, 11] [0, 3] 36 (s_slices_Concat___byte_byte__b0 n fl) m (s_slices_Concat___byte_byte__I0 x0 x3 x9 x10 x11) H k = s_slices_Concat___byte_byte__L0 n fl k m x0 x3 x9 x10 x11 H := by
  intro m
  induction m with
  | zero => intros; rfl
  | succ m ih =>
    intro x0 x3 x9 x10 x11 H
    rw [s_slices_Concat___byte_byte__S0, show (fun x0 x3 x9 x10 x11 H => loopG [0, 3, 9, 10, 11] [0, 3] 36 (s_slices_Concat___byte_byte__b0 n fl) m (s_slices_Concat___byte_byte__I0 x0 x3 x9 x10 x11) H k) = s_slices_Concat___byte_byte__L0 n fl k m from by funext x0 x3 x9 x10 x11 H; exact ih _ _ _ _ _ _]
    rw [s_slices_Concat___byte_byte__L0]
noncomputable def s_slices_Concat___byte_byte_ (n : Nat) (H : Heap) (fl : Nat) (a0 : DV) : R :=
  bi (lenD a0) fun d0 =>
  loopG [0, 3, 9, 10, 11] [0, 3] 36 (s_slices_Concat___byte_byte__b0 n fl) n (s_slices_Concat___byte_byte__I0 a0 (I .i64 0) a0 d0 (I .i64 0)) H fun x S1 h1 => match x with
  | .normal => none
  | .exit i1 => (
  if i1 = 0 then (
  bi (cK n 182 [(.list 0 [] .ti), (S1.getD 3 .any)] h1 fl) fun p2 =>
  bi (lenD (S1.getD 0 .any)) fun d3 =>
  loopG [6, 25, 26, 27] [6] 36 (s_slices_Concat___byte_byte__b1 n fl) n (s_slices_Concat___byte_byte__I1 p2.1 (S1.getD 0 .any) d3 (I .i64 0)) p2.2 fun x S4 h4 => match x with
  | .normal => none
  | .exit i4 => (
  if i4 = 2 then (
  some ((S4.getD 6 .any), h4)) else (
  none))
  | .ret => (
  some (.any, h4))) else (
  none))
  | .ret => (
  some (.any, h1))
theorem s_slices_Concat___byte_byte__eq (n : Nat) (H : Heap) (fl : Nat) (a0 : DV) : callG Try.prog ENV (n + 1) 172 [a0] H fl = s_slices_Concat___byte_byte_ n H fl a0 := by kernel_rfl

end Go.Proofs.Ytbhnkdnfmlnajaa

/- Lists of bytes, one behind the other. -/
namespace Go.Proofs.Ytbhnkdnfmlnajaa
open Go
set_option linter.unusedSimpArgs false
set_option linter.unusedVariables false
def Bytes (l : List Int) : Prop := ∀ x ∈ l, 0 ≤ x ∧ x < 256
theorem bytes_app {a b : List Int} (ha : Bytes a) (hb : Bytes b) : Bytes (a ++ b) := fun x hx => by
  rcases List.mem_append.1 hx with h | h
  · exact ha x h
  · exact hb x h
/-- a list of bytes, with its end -/
abbrev BT := List Int × Tag
def btE (p : BT) : DV := LV 1 (I .u8) p.1 p.2
theorem btE_cells (p : BT) : (btE p).cells = [LV 1 (I .u8) p.1 p.2] := by unfold btE; simp
/-- a list that is being built in a room of its own -/
def LO (xs : List Int) (k : Nat) : DV := .list 1 (xs.map (I .u8)) (.own k)
def catB (ls : List BT) : List Int := (ls.map (fun p => p.1)).flatten
theorem catB_succ (ls : List BT) (i : Nat) (h : i < ls.length) : catB (ls.take (i + 1)) = catB (ls.take i) ++ ls[i].1 := by
  unfold catB
  rw [List.take_succ_eq_append_getElem h, List.map_append, List.flatten_append]
  simp
theorem catB_le (ls : List BT) (i : Nat) : (catB (ls.take i)).length ≤ (catB ls).length := by
  have : ls.map (fun p => p.1) = (ls.take i).map (fun p => p.1) ++ (ls.drop i).map (fun p => p.1) := by rw [← List.map_append, List.take_append_drop]
  unfold catB
  rw [this, List.flatten_append, List.length_append]
  omega
theorem catB_nil (ls : List BT) (h : catB ls = []) (i : Nat) (hi : i < ls.length) : ls[i].1 = [] :=
  List.flatten_eq_nil_iff.1 h ls[i].1 (List.mem_map.2 ⟨ls[i], List.getElem_mem hi, rfl⟩)
theorem appG_LO (xs ys : List Int) (t : Tag) (k : Nat) (H : Heap) (fl : Nat) (hk : H[k]? = some (.token 5 1 xs.length)) (hfl : fl ≤ k) (hl : xs.length + ys.length ≤ 1000000) :
    appG 5 false 1 1 (LO xs k) (LV 1 (I .u8) ys t) H fl = some (LO (xs ++ ys) k, if ys = [] then H else H.set k (.token 5 1 (xs.length + ys.length))) := by
  obtain ⟨s, h1, h2⟩ := LV_list 1 (I .u8) ys t
  rw [h1]
  unfold appG appendD srcD LO
  simp only [h2, if_true]
  cases ys with
  | nil => simp [effH, Eff.heap]
  | cons y ys =>
    have hc : chunkOk false 1 0 = true := rfl
    have h3 : xs.length + (ys.length + 1) ≤ 140737488355328 := by simp at hl; omega
    simp [hk, hfl, effH, Eff.heap, hc, h3]
theorem con_L0 (n fl : Nat) (K : Ex → KF) (ls : List BT) (t : Tag) (hs : (catB ls).length ≤ 1000000) (hll : ls.length ≤ 1000) : ∀ (m i : Nat) (H : Heap), ls.length < m + i → i ≤ ls.length →
    s_slices_Concat___byte_byte__L0 n fl K m (LV 1 btE ls t) (I .i64 ((catB (ls.take i)).length : Nat)) (LV 1 btE ls t) (I .i64 ls.length) (I .i64 i) H = K (.exit 0) (s_slices_Concat___byte_byte__O0 (LV 1 btE ls t) (I .i64 ((catB ls).length : Nat))) H := by
  intro m
  induction m with
  | zero => intro i H h; omega
  | succ m ih =>
    intro i H hm hi
    unfold s_slices_Concat___byte_byte__L0 s_slices_Concat___byte_byte__B0
    by_cases h : i < ls.length
    · have ih' := ih (i + 1) H (by omega) (by omega)
      have hi2 : ((i + 1 : Nat) : Int) = (i : Int) + 1 := by omega
      have ht : (catB (ls.take (i + 1))).length = (catB (ls.take i)).length + ls[i].1.length := by rw [catB_succ ls i h, List.length_append]
      have hle := catB_le ls (i + 1)
      rw [hi2, ht, Int.natCast_add] at ih'
      rw [ht] at hle
      have hc := btE_cells ls[i]
      generalize (catB (ls.take i)).length = s at *
      simp -implicitDefEqProofs (disch := first | omega | (simp only [List.length_set, List.length_append, List.length_cons, List.length_nil, List.length_take, List.length_drop, List.length_map]; omega) | simp) [wrap_i64, wrap_u16_id, wrap_u8_id, tdiv_pos, tmod_pos, -getElem?_pos, -getElem?_neg, -List.length_eq_zero_iff, -List.getElem_cons_drop, h, hc, ih']
    · have : i = ls.length := by omega
      subst this
      rw [List.take_length]
      simp -implicitDefEqProofs (disch := first | omega | (simp only [List.length_set, List.length_append, List.length_cons, List.length_nil, List.length_take, List.length_drop, List.length_map]; omega) | simp) [wrap_i64, wrap_u16_id, wrap_u8_id, tdiv_pos, tmod_pos, -getElem?_pos, -getElem?_neg, -List.length_eq_zero_iff, -List.getElem_cons_drop]
theorem con_L1 (n fl : Nat) (ls : List BT) (t : Tag) (k : Nat) (hfl : fl ≤ k) (hs : (catB ls).length ≤ 1000000) (hll : ls.length ≤ 1000) : ∀ (m i : Nat) (H : Heap), ls.length < m + i → i ≤ ls.length → H[k]? = some (.token 5 1 (catB (ls.take i)).length) →
    ∃ H', ∀ K, s_slices_Concat___byte_byte__L1 n fl K m (LO (catB (ls.take i)) k) (LV 1 btE ls t) (I .i64 ls.length) (I .i64 i) H = K (.exit 2) (s_slices_Concat___byte_byte__O1 (LO (catB ls) k)) H' := by
  intro m
  induction m with
  | zero => intro i H h; omega
  | succ m ih =>
    intro i H hm hi hk
    by_cases h : i < ls.length
    · have hi2 : ((i + 1 : Nat) : Int) = (i : Int) + 1 := by omega
      have hte := catB_succ ls i h
      have hle := catB_le ls (i + 1)
      rw [hte] at hle
      have ih' := ih (i + 1) (if ls[i].1 = [] then H else H.set k (.token 5 1 ((catB (ls.take i)).length + ls[i].1.length))) (by omega) (by omega) (by
        rw [hte, List.length_append]
        split
        · rename_i h0
          rw [h0, List.length_nil, Nat.add_zero]
          exact hk
        · exact hp_set_get _ _ _ (hp_lt hk))
      rw [hi2, hte] at ih'
      obtain ⟨H', q⟩ := ih'
      have hc := btE_cells ls[i]
      have ha := appG_LO (catB (ls.take i)) ls[i].1 ls[i].2 k H fl hk hfl (by rw [← List.length_append]; omega)
      generalize catB (ls.take i) = s at *
      exact ⟨H', fun K => by unfold s_slices_Concat___byte_byte__L1 s_slices_Concat___byte_byte__B1; simp -implicitDefEqProofs (disch := first | omega | (simp only [List.length_set, List.length_append, List.length_cons, List.length_nil, List.length_take, List.length_drop, List.length_map]; omega) | simp) [wrap_i64, wrap_u16_id, wrap_u8_id, tdiv_pos, tmod_pos, -getElem?_pos, -getElem?_neg, -List.length_eq_zero_iff, -List.getElem_cons_drop, h, hc, ha, q]⟩
    · have : i = ls.length := by omega
      subst this
      rw [List.take_length]
      exact ⟨H, fun K => by unfold s_slices_Concat___byte_byte__L1 s_slices_Concat___byte_byte__B1; simp -implicitDefEqProofs (disch := first | omega | (simp only [List.length_set, List.length_append, List.length_cons, List.length_nil, List.length_take, List.length_drop, List.length_map]; omega) | simp) [wrap_i64, wrap_u16_id, wrap_u8_id, tdiv_pos, tmod_pos, -getElem?_pos, -getElem?_neg, -List.length_eq_zero_iff, -List.getElem_cons_drop]⟩
/-- nothing is laid behind nothing -/
theorem con_L1e (n fl : Nat) (K : Ex → KF) (ls : List BT) (t : Tag) (hs : catB ls = []) (hll : ls.length ≤ 1000) : ∀ (m i : Nat) (H : Heap), ls.length < m + i → i ≤ ls.length →
    s_slices_Concat___byte_byte__L1 n fl K m (.list 0 [] .ti) (LV 1 btE ls t) (I .i64 ls.length) (I .i64 i) H = K (.exit 2) (s_slices_Concat___byte_byte__O1 (.list 0 [] .ti)) H := by
  intro m
  induction m with
  | zero => intro i H h; omega
  | succ m ih =>
    intro i H hm hi
    unfold s_slices_Concat___byte_byte__L1 s_slices_Concat___byte_byte__B1
    by_cases h : i < ls.length
    · have ih' := ih (i + 1) H (by omega) (by omega)
      have hi2 : ((i + 1 : Nat) : Int) = (i : Int) + 1 := by omega
      rw [hi2] at ih'
      have h0 := catB_nil ls hs i h
      have hc := btE_cells ls[i]
      rw [h0] at hc
      have ha : ∀ tt, appG 5 false 1 1 (.list 0 [] .ti) (LV 1 (I .u8) [] tt) H fl = some (.list 0 [] .ti, H) := fun tt => rfl
      simp -implicitDefEqProofs (disch := first | omega | (simp only [List.length_set, List.length_append, List.length_cons, List.length_nil, List.length_take, List.length_drop, List.length_map]; omega) | simp) [wrap_i64, wrap_u16_id, wrap_u8_id, tdiv_pos, tmod_pos, -getElem?_pos, -getElem?_neg, -List.length_eq_zero_iff, -List.getElem_cons_drop, h, hc, ha, ih']
    · have : i = ls.length := by omega
      subst this
      simp -implicitDefEqProofs (disch := first | omega | (simp only [List.length_set, List.length_append, List.length_cons, List.length_nil, List.length_take, List.length_drop, List.length_map]; omega) | simp) [wrap_i64, wrap_u16_id, wrap_u8_id, tdiv_pos, tmod_pos, -getElem?_pos, -getElem?_neg, -List.length_eq_zero_iff, -List.getElem_cons_drop]
theorem grow_c (n fl : Nat) (k : Nat) (H : Heap) (hn : 1 ≤ n) (h0 : 0 < k) (h1 : k ≤ 1000000) : cK n 182 [.list 0 [] .ti, I .i64 k] H fl = some (LO [] H.length, H ++ [.token 5 1 0]) := by
  obtain ⟨n, rfl⟩ : ∃ m, n = m + 1 := ⟨n - 1, by omega⟩
  have hp : ENV.prim 182 = some primGrow := by kernel_rfl
  unfold cK
  rw [callG_eq]
  unfold bodyG
  rw [hp]
  show (if ((k : Int) = 0) then _ else if 0 < (k : Int) ∧ (k : Int) ≤ 1000000 then _ else _) = _
  rw [if_neg (by omega), if_pos (by omega)]
  rfl
theorem grow_0 (n fl : Nat) (H : Heap) (hn : 1 ≤ n) : cK n 182 [.list 0 [] .ti, I .i64 0] H fl = some (.list 0 [] .ti, H) := by
  obtain ⟨n, rfl⟩ : ∃ m, n = m + 1 := ⟨n - 1, by omega⟩
  have hp : ENV.prim 182 = some primGrow := by kernel_rfl
  unfold cK
  rw [callG_eq]
  unfold bodyG
  rw [hp]
  rfl
theorem arg_bt (ls : List BT) (t : Tag) : argEl (LV 1 btE ls t) = some (LV 1 btE ls .sh) := by rw [argEl_eq, outEl_LV, shTag_f]
theorem concat_c (n : Nat) (ls : List BT) (t : Tag) (hs : (catB ls).length ≤ 1000000) (hll : ls.length ≤ 1000) (hn : ls.length + 4 ≤ n) : cP n 172 false [LV 1 btE ls t] = some (LV 1 (I .u8) (catB ls) .sh) := by
  obtain ⟨n, rfl⟩ : ∃ m, n = m + 1 := ⟨n - 1, by omega⟩
  have q0 : ∀ K, loopG [0, 3, 9, 10, 11] [0, 3] 36 (s_slices_Concat___byte_byte__b0 n 0) n (s_slices_Concat___byte_byte__I0 (LV 1 btE ls .sh) (I .i64 0) (LV 1 btE ls .sh) (I .i64 ls.length) (I .i64 0)) [] K = _ := fun K => (s_slices_Concat___byte_byte__L0_eq _ _ _ _ _ _ _ _ _ _).trans (con_L0 n 0 K ls .sh hs hll n 0 [] (by omega) (by omega))
  by_cases h : catB ls = []
  · have q1 : ∀ K, loopG [6, 25, 26, 27] [6] 36 (s_slices_Concat___byte_byte__b1 n 0) n (s_slices_Concat___byte_byte__I1 (.list 0 [] .ti) (LV 1 btE ls .sh) (I .i64 ls.length) (I .i64 0)) [] K = _ := fun K => (s_slices_Concat___byte_byte__L1_eq _ _ _ _ _ _ _ _ _).trans (con_L1e n 0 K ls .sh h hll n 0 [] (by omega) (by omega))
    have g := grow_0 n 0 [] (by omega)
    rw [h] at q0 ⊢
    simp only [List.length_nil, Int.natCast_zero] at q0
    refine cP_of (r := .list 0 [] .ti) (args' := [LV 1 btE ls .sh]) (by simp [arg_bt]) ((s_slices_Concat___byte_byte__eq _ _ _ _).trans (by unfold s_slices_Concat___byte_byte_; simp -implicitDefEqProofs (disch := first | omega | (simp only [List.length_set, List.length_append, List.length_cons, List.length_nil, List.length_take, List.length_drop, List.length_map]; omega) | simp) [wrap_i64, wrap_u16_id, wrap_u8_id, tdiv_pos, tmod_pos, -getElem?_pos, -getElem?_neg, -List.length_eq_zero_iff, -List.getElem_cons_drop, q0, s_slices_Concat___byte_byte__O0, g, q1, s_slices_Concat___byte_byte__O1]; first | exact rfl | exact ⟨rfl, rfl⟩)) rfl
  · have hpos : 0 < (catB ls).length := by
      rcases Nat.eq_zero_or_pos (catB ls).length with h' | h'
      · exact absurd (List.eq_nil_of_length_eq_zero h') h
      · exact h'
    obtain ⟨H', q1⟩ : ∃ H', ∀ K, loopG [6, 25, 26, 27] [6] 36 (s_slices_Concat___byte_byte__b1 n 0) n (s_slices_Concat___byte_byte__I1 (LO [] 0) (LV 1 btE ls .sh) (I .i64 ls.length) (I .i64 0)) [.token 5 1 0] K = K (.exit 2) (s_slices_Concat___byte_byte__O1 (LO (catB ls) 0)) H' := by
      obtain ⟨H', q⟩ := con_L1 n 0 ls .sh 0 (Nat.le_refl _) hs hll n 0 [.token 5 1 0] (by omega) (by omega) rfl
      exact ⟨H', fun K => (s_slices_Concat___byte_byte__L1_eq _ _ _ _ _ _ _ _ _).trans (q K)⟩
    have g := grow_c n 0 (catB ls).length [] (by omega) hpos hs
    simp only [List.length_nil, List.nil_append] at g
    refine cP_of (r := LO (catB ls) 0) (H' := H') (args' := [LV 1 btE ls .sh]) (by simp [arg_bt]) ((s_slices_Concat___byte_byte__eq _ _ _ _).trans (by unfold s_slices_Concat___byte_byte_; simp -implicitDefEqProofs (disch := first | omega | (simp only [List.length_set, List.length_append, List.length_cons, List.length_nil, List.length_take, List.length_drop, List.length_map]; omega) | simp) [wrap_i64, wrap_u16_id, wrap_u8_id, tdiv_pos, tmod_pos, -getElem?_pos, -getElem?_neg, -List.length_eq_zero_iff, -List.getElem_cons_drop, q0, s_slices_Concat___byte_byte__O0, g, q1, s_slices_Concat___byte_byte__O1])) ?_
    generalize catB ls = f at *
    cases f with
    | nil => exact absurd rfl h
    | cons a f => rfl
end Go.Proofs.Ytbhnkdnfmlnajaa

/- Calls that leave all that was. -/
namespace Go.Proofs.Ytbhnkdnfmlnajaa
open Go Go.RowKit
set_option linter.unusedSimpArgs false
set_option linter.unusedVariables false
theorem Keep.below (G : Gh) {w w' : World} (h : Below w.heap.size w w') : Keep G w G w' :=
  ⟨h.os, h.tape, h.output, h.size, fun b hb _ => h.block b hb, fun k b sz cap hw hg hb j hj => cell_of_blk (h.block b hb) j, Evol.refl G, fun k b hb h => h, fun k b sz cap' hw' hb h => ⟨cap', hw', h, Nat.le_refl _⟩⟩
theorem HR.below {B : Nat → Nat → Prop} {G : Gh} {w w' : World} {H : Heap} (h : HR B G w H) (hb : Below w.heap.size w w') : HR B G w' H := by
  refine ⟨h.len, h.dist, fun k b g hB hg => ?_, h.bb⟩
  have := h.blk k b g hB hg
  cases b <;> cases g <;> simp only [BlkRep] at this ⊢
  · obtain ⟨C, h1, h2, h3⟩ := this
    exact ⟨C, by rw [hb.block _ (h.lt (.inl hg))]; exact h1, RepL.keep (Keep.below G hb) h2, h3⟩
  · obtain ⟨h1, h2, h3, h4, h5, C, h6, h7⟩ := this
    exact ⟨h1, h2, h3, h4, h5, C, by rw [hb.block _ (h.lt (.inr ⟨_, _, _, hg⟩))]; exact h6, h7⟩
/-- a call that leaves all that was, and answers what holds no address -/
theorem callOk_below {P : Program} {f : FuncId} {args : List DV} {r : DV} (h : ∀ (I : Nat → Nat → Prop) (G : Gh) (w : World) (vs : Array Value), RepL I w G args vs.toList → Calls P f vs w fun e w' => ∃ V, e = .returned V ∧ Below w.heap.size w w' ∧ ∀ (I : Nat → Nat → Prop) (G : Gh), Rep I w' G r V) (H : Heap) (fl : Nat) : CallOk P f args H fl r H := by
  intro B G w vs hB hH hr hfl
  refine ⟨(h _ G w vs hr).mono fun e w' ⟨V, he, hb, hV⟩ => ⟨V, G, he, Keep.below G hb, hH.below hb, hV _ _⟩, fun _ _ => rfl, Nat.le_refl _⟩
end Go.Proofs.Ytbhnkdnfmlnajaa

/- Words on memory that the walks share: rows that read as lists, rows of the call's own, appends. -/
namespace Go.Proofs.Ytbhnkdnfmlnajaa
open Go.RowKit

/-- v is a slice of n elements, sz cells each, whose cells are cs -/
def Rd (w : World) (sz : Nat) (v : Value) (n : Nat) (cs : List Value) : Prop :=
  ∃ A c, v = .slice A n c ∧ n ≤ c ∧ n ≤ 140737488355328 ∧ cs.length = n * sz ∧
    (n = 0 ∨ ∃ b o, A = some ⟨b, o, none⟩ ∧ ∀ j u, cs[j]? = some u → w.cell? ⟨b, o + j, none⟩ = some u)

/-- v reads as the list l of scalars -/
def RdV {α : Type} (enc : α → Value) (w : World) (v : Value) (l : List α) : Prop := Rd w 1 v l.length (l.map enc)

/-- v is a row of the call's own (from block base on), of the scalars l -/
def Own {α : Type} (enc : α → Value) (e : TypeId) (w : World) (base : Nat) (v : Value) (l : List α) : Prop := w.ownsRow base e 1 v l.length (l.map enc) ∧ l.length ≤ 140737488355328

def encB (b : UInt8) : Value := .int .u8 (b.toNat : Int)
def encW (b : UInt16) : Value := .int .u16 (b.toNat : Int)
def encI (n : Int) : Value := .int .i64 n
def encT (b : Bool) : Value := .bool b

theorem encB_mod (n : Int) : Value.int .u8 (n % 256) = encB (lowB (n % 256)) := by
  unfold encB; rw [lowB_nat _ (by omega) (by omega)]
theorem encB_low (n : Int) (h0 : 0 ≤ n) (h1 : n < 256) : Value.int .u8 n = encB (lowB n) := by
  unfold encB; rw [lowB_nat _ h0 h1]
def lowW (n : Int) : UInt16 := UInt16.ofNat n.toNat
theorem lowW_nat (n : Int) (h0 : 0 ≤ n) (h1 : n < 65536) : ((lowW n).toNat : Int) = n := by
  unfold lowW; rw [UInt16.toNat_ofNat']; omega
theorem encW_mod (n : Int) : Value.int .u16 (n % 65536) = encW (lowW (n % 65536)) := by
  unfold encW; rw [lowW_nat _ (by omega) (by omega)]
theorem encW_low (n : Int) (h0 : 0 ≤ n) (h1 : n < 65536) : Value.int .u16 n = encW (lowW n) := by
  unfold encW; rw [lowW_nat _ h0 h1]
theorem encB_one (x : UInt8) : (encB x).oneCell' = true := rfl
theorem encW_one (x : UInt16) : (encW x).oneCell' = true := rfl
theorem encI_one (x : Int) : (encI x).oneCell' = true := rfl
theorem encT_one (x : Bool) : (encT x).oneCell' = true := rfl

theorem addr_add (b o j : Nat) : (⟨b, o, none⟩ : Addr).add j = ⟨b, o + j, none⟩ := by
  unfold Addr.add; split <;> simp_all

theorem belowN {B : Nat} {a w : World} (h : Below B a w) (n : Nat) : Below B a (w.drewN n) := h.trans ⟨rfl, rfl, rfl, Nat.le_refl _, fun _ _ => rfl⟩
theorem belowT {a w w' : World} (h : Below a.heap.size a w) (k : Below w.heap.size w w') : Below a.heap.size a w' := h.trans (k.mono h.size)
theorem belowA {a w : World} (h : Below a.heap.size a w) (o : Obj) : Below a.heap.size a (w.alloc o) := h.alloc h.size o
theorem belowG {a w w' : World} {row : Option Nat} (h : Below a.heap.size a w) (hg : w.grownBy w' row) (hr : ∀ k, row = some k → a.heap.size ≤ k) : Below a.heap.size a w' := h.grown hg h.size hr
theorem cellT {w w' : World} {p : Addr} {v : Value} (hB : Below w.heap.size w w') (h : w.cell? p = some v) : w'.cell? p = some v := (hB.cell (World.block_lt_of_cell? _ _ h)).trans h
theorem cell_made {w : World} {xs : Array Value} {t : TypeId} (k : Nat) (v : Value) (h : xs[k]? = some v) : (w.alloc (.cells xs t)).cell? ⟨w.heap.size, k, none⟩ = some v := by
  simp only [World.cell?, World.alloc, Array.getElem?_push_size]
  exact h
theorem Rd.mono {w w' : World} {sz : Nat} {v : Value} {n : Nat} {cs : List Value} (h : Rd w sz v n cs)
    (hb : ∀ k, k < w.heap.size → w'.heap[k]? = w.heap[k]?) : Rd w' sz v n cs := by
  obtain ⟨A, c, rfl, h1, h2, h3, h4⟩ := h
  refine ⟨A, c, rfl, h1, h2, h3, h4.imp id ?_⟩
  rintro ⟨b, o, rfl, h⟩
  refine ⟨b, o, rfl, fun j u hu => ?_⟩
  have hc := h j u hu
  rw [World.cell?_of_block (w := w)]
  · exact hc
  · exact hb _ (World.block_lt_of_cell? w _ hc)
theorem Rd.below {w w' : World} {sz : Nat} {v : Value} {n : Nat} {cs : List Value} (h : Rd w sz v n cs) (hb : Below w.heap.size w w') : Rd w' sz v n cs :=
  h.mono hb.block
theorem RdV.below {α : Type} {enc : α → Value} {w w' : World} {v : Value} {l : List α} (h : RdV enc w v l) (hb : Below w.heap.size w w') : RdV enc w' v l := Rd.below h hb
theorem RdV.mono {α : Type} {enc : α → Value} {w w' : World} {v : Value} {l : List α} (h : RdV enc w v l) (hb : ∀ k, k < w.heap.size → w'.heap[k]? = w.heap[k]?) : RdV enc w' v l := Rd.mono h hb
theorem RdV.alloc {α : Type} {enc : α → Value} {w : World} {v : Value} {l : List α} (h : RdV enc w v l) (o : Obj) : RdV enc (w.alloc o) v l :=
  h.mono fun k hk => Below.heap_alloc w o k hk
theorem RdV.drew {α : Type} {enc : α → Value} {w : World} {v : Value} {l : List α} (h : RdV enc w v l) : RdV enc w.drew v l := h.mono fun _ _ => rfl
theorem RdV.drewN {α : Type} {enc : α → Value} {w : World} {v : Value} {l : List α} (h : RdV enc w v l) (n : Nat) : RdV enc (w.drewN n) v l := h.mono fun _ _ => rfl
theorem RdV.len {α : Type} {enc : α → Value} {w : World} {v : Value} {l : List α} (h : RdV enc w v l) : l.length ≤ 140737488355328 := by
  obtain ⟨A, c, _, _, h, _⟩ := h; exact h
/-- a readable slice's own form, and each element's cell -/
theorem RdV.open {α : Type} {enc : α → Value} {w : World} {v : Value} {l : List α} (h : RdV enc w v l) :
    ∃ A c, v = .slice A l.length c ∧ l.length ≤ c ∧ l.length ≤ 140737488355328 ∧
      (l.length = 0 ∨ ∃ b o, A = some ⟨b, o, none⟩ ∧ ∀ i (hi : i < l.length), w.cell? ⟨b, o + i, none⟩ = some (enc l[i])) := by
  obtain ⟨A, c, rfl, h1, h2, h3, h4⟩ := h
  refine ⟨A, c, rfl, h1, h2, h4.imp id ?_⟩
  rintro ⟨b, o, rfl, h⟩
  exact ⟨b, o, rfl, fun i hi => h i _ (by simp [hi])⟩
/-- one element of a readable slice that has some -/
theorem RdV.each {α : Type} {enc : α → Value} {w : World} {v : Value} {l : List α} (h : RdV enc w v l) (h0 : 0 < l.length) :
    ∃ b o c, v = .slice (Option.some ⟨b, o, none⟩) l.length c ∧ ∀ i (hi : i < l.length), w.cell? ⟨b, o + i, none⟩ = Option.some (enc l[i]) := by
  obtain ⟨A, c, rfl, _, _, hA⟩ := h.open
  obtain ⟨b, o, rfl, hc⟩ := hA.resolve_left (by omega)
  exact ⟨b, o, c, rfl, hc⟩
theorem RdV.nil {α : Type} (enc : α → Value) (w : World) : RdV enc w (.slice none 0 0) [] := ⟨none, 0, rfl, Nat.le_refl _, by simp, by simp, .inl rfl⟩
/-- what a slice literal makes -/
theorem RdV.lit {α : Type} (enc : α → Value) (w : World) (e : TypeId) (l : List α) (cs : Array Value) (n c : Nat) (hn : n = l.length) (hc : n ≤ c) (hl : l.length ≤ 140737488355328) (hcs : cs = (l.map enc).toArray) :
    RdV enc (w.alloc (.cells cs e)) (.slice (some ⟨w.heap.size, 0, none⟩) n c) l := by
  subst hcs; subst hn
  refine ⟨_, c, rfl, hc, hl, by simp, .inr ⟨_, _, rfl, fun j u hu => ?_⟩⟩
  simpa using hu

theorem RdV.litz {α : Type} (enc : α → Value) (w : World) (e : TypeId) (fz : Nat × Nat) (l : List α) (cs : Array Value) (n c : Nat) (hn : n = l.length) (hc : n ≤ c) (hl : l.length ≤ 140737488355328) (hcs : cs = (l.map enc).toArray) :
    RdV enc (w.alloc (.cells cs e fz)) (.slice (some ⟨w.heap.size, 0, none⟩) n c) l := by
  subst hcs; subst hn
  refine ⟨_, c, rfl, hc, hl, by simp, .inr ⟨_, _, rfl, fun j u hu => ?_⟩⟩
  have : (w.alloc (.cells (l.map enc).toArray e fz)).cell? ⟨w.heap.size, 0 + j, none⟩ = (l.map enc)[j]? := by
    have hh : (w.alloc (.cells (l.map enc).toArray e fz)).heap[w.heap.size]? = some (.cells (l.map enc).toArray e fz) := heap_alloc_new w _
    unfold World.cell?; rw [hh]; simp
  rw [this]; exact hu
theorem RdV.litg {α : Type} (enc : α → Value) (w : World) (e : TypeId) (l : List α) (cs : Array Value) (g n c : Nat) (hg : g = w.heap.size) (hn : n = l.length) (hc : n ≤ c) (hl : l.length ≤ 140737488355328) (hcs : cs = (l.map enc).toArray) :
    RdV enc (w.alloc (.cells cs e)) (.slice (some ⟨g, 0, none⟩) n c) l := by
  subst hg; exact RdV.lit enc w e l cs n c hn hc hl hcs
theorem Own.litg {α : Type} (enc : α → Value) (w : World) (e : TypeId) (base g : Nat) (hg : g = w.heap.size) (hb : base ≤ w.heap.size) (l : List α) (cs : Array Value) (n : Nat) (hn : n = l.length) (hl : l.length ≤ 140737488355328) (hcs : cs = (l.map enc).toArray) :
    Own enc e (w.alloc (.cells cs e)) base (.slice (some ⟨g, 0, none⟩) n n) l := by
  subst hg; subst hcs; subst hn
  refine ⟨⟨by simp, .inr ⟨_, _, _, rfl, hb, heap_alloc_new w _, Nat.le_refl _, by simp only [maxLen]; omega, by simp, ?_⟩⟩, hl⟩
  exact List.take_of_length_le (by simp)
theorem RdV.cap {α : Type} {enc : α → Value} {w : World} {A : Option Addr} {n c c' : Nat} {l : List α} (h : RdV enc w (.slice A n c) l) (hc : l.length ≤ c') : RdV enc w (.slice A n c') l := by
  obtain ⟨A', c1, he, h1, h2, h3, h4⟩ := h
  injection he with e1 e2 e3
  subst e1; subst e2; subst e3
  exact ⟨_, c', rfl, hc, h2, h3, h4⟩
theorem RdV.none {α : Type} {enc : α → Value} {w : World} {n c : Nat} {l : List α} (h : RdV enc w (.slice none n c) l) : l = [] := by
  obtain ⟨A', c1, he, h1, h2, h3, h4⟩ := h
  injection he with e1 e2 e3
  subst e1
  rcases h4 with h4 | ⟨b, o, h4, _⟩
  · exact List.eq_nil_of_length_eq_zero h4
  · cases h4
/-- s[i:j] of a readable slice -/
theorem RdV.cut {α : Type} {enc : α → Value} {w : World} {A : Option Addr} {n c : Nat} {l : List α} (h : RdV enc w (.slice A n c) l) (i m c' : Nat) (A' : Option Addr)
    (hA : A' = A.map (·.add i) ∨ (m = 0)) (hm : i + m ≤ l.length) (hc : m ≤ c') : RdV enc w (.slice A' m c') ((l.drop i).take m) := by
  obtain ⟨A0, c1, he, h1, h2, h3, h4⟩ := h
  injection he with e1 e2 e3
  subst e1; subst e2; subst e3
  have hlen : ((l.drop i).take m).length = m := by simp; omega
  refine ⟨A', c', by rw [hlen], by omega, by omega, by simp, ?_⟩
  rw [hlen]
  by_cases hm0 : m = 0
  · exact .inl hm0
  · obtain ⟨b, o, rfl, hcell⟩ := h4.resolve_left (by omega)
    obtain rfl := hA.resolve_right hm0
    refine .inr ⟨b, o + i, by simp [addr_add], fun j u hu => ?_⟩
    rw [List.map_take, List.map_drop, List.getElem?_take] at hu
    split at hu
    · rw [List.getElem?_drop] at hu
      have := hcell (i + j) u hu
      rwa [← Nat.add_assoc] at this
    · cases hu

theorem RdV.take {α : Type} {enc : α → Value} {w : World} {A : Option Addr} {n c : Nat} {l : List α} (h : RdV enc w (.slice A n c) l) (m c' : Nat)
    (hm : m ≤ l.length) (hc : m ≤ c') : RdV enc w (.slice A m c') (l.take m) := by
  have := h.cut 0 m c' A (.inl (by cases A <;> rfl)) (by omega) hc
  simpa using this

theorem Own.rd {α : Type} {enc : α → Value} {e : TypeId} {w : World} {base : Nat} {v : Value} {l : List α} (h : Own enc e w base v l) : RdV enc w v l := by
  obtain ⟨h, hl⟩ := h
  have h0 := h
  obtain ⟨h1, h2⟩ := h
  rcases h2 with ⟨rfl, h2⟩ | ⟨g, cap, cur, rfl, hb, hg, hn, hcap, hcs, ht⟩
  · have : l = [] := List.eq_nil_of_length_eq_zero h2
    subst this
    exact RdV.nil enc w
  · refine ⟨_, cap, rfl, hn, hl, by simp, .inr ⟨g, 0, rfl, fun j u hu => ?_⟩⟩
    have hj : j < l.length := by
      rcases Nat.lt_or_ge j l.length with h | h
      · exact h
      · simp [List.getElem?_eq_none (by simpa using h : (l.map enc).length ≤ j)] at hu
    rw [Nat.zero_add]
    exact (h0.cellAt j (by simpa using hj)).trans hu
theorem Own.block {α : Type} {enc : α → Value} {e : TypeId} {w : World} {base : Nat} {v : Value} {l : List α} (h : Own enc e w base v l) (h0 : 0 < l.length) :
    ∃ g cap, v = .slice (Option.some ⟨g, 0, none⟩) l.length cap ∧ base ≤ g ∧ g < w.heap.size := by
  obtain ⟨⟨h1, h2⟩, hl⟩ := h
  rcases h2 with ⟨_, h2⟩ | ⟨g, cap, cur, rfl, hb, hg, _⟩
  · omega
  · exact ⟨g, cap, rfl, hb, (Array.getElem?_eq_some_iff.1 hg).1⟩
theorem Own.nil {α : Type} (enc : α → Value) (e : TypeId) (w : World) (base : Nat) : Own enc e w base (.slice none 0 0) ([] : List α) := ⟨World.ownsRow_nil w base e 1, by simp⟩
theorem Own.lit {α : Type} (enc : α → Value) (w : World) (e : TypeId) (base : Nat) (hb : base ≤ w.heap.size) (l : List α) (cs : Array Value) (n : Nat) (hn : n = l.length) (hl : l.length ≤ 140737488355328) (hcs : cs = (l.map enc).toArray) :
    Own enc e (w.alloc (.cells cs e)) base (.slice (some ⟨w.heap.size, 0, none⟩) n n) l := by
  subst hcs; subst hn
  refine ⟨⟨by simp, .inr ⟨_, _, _, rfl, hb, heap_alloc_new w _, Nat.le_refl _, by simp only [maxLen]; omega, by simp, ?_⟩⟩, hl⟩
  exact List.take_of_length_le (by simp)
theorem Own.mono {α : Type} {enc : α → Value} {e : TypeId} {w w' : World} {base : Nat} {v : Value} {l : List α} (h : Own enc e w base v l)
    (hb : ∀ k, k < w.heap.size → w'.heap[k]? = w.heap[k]?) : Own enc e w' base v l := by
  obtain ⟨⟨h1, h2⟩, hl⟩ := h
  refine ⟨⟨h1, h2.imp id ?_⟩, hl⟩
  rintro ⟨g, cap, cur, rfl, hb', hg, r⟩
  exact ⟨g, cap, cur, rfl, hb', by rw [hb _ (Array.getElem?_eq_some_iff.1 hg).1]; exact hg, r⟩
theorem Own.below {α : Type} {enc : α → Value} {e : TypeId} {w w' : World} {base : Nat} {v : Value} {l : List α} (h : Own enc e w base v l) (hb : Below w.heap.size w w') : Own enc e w' base v l := h.mono hb.block
theorem Own.alloc {α : Type} {enc : α → Value} {e : TypeId} {w : World} {base : Nat} {v : Value} {l : List α} (h : Own enc e w base v l) (o : Obj) : Own enc e (w.alloc o) base v l := h.mono fun k hk => Below.heap_alloc w o k hk
theorem Own.drew {α : Type} {enc : α → Value} {e : TypeId} {w : World} {base : Nat} {v : Value} {l : List α} (h : Own enc e w base v l) : Own enc e w.drew base v l := h.mono fun _ _ => rfl
theorem Own.drewN {α : Type} {enc : α → Value} {e : TypeId} {w : World} {base : Nat} {v : Value} {l : List α} (h : Own enc e w base v l) (n : Nat) : Own enc e (w.drewN n) base v l := h.mono fun _ _ => rfl
theorem Own.lower {α : Type} {enc : α → Value} {e : TypeId} {w : World} {base base' : Nat} {v : Value} {l : List α} (h : Own enc e w base v l) (hb : base' ≤ base) : Own enc e w base' v l := by
  obtain ⟨⟨h1, h2⟩, hl⟩ := h
  refine ⟨⟨h1, h2.imp id ?_⟩, hl⟩
  rintro ⟨g, cap, cur, rfl, hb', r⟩
  exact ⟨g, cap, cur, rfl, by omega, r⟩
/-- a row of the call's own, while another one is written -/
theorem Own.kept {α : Type} {enc : α → Value} {e : TypeId} {w w' : World} {base : Nat} {v : Value} {l : List α} (h : Own enc e w base v l) {row : Option Nat} (hg : w.grownBy w' row)
    (hne : v.ownBlock = none ∨ v.ownBlock ≠ row) : Own enc e w' base v l := ⟨h.1.kept hg hne, h.2⟩
theorem Own.base {α : Type} {enc : α → Value} {e : TypeId} {w : World} {base : Nat} {v : Value} {l : List α} (h : Own enc e w base v l) : ∀ k, v.ownBlock = some k → base ≤ k ∧ k < w.heap.size := h.1.lt

theorem Own.made {α : Type} {enc : α → Value} (z : α) {e : TypeId} {w : World} {base : Nat} {v : Value} {n : Nat} (h : w.ownsRow base e 1 v n (madeCells #[enc z] n).toList) (hn : n ≤ 140737488355328) :
    Own enc e w base v (List.replicate n z) := by
  rw [toList_madeCells_one] at h
  refine ⟨?_, by simpa using hn⟩
  simpa using h
/-- an element is read, and stored, in a row of the call's own -/
theorem Own.at {α : Type} {enc : α → Value} {e : TypeId} {w : World} {base g n cap : Nat} {l : List α} (h : Own enc e w base (.slice (some ⟨g, 0, none⟩) n cap) l) (i : Nat) (hi : i < l.length) :
    w.cell? ⟨g, i, none⟩ = some (enc l[i]) ∧ w.frozen? ⟨g, i, none⟩ = false := by
  have h1 := h.1
  have hn : n = l.length := by
    rcases h1.2 with ⟨he, _⟩ | ⟨g', cap', cur, he, _⟩
    · cases he
    · injection he with _ e2 _
  subst hn
  refine ⟨?_, h1.frozenAt i⟩
  rw [h1.cellAt i (by simpa using hi)]
  simp [hi]
theorem Own.set {α : Type} {enc : α → Value} {e : TypeId} {w : World} {base g n cap : Nat} {l : List α} (h : Own enc e w base (.slice (some ⟨g, 0, none⟩) n cap) l) (i : Nat) (x : α) :
    Own enc e (w.setCell ⟨g, i, none⟩ (enc x)) base (.slice (some ⟨g, 0, none⟩) n cap) (l.set i x) ∧ w.grownBy (w.setCell ⟨g, i, none⟩ (enc x)) (some g) := by
  have h1 := h.1
  have hn : n = l.length := by
    rcases h1.2 with ⟨he, _⟩ | ⟨g', cap', cur, he, _⟩
    · cases he
    · injection he with _ e2 _
  subst hn
  have h2 := h1.stored i (enc x)
  refine ⟨⟨?_, by simpa using h.2⟩, h2.2⟩
  rw [List.length_set, List.map_set]
  exact h2.1
section app
variable {P : Program} {ops : Array Oper} {rest : List Oper} {o : Oper} {a : Act} {Q : Exit → Act → World → Prop} {w : World}
/-- append onto a row of the call's own, the source any readable row: cells -/
theorem wp_app_cells (hgd : o.guard = none) (s x : Operand) (t : TypeId)
    (ho : o.op = .call { callee := .builtin .append, args := #[s, x], argTypes := #[t, t] })
    (e : TypeId) (z : Value) (sz bytes : Nat) (ht : P.underlying t = some (.slice e)) (hinfo : (P.info? e).map (fun i => (i.zero, i.size, i.bytes)) = some (some z, sz, bytes))
    (hzs : z.cells.size = sz) (hsz : 0 < sz) (base : Nat)
    (v : Value) (n : Nat) (xs : List Value) (hs : a.eval s = v) (hown : w.ownsRow base e sz v n xs)
    (y : Value) (m : Nat) (news : List Value) (hx : a.eval x = y) (hy : Rd w sz y m news) (h1 : ∀ u ∈ news, u.oneCell' = true)
    (hb : (n + m) * bytes ≤ 140737488355328) (hm : n + m ≤ 140737488355328) (hbase : base ≤ w.heap.size)
    (h : ∀ v' w', w'.ownsRow base e sz v' (n + m) (xs ++ news) → w.grownBy w' v.ownBlock → wpList P ops Q rest (a.put o.dst v') w') : wpList P ops Q (o :: rest) a w := by
  obtain ⟨i, hi, hz, hsize, hby⟩ := info_parts hinfo
  obtain ⟨A, c, rfl, hmc, hml, hnl, hA⟩ := hy
  by_cases hA0 : ∃ b o, A = some ⟨b, o, none⟩ ∧ ∀ j u, news[j]? = some u → w.cell? ⟨b, o + j, none⟩ = some u
  · obtain ⟨b, ofs, rfl, hcell⟩ := hA0
    exact wpList_append_own w hgd s x t ho base e i z sz bytes ht hi hz hsize hby hzs hsz v n xs hs hown ⟨b, ofs, none⟩ m c news hx (by simpa using hnl)
      (fun j u hu => by rw [addr_add]; exact hcell j u hu) h1 (by simp only [maxLen]; omega) hb hbase (fun v' w' g1 g2 _ => h v' w' g1 g2)
  · have hm0 : m = 0 := hA.resolve_right hA0
    subst hm0
    have hn0 : news = [] := List.eq_nil_of_length_eq_zero (by simpa using hnl)
    subst hn0
    refine wpList_plain hgd fun K hK => ?_
    have q := hK _ _ (h v w (by simpa using hown) ⟨rfl, rfl, rfl, Nat.le_refl _, fun _ _ _ => rfl⟩)
    have hrun : ∀ ty, (Builtin.append_ #[t, t] ty #[v, .slice A 0 c]).run P w = .ok v w := by
      intro ty
      rcases hown.2 with ⟨rfl, rfl⟩ | ⟨g, cap, cur, rfl, _, hg, hn, _, hcs, _⟩
      · cases A <;> simp [Builtin.append_, run_underlying ht, sizeOf, typeInfo, hi, Builtin.lenOf, Builtin.firstCells, loadCells, loadCellsFrom]
      · cases A <;> simp [Builtin.append_, run_underlying ht, sizeOf, typeInfo, hi, Builtin.lenOf, Builtin.firstCells, loadCells, loadCellsFrom, hn, storeCells]
    unfold Oper.wp execOp
    simp only [ho, resolve, invoke, builtin, Sem.run_bind, Sem.run_pure, Result.andThen_ok, List.map_toArray, List.map_cons, List.map_nil, hs, hx, hrun]
    exact q
/-- append onto a row of the call's own: scalars -/
theorem wp_app {α : Type} {enc : α → Value} (henc : ∀ x, (enc x).oneCell' = true) (hgd : o.guard = none) (s x : Operand) (t : TypeId)
    (ho : o.op = .call { callee := .builtin .append, args := #[s, x], argTypes := #[t, t] })
    (e : TypeId) (z : Value) (bytes : Nat) (ht : P.underlying t = some (.slice e)) (hinfo : (P.info? e).map (fun i => (i.zero, i.size, i.bytes)) = some (some z, 1, bytes))
    (hzs : z.cells.size = 1) (base : Nat)
    (v : Value) (l : List α) (hs : a.eval s = v) (hown : Own enc e w base v l)
    (y : Value) (m : List α) (hx : a.eval x = y) (hy : RdV enc w y m)
    (hb : (l.length + m.length) * bytes ≤ 140737488355328) (hbytes : 0 < bytes) (hbase : base ≤ w.heap.size)
    (h : ∀ v' w', Own enc e w' base v' (l ++ m) → w.grownBy w' v.ownBlock → wpList P ops Q rest (a.put o.dst v') w') : wpList P ops Q (o :: rest) a w := by
  have hm : l.length + m.length ≤ 140737488355328 := Nat.le_trans (Nat.le_mul_of_pos_right _ hbytes) hb
  refine wp_app_cells hgd s x t ho e z 1 bytes ht hinfo hzs (by omega) base v l.length (l.map enc) hs hown.1 y m.length (m.map enc) hx hy ?_ hb hm hbase ?_
  · intro u hu
    obtain ⟨x, _, rfl⟩ := List.mem_map.1 hu
    exact henc x
  · intro v' w' g1 g2
    exact h v' w' ⟨by rw [List.length_append, List.map_append]; exact g1, by rw [List.length_append]; exact hm⟩ g2
/-- the same as one step of a region that draws its order -/
theorem step_app {α : Type} {enc : α → Value} {K : Act → World → Prop} {E : Prop} (henc : ∀ x, (enc x).oneCell' = true) (hgd : o.guard = none) (s x : Operand) (t : TypeId)
    (ho : o.op = .call { callee := .builtin .append, args := #[s, x], argTypes := #[t, t] })
    (e : TypeId) (z : Value) (bytes : Nat) (ht : P.underlying t = some (.slice e)) (hinfo : (P.info? e).map (fun i => (i.zero, i.size, i.bytes)) = some (some z, 1, bytes))
    (hzs : z.cells.size = 1) (base : Nat)
    (v : Value) (l : List α) (hs : a.eval s = v) (hown : Own enc e w base v l)
    (y : Value) (m : List α) (hx : a.eval x = y) (hy : RdV enc w y m) (h0 : 0 < m.length)
    (hb : (l.length + m.length) * bytes ≤ 140737488355328) (hbytes : 0 < bytes) (hbase : base ≤ w.heap.size)
    (h : ∀ v' w', Own enc e w' base v' (l ++ m) → w.grownBy w' v.ownBlock → K (a.put o.dst v') w') :
    if Region.wanted o (yielded ops a.tmps) = true then Oper.wp P o a w K Q else E := by
  have hw : Region.wanted o (yielded ops a.tmps) = true := by simp [Region.wanted, hgd]
  rw [if_pos hw]
  have hm : l.length + m.length ≤ 140737488355328 := Nat.le_trans (Nat.le_mul_of_pos_right _ hbytes) hb
  obtain ⟨i, hi, hz, hsize, hby⟩ := info_parts hinfo
  obtain ⟨A, c, rfl, hmc, hml, hnl, hA⟩ := hy
  obtain ⟨b, ofs, rfl, hcell⟩ := hA.resolve_left (by omega)
  obtain ⟨v', w', hr, g1, g2, _⟩ := run_append_own (P := P) w base t o.type e i z 1 bytes ht hi hz hsize hby hzs (by omega) v l.length (l.map enc) hown.1 ⟨b, ofs, none⟩ m.length c (m.map enc) (by simp)
    (fun j u hu => by rw [addr_add]; exact hcell j u hu) (fun u hu => by obtain ⟨x, _, rfl⟩ := List.mem_map.1 hu; exact henc x) (by simp only [maxLen]; omega) hb hbase
  have q := h v' w' ⟨by rw [List.length_append, List.map_append]; exact g1, by rw [List.length_append]; exact hm⟩ g2
  unfold Oper.wp execOp
  simp only [ho, resolve, invoke, builtin, Sem.run_bind, Sem.run_pure, Result.andThen_ok, List.map_toArray, List.map_cons, List.map_nil, hs, hx, hr]
  exact q
/-- append onto a readable slice that has no room: a new row -/
theorem wp_app_full {α : Type} {enc : α → Value} (henc : ∀ x, (enc x).oneCell' = true) (hgd : o.guard = none) (s x : Operand) (t : TypeId)
    (ho : o.op = .call { callee := .builtin .append, args := #[s, x], argTypes := #[t, t] })
    (e : TypeId) (z : Value) (bytes : Nat) (ht : P.underlying t = some (.slice e)) (hinfo : (P.info? e).map (fun i => (i.zero, i.size, i.bytes)) = some (some z, 1, bytes))
    (hzs : z.cells.size = 1)
    (A : Option Addr) (l : List α) (hs : a.eval s = .slice A l.length l.length) (hl : RdV enc w (.slice A l.length l.length) l)
    (hnil : A = none → l = [])
    (y : Value) (m : List α) (hx : a.eval x = y) (hy : RdV enc w y m) (h0 : 0 < m.length)
    (hb : (l.length + m.length) * bytes ≤ 140737488355328) (hbytes : 0 < bytes)
    (h : ∀ v' w', Own enc e w' w.heap.size v' (l ++ m) → w.grownBy w' none → wpList P ops Q rest (a.put o.dst v') w') : wpList P ops Q (o :: rest) a w := by
  have hm : l.length + m.length ≤ 140737488355328 := Nat.le_trans (Nat.le_mul_of_pos_right _ hbytes) hb
  obtain ⟨i, hi, hz, hsize, hby⟩ := info_parts hinfo
  obtain ⟨B, c', rfl, hmc, hml, hnl, hB⟩ := hy
  obtain ⟨b2, o2, rfl, hcell2⟩ := hB.resolve_left (by omega)
  have key : ∀ v' w', (Builtin.append_ #[t, t] o.type #[.slice A l.length l.length, .slice (some ⟨b2, o2, none⟩) m.length c']).run P w = .ok v' w' →
      w'.ownsRow w.heap.size e 1 v' (l.length + m.length) (l.map enc ++ m.map enc) → w.grownBy w' none → wpList P ops Q (o :: rest) a w := by
    intro v' w' hr g1 g2
    refine wpList_plain hgd fun K hK => ?_
    have q := hK _ _ (h v' w' ⟨by rw [List.length_append, List.map_append]; exact g1, by rw [List.length_append]; exact hm⟩ g2)
    unfold Oper.wp execOp
    simp only [ho, resolve, invoke, builtin, Sem.run_bind, Sem.run_pure, Result.andThen_ok, List.map_toArray, List.map_cons, List.map_nil, hs, hx, hr]
    exact q
  by_cases hl0 : l.length = 0
  · have hl1 : l = [] := List.eq_nil_of_length_eq_zero hl0
    subst hl1
    cases A with
    | none =>
      obtain ⟨v', w', hr, g1, g2, _⟩ := run_append_own (P := P) w w.heap.size t o.type e i z 1 bytes ht hi hz hsize hby hzs (by omega) (.slice none 0 0) 0 [] (World.ownsRow_nil w _ e 1) ⟨b2, o2, none⟩ m.length c' (m.map enc) (by simp) (fun j u hu => by rw [addr_add]; exact hcell2 j u hu) (fun u hu => by obtain ⟨x, _, rfl⟩ := List.mem_map.1 hu; exact henc x) (by simp only [maxLen]; simp at hm; omega) (by simpa using hb) (Nat.le_refl _)
      exact key v' w' hr (by simpa using g1) g2
    | some ad =>
      obtain ⟨v', w', hr, g1, g2⟩ := run_append_arg_grows (P := P) (w := w) t o.type e i z 1 bytes ht hi hz hsize hby hzs (by omega) ad 0 0 [] (by simp) (by simp) ⟨b2, o2, none⟩ m.length c' (m.map enc) (by simp) (fun j u hu => by rw [addr_add]; exact hcell2 j u hu) (by simpa using h0) (by simp only [maxLen]; simp at hm; omega) (by simpa using hb)
      exact key v' w' hr (by simpa using g1) g2
  · obtain ⟨A', c1, heq, _, _, _, hA⟩ := hl
    obtain ⟨b1, o1, rfl, hcell1⟩ := hA.resolve_left hl0
    injection heq with e1 e2 e3
    subst e1
    obtain ⟨v', w', hr, g1, g2⟩ := run_append_arg_grows (P := P) (w := w) t o.type e i z 1 bytes ht hi hz hsize hby hzs (by omega) ⟨b1, o1, none⟩ l.length l.length (l.map enc) (by simp) (fun j u hu => by rw [addr_add]; exact hcell1 j u hu) ⟨b2, o2, none⟩ m.length c' (m.map enc) (by simp) (fun j u hu => by rw [addr_add]; exact hcell2 j u hu) (by omega) (by simp only [maxLen]; omega) hb
    exact key v' w' hr g1 g2
end app
end Go.Proofs.Ytbhnkdnfmlnajaa

/- Lists of scalars, as the old contracts read them. -/
namespace Go.Proofs.Ytbhnkdnfmlnajaa
open Go Go.RowKit
set_option linter.unusedSimpArgs false
set_option linter.unusedVariables false
theorem mapO_length {α β : Type} {f : α → Option β} : ∀ {l : List α} {r : List β}, mapO f l = some r → r.length = l.length
  | [], r, h => by cases h; rfl
  | x :: l, r, h => by
    unfold mapO at h
    split at h
    · split at h
      · rename_i h2
        cases h
        rw [List.length_cons, List.length_cons, mapO_length h2]
      · cases h
    · cases h
theorem mapO_cons' {α β : Type} {f : α → Option β} {x : α} {l : List α} {r : List β} (h : mapO f (x :: l) = some r) : ∃ y s, f x = some y ∧ mapO f l = some s ∧ r = y :: s := by
  unfold mapO at h
  split at h
  · rename_i y h1
    split at h
    · rename_i s h2
      cases h
      exact ⟨y, s, h1, h2, rfl⟩
    · cases h
  · cases h
theorem repE_cells {α : Type} {d : DV → Option α} {enc : α → Value} (hd : ∀ x a, d x = some a → x = .flat (enc a)) (h1 : ∀ a, (enc a).cells = #[enc a]) {I : Nat → Nat → Prop} {w : World} {sz b : Nat} : ∀ (xs : List DV) (l : List α) (o : Nat), mapO d xs = some l → RepE I w sz xs b o → (xs ≠ [] → sz = 1) ∧ ∀ j (h : j < l.length), w.cell? ⟨b, o + j, none⟩ = some (enc l[j])
  | [], l, o, hm, _ => by cases hm; exact ⟨fun h => absurd rfl h, fun j h => by simp at h⟩
  | x :: xs, l, o, hm, hE => by
    obtain ⟨a, l, ha, hl, rfl⟩ := mapO_cons' hm
    rw [hd _ _ ha] at hE
    simp only [RepE, Rep] at hE
    obtain ⟨⟨_, V, rfl, hs, hc⟩, hE⟩ := hE
    rw [h1] at hs hc
    simp at hs
    subst hs
    obtain ⟨_, ih⟩ := repE_cells hd h1 xs l (o + 1) hl hE
    refine ⟨fun _ => rfl, fun j hj => ?_⟩
    cases j with
    | zero => exact (hc 0 (enc a) (by simp)).1
    | succ j =>
      have := ih j (by simpa using hj)
      rw [show o + (j + 1) = o + 1 + j by omega]
      exact this
/-- a list of scalars, as the old contracts read it -/
theorem list_rd {α : Type} {d : DV → Option α} {enc : α → Value} (hd : ∀ x a, d x = some a → x = .flat (enc a)) (h1 : ∀ a, (enc a).cells = #[enc a]) {I : Nat → Nat → Prop} {w : World} {G : Gh} {sz : Nat} {xs : List DV} {t : Tag} {V : Value} {l : List α} (h : Rep I w G (.list sz xs t) V) (hl : mapO d xs = some l) : RdV enc w V l := by
  simp only [Rep] at h
  obtain ⟨A, c, rfl, h2, h3, h4, _⟩ := h
  have hlen := mapO_length hl
  refine ⟨A, c, by rw [hlen], by omega, by omega, by simp, ?_⟩
  rcases h4 with rfl | ⟨b, o, rfl, hE⟩
  · exact .inl (by simpa using hlen)
  · obtain ⟨_, hc⟩ := repE_cells hd h1 xs l o hl hE
    refine .inr ⟨b, o, rfl, fun j u hu => ?_⟩
    rw [List.getElem?_map] at hu
    obtain ⟨a, ha, rfl⟩ := Option.map_eq_some_iff.1 hu
    obtain ⟨hj, rfl⟩ := List.getElem?_eq_some_iff.1 ha
    exact hc j hj
end Go.Proofs.Ytbhnkdnfmlnajaa
