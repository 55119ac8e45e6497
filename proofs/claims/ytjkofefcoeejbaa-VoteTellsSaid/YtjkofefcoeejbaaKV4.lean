/- Texts of mine, laid together: Ev, Hp, GCon, PrimB, Base, PrimL, MedA, MedS, PlainV, MedM, Word, RefW. -/
import Derived.Test.YtjkofefcoeejbaaKV3
import Derived.WalkKit
import Derived.Below
import Derived.Test.YtjkofefcoeejbaaProg
import Derived.KernelRfl
import Derived.Deep.LoopGhost
import Derived.Lib.Hide
import Derived.Deep.QuietTactic
import Derived.BigQuiet
import Derived.RangeFuncBox
import Derived.RangeFuncLeaves
import Derived.Shelf.Abstract
import Derived.OwnWalkIn
import Derived.TacticsInMore
import Derived.LoopNIn
import Derived.LoopIn
import Derived.Maps.AppendAt
import Derived.Sort.Row
import Derived.Sort.LotA
import Derived.BigGuard
import Derived.BigCall
import Derived.CellFam
import Derived.Deep.Draws
import Derived.Deep.RegionHeld3
import Derived.IntWalk
/- Words of the front evaluator at lists and numbers: what each operation answers. -/
namespace Go.Proofs.Ytjkofefcoeejbaa
open Go
set_option linter.unusedSimpArgs false

attribute [simp] bi_some bi_none
/-- a word that simp always turns, so that it never looks into what comes behind a step that is stuck -/
def mk0 (_ : Unit) : Bool := true
@[simp] theorem mk0_s : mk0 () = true := by unfold mk0; rfl
@[congr] theorem bi_congr {α β : Type} {x x' : Option α} {u : Bool} (k : α → Option β) (h : Unit → x = x') (_ : Unit → mk0 () = u) : bi x k = bi x' k := by rw [h ()]
@[congr] theorem condR_congr {d d' : DV} {u : Bool} (x y : R) (h : Unit → d = d') (_ : Unit → mk0 () = u) : condR d x y = condR d' x y := by rw [h ()]
@[congr] theorem wantF_congr {d d' : DV} {u : Bool} (w : Bool) (x : Option DV) (h : Unit → d = d') (_ : Unit → mk0 () = u) : wantF d w x = wantF d' w x := by rw [h ()]
@[congr] theorem wantH_congr {d d' : DV} {u : Bool} (w : Bool) (H : Heap) (x : Option (DV × Heap)) (h : Unit → d = d') (_ : Unit → mk0 () = u) : wantH d w H x = wantH d' w H x := by rw [h ()]
@[simp ↓] theorem condR_pos (p : Prop) [Decidable p] (x y : R) (h : p) : condR (.flat (.bool (decide p))) x y = x := by simp [h, condR]
@[simp ↓] theorem condR_neg (p : Prop) [Decidable p] (x y : R) (h : ¬p) : condR (.flat (.bool (decide p))) x y = y := by simp [h, condR]
@[simp ↓] theorem wantF_pos (p : Prop) [Decidable p] (x : Option DV) (h : p) : wantF (.flat (.bool (decide p))) true x = x := by simp [h, wantF, guardD]
@[simp ↓] theorem wantF_neg (p : Prop) [Decidable p] (x : Option DV) (h : ¬p) : wantF (.flat (.bool (decide p))) true x = some (.flat undef) := by simp [h, wantF, guardD]
@[simp ↓] theorem wantF_pos' (p : Prop) [Decidable p] (x : Option DV) (h : p) : wantF (.flat (.bool (decide p))) false x = some (.flat undef) := by simp [h, wantF, guardD]
@[simp ↓] theorem wantF_neg' (p : Prop) [Decidable p] (x : Option DV) (h : ¬p) : wantF (.flat (.bool (decide p))) false x = x := by simp [h, wantF, guardD]
@[simp] theorem pickD_pos (p : Prop) [Decidable p] (x y : DV) (h : p) : pickD (.flat (.bool (decide p))) x y = some x := by simp [pickD, h]
@[simp] theorem pickD_neg (p : Prop) [Decidable p] (x y : DV) (h : ¬p) : pickD (.flat (.bool (decide p))) x y = some y := by simp [pickD, h]
@[simp ↓] theorem wantF_n (p : Prop) [Decidable p] (w : Bool) (x : Option DV) : wantF (.flat (.bool (!decide p))) w x = wantF (.flat (.bool (decide p))) (!w) x := by
  by_cases h : p <;> cases w <;> simp [h, wantF, guardD]
@[simp ↓] theorem condR_n (p : Prop) [Decidable p] (x y : R) : condR (.flat (.bool (!decide p))) x y = condR (.flat (.bool (decide p))) y x := by
  by_cases h : p <;> simp [h, condR]
@[simp ↓] theorem condR_t (x y : R) : condR (.flat (.bool true)) x y = x := rfl
@[simp ↓] theorem condR_f (x y : R) : condR (.flat (.bool false)) x y = y := rfl
theorem condR_b (b : Bool) (x y : R) : condR (.flat (.bool b)) x y = if b = true then x else y := by cases b <;> rfl
theorem condR_d (p : Prop) [Decidable p] (x y : R) : condR (.flat (.bool (decide p))) x y = if p then x else y := by
  by_cases h : p <;> simp [h]
theorem pickD_d (p : Prop) [Decidable p] (x y : DV) : pickD (.flat (.bool (decide p))) x y = some (if p then x else y) := by
  by_cases h : p <;> simp [pickD, h]
@[simp] theorem pickD_t (x y : DV) : pickD (.flat (.bool true)) x y = some x := rfl
@[simp] theorem pickD_f (x y : DV) : pickD (.flat (.bool false)) x y = some y := rfl
@[simp ↓] theorem wantF_tt (x : Option DV) : wantF (.flat (.bool true)) true x = x := rfl
@[simp ↓] theorem wantF_ff (x : Option DV) : wantF (.flat (.bool false)) false x = x := rfl
@[simp ↓] theorem wantF_tf (x : Option DV) : wantF (.flat (.bool true)) false x = some (.flat undef) := rfl
@[simp ↓] theorem wantF_ft (x : Option DV) : wantF (.flat (.bool false)) true x = some (.flat undef) := rfl
@[simp ↓] theorem wantF_u (w : Bool) (x : Option DV) : wantF (.flat undef) w x = some (.flat undef) := rfl
@[simp ↓] theorem wantH_tt (H : Heap) (x : Option (DV × Heap)) : wantH (.flat (.bool true)) true H x = x := rfl
@[simp ↓] theorem wantH_ff (H : Heap) (x : Option (DV × Heap)) : wantH (.flat (.bool false)) false H x = x := rfl
@[simp ↓] theorem wantH_tf (H : Heap) (x : Option (DV × Heap)) : wantH (.flat (.bool true)) false H x = some (.flat undef, H) := rfl
@[simp ↓] theorem wantH_ft (H : Heap) (x : Option (DV × Heap)) : wantH (.flat (.bool false)) true H x = some (.flat undef, H) := rfl
@[simp ↓] theorem wantH_u (w : Bool) (H : Heap) (x : Option (DV × Heap)) : wantH (.flat undef) w H x = some (.flat undef, H) := rfl
@[simp] theorem notD_b (b : Bool) : notD (.flat (.bool b)) = some (.flat (.bool (!b))) := rfl
@[simp] theorem eqB_b (a b : Bool) : eqB (.flat (.bool a)) (.flat (.bool b)) = some (.flat (.bool (a == b))) := rfl
@[simp] theorem neB_b (a b : Bool) : neB (.flat (.bool a)) (.flat (.bool b)) = some (.flat (.bool (a != b))) := rfl
@[simp] theorem addK_i (k : IntKind) (x y : Int) : addK k (.flat (.int k x)) (.flat (.int k y)) = some (.flat (.int k (k.wrap (x + y)))) := by simp [addK, arI]
@[simp] theorem subK_i (k : IntKind) (x y : Int) : subK k (.flat (.int k x)) (.flat (.int k y)) = some (.flat (.int k (k.wrap (x - y)))) := by simp [subK, arI]
@[simp] theorem mulK_i (k : IntKind) (x y : Int) : mulK k (.flat (.int k x)) (.flat (.int k y)) = some (.flat (.int k (k.wrap (x * y)))) := by simp [mulK, arI]
def andI (k : IntKind) (x y : Int) : Int := k.wrap (BitVec.ofInt k.bits x &&& BitVec.ofInt k.bits y).toNat
def orI (k : IntKind) (x y : Int) : Int := k.wrap (BitVec.ofInt k.bits x ||| BitVec.ofInt k.bits y).toNat
def xorI (k : IntKind) (x y : Int) : Int := k.wrap (BitVec.ofInt k.bits x ^^^ BitVec.ofInt k.bits y).toNat
def andNotI (k : IntKind) (x y : Int) : Int := k.wrap (BitVec.ofInt k.bits x &&& ~~~BitVec.ofInt k.bits y).toNat
def shlI (k : IntKind) (x y : Int) : Int := k.wrap (x * 2 ^ (min y.toNat k.bits))
def shrI (k : IntKind) (x y : Int) : Int := x.fdiv (2 ^ (min y.toNat k.bits))
@[simp] theorem andK_i (k : IntKind) (x y : Int) : andK k (.flat (.int k x)) (.flat (.int k y)) = some (.flat (.int k (andI k x y))) := by simp [andK, arI, andI]
@[simp] theorem orK_i (k : IntKind) (x y : Int) : orK k (.flat (.int k x)) (.flat (.int k y)) = some (.flat (.int k (orI k x y))) := by simp [orK, arI, orI]
@[simp] theorem xorK_i (k : IntKind) (x y : Int) : xorK k (.flat (.int k x)) (.flat (.int k y)) = some (.flat (.int k (xorI k x y))) := by simp [xorK, arI, xorI]
@[simp] theorem andNotK_i (k : IntKind) (x y : Int) : andNotK k (.flat (.int k x)) (.flat (.int k y)) = some (.flat (.int k (andNotI k x y))) := by simp [andNotK, arI, andNotI]
@[simp] theorem quoK_i (k : IntKind) (x y : Int) (h : y ≠ 0) : quoK k (.flat (.int k x)) (.flat (.int k y)) = some (.flat (.int k (k.wrap (x.tdiv y)))) := by simp [quoK, divI, h]
@[simp] theorem remK_i (k : IntKind) (x y : Int) (h : y ≠ 0) : remK k (.flat (.int k x)) (.flat (.int k y)) = some (.flat (.int k (x.tmod y))) := by simp [remK, divI, h]
@[simp] theorem shlK_i (k k2 : IntKind) (x y : Int) (h : 0 ≤ y) : shlK k (.flat (.int k x)) (.flat (.int k2 y)) = some (.flat (.int k (shlI k x y))) := by simp [shlK, shI, h, shlI]
@[simp] theorem shrK_i (k k2 : IntKind) (x y : Int) (h : 0 ≤ y) : shrK k (.flat (.int k x)) (.flat (.int k2 y)) = some (.flat (.int k (shrI k x y))) := by simp [shrK, shI, h, shrI]
@[simp] theorem eqK_i (k : IntKind) (x y : Int) : eqK k (.flat (.int k x)) (.flat (.int k y)) = some (.flat (.bool (decide (x = y)))) := by simp [eqK, cmI]; rfl
@[simp] theorem neK_i (k : IntKind) (x y : Int) : neK k (.flat (.int k x)) (.flat (.int k y)) = some (.flat (.bool (decide (¬ x = y)))) := by
  simp only [neK, cmI, and_self, if_true, bne]
  by_cases h : x = y <;> simp [h]
@[simp] theorem ltK_i (k : IntKind) (x y : Int) : ltK k (.flat (.int k x)) (.flat (.int k y)) = some (.flat (.bool (decide (x < y)))) := by simp [ltK, cmI]
@[simp] theorem leK_i (k : IntKind) (x y : Int) : leK k (.flat (.int k x)) (.flat (.int k y)) = some (.flat (.bool (decide (x ≤ y)))) := by simp [leK, cmI]
@[simp] theorem gtK_i (k : IntKind) (x y : Int) : gtK k (.flat (.int k x)) (.flat (.int k y)) = some (.flat (.bool (decide (y < x)))) := by simp [gtK, cmI]
@[simp] theorem geK_i (k : IntKind) (x y : Int) : geK k (.flat (.int k x)) (.flat (.int k y)) = some (.flat (.bool (decide (y ≤ x)))) := by simp [geK, cmI]
@[simp] theorem cvK_i (k k2 : IntKind) (x : Int) : cvK k (.flat (.int k2 x)) = some (.flat (.int k (k.wrap x))) := rfl
@[simp] theorem maxI_i (k : IntKind) (x y : Int) : maxI (.flat (.int k x)) (.flat (.int k y)) = some (.flat (.int k (max x y))) := rfl
@[simp] theorem minI_i (k : IntKind) (x y : Int) : minI (.flat (.int k x)) (.flat (.int k y)) = some (.flat (.int k (min x y))) := rfl
theorem wrap_i64 (x : Int) (h0 : -9223372036854775808 ≤ x) (h1 : x < 9223372036854775808) : IntKind.wrap .i64 x = x := by
  unfold IntKind.wrap
  have hb : (2 : Int) ^ IntKind.i64.bits = 18446744073709551616 := rfl
  have hb2 : (2 : Int) ^ (IntKind.i64.bits - 1) = 9223372036854775808 := rfl
  have hs : IntKind.i64.signed = true := rfl
  simp only [hb, hb2, hs, Bool.true_and, decide_eq_true_eq]
  split <;> omega
theorem wrap_u8 (x : Int) : IntKind.wrap .u8 x = x % 256 := rfl
theorem wrap_u16 (x : Int) : IntKind.wrap .u16 x = x % 65536 := rfl
theorem wrap_u8_id (x : Int) (h0 : 0 ≤ x) (h1 : x < 256) : IntKind.wrap .u8 x = x := by rw [wrap_u8]; omega
theorem wrap_u16_id (x : Int) (h0 : 0 ≤ x) (h1 : x < 65536) : IntKind.wrap .u16 x = x := by rw [wrap_u16]; omega
theorem shrI_w8 (x : Int) : shrI .u16 x 8 = x / 256 := by
  unfold shrI
  have : (2 : Int) ^ min (8 : Int).toNat IntKind.u16.bits = 256 := rfl
  rw [this, Int.fdiv_eq_ediv_of_nonneg _ (by omega)]
theorem shlI_w8 (x : Int) (h0 : 0 ≤ x) (h1 : x < 256) : shlI .u16 x 8 = 256 * x := by
  unfold shlI
  have : (2 : Int) ^ min (8 : Int).toNat IntKind.u16.bits = 256 := rfl
  rw [this, wrap_u16]; omega
theorem orI_nat (k : IntKind) (a b : Nat) (hk : k.signed = false) (ha : a < 2 ^ k.bits) (hb : b < 2 ^ k.bits) : orI k a b = ((a ||| b : Nat) : Int) := by
  unfold orI IntKind.wrap
  have h : a ||| b < 2 ^ k.bits := Nat.or_lt_two_pow ha hb
  simp only [hk, Bool.false_and, Bool.false_eq_true, if_false]
  rw [BitVec.toNat_or, BitVec.toNat_ofInt, BitVec.toNat_ofInt]
  have e1 : ((a : Int) % ((2 ^ k.bits : Nat) : Int)).toNat = a := by rw [Int.emod_eq_of_lt (by omega) (by exact_mod_cast ha)]; simp
  have e2 : ((b : Int) % ((2 ^ k.bits : Nat) : Int)).toNat = b := by rw [Int.emod_eq_of_lt (by omega) (by exact_mod_cast hb)]; simp
  rw [e1, e2]
  have : (2 : Int) ^ k.bits = ((2 ^ k.bits : Nat) : Int) := by simp
  rw [this]
  exact Int.emod_eq_of_lt (by omega) (by exact_mod_cast h)
theorem orI_add (k : IntKind) (n : Nat) (a b : Int) (hk : k.signed = false) (ha : 0 ≤ a) (hb : 0 ≤ b) (hbn : b < 2 ^ n) (h : 2 ^ n * a < 2 ^ k.bits) (hn : n ≤ k.bits) : orI k (2 ^ n * a) b = 2 ^ n * a + b := by
  obtain ⟨a, rfl⟩ := Int.eq_ofNat_of_zero_le ha
  obtain ⟨b, rfl⟩ := Int.eq_ofNat_of_zero_le hb
  have hb' : b < 2 ^ n := by exact_mod_cast hbn
  have h' : 2 ^ n * a < 2 ^ k.bits := by exact_mod_cast h
  have e : (2 : Int) ^ n * (a : Int) = ((2 ^ n * a : Nat) : Int) := by simp
  rw [e, orI_nat k _ _ hk h' (Nat.lt_of_lt_of_le hb' (Nat.pow_le_pow_right (by omega) hn)), ← Nat.two_pow_add_eq_or_of_lt hb' a]
  simp
theorem orI_w8 (a b : Int) (h0 : 0 ≤ a) (h1 : a < 256) (h2 : 0 ≤ b) (h3 : b < 256) : orI .u16 (256 * a) b = 256 * a + b :=
  orI_add .u16 8 a b rfl h0 h2 (by omega) (by show 256 * a < 65536; omega) (by decide)
theorem andI_i64 (a b : Nat) (ha : a < 9223372036854775808) (hb : b < 9223372036854775808) : andI .i64 a b = ((a &&& b : Nat) : Int) := by
  unfold andI
  have h : a &&& b ≤ a := Nat.and_le_left
  rw [BitVec.toNat_and, BitVec.toNat_ofInt, BitVec.toNat_ofInt]
  have e1 : ((a : Int) % ((2 ^ IntKind.i64.bits : Nat) : Int)).toNat = a := by
    have : ((2 ^ IntKind.i64.bits : Nat) : Int) = 18446744073709551616 := rfl
    rw [this]; omega
  have e2 : ((b : Int) % ((2 ^ IntKind.i64.bits : Nat) : Int)).toNat = b := by
    have : ((2 ^ IntKind.i64.bits : Nat) : Int) = 18446744073709551616 := rfl
    rw [this]; omega
  rw [e1, e2, wrap_i64 _ (by omega) (by omega)]
theorem andI_one (a : Nat) (ha : a < 9223372036854775808) : andI .i64 a 1 = ((a % 2 : Nat) : Int) := by
  have := andI_i64 a 1 ha (by omega)
  rw [Nat.and_one_is_mod] at this
  exact this
theorem tdiv_pos (x y : Int) (h : 0 ≤ x) : x.tdiv y = x / y := Int.tdiv_eq_ediv_of_nonneg h
theorem tmod_pos (x y : Int) (h : 0 ≤ x) : x.tmod y = x % y := Int.tmod_eq_emod_of_nonneg h
@[simp] theorem extD_0 (a : DV) (l : List DV) : extD 0 (.tup (a :: l)) = some a := rfl
@[simp] theorem extD_1 (a b : DV) (l : List DV) : extD 1 (.tup (a :: b :: l)) = some b := rfl
@[simp] theorem extD_2 (a b c : DV) (l : List DV) : extD 2 (.tup (a :: b :: c :: l)) = some c := rfl

/-! lists -/
def LV {α : Type} (sz : Nat) (enc : α → DV) (l : List α) (t : Tag) : DV := mkl sz (l.map enc) t
theorem LV_nil {α : Type} (sz : Nat) (enc : α → DV) (t : Tag) : DV.list 0 [] t = LV sz enc [] t := rfl
theorem LV_cons {α : Type} (sz : Nat) (enc : α → DV) (a : α) (l : List α) (t : Tag) : LV sz enc (a :: l) t = .list sz (enc a :: l.map enc) t := rfl
@[simp] theorem lenD_LV {α : Type} (sz : Nat) (enc : α → DV) (l : List α) (t : Tag) : lenD (LV sz enc l t) = some (.flat (.int .i64 l.length)) := by
  cases l <;> simp [LV, mkl, lenD]
@[simp] theorem lenD_nil (t : Tag) : lenD (.list 0 [] t) = some (.flat (.int .i64 0)) := rfl
@[simp] theorem LV_cells {α : Type} (sz : Nat) (enc : α → DV) (l : List α) (t : Tag) : (LV sz enc l t).cells = [LV sz enc l t] := by cases l <;> rfl
@[simp] theorem LV_leaf {α : Type} (sz : Nat) (enc : α → DV) (l : List α) (t : Tag) : (LV sz enc l t).leaf = true := by cases l <;> rfl
@[simp] theorem idxSl_LV {α : Type} (sz : Nat) (enc : α → DV) (l : List α) (t : Tag) (k : IntKind) (i : Int) (h0 : 0 ≤ i) (h1 : i.toNat < l.length) :
    idxSl sz (LV sz enc l t) (.flat (.int k i)) = some (.elem (enc (l[i.toNat]'h1)) 0) := by
  cases l with
  | nil => simp at h1
  | cons a l =>
    rw [LV_cons]
    simp only [idxSl, intD, h0, if_true]
    rw [← List.map_cons, List.getElem?_map, List.getElem?_eq_getElem h1]
    rfl
@[simp] theorem loadG_elem (ag : Bool) (sz : Nat) (x : DV) (off : Nat) (H : Heap) : loadG ag sz (.elem x off) H = partD ag sz off x.cells := rfl
@[simp] theorem loadE_elem (ag : Bool) (sz : Nat) (x : DV) (off : Nat) : loadE ag sz (.elem x off) = partD ag sz off x.cells := rfl
@[simp] theorem partD_flat (v : Value) : partD false 1 0 [.flat v] = some (.flat v) := rfl
@[simp] theorem cells_flat (v : Value) : (DV.flat v).cells = [.flat v] := rfl
@[simp] theorem cells_agg (l : List DV) : (DV.agg l).cells = l := rfl
def slT (t : Tag) (full : Bool) : Tag := if full ∧ t = .ti then .ti else .sh
@[simp] theorem slT_sh (b : Bool) : slT .sh b = .sh := by simp [slT]
theorem mkl_drop {α : Type} (sz : Nat) (enc : α → DV) (l : List α) (a b : Nat) (t : Tag) : mkl sz (((l.map enc).take b).drop a) t = LV sz enc ((l.take b).drop a) t := by
  rw [← List.map_take, ← List.map_drop]; rfl
theorem LV_list {α : Type} (sz : Nat) (enc : α → DV) (l : List α) (t : Tag) : ∃ s, LV sz enc l t = .list s (l.map enc) t ∧ ((l.map enc).isEmpty || s == sz) = true := by
  cases l with
  | nil => exact ⟨0, rfl, rfl⟩
  | cons a l => exact ⟨sz, rfl, by simp⟩
theorem slX_gen {α : Type} (sz : Nat) (enc : α → DV) (l : List α) (t : Tag) (lo hi mx : Option DV) (a b m : Option Int) (ha : optD lo = some a) (hb : optD hi = some b) (hm : optD mx = some m) :
    slX sz (LV sz enc l t) lo hi mx = sliceL sz (l.map enc) t a b m := by
  obtain ⟨s, h1, h2⟩ := LV_list sz enc l t
  simp only [slX, ha, hb, hm, h1, sliceSl, h2, if_true]
@[simp] theorem slX_ab {α : Type} (sz : Nat) (enc : α → DV) (l : List α) (t : Tag) (k1 k2 : IntKind) (a b : Int) (h0 : 0 ≤ a) (h1 : a ≤ b) (h2 : b ≤ l.length) :
    slX sz (LV sz enc l t) (some (.flat (.int k1 a))) (some (.flat (.int k2 b))) none = some (LV sz enc ((l.take b.toNat).drop a.toNat) (slT t (b.toNat == l.length))) := by
  rw [slX_gen sz enc l t _ _ _ (some a) (some b) none rfl rfl rfl]
  simp only [sliceL, boundsD, List.length_map, Option.getD_some, Option.getD_none, h0, h1, h2, Option.isNone_none, true_or, or_true, and_true, true_and, Int.le_refl, if_true, Option.isSome_none, Bool.false_eq_true, false_and, if_false]
  rw [mkl_drop]
  simp only [slT, beq_iff_eq]
@[simp] theorem slX_a {α : Type} (sz : Nat) (enc : α → DV) (l : List α) (t : Tag) (k1 : IntKind) (a : Int) (h0 : 0 ≤ a) (h1 : a ≤ l.length) :
    slX sz (LV sz enc l t) (some (.flat (.int k1 a))) none none = some (LV sz enc (l.drop a.toNat) (slT t true)) := by
  rw [slX_gen sz enc l t _ _ _ (some a) none none rfl rfl rfl]
  simp only [sliceL, boundsD, List.length_map, Option.getD_some, Option.getD_none, h0, h1, Option.isNone_none, true_or, or_true, and_true, true_and, Int.le_refl, if_true, Option.isSome_none, Bool.false_eq_true, false_and, if_false, Int.toNat_natCast]
  rw [mkl_drop, List.take_length]
  simp only [slT, true_and]
@[simp] theorem slX_b {α : Type} (sz : Nat) (enc : α → DV) (l : List α) (t : Tag) (k2 : IntKind) (b : Int) (h1 : 0 ≤ b) (h2 : b ≤ l.length) :
    slX sz (LV sz enc l t) none (some (.flat (.int k2 b))) none = some (LV sz enc (l.take b.toNat) (slT t (b.toNat == l.length))) := by
  rw [slX_gen sz enc l t _ _ _ none (some b) none rfl rfl rfl]
  simp only [sliceL, boundsD, List.length_map, Option.getD_some, Option.getD_none, h1, h2, Option.isNone_none, true_or, or_true, and_true, true_and, Int.le_refl, if_true, Option.isSome_none, Bool.false_eq_true, false_and, if_false]
  rw [mkl_drop]
  simp only [slT, beq_iff_eq, Int.toNat_zero, List.drop_zero]
@[simp] theorem slX_bm {α : Type} (sz : Nat) (enc : α → DV) (l : List α) (t : Tag) (k2 k3 : IntKind) (b : Int) (h1 : 0 ≤ b) (h2 : b ≤ l.length) :
    slX sz (LV sz enc l t) none (some (.flat (.int k2 b))) (some (.flat (.int k3 b))) = some (LV sz enc (l.take b.toNat) .ti) := by
  rw [slX_gen sz enc l t _ _ _ none (some b) (some b) rfl rfl rfl]
  simp only [sliceL, boundsD, List.length_map, Option.getD_some, Option.getD_none, h1, h2, or_true, and_true, true_and, Int.le_refl, if_true, Option.isSome_some]
  rw [mkl_drop]
  simp only [Int.toNat_zero, List.drop_zero]
theorem appG_ti {α : Type} {e : TypeId} {ag : Bool} {sz by_ : Nat} {enc : α → DV} {xs ys : List α} {t' : Tag} {H : Heap} {fl : Nat} (hne : ys ≠ []) (hc : chunkOk ag sz 0 = true) (hb : (xs.length + ys.length) * by_ ≤ 140737488355328) (hb2 : xs.length + ys.length ≤ 140737488355328) :
    appG e ag sz by_ (LV sz enc xs .ti) (LV sz enc ys t') H fl = some (LV sz enc (xs ++ ys) (.own H.length), H ++ [.token e sz (xs.length + ys.length)]) := by
  obtain ⟨s1, h1, g1⟩ := LV_list sz enc xs .ti
  obtain ⟨s2, h2, g2⟩ := LV_list sz enc ys t'
  have hl : ∀ k, LV sz enc (xs ++ ys) (.own k) = .list sz (xs.map enc ++ ys.map enc) (.own k) := by
    intro k
    cases xs with
    | nil => cases ys with
      | nil => exact absurd rfl hne
      | cons y ys => rfl
    | cons x xs => simp [LV, mkl]
  rw [hl, h1, h2]
  unfold appG appendD srcD
  simp only [g2, if_true]
  cases ys with
  | nil => exact absurd rfl hne
  | cons y ys =>
    have g3 : ¬xs = [] → s1 = sz := by
      intro h
      have : xs.isEmpty = false := by cases xs <;> simp_all
      simpa [this] using g1
    simp only [List.map_cons, List.length_map, List.length_cons] at *
    simp [hc, hb, hb2, effH, Eff.heap]
    exact g3

@[simp] theorem leaf_int (k : IntKind) (x : Int) : (DV.flat (.int k x)).leaf = true := rfl
@[simp] theorem leaf_bool (b : Bool) : (DV.flat (.bool b)).leaf = true := rfl
@[simp] theorem leaf_string (b : ByteArray) : (DV.flat (.string b)).leaf = true := rfl
@[simp] theorem leaf_ptr (k o : Nat) : (DV.ptr k o).leaf = true := rfl
@[simp] theorem leaf_list (sz : Nat) (l : List DV) (t : Tag) : (DV.list sz l t).leaf = true := rfl
@[simp] theorem leaf_nilp : (DV.flat (.pointer none)).leaf = true := rfl
@[simp] theorem cells_list (sz : Nat) (l : List DV) (t : Tag) : (DV.list sz l t).cells = [.list sz l t] := rfl
@[simp] theorem cells_ptr (k o : Nat) : (DV.ptr k o).cells = [.ptr k o] := rfl
@[simp] theorem loadG_ptr (ag : Bool) (sz k off : Nat) (H : Heap) : loadG ag sz (.ptr k off) H = match H[k]? with | some (.cells _ cs) => partD ag sz off cs | _ => none := rfl
@[simp] theorem partD_t (sz off : Nat) (cs : List DV) : partD true sz off cs = if off + sz ≤ cs.length then some (.agg ((cs.drop off).take sz)) else none := rfl
@[simp] theorem partD_f (sz off : Nat) (cs : List DV) : partD false sz off cs = cs[off]? := rfl
@[simp] theorem allocG_s (e : TypeId) (d : DV) (nid : Nat) (H : Heap) (h : d.cells.all DV.leaf = true) : allocG e d nid H = some (H.set nid (.cells e d.cells)) := by unfold allocG; rw [if_pos h]
@[simp] theorem storeG_s (sz k off : Nat) (d : DV) (H : Heap) (fl : Nat) (h : fl ≤ k) : storeG sz (.ptr k off) d H fl = match H[k]? with
    | some (.cells e cs) => if d.cells.length = sz ∧ off + sz ≤ cs.length ∧ d.cells.all DV.leaf = true then some (H.set k (.cells e (splice off d.cells cs))) else none
    | _ => none := by
  unfold storeG
  simp only [h, true_and]
  rfl
@[simp] theorem buildA_s (zero : DV) (size : Nat) (parts : List (Nat × DV)) : buildA zero size parts = (fillD (fun i => some (i * size, size)) zero.cells parts).map .agg := by unfold buildA; rfl
@[simp] theorem buildS_s (zero : DV) (pl : List (Nat × Nat)) (parts : List (Nat × DV)) : buildS zero pl parts = (fillD (pl[·]?) zero.cells parts).map .agg := by unfold buildS; rfl
@[simp] theorem fillD_n (place : Nat → Option (Nat × Nat)) (cells : List DV) : fillD place cells [] = some cells := by unfold fillD; rfl
@[simp] theorem fillD_c (place : Nat → Option (Nat × Nat)) (cells : List DV) (i : Nat) (d : DV) (rest : List (Nat × DV)) :
    fillD place cells ((i, d) :: rest) = match place i with
      | none => none
      | some (off, size) => if d.cells.length ≠ size ∨ off + d.cells.length > cells.length ∨ d.cells.all DV.leaf = false then none else fillD place (splice off d.cells cells) rest := by
  rw [fillD]
  rfl
@[simp] theorem splice_s (off : Nat) (new old : List DV) : splice off new old = old.take off ++ new ++ old.drop (off + new.length) := by unfold splice; rfl
@[simp] theorem buildL_i1 (k : IntKind) (x a : Int) : buildL false 1 1 (.flat (.int k x)) [(0, .flat (.int k a))] = some (LV 1 (I k) [a] .ti) := rfl

/-! pure calls -/
@[simp] theorem mapO_nil {α β : Type} (f : α → Option β) : mapO f [] = some [] := rfl
@[simp] theorem mapO_cons {α β : Type} (f : α → Option β) (x : α) (l : List α) : mapO f (x :: l) = bi (f x) fun y => bi (mapO f l) fun r => some (y :: r) := by
  simp only [mapO, bi]
  cases f x with
  | none => rfl
  | some y => dsimp only; cases mapO f l <;> rfl
@[simp] theorem outLeaf_LV {α : Type} (ti : Bool) (H : Heap) (sz : Nat) (enc : α → DV) (l : List α) (t : Tag) : outLeaf ti H (LV sz enc l t) = some (LV sz enc l (shTag ti t)) := by cases l <;> rfl
@[simp] theorem outEl_LV {α : Type} (ti : Bool) (H : Heap) (sz : Nat) (enc : α → DV) (l : List α) (t : Tag) : outEl ti H (LV sz enc l t) = some (LV sz enc l (shTag ti t)) := by cases l <;> rfl
@[simp] theorem outD_LV {α : Type} (ti : Bool) (H : Heap) (sz : Nat) (enc : α → DV) (l : List α) (t : Tag) : outD ti H (LV sz enc l t) = some (LV sz enc l (shTag ti t)) := by cases l <;> rfl
@[simp] theorem outEl_nil (ti : Bool) (H : Heap) (t : Tag) : outEl ti H (.list 0 [] t) = some (.list 0 [] (shTag ti t)) := rfl
@[simp] theorem outLeaf_nil (ti : Bool) (H : Heap) (t : Tag) : outLeaf ti H (.list 0 [] t) = some (.list 0 [] (shTag ti t)) := rfl
@[simp] theorem outD_nil (ti : Bool) (H : Heap) (t : Tag) : outD ti H (.list 0 [] t) = some (.list 0 [] (shTag ti t)) := rfl
@[simp] theorem outLeaf_i (ti : Bool) (H : Heap) (k : IntKind) (x : Int) : outLeaf ti H (.flat (.int k x)) = some (.flat (.int k x)) := rfl
@[simp] theorem outLeaf_b (ti : Bool) (H : Heap) (b : Bool) : outLeaf ti H (.flat (.bool b)) = some (.flat (.bool b)) := rfl
@[simp] theorem outLeaf_s (ti : Bool) (H : Heap) (s : ByteArray) : outLeaf ti H (.flat (.string s)) = some (.flat (.string s)) := rfl
@[simp] theorem outEl_flat (ti : Bool) (H : Heap) (v : Value) : outEl ti H (.flat v) = some (.flat v) := rfl
@[simp] theorem outEl_agg (ti : Bool) (H : Heap) (cs : List DV) : outEl ti H (.agg cs) = (mapO (outLeaf ti H) cs).map .agg := rfl
@[simp] theorem outD_tup (ti : Bool) (H : Heap) (cs : List DV) : outD ti H (.tup cs) = (mapO (outEl ti H) cs).map .tup := rfl
@[simp] theorem outD_agg (ti : Bool) (H : Heap) (cs : List DV) : outD ti H (.agg cs) = (mapO (outLeaf ti H) cs).map .agg := rfl
@[simp] theorem outD_flat (ti : Bool) (H : Heap) (v : Value) : outD ti H (.flat v) = some (.flat v) := rfl
@[simp] theorem shTag_sh (ti : Bool) : shTag ti .sh = .sh := by cases ti <;> rfl
@[simp] theorem shTag_f (t : Tag) : shTag false t = .sh := by cases t <;> rfl
@[simp] theorem shTag_ti : shTag true .ti = .ti := rfl
@[simp] theorem shTag_own (ti : Bool) (k : Nat) : shTag ti (.own k) = .sh := by cases ti <;> rfl
theorem argEl_eq (d : DV) : argEl d = outEl false [] d := rfl
theorem cP_of {n f : Nat} {ti : Bool} {args args' : List DV} {H' : Heap} {r r' : DV} (h1 : mapO argEl args = some args') (h2 : callG Try.prog ENV n f args' [] 0 = some (r, H')) (h3 : outD ti H' r = some r') : cP n f ti args = some r' := by
  unfold cP callP
  rw [h1, bi_some, h2, bi_some]
  exact h3
@[simp] theorem cellR_ptr (ag : Bool) (sz k off : Nat) (H : Heap) : cellR ag sz (.ptr k off) H = loadG ag sz (.ptr k off) H := rfl

@[simp] theorem get_0 {α : Type} (a : α) (l : List α) : (a :: l)[0]? = some a := rfl
@[simp] theorem get_1 {α : Type} (a b : α) (l : List α) : (a :: b :: l)[1]? = some b := rfl
@[simp] theorem get_2 {α : Type} (a b c : α) (l : List α) : (a :: b :: c :: l)[2]? = some c := rfl
@[simp] theorem get_3 {α : Type} (a b c d : α) (l : List α) : (a :: b :: c :: d :: l)[3]? = some d := rfl
/-! a list that a loop builds -/
def TgOk (t : Tag) (e : TypeId) (sz fl n : Nat) (H : Heap) : Prop := t = .ti ∨ ∃ k, t = .own k ∧ H[k]? = some (.token e sz n) ∧ fl ≤ k
def HExt (H H' : Heap) : Prop := H.length ≤ H'.length ∧ ∀ (j : Nat) (b : DBlk), H[j]? = some b → (∀ e s n, b ≠ .token e s n) → H'[j]? = some b
theorem HExt.refl (H : Heap) : HExt H H := ⟨Nat.le_refl _, fun _ _ h _ => h⟩
theorem HExt.trans {H1 H2 H3 : Heap} (h : HExt H1 H2) (k : HExt H2 H3) : HExt H1 H3 := ⟨Nat.le_trans h.1 k.1, fun j b hb hn => k.2 j b (h.2 j b hb hn) hn⟩
theorem HExt.app (H X : Heap) : HExt H (H ++ X) := ⟨by simp, fun j b hb _ => by
  have : j < H.length := by rcases Nat.lt_or_ge j H.length with h | h; exact h; rw [List.getElem?_eq_none h] at hb; cases hb
  rw [List.getElem?_append_left this]; exact hb⟩
theorem appG_ok {α : Type} {e : TypeId} {ag : Bool} {sz by_ : Nat} {enc : α → DV} {xs ys : List α} {t t' : Tag} {H : Heap} {fl : Nat} (ht : TgOk t e sz fl xs.length H) (hfl : fl ≤ H.length) (hne : ys ≠ []) (hc : chunkOk ag sz 0 = true) (hb : (xs.length + ys.length) * by_ ≤ 140737488355328) (hb2 : xs.length + ys.length ≤ 140737488355328) :
    ∃ t2 H', appG e ag sz by_ (LV sz enc xs t) (LV sz enc ys t') H fl = some (LV sz enc (xs ++ ys) t2, H') ∧ TgOk t2 e sz fl (xs ++ ys).length H' ∧ HExt H H' ∧ fl ≤ H'.length := by
  rcases ht with rfl | ⟨k, rfl, hk, hkf⟩
  · refine ⟨_, _, appG_ti hne hc hb hb2, .inr ⟨_, rfl, by simp, hfl⟩, HExt.app _ _, by simp; omega⟩
  · have hkl : k < H.length := by rcases Nat.lt_or_ge k H.length with h | h; exact h; rw [List.getElem?_eq_none h] at hk; cases hk
    have hl : ∀ k, LV sz enc (xs ++ ys) (.own k) = .list sz (xs.map enc ++ ys.map enc) (.own k) := by
      intro k
      cases xs with
      | nil => cases ys with
        | nil => exact absurd rfl hne
        | cons y ys => rfl
      | cons x xs => simp [LV, mkl]
    refine ⟨.own k, H.set k (.token e sz (xs ++ ys).length), ?_, .inr ⟨k, rfl, by rw [List.getElem?_set]; simp [hkl], hkf⟩, ⟨by simp, fun j b hb hn => ?_⟩, by simpa using hfl⟩
    · obtain ⟨s1, h1, g1⟩ := LV_list sz enc xs (.own k)
      obtain ⟨s2, h2, g2⟩ := LV_list sz enc ys t'
      rw [hl, h1, h2]
      unfold appG appendD srcD
      simp only [g2, if_true]
      cases ys with
      | nil => exact absurd rfl hne
      | cons y ys =>
        have g3 : ¬xs = [] → s1 = sz := by
          intro h
          have : xs.isEmpty = false := by cases xs <;> simp_all
          simpa [this] using g1
        simp only [List.map_cons, List.length_map, List.length_cons] at *
        simp [hc, hb, hb2, effH, Eff.heap, hk, hkf]
        exact g3
    · rw [List.getElem?_set, if_neg]
      · exact hb
      · intro e; subst e
        rw [hk] at hb; cases hb
        exact hn _ _ _ rfl

/-! rows of the call's own -/
theorem flat_one {α : Type} (n : Nat) (a : α) : (List.replicate n [a]).flatten = List.replicate n a := by
  induction n with
  | zero => rfl
  | succ n ih => rw [List.replicate_succ, List.flatten_cons, ih]; rfl
@[simp] theorem makeG_i (by_ : Nat) (e : TypeId) (k k1 : IntKind) (z n : Int) (nid : Nat) (H : Heap) (h0 : 0 ≤ n) (h1 : n ≤ 100000) (hb : by_ ≤ 8) :
    makeG false 1 by_ e (.flat (.int k z)) (.flat (.int k1 n)) (.flat (.int k1 n)) nid H = some (.row false 1 nid 0 n.toNat n.toNat, H.set nid (.cells e ((List.replicate n.toNat z).map (I k)))) := by
  have hm : n * (by_ : Int) ≤ 140737488355328 := by
    have : n * (by_ : Int) ≤ 100000 * 8 := by
      refine Int.mul_le_mul h1 (by omega) (by omega) (by omega)
    omega
  unfold makeG makeD
  simp [intD, h0, hm, show n ≤ 140737488355328 by omega, effH, Eff.heap, flat_one]
theorem plainEl_map {k : IntKind} (l : List Int) : mapO plainEl (l.map (I k)) = some (l.map (I k)) := by
  induction l with
  | nil => rfl
  | cons a l ih => rw [List.map_cons, mapO_cons, ih]; rfl
theorem chunk_one (n : Nat) (cs : List DV) (h : n ≤ cs.length) : chunk false 1 n cs = cs.take n := by
  induction n generalizing cs with
  | zero => simp [chunk]
  | succ n ih => cases cs with
    | nil => simp at h
    | cons c cs => simp [chunk, ih cs (by simpa using h)]
theorem cells_map (k : IntKind) (l : List Int) : ((l.map (I k)).map DV.cells).flatten = l.map (I k) := by
  induction l with
  | nil => rfl
  | cons a l ih => simp only [List.map_cons, List.flatten_cons, ih]; rfl
/-- the elements of a source -/
theorem srcD_LV {α : Type} (ag : Bool) (sz : Nat) (enc : α → DV) (l : List α) (t : Tag) (H : Heap) : srcD ag sz (LV sz enc l t) H = some (l.map enc) := by
  obtain ⟨s, h1, h2⟩ := LV_list sz enc l t
  rw [h1]
  show (if _ then _ else _) = _
  rw [if_pos h2]
theorem srcD_row (k : IntKind) (b off n c : Nat) (H : Heap) (e : TypeId) (l : List Int) (h : H[b]? = some (.cells e (l.map (I k)))) (hl : off + n ≤ l.length) (hl2 : l.length ≤ 100000) :
    srcD false 1 (.row false 1 b off n c) H = some (((l.drop off).take n).map (I k)) := by
  have hck : chunkOk false 1 n = true := by simp [chunkOk]; omega
  unfold srcD
  simp only [hck, and_self, if_true, rowCells, h, Nat.mul_one, List.length_map, hl, Option.bind_some]
  rw [chunk_one _ _ (by simp; omega)]
  rw [← List.map_drop, ← List.map_take, ← List.map_take, List.take_take, Nat.min_self, plainEl_map]
theorem copyG_row (k : IntKind) (y : DV) (b off n c : Nat) (H : Heap) (fl : Nat) (e : TypeId) (l ys : List Int) (h : H[b]? = some (.cells e (l.map (I k)))) (hs : srcD false 1 y H = some (ys.map (I k))) (hfl : fl ≤ b) (hl : off + min ys.length n ≤ l.length) :
    copyG false 1 (.row false 1 b off n c) y H fl = some (.flat (.int .i64 (min ys.length n : Nat)), H.set b (.cells e ((l.take off ++ ys.take (min ys.length n) ++ l.drop (off + min ys.length n)).map (I k)))) := by
  have hm : min (min ys.length n) ys.length = min ys.length n := by omega
  unfold copyG copyD
  rw [hs]
  simp only [hfl, and_self, if_true, h, List.length_map, ← List.map_take, cells_map, Nat.mul_one, hl, List.length_take, hm, effH, Option.map_some, Eff.heap, splice, List.map_append, List.map_drop]

@[simp] theorem saX_all (ag : Bool) (n sz k off : Nat) : saX ag n sz (.ptr k off) none none none = some (.row ag sz k off n n) := by
  simp only [saX, optD, sliceAr, boundsD, Option.getD_none, Int.le_refl, Option.isNone_none, true_or, and_self, true_and, and_true, if_true, Int.toNat_natCast, Int.toNat_zero]
  simp
@[simp] theorem slX_row_a (ag : Bool) (sz k off n c : Nat) (k1 : IntKind) (a : Int) (h0 : 0 ≤ a) (h1 : a ≤ n) (h2 : n ≤ c) (h3 : a < c) :
    slX sz (.row ag sz k off n c) (some (.flat (.int k1 a))) none none = some (.row ag sz k (off + a.toNat * sz) (n - a.toNat) (c - a.toNat)) := by
  have h4 : (n : Int) ≤ c := by omega
  have h5 : ¬ c = a.toNat := by omega
  simp only [slX, optD, intD, Option.map_some, sliceSl, boundsD, Option.getD_none, Option.getD_some, h0, h1, h4, Int.le_refl, Option.isNone_none, true_or, and_self, true_and, and_true, if_true, Int.toNat_natCast]
  simp [h5, Nat.not_lt.mpr h2]
@[simp] theorem idxSl_row (ag : Bool) (sz k off n c : Nat) (k1 : IntKind) (i : Int) (h0 : 0 ≤ i) (h1 : i < n) : idxSl sz (.row ag sz k off n c) (.flat (.int k1 i)) = some (.ptr k (off + i.toNat * sz)) := by
  simp [idxSl, intD, h0, h1]

theorem outEl_row (ti : Bool) (k : IntKind) (b off n c : Nat) (H : Heap) (e : TypeId) (l : List Int) (h : H[b]? = some (.cells e (l.map (I k)))) (hl : off + n ≤ l.length) (hl2 : l.length ≤ 100000) (hc : n ≤ c) :
    outEl ti H (.row false 1 b off n c) = some (LV 1 (I k) ((l.drop off).take n) (if ti && n == c then .ti else .sh)) := by
  have hck : chunkOk false 1 n = true := by simp [chunkOk]; omega
  have hrw : outEl ti H (.row false 1 b off n c) = outLeaf ti H (.row false 1 b off n c) := rfl
  rw [hrw]
  unfold outLeaf
  simp only [hck, hc, and_self, if_true, rowCells, h, Nat.mul_one, List.length_map, hl, Option.bind_some]
  rw [chunk_one _ _ (by simp; omega)]
  rw [← List.map_drop, ← List.map_take, ← List.map_take, List.take_take, Nat.min_self, plainEl_map]
  rfl
end Go.Proofs.Ytjkofefcoeejbaa

/- Heaps: what stands where, and what a call that writes leaves. -/
namespace Go.Proofs.Ytjkofefcoeejbaa
open Go

@[simp] theorem hp_get_left (H X : Heap) (k : Nat) (h : k < H.length) : (H ++ X)[k]? = H[k]? := List.getElem?_append_left h
@[simp] theorem hp_get_0 (H X : Heap) (a : DBlk) (n : Nat) (h : n = H.length) : (H ++ a :: X)[n]? = some a := by subst h; simp
@[simp] theorem hp_get_1 (H X : Heap) (a b : DBlk) (n : Nat) (h : n = H.length + 1) : (H ++ a :: b :: X)[n]? = some b := by
  subst h; rw [List.getElem?_append_right (by omega)]; simp
@[simp] theorem hp_get_2 (H X : Heap) (a b c : DBlk) (n : Nat) (h : n = H.length + 2) : (H ++ a :: b :: c :: X)[n]? = some c := by
  subst h; rw [List.getElem?_append_right (by omega)]; simp
@[simp] theorem hp_get_3 (H X : Heap) (a b c d : DBlk) (n : Nat) (h : n = H.length + 3) : (H ++ a :: b :: c :: d :: X)[n]? = some d := by
  subst h; rw [List.getElem?_append_right (by omega)]; simp
@[simp] theorem hp_set_left (H X : Heap) (k : Nat) (y : DBlk) (h : k < H.length) : (H ++ X).set k y = H.set k y ++ X := by
  rw [List.set_append_left _ _ h]
@[simp] theorem hp_set_0 (H X : Heap) (a y : DBlk) (n : Nat) (h : n = H.length) : (H ++ a :: X).set n y = H ++ y :: X := by subst h; rw [List.set_append_right _ _ (by omega)]; simp
@[simp] theorem hp_set_1 (H X : Heap) (a b y : DBlk) (n : Nat) (h : n = H.length + 1) : (H ++ a :: b :: X).set n y = H ++ a :: y :: X := by
  subst h; rw [List.set_append_right _ _ (by omega), Nat.add_sub_cancel_left]; rfl
@[simp] theorem hp_set_2 (H X : Heap) (a b c y : DBlk) (n : Nat) (h : n = H.length + 2) : (H ++ a :: b :: c :: X).set n y = H ++ a :: b :: y :: X := by
  subst h; rw [List.set_append_right _ _ (by omega), Nat.add_sub_cancel_left]; rfl
@[simp] theorem hp_set_3 (H X : Heap) (a b c d y : DBlk) (n : Nat) (h : n = H.length + 3) : (H ++ a :: b :: c :: d :: X).set n y = H ++ a :: b :: c :: y :: X := by
  subst h; rw [List.set_append_right _ _ (by omega), Nat.add_sub_cancel_left]; rfl
@[simp] theorem hp_set_get (H : Heap) (k : Nat) (y : DBlk) (h : k < H.length) : (H.set k y)[k]? = some y := by simp [h]
@[simp] theorem hp_set_ne (H : Heap) (k j : Nat) (y : DBlk) (h : j ≠ k) : (H.set k y)[j]? = H[j]? := by rw [List.getElem?_set, if_neg (fun e => h e.symm)]
theorem hp_lt {H : Heap} {k : Nat} {b : DBlk} (h : H[k]? = some b) : k < H.length := by
  rcases Nat.lt_or_ge k H.length with h' | h'
  · exact h'
  · rw [List.getElem?_eq_none h'] at h; cases h
@[simp] theorem nilD_ptr (k o : Nat) : nilD (.ptr k o) = some (.ptr k o) := rfl
@[simp] theorem fieldD_ptr (fo sz k o : Nat) (h : sz ≠ 0) : fieldD fo sz (.ptr k o) = some (.ptr k (o + fo)) := by simp [fieldD, h]
@[simp] theorem fieldD_elem (fo sz o : Nat) (x : DV) (h : sz ≠ 0) : fieldD fo sz (.elem x o) = some (.elem x (o + fo)) := by simp [fieldD, h]

/-- a block that names none but old ones -/
def WfB (n : Nat) : DBlk → Prop
  | .cells _ cs => ∀ d ∈ cs, (d.leaf && inSc n d) = true
  | _ => True
def WfH (H : Heap) : Prop := ∀ b ∈ H, WfB H.length b
theorem wf_nil : WfH [] := fun b h => by simp at h
@[simp] theorem inSc_LV_sh {α : Type} (n sz : Nat) (enc : α → DV) (l : List α) : inSc n (LV sz enc l .sh) = true := by cases l <;> rfl
@[simp] theorem inSc_LV_ti {α : Type} (n sz : Nat) (enc : α → DV) (l : List α) : inSc n (LV sz enc l .ti) = true := by cases l <;> rfl
@[simp] theorem inSc_flat (n : Nat) (v : Value) : inSc n (.flat v) = true := rfl
@[simp] theorem inSc_ptr (n k o : Nat) : inSc n (.ptr k o) = decide (k < n) := rfl
@[simp] theorem inSc_nil (n : Nat) : inSc n (.list 0 [] .sh) = true := rfl
@[simp] theorem inSc_nilt (n : Nat) : inSc n (.list 0 [] .ti) = true := rfl
mutual
theorem inSc_mono {n m : Nat} (h : n ≤ m) : ∀ d : DV, inSc n d = true → inSc m d = true
  | .any, _ => rfl
  | .flat _, _ => rfl
  | .agg cs, k => by simp only [inSc] at k ⊢; exact inScL_mono h cs k
  | .tup cs, k => by simp only [inSc] at k ⊢; exact inScL_mono h cs k
  | .list _ _ t, k => by
    cases t with
    | own j => simp only [inSc, decide_eq_true_eq] at k ⊢; omega
    | _ => rfl
  | .ptr j _, k => by simp only [inSc, decide_eq_true_eq] at k ⊢; omega
  | .row _ _ j _ _ _, k => by simp only [inSc, decide_eq_true_eq] at k ⊢; omega
  | .elem _ _, _ => rfl
  | .clo _ f c, k => by simp only [inSc, Bool.and_eq_true] at k ⊢; exact ⟨inScL_mono h f k.1, inScL_mono h c k.2⟩
  | .iface _ d, k => by simp only [inSc] at k ⊢; exact inSc_mono h d k
theorem inScL_mono {n m : Nat} (h : n ≤ m) : ∀ l : List DV, inScL n l = true → inScL m l = true
  | [], _ => rfl
  | d :: l, k => by simp only [inScL, Bool.and_eq_true] at k ⊢; exact ⟨inSc_mono h d k.1, inScL_mono h l k.2⟩
end
theorem WfB.mono {n m : Nat} (h : n ≤ m) {b : DBlk} (k : WfB n b) : WfB m b := by
  cases b with
  | cells e cs =>
    intro d hd
    have := k d hd
    simp only [Bool.and_eq_true] at this ⊢
    exact ⟨this.1, inSc_mono h d this.2⟩
  | _ => trivial
theorem WfH.app {H X : Heap} (h : WfH H) (hx : ∀ b ∈ X, WfB (H ++ X).length b) : WfH (H ++ X) := fun b hb => by
  rcases List.mem_append.mp hb with hb | hb
  · exact (h b hb).mono (by simp)
  · exact hx b hb
theorem WfH.set {H : Heap} (h : WfH H) (k : Nat) {b : DBlk} (hb : WfB H.length b) : WfH (H.set k b) := fun c hc => by
  rw [List.length_set]
  rcases List.mem_or_eq_of_mem_set hc with hc | rfl
  · exact h c hc
  · exact hb
theorem mapO_id {α : Type} (f : α → Option α) : ∀ (l : List α), (∀ x ∈ l, f x = some x) → mapO f l = some l
  | [], _ => rfl
  | x :: l, h => by rw [mapO_cons, h x (by simp), mapO_id f l (fun y hy => h y (by simp [hy]))]; rfl
theorem mapO_set {α : Type} (f : α → Option α) : ∀ (l : List α) (k : Nat) (b c : α), (∀ x ∈ l, f x = some x) → f b = some c → mapO f (l.set k b) = some (l.set k c)
  | [], _, _, _, _, _ => rfl
  | x :: l, 0, b, c, h, hb => by rw [List.set_cons_zero, mapO_cons, hb, mapO_id f l (fun y hy => h y (by simp [hy]))]; rfl
  | x :: l, k + 1, b, c, h, hb => by rw [List.set_cons_succ, mapO_cons, h x (by simp), mapO_set f l k b c (fun y hy => h y (by simp [hy])) hb]; rfl
theorem oldBlk_wf {n : Nat} {H' : Heap} {b : DBlk} (h : WfB n b) : oldBlk n H' b = some b := by
  cases b with
  | cells e cs =>
    show (mapO (oldLeaf n H') cs).map (DBlk.cells e) = _
    rw [mapO_id _ cs fun d hd => by
      have := h d hd
      unfold oldLeaf
      rw [if_pos this]]
    rfl
  | _ => rfl
/-- what a call that writes one block leaves -/
theorem cutH_set {H H' : Heap} (h : WfH H) {k : Nat} {b c : DBlk} (hk : k < H.length) (hb : H'[k]? = some b) (hj : ∀ j, j < H.length → j ≠ k → H'[j]? = H[j]?) (hc : oldBlk H.length H' b = some c) : cutH H.length H' = some (H.set k c) := by
  have e : H'.take H.length = H.set k b := by
    apply List.ext_getElem?
    intro j
    rw [List.getElem?_take]
    by_cases hjn : j < H.length
    · rw [if_pos hjn]
      by_cases hjk : j = k
      · subst hjk; rw [hb, List.getElem?_set_self hjn]
      · rw [hj j hjn hjk, List.getElem?_set_ne (fun e => hjk e.symm)]
    · rw [if_neg hjn, List.getElem?_eq_none (by simp; omega)]
  unfold cutH
  rw [e]
  exact mapO_set _ H k b c (fun x hx => oldBlk_wf (h x hx)) hc
theorem cutH_same {H H' : Heap} (h : WfH H) (hj : ∀ j, j < H.length → H'[j]? = H[j]?) : cutH H.length H' = some H := by
  have e : H'.take H.length = H := by
    apply List.ext_getElem?
    intro j
    rw [List.getElem?_take]
    by_cases hjn : j < H.length
    · rw [if_pos hjn, hj j hjn]
    · rw [if_neg hjn, List.getElem?_eq_none (by omega)]
  unfold cutH
  rw [e]
  exact mapO_id _ H fun x hx => oldBlk_wf (h x hx)
theorem cW_of {n f : Nat} {args : List DV} {H H' H2 : Heap} {fl : Nat} {r r' : DV} (h1 : callG Try.prog ENV n f args H fl = some (r, H')) (h2 : oldD H.length H' r = some r') (h3 : cutH H.length H' = some H2) : cW n f args H fl = some (r', H2) := by
  unfold cW callW
  rw [h1, bi_some, h2, bi_some, h3, bi_some]
theorem cO_of {n f : Nat} {args : List DV} {H H' : Heap} {r r' : DV} (h1 : callG Try.prog ENV n f args H H.length = some (r, H')) (h2 : oldD H.length H' r = some r') : cO n f args H = some r' := by
  unfold cO callO
  rw [h1, bi_some, h2]
@[simp] theorem oldLeaf_sh {α : Type} (n : Nat) (H : Heap) (sz : Nat) (enc : α → DV) (l : List α) : oldLeaf n H (LV sz enc l .sh) = some (LV sz enc l .sh) := by cases l <;> rfl
@[simp] theorem oldLeaf_ti {α : Type} (n : Nat) (H : Heap) (sz : Nat) (enc : α → DV) (l : List α) : oldLeaf n H (LV sz enc l .ti) = some (LV sz enc l .ti) := by cases l <;> rfl
theorem oldLeaf_own {α : Type} (n : Nat) (H : Heap) (sz : Nat) (enc : α → DV) (l : List α) (k : Nat) (hk : n ≤ k) : oldLeaf n H (LV sz enc l (.own k)) = some (LV sz enc l .sh) := by
  have : ¬ k < n := by omega
  cases l <;> simp [LV, mkl, oldLeaf, inSc, this]
@[simp] theorem oldLeaf_i (n : Nat) (H : Heap) (k : IntKind) (x : Int) : oldLeaf n H (.flat (.int k x)) = some (.flat (.int k x)) := rfl
@[simp] theorem oldLeaf_b (n : Nat) (H : Heap) (b : Bool) : oldLeaf n H (.flat (.bool b)) = some (.flat (.bool b)) := rfl
@[simp] theorem oldLeaf_nil (n : Nat) (H : Heap) : oldLeaf n H (.list 0 [] .ti) = some (.list 0 [] .ti) := rfl
@[simp] theorem oldLeaf_nils (n : Nat) (H : Heap) : oldLeaf n H (.list 0 [] .sh) = some (.list 0 [] .sh) := rfl
@[simp] theorem oldEl_agg (n : Nat) (H : Heap) (cs : List DV) : oldEl n H (.agg cs) = (mapO (oldLeaf n H) cs).map .agg := rfl
@[simp] theorem oldEl_flat (n : Nat) (H : Heap) (v : Value) : oldEl n H (.flat v) = some (.flat v) := rfl
@[simp] theorem oldEl_LV {α : Type} (n : Nat) (H : Heap) (sz : Nat) (enc : α → DV) (l : List α) (t : Tag) : oldEl n H (LV sz enc l t) = oldLeaf n H (LV sz enc l t) := by cases l <;> rfl
@[simp] theorem oldEl_nil (n : Nat) (H : Heap) (t : Tag) : oldEl n H (.list 0 [] t) = oldLeaf n H (.list 0 [] t) := rfl
@[simp] theorem oldD_tup (n : Nat) (H : Heap) (cs : List DV) : oldD n H (.tup cs) = (mapO (oldEl n H) cs).map .tup := rfl
@[simp] theorem oldD_flat (n : Nat) (H : Heap) (v : Value) : oldD n H (.flat v) = some (.flat v) := rfl
@[simp] theorem oldD_LV {α : Type} (n : Nat) (H : Heap) (sz : Nat) (enc : α → DV) (l : List α) (t : Tag) : oldD n H (LV sz enc l t) = oldLeaf n H (LV sz enc l t) := by cases l <;> rfl
@[simp] theorem oldD_agg (n : Nat) (H : Heap) (cs : List DV) : oldD n H (.agg cs) = (mapO (oldLeaf n H) cs).map .agg := rfl
@[simp] theorem oldBlk_cells (n : Nat) (H : Heap) (e : TypeId) (cs : List DV) : oldBlk n H (.cells e cs) = (mapO (oldLeaf n H) cs).map (.cells e) := rfl

/-- append to a list that this call builds: what it leaves of the heap -/
theorem appG_fr {α : Type} {e : TypeId} {ag : Bool} {sz by_ n0 : Nat} {enc : α → DV} {xs ys : List α} {t t' : Tag} {H : Heap} {fl : Nat} (hfl : fl ≤ n0) (hn0 : n0 ≤ H.length) (ht : TgOk t e sz n0 xs.length H) (hne : ys ≠ []) (hc : chunkOk ag sz 0 = true) (hb : (xs.length + ys.length) * by_ ≤ 140737488355328) (hb2 : xs.length + ys.length ≤ 140737488355328) :
    ∃ t2 H', appG e ag sz by_ (LV sz enc xs t) (LV sz enc ys t') H fl = some (LV sz enc (xs ++ ys) t2, H') ∧ TgOk t2 e sz n0 (xs ++ ys).length H' ∧ H.length ≤ H'.length ∧ (∀ j, j < n0 → H'[j]? = H[j]?) ∧ (WfH H → WfH H') ∧ HExt H H' := by
  rcases ht with rfl | ⟨k, rfl, hk, hkf⟩
  · refine ⟨_, _, appG_ti hne hc hb hb2, .inr ⟨_, rfl, by simp, hn0⟩, by simp, fun j hj => hp_get_left _ _ _ (by omega), fun h => h.app (fun b hb => by simp at hb; subst hb; trivial), HExt.app _ _⟩
  · have hkl := hp_lt hk
    obtain ⟨t2, H', h1, h2, h3, h4⟩ := appG_ok (e := e) (ag := ag) (sz := sz) (by_ := by_) (enc := enc) (xs := xs) (ys := ys) (t := .own k) (t' := t') (H := H) (fl := fl) (.inr ⟨k, rfl, hk, by omega⟩) (by omega) hne hc hb hb2
    have hl : LV sz enc (xs ++ ys) (.own k) = .list sz (xs.map enc ++ ys.map enc) (.own k) := by
      cases xs with
      | nil => cases ys with
        | nil => exact absurd rfl hne
        | cons y ys => rfl
      | cons x xs => simp [LV, mkl]
    have he : appG e ag sz by_ (LV sz enc xs (.own k)) (LV sz enc ys t') H fl = some (LV sz enc (xs ++ ys) (.own k), H.set k (.token e sz (xs ++ ys).length)) := by
      obtain ⟨s1, h1, g1⟩ := LV_list sz enc xs (.own k)
      obtain ⟨s2, h2, g2⟩ := LV_list sz enc ys t'
      have hkf' : fl ≤ k := by omega
      rw [hl, h1, h2]
      unfold appG appendD srcD
      simp only [g2, if_true]
      cases ys with
      | nil => exact absurd rfl hne
      | cons y ys =>
        have g3 : ¬xs = [] → s1 = sz := by
          intro h
          have : xs.isEmpty = false := by cases xs <;> simp_all
          simpa [this] using g1
        simp only [List.map_cons, List.length_map, List.length_cons] at *
        simp [hc, hb, hb2, effH, Eff.heap, hk, hkf']
        exact g3
    rw [he] at h1
    simp only [Option.some.injEq, Prod.mk.injEq] at h1
    obtain ⟨_, rfl⟩ := h1
    exact ⟨_, _, he, .inr ⟨k, rfl, hp_set_get _ _ _ hkl, hkf⟩, by simp, fun j hj => hp_set_ne _ _ _ _ (by omega), fun h => h.set k trivial, h3⟩

/-- a list's end as a call that writes hands it out -/
def okT (t : Tag) : Prop := t = .sh ∨ t = .ti
def oT (n0 : Nat) (t : Tag) : Prop := t = .ti ∨ ∃ k, t = .own k ∧ n0 ≤ k
theorem TgOk.oT {t : Tag} {e : TypeId} {sz n0 n : Nat} {H : Heap} (h : TgOk t e sz n0 n H) : oT n0 t := h.imp id fun ⟨k, h1, _, h2⟩ => ⟨k, h1, h2⟩
theorem oldLeaf_oT {α : Type} {n : Nat} {t : Tag} (h : oT n t) (H : Heap) (sz : Nat) (enc : α → DV) (l : List α) : ∃ t', okT t' ∧ oldLeaf n H (LV sz enc l t) = some (LV sz enc l t') := by
  rcases h with rfl | ⟨k, rfl, hk⟩
  · exact ⟨.ti, .inr rfl, oldLeaf_ti _ _ _ _ _⟩
  · exact ⟨.sh, .inl rfl, oldLeaf_own _ _ _ _ _ _ hk⟩
theorem oldLeaf_okT {α : Type} {n : Nat} {t : Tag} (h : okT t) (H : Heap) (sz : Nat) (enc : α → DV) (l : List α) : oldLeaf n H (LV sz enc l t) = some (LV sz enc l t) := by
  rcases h with rfl | rfl <;> simp
theorem inSc_okT {α : Type} {t : Tag} (h : okT t) (n sz : Nat) (enc : α → DV) (l : List α) : inSc n (LV sz enc l t) = true := by
  rcases h with rfl | rfl <;> simp

/-- the same, whatever is appended -/
theorem appG_all {α : Type} {e : TypeId} {ag : Bool} {sz by_ n0 : Nat} {enc : α → DV} {xs ys : List α} {t t' : Tag} {H : Heap} {fl : Nat} (hfl : fl ≤ n0) (hn0 : n0 ≤ H.length) (ht : TgOk t e sz n0 xs.length H) (hc : chunkOk ag sz 0 = true) (hb : (xs.length + ys.length) * by_ ≤ 140737488355328) (hb2 : xs.length + ys.length ≤ 140737488355328) :
    ∃ t2 H', appG e ag sz by_ (LV sz enc xs t) (LV sz enc ys t') H fl = some (LV sz enc (xs ++ ys) t2, H') ∧ TgOk t2 e sz n0 (xs ++ ys).length H' ∧ H.length ≤ H'.length ∧ (∀ j, j < n0 → H'[j]? = H[j]?) ∧ (WfH H → WfH H') ∧ HExt H H' := by
  by_cases h : ys = []
  · subst h
    refine ⟨t, H, ?_, by simpa using ht, Nat.le_refl _, fun _ _ => rfl, id, HExt.refl H⟩
    obtain ⟨s, h1, h2⟩ := LV_list sz enc xs t
    rw [List.append_nil, h1]
    rfl
  · exact appG_fr hfl hn0 ht h hc hb hb2
theorem binD_ptr_nil {t e : TypeId} (hu : Try.prog.underlying t = some (.pointer e)) (x y : Operand) (k o : Nat) : binD Try.prog .eql t x y (.ptr k o) (.flat (.pointer none)) = some (Bo false) := by
  have : nilEq Try.prog t (.ptr k o) (.pointer none) = true := by unfold nilEq; rw [hu]
  show (if nilEq Try.prog t (.ptr k o) (.pointer none) = true then eqRes .eql else none) = _
  rw [if_pos this]; rfl
theorem binD_ptr_nen {t e : TypeId} (hu : Try.prog.underlying t = some (.pointer e)) (x y : Operand) (k o : Nat) : binD Try.prog .neq t x y (.ptr k o) (.flat (.pointer none)) = some (Bo true) := by
  have : nilEq Try.prog t (.ptr k o) (.pointer none) = true := by unfold nilEq; rw [hu]
  show (if nilEq Try.prog t (.ptr k o) (.pointer none) = true then eqRes .neq else none) = _
  rw [if_pos this]; rfl
end Go.Proofs.Ytjkofefcoeejbaa

/- Lists of bytes, one behind the other. -/
namespace Go.Proofs.Ytjkofefcoeejbaa
open Go
set_option linter.unusedSimpArgs false
set_option linter.unusedVariables false
def Bytes (l : List Int) : Prop := ∀ x ∈ l, 0 ≤ x ∧ x < 256
theorem bytes_app {a b : List Int} (ha : Bytes a) (hb : Bytes b) : Bytes (a ++ b) := fun x hx => by
  rcases List.mem_append.1 hx with h | h
  · exact ha x h
  · exact hb x h
/-- a list of bytes, with its end -/
abbrev BT := List Int × Tag
def btE (p : BT) : DV := LV 1 (I .u8) p.1 p.2
theorem btE_cells (p : BT) : (btE p).cells = [LV 1 (I .u8) p.1 p.2] := by unfold btE; simp
/-- a list that is being built in a room of its own -/
def LO (xs : List Int) (k : Nat) : DV := .list 1 (xs.map (I .u8)) (.own k)
def catB (ls : List BT) : List Int := (ls.map (fun p => p.1)).flatten
theorem catB_succ (ls : List BT) (i : Nat) (h : i < ls.length) : catB (ls.take (i + 1)) = catB (ls.take i) ++ ls[i].1 := by
  unfold catB
  rw [List.take_succ_eq_append_getElem h, List.map_append, List.flatten_append]
  simp
theorem catB_le (ls : List BT) (i : Nat) : (catB (ls.take i)).length ≤ (catB ls).length := by
  have : ls.map (fun p => p.1) = (ls.take i).map (fun p => p.1) ++ (ls.drop i).map (fun p => p.1) := by rw [← List.map_append, List.take_append_drop]
  unfold catB
  rw [this, List.flatten_append, List.length_append]
  omega
theorem catB_nil (ls : List BT) (h : catB ls = []) (i : Nat) (hi : i < ls.length) : ls[i].1 = [] :=
  List.flatten_eq_nil_iff.1 h ls[i].1 (List.mem_map.2 ⟨ls[i], List.getElem_mem hi, rfl⟩)
theorem appG_LO (xs ys : List Int) (t : Tag) (k : Nat) (H : Heap) (fl : Nat) (hk : H[k]? = some (.token 5 1 xs.length)) (hfl : fl ≤ k) (hl : xs.length + ys.length ≤ 1000000) :
    appG 5 false 1 1 (LO xs k) (LV 1 (I .u8) ys t) H fl = some (LO (xs ++ ys) k, if ys = [] then H else H.set k (.token 5 1 (xs.length + ys.length))) := by
  obtain ⟨s, h1, h2⟩ := LV_list 1 (I .u8) ys t
  rw [h1]
  unfold appG appendD srcD LO
  simp only [h2, if_true]
  cases ys with
  | nil => simp [effH, Eff.heap]
  | cons y ys =>
    have hc : chunkOk false 1 0 = true := rfl
    have h3 : xs.length + (ys.length + 1) ≤ 140737488355328 := by simp at hl; omega
    simp [hk, hfl, effH, Eff.heap, hc, h3]
theorem con_L0 (n fl : Nat) (K : Ex → KF) (ls : List BT) (t : Tag) (hs : (catB ls).length ≤ 1000000) (hll : ls.length ≤ 1000) : ∀ (m i : Nat) (H : Heap), ls.length < m + i → i ≤ ls.length →
    s_slices_Concat___byte_byte__L0 n fl K m (LV 1 btE ls t) (I .i64 ((catB (ls.take i)).length : Nat)) (LV 1 btE ls t) (I .i64 ls.length) (I .i64 i) H = K (.exit 0) (s_slices_Concat___byte_byte__O0 (LV 1 btE ls t) (I .i64 ((catB ls).length : Nat))) H := by
  intro m
  induction m with
  | zero => intro i H h; omega
  | succ m ih =>
    intro i H hm hi
    unfold s_slices_Concat___byte_byte__L0 s_slices_Concat___byte_byte__B0
    by_cases h : i < ls.length
    · have ih' := ih (i + 1) H (by omega) (by omega)
      have hi2 : ((i + 1 : Nat) : Int) = (i : Int) + 1 := by omega
      have ht : (catB (ls.take (i + 1))).length = (catB (ls.take i)).length + ls[i].1.length := by rw [catB_succ ls i h, List.length_append]
      have hle := catB_le ls (i + 1)
      rw [hi2, ht, Int.natCast_add] at ih'
      rw [ht] at hle
      have hc := btE_cells ls[i]
      generalize (catB (ls.take i)).length = s at *
      simp -implicitDefEqProofs (disch := first | omega | (simp only [List.length_set, List.length_append, List.length_cons, List.length_nil, List.length_take, List.length_drop, List.length_map]; omega) | simp) [wrap_i64, wrap_u16_id, wrap_u8_id, tdiv_pos, tmod_pos, -getElem?_pos, -getElem?_neg, -List.length_eq_zero_iff, -List.getElem_cons_drop, h, hc, ih']
    · have : i = ls.length := by omega
      subst this
      rw [List.take_length]
      simp -implicitDefEqProofs (disch := first | omega | (simp only [List.length_set, List.length_append, List.length_cons, List.length_nil, List.length_take, List.length_drop, List.length_map]; omega) | simp) [wrap_i64, wrap_u16_id, wrap_u8_id, tdiv_pos, tmod_pos, -getElem?_pos, -getElem?_neg, -List.length_eq_zero_iff, -List.getElem_cons_drop]
theorem con_L1 (n fl : Nat) (ls : List BT) (t : Tag) (k : Nat) (hfl : fl ≤ k) (hs : (catB ls).length ≤ 1000000) (hll : ls.length ≤ 1000) : ∀ (m i : Nat) (H : Heap), ls.length < m + i → i ≤ ls.length → H[k]? = some (.token 5 1 (catB (ls.take i)).length) →
    ∃ H', ∀ K, s_slices_Concat___byte_byte__L1 n fl K m (LO (catB (ls.take i)) k) (LV 1 btE ls t) (I .i64 ls.length) (I .i64 i) H = K (.exit 2) (s_slices_Concat___byte_byte__O1 (LO (catB ls) k)) H' := by
  intro m
  induction m with
  | zero => intro i H h; omega
  | succ m ih =>
    intro i H hm hi hk
    by_cases h : i < ls.length
    · have hi2 : ((i + 1 : Nat) : Int) = (i : Int) + 1 := by omega
      have hte := catB_succ ls i h
      have hle := catB_le ls (i + 1)
      rw [hte] at hle
      have ih' := ih (i + 1) (if ls[i].1 = [] then H else H.set k (.token 5 1 ((catB (ls.take i)).length + ls[i].1.length))) (by omega) (by omega) (by
        rw [hte, List.length_append]
        split
        · rename_i h0
          rw [h0, List.length_nil, Nat.add_zero]
          exact hk
        · exact hp_set_get _ _ _ (hp_lt hk))
      rw [hi2, hte] at ih'
      obtain ⟨H', q⟩ := ih'
      have hc := btE_cells ls[i]
      have ha := appG_LO (catB (ls.take i)) ls[i].1 ls[i].2 k H fl hk hfl (by rw [← List.length_append]; omega)
      generalize catB (ls.take i) = s at *
      exact ⟨H', fun K => by unfold s_slices_Concat___byte_byte__L1 s_slices_Concat___byte_byte__B1; simp -implicitDefEqProofs (disch := first | omega | (simp only [List.length_set, List.length_append, List.length_cons, List.length_nil, List.length_take, List.length_drop, List.length_map]; omega) | simp) [wrap_i64, wrap_u16_id, wrap_u8_id, tdiv_pos, tmod_pos, -getElem?_pos, -getElem?_neg, -List.length_eq_zero_iff, -List.getElem_cons_drop, h, hc, ha, q]⟩
    · have : i = ls.length := by omega
      subst this
      rw [List.take_length]
      exact ⟨H, fun K => by unfold s_slices_Concat___byte_byte__L1 s_slices_Concat___byte_byte__B1; simp -implicitDefEqProofs (disch := first | omega | (simp only [List.length_set, List.length_append, List.length_cons, List.length_nil, List.length_take, List.length_drop, List.length_map]; omega) | simp) [wrap_i64, wrap_u16_id, wrap_u8_id, tdiv_pos, tmod_pos, -getElem?_pos, -getElem?_neg, -List.length_eq_zero_iff, -List.getElem_cons_drop]⟩
/-- nothing is laid behind nothing -/
theorem con_L1e (n fl : Nat) (K : Ex → KF) (ls : List BT) (t : Tag) (hs : catB ls = []) (hll : ls.length ≤ 1000) : ∀ (m i : Nat) (H : Heap), ls.length < m + i → i ≤ ls.length →
    s_slices_Concat___byte_byte__L1 n fl K m (.list 0 [] .ti) (LV 1 btE ls t) (I .i64 ls.length) (I .i64 i) H = K (.exit 2) (s_slices_Concat___byte_byte__O1 (.list 0 [] .ti)) H := by
  intro m
  induction m with
  | zero => intro i H h; omega
  | succ m ih =>
    intro i H hm hi
    unfold s_slices_Concat___byte_byte__L1 s_slices_Concat___byte_byte__B1
    by_cases h : i < ls.length
    · have ih' := ih (i + 1) H (by omega) (by omega)
      have hi2 : ((i + 1 : Nat) : Int) = (i : Int) + 1 := by omega
      rw [hi2] at ih'
      have h0 := catB_nil ls hs i h
      have hc := btE_cells ls[i]
      rw [h0] at hc
      have ha : ∀ tt, appG 5 false 1 1 (.list 0 [] .ti) (LV 1 (I .u8) [] tt) H fl = some (.list 0 [] .ti, H) := fun tt => rfl
      simp -implicitDefEqProofs (disch := first | omega | (simp only [List.length_set, List.length_append, List.length_cons, List.length_nil, List.length_take, List.length_drop, List.length_map]; omega) | simp) [wrap_i64, wrap_u16_id, wrap_u8_id, tdiv_pos, tmod_pos, -getElem?_pos, -getElem?_neg, -List.length_eq_zero_iff, -List.getElem_cons_drop, h, hc, ha, ih']
    · have : i = ls.length := by omega
      subst this
      simp -implicitDefEqProofs (disch := first | omega | (simp only [List.length_set, List.length_append, List.length_cons, List.length_nil, List.length_take, List.length_drop, List.length_map]; omega) | simp) [wrap_i64, wrap_u16_id, wrap_u8_id, tdiv_pos, tmod_pos, -getElem?_pos, -getElem?_neg, -List.length_eq_zero_iff, -List.getElem_cons_drop]
theorem grow_c (n fl : Nat) (k : Nat) (H : Heap) (hn : 1 ≤ n) (h0 : 0 < k) (h1 : k ≤ 1000000) : cK n 120 [.list 0 [] .ti, I .i64 k] H fl = some (LO [] H.length, H ++ [.token 5 1 0]) := by
  obtain ⟨n, rfl⟩ : ∃ m, n = m + 1 := ⟨n - 1, by omega⟩
  have hp : ENV.prim 120 = some primGrow := by kernel_rfl
  unfold cK
  rw [callG_eq]
  unfold bodyG
  rw [hp]
  show (if ((k : Int) = 0) then _ else if 0 < (k : Int) ∧ (k : Int) ≤ 1000000 then _ else _) = _
  rw [if_neg (by omega), if_pos (by omega)]
  rfl
theorem grow_0 (n fl : Nat) (H : Heap) (hn : 1 ≤ n) : cK n 120 [.list 0 [] .ti, I .i64 0] H fl = some (.list 0 [] .ti, H) := by
  obtain ⟨n, rfl⟩ : ∃ m, n = m + 1 := ⟨n - 1, by omega⟩
  have hp : ENV.prim 120 = some primGrow := by kernel_rfl
  unfold cK
  rw [callG_eq]
  unfold bodyG
  rw [hp]
  rfl
theorem arg_bt (ls : List BT) (t : Tag) : argEl (LV 1 btE ls t) = some (LV 1 btE ls .sh) := by rw [argEl_eq, outEl_LV, shTag_f]
theorem concat_c (n : Nat) (ls : List BT) (t : Tag) (hs : (catB ls).length ≤ 1000000) (hll : ls.length ≤ 1000) (hn : ls.length + 4 ≤ n) : cP n 79 false [LV 1 btE ls t] = some (LV 1 (I .u8) (catB ls) .sh) := by
  obtain ⟨n, rfl⟩ : ∃ m, n = m + 1 := ⟨n - 1, by omega⟩
  have q0 : ∀ K, loopG [0, 3, 9, 10, 11] [0, 3] 36 (s_slices_Concat___byte_byte__b0 n 0) n (s_slices_Concat___byte_byte__I0 (LV 1 btE ls .sh) (I .i64 0) (LV 1 btE ls .sh) (I .i64 ls.length) (I .i64 0)) [] K = _ := fun K => (s_slices_Concat___byte_byte__L0_eq _ _ _ _ _ _ _ _ _ _).trans (con_L0 n 0 K ls .sh hs hll n 0 [] (by omega) (by omega))
  by_cases h : catB ls = []
  · have q1 : ∀ K, loopG [6, 25, 26, 27] [6] 36 (s_slices_Concat___byte_byte__b1 n 0) n (s_slices_Concat___byte_byte__I1 (.list 0 [] .ti) (LV 1 btE ls .sh) (I .i64 ls.length) (I .i64 0)) [] K = _ := fun K => (s_slices_Concat___byte_byte__L1_eq _ _ _ _ _ _ _ _ _).trans (con_L1e n 0 K ls .sh h hll n 0 [] (by omega) (by omega))
    have g := grow_0 n 0 [] (by omega)
    rw [h] at q0 ⊢
    simp only [List.length_nil, Int.natCast_zero] at q0
    refine cP_of (r := .list 0 [] .ti) (args' := [LV 1 btE ls .sh]) (by simp [arg_bt]) ((s_slices_Concat___byte_byte__eq _ _ _ _).trans (by unfold s_slices_Concat___byte_byte_; simp -implicitDefEqProofs (disch := first | omega | (simp only [List.length_set, List.length_append, List.length_cons, List.length_nil, List.length_take, List.length_drop, List.length_map]; omega) | simp) [wrap_i64, wrap_u16_id, wrap_u8_id, tdiv_pos, tmod_pos, -getElem?_pos, -getElem?_neg, -List.length_eq_zero_iff, -List.getElem_cons_drop, q0, s_slices_Concat___byte_byte__O0, g, q1, s_slices_Concat___byte_byte__O1]; first | exact rfl | exact ⟨rfl, rfl⟩)) rfl
  · have hpos : 0 < (catB ls).length := by
      rcases Nat.eq_zero_or_pos (catB ls).length with h' | h'
      · exact absurd (List.eq_nil_of_length_eq_zero h') h
      · exact h'
    obtain ⟨H', q1⟩ : ∃ H', ∀ K, loopG [6, 25, 26, 27] [6] 36 (s_slices_Concat___byte_byte__b1 n 0) n (s_slices_Concat___byte_byte__I1 (LO [] 0) (LV 1 btE ls .sh) (I .i64 ls.length) (I .i64 0)) [.token 5 1 0] K = K (.exit 2) (s_slices_Concat___byte_byte__O1 (LO (catB ls) 0)) H' := by
      obtain ⟨H', q⟩ := con_L1 n 0 ls .sh 0 (Nat.le_refl _) hs hll n 0 [.token 5 1 0] (by omega) (by omega) rfl
      exact ⟨H', fun K => (s_slices_Concat___byte_byte__L1_eq _ _ _ _ _ _ _ _ _).trans (q K)⟩
    have g := grow_c n 0 (catB ls).length [] (by omega) hpos hs
    simp only [List.length_nil, List.nil_append] at g
    refine cP_of (r := LO (catB ls) 0) (H' := H') (args' := [LV 1 btE ls .sh]) (by simp [arg_bt]) ((s_slices_Concat___byte_byte__eq _ _ _ _).trans (by unfold s_slices_Concat___byte_byte_; simp -implicitDefEqProofs (disch := first | omega | (simp only [List.length_set, List.length_append, List.length_cons, List.length_nil, List.length_take, List.length_drop, List.length_map]; omega) | simp) [wrap_i64, wrap_u16_id, wrap_u8_id, tdiv_pos, tmod_pos, -getElem?_pos, -getElem?_neg, -List.length_eq_zero_iff, -List.getElem_cons_drop, q0, s_slices_Concat___byte_byte__O0, g, q1, s_slices_Concat___byte_byte__O1])) ?_
    generalize catB ls = f at *
    cases f with
    | nil => exact absurd rfl h
    | cons a f => rfl
end Go.Proofs.Ytjkofefcoeejbaa

/- Calls that leave all that was. -/
namespace Go.Proofs.Ytjkofefcoeejbaa
open Go Go.RowKit
set_option linter.unusedSimpArgs false
set_option linter.unusedVariables false
theorem Keep.below (G : Gh) {w w' : World} (h : Below w.heap.size w w') : Keep G w G w' :=
  ⟨h.os, h.tape, h.output, h.size, fun b hb _ => h.block b hb, fun k b sz cap hw hg hb j hj => cell_of_blk (h.block b hb) j, Evol.refl G, fun k b hb h => h, fun k b sz cap' hw' hb h => ⟨cap', hw', h, Nat.le_refl _⟩⟩
theorem HR.below {B : Nat → Nat → Prop} {G : Gh} {w w' : World} {H : Heap} (h : HR B G w H) (hb : Below w.heap.size w w') : HR B G w' H := by
  refine ⟨h.len, h.dist, fun k b g hB hg => ?_, h.bb⟩
  have := h.blk k b g hB hg
  cases b <;> cases g <;> simp only [BlkRep] at this ⊢
  · obtain ⟨C, h1, h2, h3⟩ := this
    exact ⟨C, by rw [hb.block _ (h.lt (.inl hg))]; exact h1, RepL.keep (Keep.below G hb) h2, h3⟩
  · obtain ⟨h1, h2, h3, h4, h5, C, h6, h7⟩ := this
    exact ⟨h1, h2, h3, h4, h5, C, by rw [hb.block _ (h.lt (.inr ⟨_, _, _, hg⟩))]; exact h6, h7⟩
/-- a call that leaves all that was, and answers what holds no address -/
theorem callOk_below {P : Program} {f : FuncId} {args : List DV} {r : DV} (h : ∀ (I : Nat → Nat → Prop) (G : Gh) (w : World) (vs : Array Value), RepL I w G args vs.toList → Calls P f vs w fun e w' => ∃ V, e = .returned V ∧ Below w.heap.size w w' ∧ ∀ (I : Nat → Nat → Prop) (G : Gh), Rep I w' G r V) (H : Heap) (fl : Nat) : CallOk P f args H fl r H := by
  intro B G w vs hB hH hr hfl
  refine ⟨(h _ G w vs hr).mono fun e w' ⟨V, he, hb, hV⟩ => ⟨V, G, he, Keep.below G hb, hH.below hb, hV _ _⟩, fun _ _ => rfl, Nat.le_refl _⟩
end Go.Proofs.Ytjkofefcoeejbaa

/- Words on memory that the walks share: rows that read as lists, rows of the call's own, appends. -/
namespace Go.Proofs.Ytjkofefcoeejbaa
open Go.RowKit

/-- v is a slice of n elements, sz cells each, whose cells are cs -/
def Rd (w : World) (sz : Nat) (v : Value) (n : Nat) (cs : List Value) : Prop :=
  ∃ A c, v = .slice A n c ∧ n ≤ c ∧ n ≤ 140737488355328 ∧ cs.length = n * sz ∧
    (n = 0 ∨ ∃ b o, A = some ⟨b, o, none⟩ ∧ ∀ j u, cs[j]? = some u → w.cell? ⟨b, o + j, none⟩ = some u)

/-- v reads as the list l of scalars -/
def RdV {α : Type} (enc : α → Value) (w : World) (v : Value) (l : List α) : Prop := Rd w 1 v l.length (l.map enc)

/-- v is a row of the call's own (from block base on), of the scalars l -/
def Own {α : Type} (enc : α → Value) (e : TypeId) (w : World) (base : Nat) (v : Value) (l : List α) : Prop := w.ownsRow base e 1 v l.length (l.map enc) ∧ l.length ≤ 140737488355328

def encB (b : UInt8) : Value := .int .u8 (b.toNat : Int)
def encW (b : UInt16) : Value := .int .u16 (b.toNat : Int)
def encI (n : Int) : Value := .int .i64 n
def encT (b : Bool) : Value := .bool b

theorem encB_mod (n : Int) : Value.int .u8 (n % 256) = encB (lowB (n % 256)) := by
  unfold encB; rw [lowB_nat _ (by omega) (by omega)]
theorem encB_low (n : Int) (h0 : 0 ≤ n) (h1 : n < 256) : Value.int .u8 n = encB (lowB n) := by
  unfold encB; rw [lowB_nat _ h0 h1]
def lowW (n : Int) : UInt16 := UInt16.ofNat n.toNat
theorem lowW_nat (n : Int) (h0 : 0 ≤ n) (h1 : n < 65536) : ((lowW n).toNat : Int) = n := by
  unfold lowW; rw [UInt16.toNat_ofNat']; omega
theorem encW_mod (n : Int) : Value.int .u16 (n % 65536) = encW (lowW (n % 65536)) := by
  unfold encW; rw [lowW_nat _ (by omega) (by omega)]
theorem encW_low (n : Int) (h0 : 0 ≤ n) (h1 : n < 65536) : Value.int .u16 n = encW (lowW n) := by
  unfold encW; rw [lowW_nat _ h0 h1]
theorem encB_one (x : UInt8) : (encB x).oneCell' = true := rfl
theorem encW_one (x : UInt16) : (encW x).oneCell' = true := rfl
theorem encI_one (x : Int) : (encI x).oneCell' = true := rfl
theorem encT_one (x : Bool) : (encT x).oneCell' = true := rfl

theorem addr_add (b o j : Nat) : (⟨b, o, none⟩ : Addr).add j = ⟨b, o + j, none⟩ := by
  unfold Addr.add; split <;> simp_all

theorem belowN {B : Nat} {a w : World} (h : Below B a w) (n : Nat) : Below B a (w.drewN n) := h.trans ⟨rfl, rfl, rfl, Nat.le_refl _, fun _ _ => rfl⟩
theorem belowT {a w w' : World} (h : Below a.heap.size a w) (k : Below w.heap.size w w') : Below a.heap.size a w' := h.trans (k.mono h.size)
theorem belowA {a w : World} (h : Below a.heap.size a w) (o : Obj) : Below a.heap.size a (w.alloc o) := h.alloc h.size o
theorem belowG {a w w' : World} {row : Option Nat} (h : Below a.heap.size a w) (hg : w.grownBy w' row) (hr : ∀ k, row = some k → a.heap.size ≤ k) : Below a.heap.size a w' := h.grown hg h.size hr
theorem cellT {w w' : World} {p : Addr} {v : Value} (hB : Below w.heap.size w w') (h : w.cell? p = some v) : w'.cell? p = some v := (hB.cell (World.block_lt_of_cell? _ _ h)).trans h
theorem cell_made {w : World} {xs : Array Value} {t : TypeId} (k : Nat) (v : Value) (h : xs[k]? = some v) : (w.alloc (.cells xs t)).cell? ⟨w.heap.size, k, none⟩ = some v := by
  simp only [World.cell?, World.alloc, Array.getElem?_push_size]
  exact h
theorem Rd.mono {w w' : World} {sz : Nat} {v : Value} {n : Nat} {cs : List Value} (h : Rd w sz v n cs)
    (hb : ∀ k, k < w.heap.size → w'.heap[k]? = w.heap[k]?) : Rd w' sz v n cs := by
  obtain ⟨A, c, rfl, h1, h2, h3, h4⟩ := h
  refine ⟨A, c, rfl, h1, h2, h3, h4.imp id ?_⟩
  rintro ⟨b, o, rfl, h⟩
  refine ⟨b, o, rfl, fun j u hu => ?_⟩
  have hc := h j u hu
  rw [World.cell?_of_block (w := w)]
  · exact hc
  · exact hb _ (World.block_lt_of_cell? w _ hc)
theorem Rd.below {w w' : World} {sz : Nat} {v : Value} {n : Nat} {cs : List Value} (h : Rd w sz v n cs) (hb : Below w.heap.size w w') : Rd w' sz v n cs :=
  h.mono hb.block
theorem RdV.below {α : Type} {enc : α → Value} {w w' : World} {v : Value} {l : List α} (h : RdV enc w v l) (hb : Below w.heap.size w w') : RdV enc w' v l := Rd.below h hb
theorem RdV.mono {α : Type} {enc : α → Value} {w w' : World} {v : Value} {l : List α} (h : RdV enc w v l) (hb : ∀ k, k < w.heap.size → w'.heap[k]? = w.heap[k]?) : RdV enc w' v l := Rd.mono h hb
theorem RdV.alloc {α : Type} {enc : α → Value} {w : World} {v : Value} {l : List α} (h : RdV enc w v l) (o : Obj) : RdV enc (w.alloc o) v l :=
  h.mono fun k hk => Below.heap_alloc w o k hk
theorem RdV.drew {α : Type} {enc : α → Value} {w : World} {v : Value} {l : List α} (h : RdV enc w v l) : RdV enc w.drew v l := h.mono fun _ _ => rfl
theorem RdV.drewN {α : Type} {enc : α → Value} {w : World} {v : Value} {l : List α} (h : RdV enc w v l) (n : Nat) : RdV enc (w.drewN n) v l := h.mono fun _ _ => rfl
theorem RdV.len {α : Type} {enc : α → Value} {w : World} {v : Value} {l : List α} (h : RdV enc w v l) : l.length ≤ 140737488355328 := by
  obtain ⟨A, c, _, _, h, _⟩ := h; exact h
/-- a readable slice's own form, and each element's cell -/
theorem RdV.open {α : Type} {enc : α → Value} {w : World} {v : Value} {l : List α} (h : RdV enc w v l) :
    ∃ A c, v = .slice A l.length c ∧ l.length ≤ c ∧ l.length ≤ 140737488355328 ∧
      (l.length = 0 ∨ ∃ b o, A = some ⟨b, o, none⟩ ∧ ∀ i (hi : i < l.length), w.cell? ⟨b, o + i, none⟩ = some (enc l[i])) := by
  obtain ⟨A, c, rfl, h1, h2, h3, h4⟩ := h
  refine ⟨A, c, rfl, h1, h2, h4.imp id ?_⟩
  rintro ⟨b, o, rfl, h⟩
  exact ⟨b, o, rfl, fun i hi => h i _ (by simp [hi])⟩
/-- one element of a readable slice that has some -/
theorem RdV.each {α : Type} {enc : α → Value} {w : World} {v : Value} {l : List α} (h : RdV enc w v l) (h0 : 0 < l.length) :
    ∃ b o c, v = .slice (Option.some ⟨b, o, none⟩) l.length c ∧ ∀ i (hi : i < l.length), w.cell? ⟨b, o + i, none⟩ = Option.some (enc l[i]) := by
  obtain ⟨A, c, rfl, _, _, hA⟩ := h.open
  obtain ⟨b, o, rfl, hc⟩ := hA.resolve_left (by omega)
  exact ⟨b, o, c, rfl, hc⟩
theorem RdV.nil {α : Type} (enc : α → Value) (w : World) : RdV enc w (.slice none 0 0) [] := ⟨none, 0, rfl, Nat.le_refl _, by simp, by simp, .inl rfl⟩
/-- what a slice literal makes -/
theorem RdV.lit {α : Type} (enc : α → Value) (w : World) (e : TypeId) (l : List α) (cs : Array Value) (n c : Nat) (hn : n = l.length) (hc : n ≤ c) (hl : l.length ≤ 140737488355328) (hcs : cs = (l.map enc).toArray) :
    RdV enc (w.alloc (.cells cs e)) (.slice (some ⟨w.heap.size, 0, none⟩) n c) l := by
  subst hcs; subst hn
  refine ⟨_, c, rfl, hc, hl, by simp, .inr ⟨_, _, rfl, fun j u hu => ?_⟩⟩
  simpa using hu

theorem RdV.litz {α : Type} (enc : α → Value) (w : World) (e : TypeId) (fz : Nat × Nat) (l : List α) (cs : Array Value) (n c : Nat) (hn : n = l.length) (hc : n ≤ c) (hl : l.length ≤ 140737488355328) (hcs : cs = (l.map enc).toArray) :
    RdV enc (w.alloc (.cells cs e fz)) (.slice (some ⟨w.heap.size, 0, none⟩) n c) l := by
  subst hcs; subst hn
  refine ⟨_, c, rfl, hc, hl, by simp, .inr ⟨_, _, rfl, fun j u hu => ?_⟩⟩
  have : (w.alloc (.cells (l.map enc).toArray e fz)).cell? ⟨w.heap.size, 0 + j, none⟩ = (l.map enc)[j]? := by
    have hh : (w.alloc (.cells (l.map enc).toArray e fz)).heap[w.heap.size]? = some (.cells (l.map enc).toArray e fz) := heap_alloc_new w _
    unfold World.cell?; rw [hh]; simp
  rw [this]; exact hu
theorem RdV.litg {α : Type} (enc : α → Value) (w : World) (e : TypeId) (l : List α) (cs : Array Value) (g n c : Nat) (hg : g = w.heap.size) (hn : n = l.length) (hc : n ≤ c) (hl : l.length ≤ 140737488355328) (hcs : cs = (l.map enc).toArray) :
    RdV enc (w.alloc (.cells cs e)) (.slice (some ⟨g, 0, none⟩) n c) l := by
  subst hg; exact RdV.lit enc w e l cs n c hn hc hl hcs
theorem Own.litg {α : Type} (enc : α → Value) (w : World) (e : TypeId) (base g : Nat) (hg : g = w.heap.size) (hb : base ≤ w.heap.size) (l : List α) (cs : Array Value) (n : Nat) (hn : n = l.length) (hl : l.length ≤ 140737488355328) (hcs : cs = (l.map enc).toArray) :
    Own enc e (w.alloc (.cells cs e)) base (.slice (some ⟨g, 0, none⟩) n n) l := by
  subst hg; subst hcs; subst hn
  refine ⟨⟨by simp, .inr ⟨_, _, _, rfl, hb, heap_alloc_new w _, Nat.le_refl _, by simp only [maxLen]; omega, by simp, ?_⟩⟩, hl⟩
  exact List.take_of_length_le (by simp)
theorem RdV.cap {α : Type} {enc : α → Value} {w : World} {A : Option Addr} {n c c' : Nat} {l : List α} (h : RdV enc w (.slice A n c) l) (hc : l.length ≤ c') : RdV enc w (.slice A n c') l := by
  obtain ⟨A', c1, he, h1, h2, h3, h4⟩ := h
  injection he with e1 e2 e3
  subst e1; subst e2; subst e3
  exact ⟨_, c', rfl, hc, h2, h3, h4⟩
theorem RdV.none {α : Type} {enc : α → Value} {w : World} {n c : Nat} {l : List α} (h : RdV enc w (.slice none n c) l) : l = [] := by
  obtain ⟨A', c1, he, h1, h2, h3, h4⟩ := h
  injection he with e1 e2 e3
  subst e1
  rcases h4 with h4 | ⟨b, o, h4, _⟩
  · exact List.eq_nil_of_length_eq_zero h4
  · cases h4
/-- s[i:j] of a readable slice -/
theorem RdV.cut {α : Type} {enc : α → Value} {w : World} {A : Option Addr} {n c : Nat} {l : List α} (h : RdV enc w (.slice A n c) l) (i m c' : Nat) (A' : Option Addr)
    (hA : A' = A.map (·.add i) ∨ (m = 0)) (hm : i + m ≤ l.length) (hc : m ≤ c') : RdV enc w (.slice A' m c') ((l.drop i).take m) := by
  obtain ⟨A0, c1, he, h1, h2, h3, h4⟩ := h
  injection he with e1 e2 e3
  subst e1; subst e2; subst e3
  have hlen : ((l.drop i).take m).length = m := by simp; omega
  refine ⟨A', c', by rw [hlen], by omega, by omega, by simp, ?_⟩
  rw [hlen]
  by_cases hm0 : m = 0
  · exact .inl hm0
  · obtain ⟨b, o, rfl, hcell⟩ := h4.resolve_left (by omega)
    obtain rfl := hA.resolve_right hm0
    refine .inr ⟨b, o + i, by simp [addr_add], fun j u hu => ?_⟩
    rw [List.map_take, List.map_drop, List.getElem?_take] at hu
    split at hu
    · rw [List.getElem?_drop] at hu
      have := hcell (i + j) u hu
      rwa [← Nat.add_assoc] at this
    · cases hu

theorem RdV.take {α : Type} {enc : α → Value} {w : World} {A : Option Addr} {n c : Nat} {l : List α} (h : RdV enc w (.slice A n c) l) (m c' : Nat)
    (hm : m ≤ l.length) (hc : m ≤ c') : RdV enc w (.slice A m c') (l.take m) := by
  have := h.cut 0 m c' A (.inl (by cases A <;> rfl)) (by omega) hc
  simpa using this

theorem Own.rd {α : Type} {enc : α → Value} {e : TypeId} {w : World} {base : Nat} {v : Value} {l : List α} (h : Own enc e w base v l) : RdV enc w v l := by
  obtain ⟨h, hl⟩ := h
  have h0 := h
  obtain ⟨h1, h2⟩ := h
  rcases h2 with ⟨rfl, h2⟩ | ⟨g, cap, cur, rfl, hb, hg, hn, hcap, hcs, ht⟩
  · have : l = [] := List.eq_nil_of_length_eq_zero h2
    subst this
    exact RdV.nil enc w
  · refine ⟨_, cap, rfl, hn, hl, by simp, .inr ⟨g, 0, rfl, fun j u hu => ?_⟩⟩
    have hj : j < l.length := by
      rcases Nat.lt_or_ge j l.length with h | h
      · exact h
      · simp [List.getElem?_eq_none (by simpa using h : (l.map enc).length ≤ j)] at hu
    rw [Nat.zero_add]
    exact (h0.cellAt j (by simpa using hj)).trans hu
theorem Own.block {α : Type} {enc : α → Value} {e : TypeId} {w : World} {base : Nat} {v : Value} {l : List α} (h : Own enc e w base v l) (h0 : 0 < l.length) :
    ∃ g cap, v = .slice (Option.some ⟨g, 0, none⟩) l.length cap ∧ base ≤ g ∧ g < w.heap.size := by
  obtain ⟨⟨h1, h2⟩, hl⟩ := h
  rcases h2 with ⟨_, h2⟩ | ⟨g, cap, cur, rfl, hb, hg, _⟩
  · omega
  · exact ⟨g, cap, rfl, hb, (Array.getElem?_eq_some_iff.1 hg).1⟩
theorem Own.nil {α : Type} (enc : α → Value) (e : TypeId) (w : World) (base : Nat) : Own enc e w base (.slice none 0 0) ([] : List α) := ⟨World.ownsRow_nil w base e 1, by simp⟩
theorem Own.lit {α : Type} (enc : α → Value) (w : World) (e : TypeId) (base : Nat) (hb : base ≤ w.heap.size) (l : List α) (cs : Array Value) (n : Nat) (hn : n = l.length) (hl : l.length ≤ 140737488355328) (hcs : cs = (l.map enc).toArray) :
    Own enc e (w.alloc (.cells cs e)) base (.slice (some ⟨w.heap.size, 0, none⟩) n n) l := by
  subst hcs; subst hn
  refine ⟨⟨by simp, .inr ⟨_, _, _, rfl, hb, heap_alloc_new w _, Nat.le_refl _, by simp only [maxLen]; omega, by simp, ?_⟩⟩, hl⟩
  exact List.take_of_length_le (by simp)
theorem Own.mono {α : Type} {enc : α → Value} {e : TypeId} {w w' : World} {base : Nat} {v : Value} {l : List α} (h : Own enc e w base v l)
    (hb : ∀ k, k < w.heap.size → w'.heap[k]? = w.heap[k]?) : Own enc e w' base v l := by
  obtain ⟨⟨h1, h2⟩, hl⟩ := h
  refine ⟨⟨h1, h2.imp id ?_⟩, hl⟩
  rintro ⟨g, cap, cur, rfl, hb', hg, r⟩
  exact ⟨g, cap, cur, rfl, hb', by rw [hb _ (Array.getElem?_eq_some_iff.1 hg).1]; exact hg, r⟩
theorem Own.below {α : Type} {enc : α → Value} {e : TypeId} {w w' : World} {base : Nat} {v : Value} {l : List α} (h : Own enc e w base v l) (hb : Below w.heap.size w w') : Own enc e w' base v l := h.mono hb.block
theorem Own.alloc {α : Type} {enc : α → Value} {e : TypeId} {w : World} {base : Nat} {v : Value} {l : List α} (h : Own enc e w base v l) (o : Obj) : Own enc e (w.alloc o) base v l := h.mono fun k hk => Below.heap_alloc w o k hk
theorem Own.drew {α : Type} {enc : α → Value} {e : TypeId} {w : World} {base : Nat} {v : Value} {l : List α} (h : Own enc e w base v l) : Own enc e w.drew base v l := h.mono fun _ _ => rfl
theorem Own.drewN {α : Type} {enc : α → Value} {e : TypeId} {w : World} {base : Nat} {v : Value} {l : List α} (h : Own enc e w base v l) (n : Nat) : Own enc e (w.drewN n) base v l := h.mono fun _ _ => rfl
theorem Own.lower {α : Type} {enc : α → Value} {e : TypeId} {w : World} {base base' : Nat} {v : Value} {l : List α} (h : Own enc e w base v l) (hb : base' ≤ base) : Own enc e w base' v l := by
  obtain ⟨⟨h1, h2⟩, hl⟩ := h
  refine ⟨⟨h1, h2.imp id ?_⟩, hl⟩
  rintro ⟨g, cap, cur, rfl, hb', r⟩
  exact ⟨g, cap, cur, rfl, by omega, r⟩
/-- a row of the call's own, while another one is written -/
theorem Own.kept {α : Type} {enc : α → Value} {e : TypeId} {w w' : World} {base : Nat} {v : Value} {l : List α} (h : Own enc e w base v l) {row : Option Nat} (hg : w.grownBy w' row)
    (hne : v.ownBlock = none ∨ v.ownBlock ≠ row) : Own enc e w' base v l := ⟨h.1.kept hg hne, h.2⟩
theorem Own.base {α : Type} {enc : α → Value} {e : TypeId} {w : World} {base : Nat} {v : Value} {l : List α} (h : Own enc e w base v l) : ∀ k, v.ownBlock = some k → base ≤ k ∧ k < w.heap.size := h.1.lt

theorem Own.made {α : Type} {enc : α → Value} (z : α) {e : TypeId} {w : World} {base : Nat} {v : Value} {n : Nat} (h : w.ownsRow base e 1 v n (madeCells #[enc z] n).toList) (hn : n ≤ 140737488355328) :
    Own enc e w base v (List.replicate n z) := by
  rw [toList_madeCells_one] at h
  refine ⟨?_, by simpa using hn⟩
  simpa using h
/-- an element is read, and stored, in a row of the call's own -/
theorem Own.at {α : Type} {enc : α → Value} {e : TypeId} {w : World} {base g n cap : Nat} {l : List α} (h : Own enc e w base (.slice (some ⟨g, 0, none⟩) n cap) l) (i : Nat) (hi : i < l.length) :
    w.cell? ⟨g, i, none⟩ = some (enc l[i]) ∧ w.frozen? ⟨g, i, none⟩ = false := by
  have h1 := h.1
  have hn : n = l.length := by
    rcases h1.2 with ⟨he, _⟩ | ⟨g', cap', cur, he, _⟩
    · cases he
    · injection he with _ e2 _
  subst hn
  refine ⟨?_, h1.frozenAt i⟩
  rw [h1.cellAt i (by simpa using hi)]
  simp [hi]
theorem Own.set {α : Type} {enc : α → Value} {e : TypeId} {w : World} {base g n cap : Nat} {l : List α} (h : Own enc e w base (.slice (some ⟨g, 0, none⟩) n cap) l) (i : Nat) (x : α) :
    Own enc e (w.setCell ⟨g, i, none⟩ (enc x)) base (.slice (some ⟨g, 0, none⟩) n cap) (l.set i x) ∧ w.grownBy (w.setCell ⟨g, i, none⟩ (enc x)) (some g) := by
  have h1 := h.1
  have hn : n = l.length := by
    rcases h1.2 with ⟨he, _⟩ | ⟨g', cap', cur, he, _⟩
    · cases he
    · injection he with _ e2 _
  subst hn
  have h2 := h1.stored i (enc x)
  refine ⟨⟨?_, by simpa using h.2⟩, h2.2⟩
  rw [List.length_set, List.map_set]
  exact h2.1
section app
variable {P : Program} {ops : Array Oper} {rest : List Oper} {o : Oper} {a : Act} {Q : Exit → Act → World → Prop} {w : World}
/-- append onto a row of the call's own, the source any readable row: cells -/
theorem wp_app_cells (hgd : o.guard = none) (s x : Operand) (t : TypeId)
    (ho : o.op = .call { callee := .builtin .append, args := #[s, x], argTypes := #[t, t] })
    (e : TypeId) (z : Value) (sz bytes : Nat) (ht : P.underlying t = some (.slice e)) (hinfo : (P.info? e).map (fun i => (i.zero, i.size, i.bytes)) = some (some z, sz, bytes))
    (hzs : z.cells.size = sz) (hsz : 0 < sz) (base : Nat)
    (v : Value) (n : Nat) (xs : List Value) (hs : a.eval s = v) (hown : w.ownsRow base e sz v n xs)
    (y : Value) (m : Nat) (news : List Value) (hx : a.eval x = y) (hy : Rd w sz y m news) (h1 : ∀ u ∈ news, u.oneCell' = true)
    (hb : (n + m) * bytes ≤ 140737488355328) (hm : n + m ≤ 140737488355328) (hbase : base ≤ w.heap.size)
    (h : ∀ v' w', w'.ownsRow base e sz v' (n + m) (xs ++ news) → w.grownBy w' v.ownBlock → wpList P ops Q rest (a.put o.dst v') w') : wpList P ops Q (o :: rest) a w := by
  obtain ⟨i, hi, hz, hsize, hby⟩ := info_parts hinfo
  obtain ⟨A, c, rfl, hmc, hml, hnl, hA⟩ := hy
  by_cases hA0 : ∃ b o, A = some ⟨b, o, none⟩ ∧ ∀ j u, news[j]? = some u → w.cell? ⟨b, o + j, none⟩ = some u
  · obtain ⟨b, ofs, rfl, hcell⟩ := hA0
    exact wpList_append_own w hgd s x t ho base e i z sz bytes ht hi hz hsize hby hzs hsz v n xs hs hown ⟨b, ofs, none⟩ m c news hx (by simpa using hnl)
      (fun j u hu => by rw [addr_add]; exact hcell j u hu) h1 (by simp only [maxLen]; omega) hb hbase (fun v' w' g1 g2 _ => h v' w' g1 g2)
  · have hm0 : m = 0 := hA.resolve_right hA0
    subst hm0
    have hn0 : news = [] := List.eq_nil_of_length_eq_zero (by simpa using hnl)
    subst hn0
    refine wpList_plain hgd fun K hK => ?_
    have q := hK _ _ (h v w (by simpa using hown) ⟨rfl, rfl, rfl, Nat.le_refl _, fun _ _ _ => rfl⟩)
    have hrun : ∀ ty, (Builtin.append_ #[t, t] ty #[v, .slice A 0 c]).run P w = .ok v w := by
      intro ty
      rcases hown.2 with ⟨rfl, rfl⟩ | ⟨g, cap, cur, rfl, _, hg, hn, _, hcs, _⟩
      · cases A <;> simp [Builtin.append_, run_underlying ht, sizeOf, typeInfo, hi, Builtin.lenOf, Builtin.firstCells, loadCells, loadCellsFrom]
      · cases A <;> simp [Builtin.append_, run_underlying ht, sizeOf, typeInfo, hi, Builtin.lenOf, Builtin.firstCells, loadCells, loadCellsFrom, hn, storeCells]
    unfold Oper.wp execOp
    simp only [ho, resolve, invoke, builtin, Sem.run_bind, Sem.run_pure, Result.andThen_ok, List.map_toArray, List.map_cons, List.map_nil, hs, hx, hrun]
    exact q
/-- append onto a row of the call's own: scalars -/
theorem wp_app {α : Type} {enc : α → Value} (henc : ∀ x, (enc x).oneCell' = true) (hgd : o.guard = none) (s x : Operand) (t : TypeId)
    (ho : o.op = .call { callee := .builtin .append, args := #[s, x], argTypes := #[t, t] })
    (e : TypeId) (z : Value) (bytes : Nat) (ht : P.underlying t = some (.slice e)) (hinfo : (P.info? e).map (fun i => (i.zero, i.size, i.bytes)) = some (some z, 1, bytes))
    (hzs : z.cells.size = 1) (base : Nat)
    (v : Value) (l : List α) (hs : a.eval s = v) (hown : Own enc e w base v l)
    (y : Value) (m : List α) (hx : a.eval x = y) (hy : RdV enc w y m)
    (hb : (l.length + m.length) * bytes ≤ 140737488355328) (hbytes : 0 < bytes) (hbase : base ≤ w.heap.size)
    (h : ∀ v' w', Own enc e w' base v' (l ++ m) → w.grownBy w' v.ownBlock → wpList P ops Q rest (a.put o.dst v') w') : wpList P ops Q (o :: rest) a w := by
  have hm : l.length + m.length ≤ 140737488355328 := Nat.le_trans (Nat.le_mul_of_pos_right _ hbytes) hb
  refine wp_app_cells hgd s x t ho e z 1 bytes ht hinfo hzs (by omega) base v l.length (l.map enc) hs hown.1 y m.length (m.map enc) hx hy ?_ hb hm hbase ?_
  · intro u hu
    obtain ⟨x, _, rfl⟩ := List.mem_map.1 hu
    exact henc x
  · intro v' w' g1 g2
    exact h v' w' ⟨by rw [List.length_append, List.map_append]; exact g1, by rw [List.length_append]; exact hm⟩ g2
/-- the same as one step of a region that draws its order -/
theorem step_app {α : Type} {enc : α → Value} {K : Act → World → Prop} {E : Prop} (henc : ∀ x, (enc x).oneCell' = true) (hgd : o.guard = none) (s x : Operand) (t : TypeId)
    (ho : o.op = .call { callee := .builtin .append, args := #[s, x], argTypes := #[t, t] })
    (e : TypeId) (z : Value) (bytes : Nat) (ht : P.underlying t = some (.slice e)) (hinfo : (P.info? e).map (fun i => (i.zero, i.size, i.bytes)) = some (some z, 1, bytes))
    (hzs : z.cells.size = 1) (base : Nat)
    (v : Value) (l : List α) (hs : a.eval s = v) (hown : Own enc e w base v l)
    (y : Value) (m : List α) (hx : a.eval x = y) (hy : RdV enc w y m) (h0 : 0 < m.length)
    (hb : (l.length + m.length) * bytes ≤ 140737488355328) (hbytes : 0 < bytes) (hbase : base ≤ w.heap.size)
    (h : ∀ v' w', Own enc e w' base v' (l ++ m) → w.grownBy w' v.ownBlock → K (a.put o.dst v') w') :
    if Region.wanted o (yielded ops a.tmps) = true then Oper.wp P o a w K Q else E := by
  have hw : Region.wanted o (yielded ops a.tmps) = true := by simp [Region.wanted, hgd]
  rw [if_pos hw]
  have hm : l.length + m.length ≤ 140737488355328 := Nat.le_trans (Nat.le_mul_of_pos_right _ hbytes) hb
  obtain ⟨i, hi, hz, hsize, hby⟩ := info_parts hinfo
  obtain ⟨A, c, rfl, hmc, hml, hnl, hA⟩ := hy
  obtain ⟨b, ofs, rfl, hcell⟩ := hA.resolve_left (by omega)
  obtain ⟨v', w', hr, g1, g2, _⟩ := run_append_own (P := P) w base t o.type e i z 1 bytes ht hi hz hsize hby hzs (by omega) v l.length (l.map enc) hown.1 ⟨b, ofs, none⟩ m.length c (m.map enc) (by simp)
    (fun j u hu => by rw [addr_add]; exact hcell j u hu) (fun u hu => by obtain ⟨x, _, rfl⟩ := List.mem_map.1 hu; exact henc x) (by simp only [maxLen]; omega) hb hbase
  have q := h v' w' ⟨by rw [List.length_append, List.map_append]; exact g1, by rw [List.length_append]; exact hm⟩ g2
  unfold Oper.wp execOp
  simp only [ho, resolve, invoke, builtin, Sem.run_bind, Sem.run_pure, Result.andThen_ok, List.map_toArray, List.map_cons, List.map_nil, hs, hx, hr]
  exact q
/-- append onto a readable slice that has no room: a new row -/
theorem wp_app_full {α : Type} {enc : α → Value} (henc : ∀ x, (enc x).oneCell' = true) (hgd : o.guard = none) (s x : Operand) (t : TypeId)
    (ho : o.op = .call { callee := .builtin .append, args := #[s, x], argTypes := #[t, t] })
    (e : TypeId) (z : Value) (bytes : Nat) (ht : P.underlying t = some (.slice e)) (hinfo : (P.info? e).map (fun i => (i.zero, i.size, i.bytes)) = some (some z, 1, bytes))
    (hzs : z.cells.size = 1)
    (A : Option Addr) (l : List α) (hs : a.eval s = .slice A l.length l.length) (hl : RdV enc w (.slice A l.length l.length) l)
    (hnil : A = none → l = [])
    (y : Value) (m : List α) (hx : a.eval x = y) (hy : RdV enc w y m) (h0 : 0 < m.length)
    (hb : (l.length + m.length) * bytes ≤ 140737488355328) (hbytes : 0 < bytes)
    (h : ∀ v' w', Own enc e w' w.heap.size v' (l ++ m) → w.grownBy w' none → wpList P ops Q rest (a.put o.dst v') w') : wpList P ops Q (o :: rest) a w := by
  have hm : l.length + m.length ≤ 140737488355328 := Nat.le_trans (Nat.le_mul_of_pos_right _ hbytes) hb
  obtain ⟨i, hi, hz, hsize, hby⟩ := info_parts hinfo
  obtain ⟨B, c', rfl, hmc, hml, hnl, hB⟩ := hy
  obtain ⟨b2, o2, rfl, hcell2⟩ := hB.resolve_left (by omega)
  have key : ∀ v' w', (Builtin.append_ #[t, t] o.type #[.slice A l.length l.length, .slice (some ⟨b2, o2, none⟩) m.length c']).run P w = .ok v' w' →
      w'.ownsRow w.heap.size e 1 v' (l.length + m.length) (l.map enc ++ m.map enc) → w.grownBy w' none → wpList P ops Q (o :: rest) a w := by
    intro v' w' hr g1 g2
    refine wpList_plain hgd fun K hK => ?_
    have q := hK _ _ (h v' w' ⟨by rw [List.length_append, List.map_append]; exact g1, by rw [List.length_append]; exact hm⟩ g2)
    unfold Oper.wp execOp
    simp only [ho, resolve, invoke, builtin, Sem.run_bind, Sem.run_pure, Result.andThen_ok, List.map_toArray, List.map_cons, List.map_nil, hs, hx, hr]
    exact q
  by_cases hl0 : l.length = 0
  · have hl1 : l = [] := List.eq_nil_of_length_eq_zero hl0
    subst hl1
    cases A with
    | none =>
      obtain ⟨v', w', hr, g1, g2, _⟩ := run_append_own (P := P) w w.heap.size t o.type e i z 1 bytes ht hi hz hsize hby hzs (by omega) (.slice none 0 0) 0 [] (World.ownsRow_nil w _ e 1) ⟨b2, o2, none⟩ m.length c' (m.map enc) (by simp) (fun j u hu => by rw [addr_add]; exact hcell2 j u hu) (fun u hu => by obtain ⟨x, _, rfl⟩ := List.mem_map.1 hu; exact henc x) (by simp only [maxLen]; simp at hm; omega) (by simpa using hb) (Nat.le_refl _)
      exact key v' w' hr (by simpa using g1) g2
    | some ad =>
      obtain ⟨v', w', hr, g1, g2⟩ := run_append_arg_grows (P := P) (w := w) t o.type e i z 1 bytes ht hi hz hsize hby hzs (by omega) ad 0 0 [] (by simp) (by simp) ⟨b2, o2, none⟩ m.length c' (m.map enc) (by simp) (fun j u hu => by rw [addr_add]; exact hcell2 j u hu) (by simpa using h0) (by simp only [maxLen]; simp at hm; omega) (by simpa using hb)
      exact key v' w' hr (by simpa using g1) g2
  · obtain ⟨A', c1, heq, _, _, _, hA⟩ := hl
    obtain ⟨b1, o1, rfl, hcell1⟩ := hA.resolve_left hl0
    injection heq with e1 e2 e3
    subst e1
    obtain ⟨v', w', hr, g1, g2⟩ := run_append_arg_grows (P := P) (w := w) t o.type e i z 1 bytes ht hi hz hsize hby hzs (by omega) ⟨b1, o1, none⟩ l.length l.length (l.map enc) (by simp) (fun j u hu => by rw [addr_add]; exact hcell1 j u hu) ⟨b2, o2, none⟩ m.length c' (m.map enc) (by simp) (fun j u hu => by rw [addr_add]; exact hcell2 j u hu) (by omega) (by simp only [maxLen]; omega) hb
    exact key v' w' hr g1 g2
end app
end Go.Proofs.Ytjkofefcoeejbaa

/- Lists of scalars, as the old contracts read them. -/
namespace Go.Proofs.Ytjkofefcoeejbaa
open Go Go.RowKit
set_option linter.unusedSimpArgs false
set_option linter.unusedVariables false
theorem mapO_length {α β : Type} {f : α → Option β} : ∀ {l : List α} {r : List β}, mapO f l = some r → r.length = l.length
  | [], r, h => by cases h; rfl
  | x :: l, r, h => by
    unfold mapO at h
    split at h
    · split at h
      · rename_i h2
        cases h
        rw [List.length_cons, List.length_cons, mapO_length h2]
      · cases h
    · cases h
theorem mapO_cons' {α β : Type} {f : α → Option β} {x : α} {l : List α} {r : List β} (h : mapO f (x :: l) = some r) : ∃ y s, f x = some y ∧ mapO f l = some s ∧ r = y :: s := by
  unfold mapO at h
  split at h
  · rename_i y h1
    split at h
    · rename_i s h2
      cases h
      exact ⟨y, s, h1, h2, rfl⟩
    · cases h
  · cases h
theorem repE_cells {α : Type} {d : DV → Option α} {enc : α → Value} (hd : ∀ x a, d x = some a → x = .flat (enc a)) (h1 : ∀ a, (enc a).cells = #[enc a]) {I : Nat → Nat → Prop} {w : World} {sz b : Nat} : ∀ (xs : List DV) (l : List α) (o : Nat), mapO d xs = some l → RepE I w sz xs b o → (xs ≠ [] → sz = 1) ∧ ∀ j (h : j < l.length), w.cell? ⟨b, o + j, none⟩ = some (enc l[j])
  | [], l, o, hm, _ => by cases hm; exact ⟨fun h => absurd rfl h, fun j h => by simp at h⟩
  | x :: xs, l, o, hm, hE => by
    obtain ⟨a, l, ha, hl, rfl⟩ := mapO_cons' hm
    rw [hd _ _ ha] at hE
    simp only [RepE, Rep] at hE
    obtain ⟨⟨_, V, rfl, hs, hc⟩, hE⟩ := hE
    rw [h1] at hs hc
    simp at hs
    subst hs
    obtain ⟨_, ih⟩ := repE_cells hd h1 xs l (o + 1) hl hE
    refine ⟨fun _ => rfl, fun j hj => ?_⟩
    cases j with
    | zero => exact (hc 0 (enc a) (by simp)).1
    | succ j =>
      have := ih j (by simpa using hj)
      rw [show o + (j + 1) = o + 1 + j by omega]
      exact this
/-- a list of scalars, as the old contracts read it -/
theorem list_rd {α : Type} {d : DV → Option α} {enc : α → Value} (hd : ∀ x a, d x = some a → x = .flat (enc a)) (h1 : ∀ a, (enc a).cells = #[enc a]) {I : Nat → Nat → Prop} {w : World} {G : Gh} {sz : Nat} {xs : List DV} {t : Tag} {V : Value} {l : List α} (h : Rep I w G (.list sz xs t) V) (hl : mapO d xs = some l) : RdV enc w V l := by
  simp only [Rep] at h
  obtain ⟨A, c, rfl, h2, h3, h4, _⟩ := h
  have hlen := mapO_length hl
  refine ⟨A, c, by rw [hlen], by omega, by omega, by simp, ?_⟩
  rcases h4 with rfl | ⟨b, o, rfl, hE⟩
  · exact .inl (by simpa using hlen)
  · obtain ⟨_, hc⟩ := repE_cells hd h1 xs l o hl hE
    refine .inr ⟨b, o, rfl, fun j u hu => ?_⟩
    rw [List.getElem?_map] at hu
    obtain ⟨a, ha, rfl⟩ := Option.map_eq_some_iff.1 hu
    obtain ⟨hj, rfl⟩ := List.getElem?_eq_some_iff.1 ha
    exact hc j hj
end Go.Proofs.Ytjkofefcoeejbaa

/- slices.Values and slices.AppendSeq at words: what an iterator over a slice gives, appended. (The form of the kit's worked texts over a range over a function, turned to words.) -/
namespace Go.Proofs.Ytjkofefcoeejbaa
open Go Go.RowKit Go.Shelf
set_option linter.unusedSimpArgs false
set_option linter.unusedVariables false
attribute [local go_sem] Oper.semAt_some
def upto {α : Type} (f : Nat → α) (k : Nat) : List α := (List.range k).map f
theorem upto_succ {α : Type} (f : Nat → α) (k : Nat) : upto f (k + 1) = upto f k ++ [f k] := by simp [upto, List.range_succ]
theorem upto_length {α : Type} (f : Nat → α) (k : Nat) : (upto f k).length = k := by simp [upto]
theorem upto_all (zs : List Int) : upto (fun j => zs[j]?.getD 0) zs.length = zs := by
  apply List.ext_getElem
  · simp [upto]
  · intro i h1 h2
    simp [upto, h2]
theorem upto_take (zs : List Int) {k : Nat} (hk : k ≤ zs.length) : upto (fun j => zs[j]?.getD 0) k = zs.take k := by
  apply List.ext_getElem
  · simp [upto, hk]
  · intro i h1 h2
    have : i < zs.length := by simp [upto] at h1; omega
    simp [upto, this]
set_option maxRecDepth 100000 in
set_option maxHeartbeats 2000000 in
/-- the closure of slices.Values -/
theorem values1_in (F : Fence) (n : Nat) (h7 : F.fn 105) (hro : F.round = none) (hn : 1 ≤ n) (l Bs n₀ b off len cap : Nat) (zs : List Int) (hreach : len * 2 ≤ 140737488351232) (hb : b < n₀) (J Jx : List Int → World → Prop)
    (hY : ∀ pre x W, J pre W → pre.length < len → YieldAt F (n - 1) Try.prog l #[.int .u16 x] W fun e W' =>
      (e = .returned (.bool true) ∧ J (pre ++ [x]) W' ∧ Below n₀ W W') ∨ (e = .returned (.bool false) ∧ Jx (pre ++ [x]) W'))
    (W : World) (hBs : W.cell? ⟨Bs, 0, none⟩ = some (.slice (some ⟨b, off, none⟩) len cap)) (hc : ∀ j, j < len → W.cell? ⟨b, off + j, none⟩ = some (.int .u16 (zs[j]?.getD 0))) (h0 : J [] W) :
    CallsIn F n Try.prog 105 #[.func (.yield l) #[] #[], .pointer (some ⟨Bs, 0, none⟩)] W fun e W' => (∃ v, e = .returned v) ∧
      ((∃ ys, ys = upto (fun j => zs[j]?.getD 0) len ∧ J ys W') ∨ (∃ pre, (∃ k, k ≤ len ∧ pre = upto (fun j => zs[j]?.getD 0) k) ∧ Jx pre W')) := by
  refine callsIn_of_wp Try.func105 rfl h7 ?_ hro
  simp only [Try.ntmps105, List.size_toArray, List.length_cons, List.length_nil, Nat.reduceAdd, Nat.reduceSub, Array.replicate_succ, Array.replicate_zero, List.push_toArray, List.append_toArray, List.nil_append, List.cons_append]
  gi_wp2
  gi_loopw [7] (fun i wr => ∃ k : Nat, k ≤ len ∧ i = .int .i64 k ∧ J (upto (fun j => zs[j]?.getD 0) k) wr ∧ Below n₀ W wr)
    (fun i _ => len - (intOf i).toNat)
  case atStart => exact ⟨0, Nat.zero_le _, rfl, h0, Below.refl _ _⟩
  case round =>
    obtain ⟨k, hk, rfl, hJs, hnx⟩ := hrel
    have hcx : k < len → wr.cell? ⟨b, off + k, none⟩ = some (.int .u16 (zs[k]?.getD 0)) := fun h => (hnx.cell (p := ⟨b, off + k, none⟩) hb).trans (hc k h)
    by_cases hlt : k < len
    · obtain ⟨fn, tmps, assign, body, hy, hR⟩ := hY _ (zs[k]?.getD 0) wr hJs (by rw [upto_length]; exact hlt)
      have hcx' := hcx hlt
      gi_wp2
      refine hR.mono ?_
      rintro e W3 (⟨rfl, hJ3, hk3⟩ | ⟨rfl, hJx3⟩)
      · gi_wp2
        go_roundw
        case rel => exact ⟨k + 1, by omega, by simp, by rw [upto_succ]; exact hJ3, hnx.trans hk3⟩
        case measure => simp [intOf]; omega
      · gi_wp2
        refine bodyPost_ret (results_none rfl _ _ _) rfl ?_
        exact ⟨⟨_, rfl⟩, .inr ⟨_, ⟨k + 1, by omega, (upto_succ _ _).symm⟩, hJx3⟩⟩
    · obtain rfl : k = len := by omega
      gi_wp2
      go_end0
      exact ⟨⟨_, rfl⟩, .inl ⟨_, rfl, hJs⟩⟩
/-- a slice value that holds the words zs, in a block below n₀ -/
def Wds (n₀ : Nat) (W : World) (sv : Value) (zs : List Int) : Prop :=
  ∃ b off cap, sv = .slice (some ⟨b, off, none⟩) zs.length cap ∧ b < n₀ ∧ ∀ j, j < zs.length → W.cell? ⟨b, off + j, none⟩ = some (.int .u16 (zs[j]?.getD 0))
theorem Wds.below {n₀ : Nat} {A B : World} (h : Below n₀ A B) {sv : Value} {zs : List Int} : Wds n₀ A sv zs → Wds n₀ B sv zs
  | ⟨b, off, cap, e, hb, hc⟩ => ⟨b, off, cap, e, hb, fun j hj => (h.cell (p := ⟨b, off + j, none⟩) hb).trans (hc j hj)⟩
set_option maxHeartbeats 1000000 in
theorem values_in (F : Fence) (n : Nat) (h5 : F.fn 76) (hro : F.round = none) (a : Option Addr) (len cap : Nat) (w : World) :
    CallsIn F n Try.prog 76 #[.slice a len cap] w fun e w' => e = .returned (.func (.func 105) #[] #[.pointer (some ⟨w.heap.size, 0, none⟩)]) ∧ w' = w.alloc (.cells #[.slice a len cap] 22) := by
  refine callsIn_of_wp Try.func76 rfl h5 ?_ hro
  simp only [Try.ntmps76, List.size_toArray, List.length_cons, List.length_nil, Nat.reduceAdd, Nat.reduceSub, Array.replicate_succ, Array.replicate_zero, List.push_toArray, List.append_toArray, List.nil_append, List.cons_append]
  gi_wp2
  go_ret
  exact ⟨rfl, rfl⟩
theorem values_stops (F : Fence) (n : Nat) (h7 : F.fn 105) (hro : F.round = none) (hn : 1 ≤ n) (Bs n₀ : Nat) (sv : Value) (zs : List Int) (hreach : zs.length * 2 ≤ 140737488351232) (w : World) (hBs : Bs < w.heap.size) (hn₀ : n₀ ≤ w.heap.size)
    (hc : w.cell? ⟨Bs, 0, none⟩ = some sv) (hI : Wds n₀ w sv zs) :
    SeqStopsK F n Try.prog 105 #[.pointer (some ⟨Bs, 0, none⟩)] (fun x : Int => #[Value.int .u16 x]) (Below n₀) (fun ys => ys = zs) (fun pre => pre <+: zs) zs.length w := fun l J Jx W hW _ _ hY h0 => by
  have hc' := (hW.cell (p := ⟨Bs, 0, none⟩) hBs).trans hc
  obtain ⟨b, off, cap, rfl, hb, hcs⟩ := hI.below (hW.mono hn₀)
  refine (values1_in F n h7 hro hn l Bs n₀ b off zs.length cap zs hreach hb J Jx hY W hc' hcs h0).mono ?_
  rintro e W' ⟨he, ⟨ys, rfl, hj⟩ | ⟨pre, ⟨k, hk, rfl⟩, hj⟩⟩
  · exact ⟨he, .inl ⟨_, upto_all zs, hj⟩⟩
  · exact ⟨he, .inr ⟨_, by rw [upto_take zs hk]; exact List.take_prefix _ _, hj⟩⟩
set_option maxRecDepth 100000 in
set_option maxHeartbeats 2000000 in
/-- slices.AppendSeq(nil, slices.Values(zs)) -/
theorem appendSeq_in (F : Fence) (n : Nat) (h11 : F.fn 122) (h7 : F.fn 105) (hro : F.round = none) (hn : 2 ≤ n) (Bs : Nat) (sv : Value) (zs : List Int) (hlen : zs.length ≤ 1000000) (w : World) (hBs : Bs < w.heap.size)
    (hc : w.cell? ⟨Bs, 0, none⟩ = some sv) (hI : Wds w.heap.size w sv zs) :
    CallsIn F n Try.prog 122 #[.slice none 0 0, .func (.func 105) #[] #[.pointer (some ⟨Bs, 0, none⟩)]] w fun e W' => ∃ v, e = .returned v ∧ W'.ownsRow w.heap.size 24 1 v zs.length (zs.map (Value.int .u16)) ∧ Below w.heap.size w W' := by
  have h1 : 1 ≤ n := by omega
  have info16 : (Try.prog.info? 24).map (fun i => (i.zero, i.size, i.bytes)) = some (some (.int .u16 0), 1, 2) := by kernel_rfl
  obtain ⟨i0, hi, hz0, hz1, hz2⟩ := info_parts info16
  refine callsIn_of_wp_marks Try.func122 rfl h11 ?_ hro
  simp only [Try.ntmps122, List.size_toArray, List.length_cons, List.length_nil, Nat.reduceAdd, Nat.reduceSub, Array.replicate_succ, Array.replicate_zero, List.push_toArray, List.append_toArray, List.nil_append, List.cons_append]
  gi_wp2
  have bO := Boxed.new w 22 (.slice none 0 0)
  have hB0 : Below w.heap.size w (w.alloc (.cells #[.slice none 0 0] 22)) := (Below.refl _ w).alloc (Nat.le_refl _) _
  refine wpIn_rangeFunc_ownG hro h1 (gf := 105) (lb := #[.pointer (some ⟨Bs, 0, none⟩)]) rfl h7 (enters_of Try.func105 (by kernel_rfl) rfl)
    (values_stops F (n - 1) h7 hro (by omega) Bs w.heap.size sv zs (by omega) _ (by simp; omega) (by simp) ((hB0.cell (p := ⟨Bs, 0, none⟩) hBs).trans hc) (hI.below hB0)) belowK_t (belowK_b (by simp)) (Below.refl _ _) (fun _ => rfl)
    (fun pre W => (∃ v, Boxed W w.heap.size 22 v ∧ W.ownsRow w.heap.size 24 1 v pre.length (pre.map (Value.int .u16)) ∧ (v = .slice none 0 0 ↔ pre = [])) ∧ Below w.heap.size w W)
    (fun _ _ _ => False)
    (OwnFrom.and (Own.from (holdsRow_own w.heap.size w.heap.size 22 24 1 (fun pre => pre.length) (fun pre => pre.map (Value.int .u16)) (fun pre v => v = .slice none 0 0 ↔ pre = [])) _) (ownFrom_below (Nat.le_refl _) (by simp)))
    (fun _ _ _ _ _ hs _ _ => hs)
    ⟨⟨_, bO, World.ownsRow_nil _ _ _ _, by simp⟩, hB0⟩
    (fun x => { tmps := #[.slice none 0 0, .func (.func 105) #[] #[.pointer (some ⟨Bs, 0, none⟩)], .pointer (some ⟨w.heap.size, 0, none⟩), undef, .slice none 0 0, .int .u16 x, .func (.func 105) #[] #[.pointer (some ⟨Bs, 0, none⟩)], .int .u16 x, undef, undef, undef, undef, undef], defers := [] }) ?assign ?body ?done ?stop
  case assign =>
    intro l x W K hK
    gi_wp2
    exact hK
  case body =>
    rintro l pre x W ⟨⟨v, hv, hrow, hnil⟩, hB⟩ hlt
    have hc := hv.cell
    gi_wp2_with (gi_at_builtin; refine wpListIn_append_own _ rfl _ _ 22 rfl w.heap.size 24 i0 (.int .u16 0) 1 2 Try.underlying22 hi hz0 hz1 hz2 rfl (by decide) _ _ _ rfl (hrow.alloc _) ⟨W.heap.size, 0, none⟩ 1 1 [.int .u16 x] rfl rfl (cell_one_new _ _ _) (by simp [Value.oneCell']) (by simp only [maxLen]; omega) (by omega) (by have := hB.size; simp; omega) ?_; intro v' w1 hown' hgrow _; obtain ⟨g', cap', rfl⟩ := ownsRow_succ hown'; obtain ⟨hv1, hv2, hr2, hk2, hb2⟩ := hv.appended (by decide) hrow hB.size (Nat.le_refl _) hown' hgrow; have hc1 := hv1.cell; have hf1 := hv1.frozen)
    exact ⟨hk2.from _, hb2, ⟨_, hv2, by simpa using hr2, by simp⟩, hB.trans hb2⟩
  case done =>
    rintro D ys W hD rfl ⟨⟨v, hv, hrow, hnil⟩, hB⟩ hK
    have hc := hv.cell
    gi_wp2
    refine ⟨by simp, .inl ⟨_, _, rfl, run_takeDeferred hK, ?_⟩⟩
    exact ⟨_, results_tmp rfl _ _ _, v, rfl, ownsRow_putObj hrow _ hK rfl, hB.trans (belowK_b (w := w) (Nat.le_refl _) W D _ _ (by simp at hD; omega) hK rfl rfl)⟩
  case stop =>
    rintro D c pre W _ _ h _
    exact h.elim
set_option maxHeartbeats 1000000 in
/-- slices.Collect(slices.Values(zs)) -/
theorem collect_in (F : Fence) (n : Nat) (h8 : F.fn 103) (h11 : F.fn 122) (h7 : F.fn 105) (hro : F.round = none) (hn : 3 ≤ n) (Bs : Nat) (sv : Value) (zs : List Int) (hlen : zs.length ≤ 1000000) (w : World) (hBs : Bs < w.heap.size)
    (hc : w.cell? ⟨Bs, 0, none⟩ = some sv) (hI : Wds w.heap.size w sv zs) :
    CallsIn F n Try.prog 103 #[.func (.func 105) #[] #[.pointer (some ⟨Bs, 0, none⟩)]] w fun e W' => ∃ v, e = .returned v ∧ W'.ownsRow w.heap.size 24 1 v zs.length (zs.map (Value.int .u16)) ∧ Below w.heap.size w W' := by
  have h1 : 1 ≤ n := by omega
  refine callsIn_of_wp Try.func103 rfl h8 ?_ hro
  simp only [Try.ntmps103, List.size_toArray, List.length_cons, List.length_nil, Nat.reduceAdd, Nat.reduceSub, Array.replicate_succ, Array.replicate_zero, List.push_toArray, List.append_toArray, List.nil_append, List.cons_append]
  gi_wp2_with (gi_at_call 122; refine (appendSeq_in F (n - 1) h11 h7 hro (by omega) Bs sv zs hlen _ hBs hc hI).mono ?_; rintro e w' ⟨v, rfl, hrow, hb⟩)
  go_ret
  exact ⟨v, rfl, hrow, hb⟩
end Go.Proofs.Ytjkofefcoeejbaa

/- slices.Sort at words, of up to twelve: walked. (The walk of the insertion sort has the form of the kit's worked text at ints, turned to words.) -/
namespace Go.Proofs.Ytjkofefcoeejbaa
open Go Go.RowKit Go.Sort
set_option linter.unusedSimpArgs false
set_option linter.unusedVariables false
section
variable {α : Type} [Inhabited α] (lt : α → α → Bool)
theorem insInner_go (a j : Nat) (d : Array α) (hj : a < j) (hl : lt d[j]! d[j - 1]! = true) : insInner lt a j d = insInner lt a (j - 1) (swp d j (j - 1)) := by
  obtain ⟨k, rfl⟩ : ∃ k, j = k + 1 := ⟨j - 1, by omega⟩
  rw [insInner]
  simp only [Nat.add_sub_cancel] at hl ⊢
  simp [hj, hl]
theorem insInner_stop (a j : Nat) (d : Array α) (h : j ≤ a ∨ lt d[j]! d[j - 1]! = false) : insInner lt a j d = d := by
  cases j with
  | zero => rw [insInner]
  | succ k =>
    rw [insInner]
    simp only [Nat.add_sub_cancel] at h
    rcases h with h | h
    · simp [show ¬ k + 1 > a by omega]
    · simp [h]
theorem insOuter_go (a b i : Nat) (d : Array α) (h : i < b) : insOuter lt a b i d = insOuter lt a b (i + 1) (insInner lt a i d) := by rw [insOuter, if_pos h]
theorem insOuter_stop (a b i : Nat) (d : Array α) (h : ¬ i < b) : insOuter lt a b i d = d := by rw [insOuter, if_neg h]
end
section
variable {α : Type} [Inhabited α] (enc : α → Value)
theorem putRow_drewN (w : World) (m q blk off : Nat) (d : Array α) : (putRow enc (Sort.ahead w m) blk off d).drewN q = putRow enc (Sort.ahead w (m + q)) blk off d := by
  show Sort.ahead (putRow enc (Sort.ahead w m) blk off d) q = _
  rw [putRow_ahead enc w m, ahead_ahead, ← putRow_ahead]
theorem swap_worldA (w : World) (m q blk off : Nat) (d : Array α) (j k : Nat) (hj : j < d.size) (hk : k < d.size) :
    (((putRow enc (Sort.ahead w m) blk off d).drewN q).setCell ⟨blk, off + j, none⟩ (enc d[k]!)).setCell ⟨blk, off + k, none⟩ (enc d[j]!) = putRow enc (Sort.ahead w (m + q)) blk off (swp d j k) := by
  rw [putRow_drewN]
  exact putRow_swp enc _ blk off d j k hj hk
end
set_option maxHeartbeats 1000000 in
theorem isNaN_w (x : Int) (w : World) : Calls Try.prog 142 #[.int .u16 x] w fun e w' => e = .returned (.bool false) ∧ w' = w := by
  go_enter Try.func142, Try.ntmps142
  go_wp2
  go_ret
  exact ⟨by simp, rfl⟩
set_option maxHeartbeats 1000000 in
theorem less_w (x y : Int) (w : World) : Calls Try.prog 132 #[.int .u16 x, .int .u16 y] w fun e w' => e = .returned (.bool (Sort.ltInt x y)) ∧ w' = w := by
  go_enter Try.func132, Try.ntmps132
  go_wp2_with (go_at_call 142; refine (isNaN_w _ _).mono ?_; rintro e w' ⟨rfl, rfl⟩)
  go_ret
  exact ⟨rfl, rfl⟩
set_option maxHeartbeats 4000000 in
set_option maxRecDepth 100000 in
theorem insertion_w (blk off cap a b : Nat) (d : Array Int) (w : World) (hH : Holds (Value.int .u16) w blk off d) (hab : a ≤ b) (hb : b ≤ d.size) (hsz : d.size < 4611686018427387904) :
    Calls Try.prog 126 #[.slice (some ⟨blk, off, none⟩) d.size cap, .int .i64 a, .int .i64 b] w fun e w' =>
      e = .returned (.tuple #[]) ∧ ∃ n, w' = putRow (Value.int .u16) (Sort.ahead w n) blk off (Sort.insertionSort ltInt d a b) := by
  go_enter Try.func126, Try.ntmps126
  go_wp2
  go_loopw [6] (fun vi wr => ∃ (i n : Nat) (dk : Array Int), vi = .int .i64 i ∧ a < i ∧ i ≤ b + 1 ∧ dk.size = d.size ∧ wr = putRow (Value.int .u16) (Sort.ahead w n) blk off dk ∧
      insOuter ltInt a b i dk = insOuter ltInt a b (a + 1) d) (fun vi _ => b + 1 - (intOf vi).toNat)
  case atStart => exact ⟨a + 1, 0, d, by go_num, by omega, by omega, rfl, (putRow_self _ _ _ _ _ hH).symm, rfl⟩
  case round =>
    obtain ⟨i, n, dk, rfl, hai, hib, hsk, hwr, hO⟩ := hrel
    have HO : Hid (insOuter ltInt a b i dk = insOuter ltInt a b (a + 1) d) := hO
    clear hO
    go_wp2
    · go_loopw [7] (fun vj wr2 => ∃ (j m : Nat) (dj : Array Int), vj = .int .i64 j ∧ a ≤ j ∧ j ≤ i ∧ dj.size = d.size ∧ wr2 = putRow (Value.int .u16) (Sort.ahead w m) blk off dj ∧
          insInner ltInt a j dj = insInner ltInt a i dk) (fun vj _ => (intOf vj).toNat)
      case atStart => exact ⟨i, n, dk, rfl, by omega, Nat.le_refl _, hsk, rfl, rfl⟩
      case round =>
        obtain ⟨j, m, dj, rfl, haj, hji, hsj, hw2, hI⟩ := hrel
        have hlt : i < b := by assumption
        obtain ⟨G, hG⟩ : ∃ G : Nat → Int, ∀ t, G t = dj[t]! := ⟨fun t => dj[t]!, fun _ => rfl⟩
        have hcw : ∀ t, t < d.size → wr.cell? ⟨blk, off + t, none⟩ = some (.int .u16 (G t)) := fun t ht => by
          rw [hw2, hG]; exact cell?_putRow _ _ _ _ d dj (holds_ahead _ _ _ _ _ _ hH) hsj t (by omega)
        have hfw : ∀ t, t < d.size → wr.frozen? ⟨blk, off + t, none⟩ = false := fun t ht => by
          rw [hw2, frozen?_putRow]; exact ((holds_ahead _ _ m _ _ _ hH) t ht).2
        have HW : Hid (wr = putRow (Value.int .u16) (Sort.ahead w m) blk off dj) := hw2
        have HG : Hid (∀ t, G t = dj[t]!) := hG
        have HI : Hid (insInner ltInt a j dj = insInner ltInt a i dk) := hI
        clear hw2 hG hI hH
        have out : (j ≤ a ∨ ltInt dj[j]! dj[j - 1]! = false) → ∀ q, ∃ i' n' dk', Value.int .i64 ((i : Int) + 1) = .int .i64 (i' : Nat) ∧ a < i' ∧ i' ≤ b + 1 ∧ dk'.size = d.size ∧
            wr.drewN q = putRow (Value.int .u16) (Sort.ahead w n') blk off dk' ∧ insOuter ltInt a b i' dk' = insOuter ltInt a b (a + 1) d := fun hs q =>
          ⟨i + 1, m + q, dj, by go_num, by omega, by omega, hsj, by rw [HW.out]; exact putRow_drewN _ _ _ _ _ _ _,
            by rw [← HO.out, insOuter_go _ _ _ _ _ hlt, ← HI.out, insInner_stop _ _ _ _ hs]⟩
        have OUT : Hid _ := out
        clear out
        go_wp2
        by_cases hja : a < j
        · go_quiet (first | (go_at_call 132; refine Calls.quiet_of_same (less_w _ _ _)))
          go_wp2
          · have hl : ltInt (G j) (G (j - 1)) = true := by assumption
            go_region
            all_goals go_wp2
            go_roundw
            case rel =>
              refine ⟨j - 1, m + (nq + 1), swp dj j (j - 1), by congr 1; omega, by omega, by omega, by rw [size_swp]; exact hsj, ?_, ?_⟩
              · rw [HW.out, HG.out, HG.out]
                exact swap_worldA _ w m (nq + 1) blk off dj j (j - 1) (by omega) (by omega)
              · rw [← HI.out, insInner_go ltInt a j dj hja (by rw [← HG.out, ← HG.out]; exact hl)]
            case measure => simp [intOf]; omega
          · have hl : ltInt (G j) (G (j - 1)) = false := by assumption
            go_roundw
            case rel => exact OUT.out (Or.inr (by rw [← HG.out, ← HG.out]; exact hl)) nq
            case measure => simp [intOf]; omega
        · go_quiet (first | (go_at_call 132; refine Calls.quiet_of_same (less_w _ _ _)))
          go_wp2
          go_roundw
          case rel => exact OUT.out (Or.inl (by omega)) nq
          case measure => simp [intOf]; omega
    · have hge : ¬ i < b := by assumption
      go_end0
      exact ⟨rfl, n, by unfold Sort.insertionSort; rw [← HO.out, insOuter_stop _ _ _ _ _ hge]⟩
set_option maxHeartbeats 4000000 in
set_option maxRecDepth 100000 in
theorem pdq_w (blk off cap : Nat) (limit : Int) (d : Array Int) (w : World) (hH : Holds (Value.int .u16) w blk off d) (hsz : d.size ≤ 12) :
    Calls Try.prog 123 #[.slice (some ⟨blk, off, none⟩) d.size cap, .int .i64 0, .int .i64 d.size, .int .i64 limit] w fun e w' =>
      e = .returned (.tuple #[]) ∧ ∃ n, w' = putRow (Value.int .u16) (Sort.ahead w n) blk off (Sort.insertionSort ltInt d 0 d.size) := by
  have hc := insertion_w blk off cap 0 d.size d w hH (Nat.zero_le _) (Nat.le_refl _) (by omega)
  have h12 : (d.size : Int) ≤ 12 := by omega
  go_enter Try.func123, Try.ntmps123
  go_wp2
  refine wp_loop_rounds 1 ?_
  rw [rounds_succ]
  go_wp2_with (go_at_call 126; refine hc.mono ?_; rintro e w1 ⟨rfl, hw1⟩)
  (try simp only [Exit.inBlock, Exit.then]); refine bodyPost_ret (results_none rfl _ _ _) rfl ?_
  exact ⟨rfl, hw1⟩
end Go.Proofs.Ytjkofefcoeejbaa

/- The middle of two numbers by and, xor and shift. -/
namespace Go.Proofs.Ytjkofefcoeejbaa
open Go
theorem and_xor_add : ∀ (n a b : Nat), a < n → 2 * (a &&& b) + (a ^^^ b) = a + b
  | 0, a, b, h => by omega
  | n + 1, a, b, h => by
    by_cases h0 : a = 0
    · subst h0
      simp
    · have ih := and_xor_add n (a / 2) (b / 2) (by omega)
      have e1 := Nat.and_div_two (a := a) (b := b)
      have e2 := Nat.xor_div_two (a := a) (b := b)
      have m1 : (a &&& b) % 2 = if a % 2 = 1 ∧ b % 2 = 1 then 1 else 0 := by
        have := Nat.and_mod_two_pow (a := a) (b := b) (n := 1)
        simp only [Nat.pow_one] at this
        rw [this]
        rcases Nat.mod_two_eq_zero_or_one a with x | x <;> rcases Nat.mod_two_eq_zero_or_one b with y | y <;> simp [x, y]
      have m2 : (a ^^^ b) % 2 = if a % 2 = b % 2 then 0 else 1 := by
        have := Nat.xor_mod_two_pow (a := a) (b := b) (n := 1)
        simp only [Nat.pow_one] at this
        rw [this]
        rcases Nat.mod_two_eq_zero_or_one a with x | x <;> rcases Nat.mod_two_eq_zero_or_one b with y | y <;> simp [x, y]
      rw [← e1, ← e2] at ih
      split at m1 <;> split at m2 <;> omega
theorem mid_two (a b : Int) (ha : 0 ≤ a ∧ a < 65536) (hb : 0 ≤ b ∧ b < 65536) : andI .u16 a b + xorI .u16 a b / 2 = (a + b) / 2 ∧ 0 ≤ andI .u16 a b ∧ 0 ≤ xorI .u16 a b := by
  obtain ⟨a, rfl⟩ := Int.eq_ofNat_of_zero_le ha.1
  obtain ⟨b, rfl⟩ := Int.eq_ofNat_of_zero_le hb.1
  have h := and_xor_add (a + 1) a b (by omega)
  have l1 : a &&& b ≤ a := Nat.and_le_left
  have e1 : andI .u16 a b = ((a &&& b : Nat) : Int) := by
    unfold andI
    rw [BitVec.toNat_and, BitVec.toNat_ofInt, BitVec.toNat_ofInt]
    have x1 : ((a : Int) % ((2 ^ IntKind.u16.bits : Nat) : Int)).toNat = a := by
      have : ((2 ^ IntKind.u16.bits : Nat) : Int) = 65536 := rfl
      rw [this]; omega
    have x2 : ((b : Int) % ((2 ^ IntKind.u16.bits : Nat) : Int)).toNat = b := by
      have : ((2 ^ IntKind.u16.bits : Nat) : Int) = 65536 := rfl
      rw [this]; omega
    rw [x1, x2, wrap_u16]
    omega
  have l2 : a ^^^ b < 65536 := Nat.xor_lt_two_pow (n := 16) (by omega) (by omega)
  have e2 : xorI .u16 a b = ((a ^^^ b : Nat) : Int) := by
    unfold xorI
    rw [BitVec.toNat_xor, BitVec.toNat_ofInt, BitVec.toNat_ofInt]
    have x1 : ((a : Int) % ((2 ^ IntKind.u16.bits : Nat) : Int)).toNat = a := by
      have : ((2 ^ IntKind.u16.bits : Nat) : Int) = 65536 := rfl
      rw [this]; omega
    have x2 : ((b : Int) % ((2 ^ IntKind.u16.bits : Nat) : Int)).toNat = b := by
      have : ((2 ^ IntKind.u16.bits : Nat) : Int) = 65536 := rfl
      rw [this]; omega
    rw [x1, x2, wrap_u16]
    omega
  rw [e1, e2]
  omega
end Go.Proofs.Ytjkofefcoeejbaa

/- vote.Median, walked: its contract of the old kind. -/
namespace Go.Proofs.Ytjkofefcoeejbaa
open Go Go.RowKit Go.Sort
set_option linter.unusedSimpArgs false
set_option linter.unusedVariables false
theorem take_putC (enc : Int → Value) (cur : Array Value) (d : Array Int) (h : d.size ≤ cur.size) (j : Nat) (hj : j < d.size) : (putCells enc 0 d cur)[j]? = some (enc d[j]!) := by
  have h2 : j < cur.size := by omega
  simp [putCells, hj, h2]
set_option maxHeartbeats 1000000 in
set_option maxRecDepth 100000 in
theorem bitsLen64_w (x : Int) (w : World) (h0 : 0 ≤ x) (h1 : x ≤ 12) : Calls Try.prog 136 #[.int .u64 x] w fun e w' => (∃ k : Int, e = .returned (.int .i64 k)) ∧ w' = w := by
  have hx : x = 0 ∨ x = 1 ∨ x = 2 ∨ x = 3 ∨ x = 4 ∨ x = 5 ∨ x = 6 ∨ x = 7 ∨ x = 8 ∨ x = 9 ∨ x = 10 ∨ x = 11 ∨ x = 12 := by omega
  rcases hx with rfl | rfl | rfl | rfl | rfl | rfl | rfl | rfl | rfl | rfl | rfl | rfl | rfl
  all_goals
    go_enter Try.func136, Try.ntmps136
    go_wp2
    go_ret
    exact ⟨⟨_, rfl⟩, rfl⟩
set_option maxHeartbeats 1000000 in
theorem bitsLen_w (x : Int) (w : World) (h0 : 0 ≤ x) (h1 : x ≤ 12) : Calls Try.prog 124 #[.int .u64 x] w fun e w' => (∃ k : Int, e = .returned (.int .i64 k)) ∧ w' = w := by
  go_enter Try.func124, Try.ntmps124
  go_wp2_with (go_at_call 136; refine (bitsLen64_w _ _ h0 h1).mono ?_; rintro e w' ⟨⟨k, rfl⟩, rfl⟩)
  go_ret
  exact ⟨⟨k, rfl⟩, rfl⟩
set_option maxHeartbeats 1000000 in
theorem sort_w (blk off cap : Nat) (d : Array Int) (w : World) (hH : Holds (Value.int .u16) w blk off d) (hsz : d.size ≤ 12) :
    Calls Try.prog 104 #[.slice (some ⟨blk, off, none⟩) d.size cap] w fun e w' =>
      e = .returned (.tuple #[]) ∧ ∃ n, w' = putRow (Value.int .u16) (Sort.ahead w n) blk off (Sort.insertionSort ltInt d 0 d.size) := by
  have hl := fun w => bitsLen_w d.size w (by omega) (by omega)
  have hp := fun k => pdq_w blk off cap k d w hH hsz
  go_enter Try.func104, Try.ntmps104
  go_wp2_with (first
    | (go_at_call 124; refine (hl _).mono ?_; rintro e w' ⟨⟨k, rfl⟩, rfl⟩)
    | (go_at_call 123; refine (hp _).mono ?_; rintro e w' ⟨rfl, n, rfl⟩))
  go_end0
  exact ⟨rfl, n, rfl⟩
theorem ownsRow_put {w : World} {g n : Nat} {e : TypeId} {cur : Array Value} (d d' : Array Int) (hl : d'.size = d.size) (hb : w.heap[g]? = some (.cells cur e (0, 0))) (h3 : d.size ≤ cur.size) :
    (∀ j, j < d.size → (putRow (Value.int .u16) (Sort.ahead w n) g 0 d').cell? ⟨g, j, none⟩ = some (.int .u16 d'[j]!)) ∧ w.grownBy (putRow (Value.int .u16) (Sort.ahead w n) g 0 d') (some g) := by
  refine ⟨fun j hj => ?_, rfl, rfl, rfl, by simp [putRow, mapBlock, Sort.ahead], fun k hk hne => ?_⟩
  · have h1 : (putRow (Value.int .u16) (Sort.ahead w n) g 0 d').heap[g]? = some (.cells (putCells (Value.int .u16) 0 d' cur) e (0, 0)) := by
      simp [putRow, mapBlock, Sort.ahead, Array.getElem?_modify, hb, onCells]
    have h2 := take_putC (Value.int .u16) cur d' (by omega) j (by omega)
    simp only [World.cell?, h1]
    simpa using h2
  · have : g ≠ k := fun e => hne (by rw [e])
    simp [putRow, mapBlock, Sort.ahead, Array.getElem?_modify, this]
set_option maxHeartbeats 1000000 in
/-- slices.Sorted(slices.Values(zs)): what stands in the middle -/
theorem sorted_w (Bs : Nat) (sv : Value) (zs : List Int) (h0 : 0 < zs.length) (hlen : zs.length ≤ 12) (w : World) (hBs : Bs < w.heap.size) (hc : w.cell? ⟨Bs, 0, none⟩ = some sv) (hI : Wds w.heap.size w sv zs) :
    Calls Try.prog 75 #[.func (.func 105) #[] #[.pointer (some ⟨Bs, 0, none⟩)]] w fun e w' => ∃ g cap, e = .returned (.slice (some ⟨g, 0, none⟩) zs.length cap) ∧
      (∀ j, j < zs.length → w'.cell? ⟨g, j, none⟩ = some (.int .u16 (Sort.insertionSort ltInt zs.toArray 0 zs.length)[j]!)) ∧ Below w.heap.size w w' := by
  have hcol := callsIn_wide.1 (collect_in .wide 3 trivial trivial trivial rfl (by omega) Bs sv zs (by omega) w hBs hc hI)
  have hss : (Sort.insertionSort ltInt zs.toArray 0 zs.length).size = zs.toArray.size := (insertionSort_holds (lt := ltInt) swo_ltInt zs.toArray 0 zs.length (by omega) (by simp)).1.1
  go_enter Try.func75, Try.ntmps75
  go_wp2_with (go_at_call 103; refine hcol.mono ?_; rintro e w1 ⟨v, rfl, hrow, hb⟩)
  rcases hrow.2 with ⟨rfl, hz⟩ | ⟨g, cap, cur, rfl, hbase, hg, r1, r2, r3, r4⟩
  · omega
  · have hH : Holds (Value.int .u16) w1 g 0 zs.toArray := by
      intro j hj
      have hj' : j < zs.length := by simpa using hj
      refine ⟨?_, by simp [World.frozen?, hg]⟩
      have h1 := hrow.cellAt j (by omega)
      simpa [hj'] using h1
    have cS := sort_w g 0 cap zs.toArray w1 hH (by simpa using hlen)
    simp only [List.size_toArray] at cS
    go_wp2_with (go_at_call 104; refine cS.mono ?_; rintro e w' ⟨rfl, nn, rfl⟩)
    obtain ⟨c1, c2⟩ := ownsRow_put (n := nn) zs.toArray (Sort.insertionSort ltInt zs.toArray 0 zs.length) hss hg (by simp; omega)
    go_ret
    exact ⟨g, cap, rfl, fun j hj => c1 j (by simpa using hj), hb.grown c2 hb.size (fun j hj => by cases hj; exact hbase)⟩
theorem mid3 (a b c : Int) : (Sort.insertionSort ltInt #[a, b, c] 0 3)[1]! = max (min a b) (min (max a b) c) := by
  unfold Sort.insertionSort
  by_cases h1 : b < a <;> by_cases h2 : c < a <;> by_cases h3 : c < b <;> simp [insOuter, insInner, swp, ltInt, h1, h2, h3] <;> omega
def ofWm (l : List UInt16) : List Int := l.map fun c => (c.toNat : Int)
theorem medI_many (l : List Int) (h : 4 ≤ l.length) : medI l = (0, false) := by
  match l, h with
  | _ :: _ :: _ :: _ :: _, _ => rfl
  | [_, _, _], h => simp at h
  | [_, _], h => simp at h
  | [_], h => simp at h
  | [], h => simp at h
set_option maxHeartbeats 4000000 in
set_option maxRecDepth 100000 in
theorem median_w (v : Value) (l : List UInt16) (w : World) (h : RdV encW w v l) (hl : l.length ≤ 100000) :
    Calls Try.prog 37 #[v] w fun e w' => e = .returned (.tuple #[.int .u16 (medI (ofWm l)).1, .bool (medI (ofWm l)).2]) ∧ Below w.heap.size w w' := by
  match l, h, hl with
  | [], h, hl =>
    obtain ⟨A, c, rfl, _, _, _⟩ := h.open
    go_enter Try.func37, Try.ntmps37
    go_wp2
    go_ret2
    exact ⟨rfl, Below.refl _ _⟩
  | [a], h, hl =>
    obtain ⟨b, o, c, rfl, hc⟩ := h.each (by simp)
    have c0 := hc 0 (by simp)
    simp only [Nat.add_zero, List.getElem_cons_zero, encW] at c0
    go_enter Try.func37, Try.ntmps37
    go_wp2
    go_ret2
    exact ⟨rfl, Below.refl _ _⟩
  | [a, b], h, hl =>
    obtain ⟨bb, o, c, rfl, hc⟩ := h.each (by simp)
    have c0 := hc 0 (by simp)
    have c1 := hc 1 (by simp)
    simp only [Nat.add_zero, List.getElem_cons_zero, List.getElem_cons_succ, encW] at c0 c1
    clear hc h
    go_enter Try.func37, Try.ntmps37
    go_wp2
    go_region
    all_goals go_wp2
    go_ret2
    refine ⟨?_, belowN (Below.refl _ w) 1⟩
    have ha : (0 : Int) ≤ (a.toNat : Int) ∧ (a.toNat : Int) < 65536 := ⟨by omega, by have := a.toNat_lt; omega⟩
    have hb : (0 : Int) ≤ (b.toNat : Int) ∧ (b.toNat : Int) < 65536 := ⟨by omega, by have := b.toNat_lt; omega⟩
    have e1 : IntKind.wrap .u16 (andI .u16 a.toNat b.toNat + xorI .u16 a.toNat b.toNat / 2) = ((a.toNat : Int) + b.toNat) / 2 := by
      rw [(mid_two _ _ ha hb).1]
      exact wrap_u16_id _ (by omega) (by omega)
    have e2 : (medI (ofWm [a, b])) = (IntKind.wrap .u16 (andI .u16 a.toNat b.toNat + xorI .u16 a.toNat b.toNat / 2), true) := by
      rw [e1]
      rfl
    rw [e2]
    rfl
  | [a, b, c], h, hl =>
    obtain ⟨bb, o, cp, rfl, hc⟩ := h.each (by simp)
    have c0 := hc 0 (by simp)
    have c1 := hc 1 (by simp)
    have c2 := hc 2 (by simp)
    simp only [Nat.add_zero, List.getElem_cons_zero, List.getElem_cons_succ, encW] at c0 c1 c2
    have hb : bb < w.heap.size := World.block_lt_of_cell? w _ c0
    have hV := callsIn_wide.1 (values_in .wide 1 trivial rfl (some ⟨bb, o, none⟩) 3 cp w)
    have hS := sorted_w w.heap.size (.slice (some ⟨bb, o, none⟩) 3 cp) [(a.toNat : Int), (b.toNat : Int), (c.toNat : Int)] (by simp) (by simp) (w.alloc (.cells #[.slice (some ⟨bb, o, none⟩) 3 cp] 22)) (by simp) (cell_made 0 _ rfl)
      ⟨bb, o, cp, rfl, by simp; omega, fun j hj => by
        have hb0 : Below w.heap.size w (w.alloc (.cells #[.slice (some ⟨bb, o, none⟩) 3 cp] 22)) := (Below.refl _ w).alloc (Nat.le_refl _) _
        have hj3 : j = 0 ∨ j = 1 ∨ j = 2 := by simp at hj; omega
        rcases hj3 with rfl | rfl | rfl
        · exact (hb0.cell (p := ⟨bb, o + 0, none⟩) hb).trans c0
        · exact (hb0.cell (p := ⟨bb, o + 1, none⟩) hb).trans c1
        · exact (hb0.cell (p := ⟨bb, o + 2, none⟩) hb).trans c2⟩
    have hm := mid3 a.toNat b.toNat c.toNat
    simp only [List.length_cons, List.length_nil, Nat.zero_add, Nat.reduceAdd] at hS hV ⊢
    go_enter Try.func37, Try.ntmps37
    go_wp2_with (first
      | (go_at_call 76; refine hV.mono ?_; rintro e w1 ⟨rfl, rfl⟩)
      | (go_at_call 75; refine hS.mono ?_; rintro e w1 ⟨g, cap, rfl, hcl, hbl⟩; have hc1 := hcl 1 (by omega)))
    go_ret2
    refine ⟨?_, ((Below.refl _ w).alloc (Nat.le_refl _) _).trans (hbl.mono (by simp))⟩
    rfl
  | a :: b :: c :: d :: l, h, hl =>
    obtain ⟨bb, o, cp, rfl, hc⟩ := h.each (by simp)
    rw [medI_many _ (by simp [ofWm])]
    have hn : (a :: b :: c :: d :: l).length = l.length + 4 := rfl
    rw [hn]
    go_enter Try.func37, Try.ntmps37
    go_wp2
    go_ret2
    exact ⟨rfl, Below.refl _ _⟩
end Go.Proofs.Ytjkofefcoeejbaa

/- Layer 2 (word): what each function of the program computes. -/
namespace Go.Proofs.Ytjkofefcoeejbaa
open Go.RowKit

theorem infoB : (Try.prog.info? 5).map (fun i => (i.zero, i.size, i.bytes)) = some (some (.int .u8 0), 1, 1) := by kernel_rfl
theorem infoW : (Try.prog.info? 24).map (fun i => (i.zero, i.size, i.bytes)) = some (some (.int .u16 0), 1, 2) := by kernel_rfl
theorem infoT : (Try.prog.info? 4).map (fun i => (i.zero, i.size, i.bytes)) = some (some (.bool false), 1, 1) := by kernel_rfl

set_option maxHeartbeats 400000 in
theorem word_Put (n : Int) (w : World) (h0 : 0 ≤ n) (h1 : n < 65536) :
    Calls Try.prog 95 #[.int .u16 n] w fun e w' => e = .returned (.agg #[.int .u8 (n / 256), .int .u8 (n % 256)]) ∧ Below w.heap.size w w' := by
  go_enter Try.func95, Try.ntmps95
  go_wp2
  refine bodyPost_ret (v := .agg #[.int .u8 (n / 256), .int .u8 (n % 256)]) (by simp [results, Try.results95, go_sem]) rfl ?_
  exact ⟨rfl, belowA (Below.refl _ w) _⟩

set_option maxHeartbeats 400000 in
theorem word_Words_no (v : Value) (l : List UInt8) (w : World) (h : RdV encB w v l) (hn : l.length % 2 = 1) :
    Calls Try.prog 98 #[v] w fun e w' => e = .returned (.tuple #[.slice none 0 0, .bool false]) ∧ w = w' := by
  obtain ⟨a, c, rfl, hc, hm, _⟩ := h.open
  have hb : (Go.bits .and .i64 (l.length : Int) 1 == 1) = true := by rw [and1_i64 _ (by omega) (by omega), beq_iff_eq]; omega
  clear hn
  go_enter Try.func98, Try.ntmps98
  go_wp2
  go_ret2
  exact ⟨rfl, rfl⟩
set_option maxRecDepth 100000 in
set_option maxHeartbeats 400000 in
theorem word_Words_yes (v : Value) (l : List UInt8) (w : World) (h : RdV encB w v l) (hn : l.length % 2 = 0) (hl : l.length ≤ 100000) :
    Calls Try.prog 98 #[v] w fun e w' => ∃ v', e = .returned (.tuple #[v', .bool true]) ∧ Own encW 24 w' w.heap.size v' (wWords l) ∧ Below w.heap.size w w' := by
  obtain ⟨a, c, rfl, hc, hm, hcl⟩ := h.open
  have hcl' := Lib.hid hcl
  clear hcl
  have hb : (Go.bits .and .i64 (l.length : Int) 1 == 1) = false := by rw [and1_i64 _ (by omega) (by omega), beq_eq_false_iff_ne]; omega
  have hn' := Lib.hid hn
  clear hn
  go_enter Try.func98, Try.ntmps98
  go_wp2
  go_loopw [4, 5] (fun x i wr => ∃ k : Nat, k ≤ l.length ∧ k % 2 = 0 ∧ i = .int .i64 k ∧ Own encW 24 wr w.heap.size x (wWords (l.take k)) ∧ Below w.heap.size w wr) (fun _ i _ => l.length - (intOf i).toNat)
  case atStart => exact ⟨0, Nat.zero_le _, rfl, rfl, Own.nil _ _ _ _, Below.refl _ _⟩
  case round =>
    obtain ⟨k, hk, hk2, rfl, ho, hB⟩ := hrel
    clear hb
    have hn := hn'.out
    have hcl := hcl'.out
    by_cases hlt : k < l.length
    · obtain ⟨b, o, rfl, hcell⟩ := hcl.resolve_left (by omega)
      have hx0 := hcell k hlt
      have hlx := World.block_lt_of_cell? _ _ hx0
      simp only [] at hlx
      have hx := (hB.cell (p := ⟨b, o + k, none⟩) hlx).trans hx0
      have hy := (hB.cell (p := ⟨b, o + (k + 1), none⟩) hlx).trans (hcell (k + 1) (by omega))
      simp only [encB] at hx hy
      have ag := (fun e => absurd (ho.base b e).1 (by omega) : _ = some b → False)
      have hlr := Nat.lt_of_lt_of_le hlx hB.size
      have hs := Lib.hid (wWords_step l k (by omega) hk2)
      clear hcell hcl hx0
      go_wp2
      have q0 : (0 : Int) ≤ (k : Int) := by omega
      have q1 : (k : Int) < (l.length : Int) := by omega
      have q2 : (0 : Int) ≤ (k : Int) + 1 := by omega
      have q3 : (k : Int) + 1 < (l.length : Int) := by omega
      have q4 : IntKind.i64.wrap ((k : Int) + 1) = (k : Int) + 1 := IntWalk.i64_in _ (by omega)
      have q5 : ((k : Int) + 1).toNat = k + 1 := by omega
      have lenF : ((wWords (l.take k)).length + [mkW l[k] l[k + 1]].length) * 2 ≤ 140737488355328 := by rw [wWords_len, List.length_take, List.length_singleton]; omega
      go_region_held3 (fun w' => w'.cell? ⟨b, o + k, none⟩ = some (.int .u8 (l[k].toNat : Int)) ∧ w'.cell? ⟨b, o + (k + 1), none⟩ = some (.int .u8 (l[k + 1].toNat : Int)))
        (first | (go_split_ands; refine ⟨hg1.cell ?_ (fun e => ag e.symm), hg1.cell ?_ (fun e => ag e.symm)⟩ <;> assumption) | (go_keep; done))
        ((refine step_app (enc := encW) (l := wWords (l.take k)) (m := [mkW l[k] l[k + 1]]) encW_one rfl _ _ _ rfl 24 (.int .u16 0) 2 Try.underlying22 infoW rfl w.heap.size _ rfl (by first | exact ho.drew.alloc _ | exact (ho.alloc _).drew) _ rfl (RdV.drew (RdV.lit encW _ _ [mkW l[k] l[k + 1]] _ _ _ rfl (Nat.le_refl _) (by simp) (by simp [encW, or_mkW]))) (by simp) lenF (by omega) (by first | exact Nat.le_succ_of_le hB.size | (simp; exact Nat.le_succ_of_le hB.size)) ?_; intro v1 w1 ho1 hg1))
      clear q0 q1 q2 q3 q4 q5
      go_wp2
      go_roundw
      case rel => exact ⟨k + 2, by omega, by omega, by go_num, by rw [hs.out]; exact ho1, by first | exact belowG (Below.drew (belowA hB _)) hg1 (fun k hk => (ho.base k hk).1) | exact belowG (belowA (Below.drew hB) _) hg1 (fun k hk => (ho.base k hk).1)⟩
      case measure => simp [intOf]; omega
    · obtain rfl : k = l.length := by omega
      rw [List.take_length] at ho
      go_wp2
      go_ret2
      exact ⟨_, rfl, ho, hB⟩

/-! ### joined, Bytes -/
set_option maxHeartbeats 400000 in
theorem word_Bytes1 (n : UInt16) (w : World) :
    Calls Try.prog 94 #[.int .u16 (n.toNat : Int)] w fun e w' => ∃ v', e = .returned v' ∧ RdV encB w' v' [UInt8.ofNat (n.toNat / 256), UInt8.ofNat (n.toNat % 256)] ∧ Below w.heap.size w w' := by
  have hn := n.toNat_lt
  go_enter Try.func94, Try.ntmps94
  go_wp2_with (go_at_call 95; refine (word_Put _ _ (by omega) (by omega)).mono ?_; rintro e w1 ⟨rfl, hB1⟩)
  go_ret
  exact ⟨_, rfl, RdV.lit encB _ _ _ _ _ _ rfl (Nat.le_refl _) (by simp) (by simp [encB]; omega), belowA hB1 _⟩
set_option maxRecDepth 100000 in
set_option maxHeartbeats 400000 in
theorem word_joined (v : Value) (l : List UInt16) (w : World) (h : RdV encW w v l) (hl : l.length ≤ 100000) :
    Calls Try.prog 93 #[v, .func (.func 94) #[] #[]] w fun e w' => ∃ v', e = .returned v' ∧ Own encB 5 w' w.heap.size v' (wBytes l) ∧ Below w.heap.size w w' := by
  obtain ⟨a, c, rfl, hc, hm, hcl⟩ := h.open
  go_enter Try.func93, Try.ntmps93
  go_wp2
  go_loopw [5, 10] (fun x i wr => ∃ k : Nat, k ≤ l.length ∧ i = .int .i64 k ∧ Own encB 5 wr w.heap.size x (wBytes (l.take k)) ∧ Below w.heap.size w wr) (fun _ i _ => l.length - (intOf i).toNat)
  case atStart => exact ⟨0, Nat.zero_le _, rfl, Own.nil _ _ _ _, Below.refl _ _⟩
  case round =>
    obtain ⟨k, hk, rfl, ho, hB⟩ := hrel
    by_cases hlt : k < l.length
    · obtain ⟨b, o, rfl, hcell⟩ := hcl.resolve_left (by omega)
      have hx0 := hcell k hlt
      have hlx := World.block_lt_of_cell? _ _ hx0
      simp only [] at hlx
      have hx := (hB.cell (p := ⟨b, o + k, none⟩) hlx).trans hx0
      simp only [encW] at hx
      have hs := Lib.hid (wBytes_step l k hlt)
      clear hcell hcl hx0
      have lenF : (wBytes (l.take k)).length + 2 ≤ 140737488355328 := by rw [wBytes_len, List.length_take]; omega
      go_wp2_with (first | (go_at_call 94; refine (word_Bytes1 _ _).mono ?_; rintro e w1 ⟨v1, rfl, hr1, hB1⟩) |
        (at_builtin; refine wp_app (enc := encB) (l := wBytes (l.take k)) (m := [UInt8.ofNat (l[k].toNat / 256), UInt8.ofNat (l[k].toNat % 256)]) encB_one rfl (.tmp 14) (.tmp 17) _ rfl _ _ _ Try.underlying27 infoB rfl w.heap.size _ rfl ?a1 _ rfl ?a2 ?a3 (by omega) ?a4 ?a5))
      case a1 => exact ho.below hB1
      case a2 => exact hr1
      case a3 => rw [Nat.mul_one]; exact lenF
      case a4 => exact (belowT hB hB1).size
      intro v2 w2 ho2 hg2
      go_wp2
      go_roundw
      case rel => exact ⟨k + 1, by omega, by go_num, by rw [hs.out]; exact ho2, belowG (belowT hB hB1) hg2 (fun k hk => (ho.base k hk).1)⟩
      case measure => simp [intOf]; omega
    · obtain rfl : k = l.length := by omega
      rw [List.take_length] at ho
      go_wp2
      go_ret
      exact ⟨_, rfl, ho, hB⟩

theorem word_Bytes (v : Value) (l : List UInt16) (w : World) (h : RdV encW w v l) (hl : l.length ≤ 100000) :
    Calls Try.prog 64 #[v] w fun e w' => ∃ v', e = .returned v' ∧ Own encB 5 w' w.heap.size v' (wBytes l) ∧ Below w.heap.size w w' := by
  go_enter Try.func64, Try.ntmps64
  go_wp2_with (go_at_call 93; refine (word_joined _ _ _ h hl).mono ?_; rintro e w1 ⟨v1, rfl, hr1, hB1⟩)
  go_ret
  exact ⟨_, rfl, hr1, hB1⟩

set_option maxRecDepth 100000 in
set_option maxHeartbeats 400000 in
theorem word_Pack (v : Value) (l : List Bool) (w : World) (h : RdV encT w v l) (hl : l.length ≤ 100000) :
    Calls Try.prog 63 #[v] w fun e w' => ∃ v', e = .returned v' ∧ Own encB 5 w' w.heap.size v' (wPack l) ∧ Below w.heap.size w w' := by
  obtain ⟨a, c, rfl, hc, hm, hcl⟩ := h.open
  obtain ⟨i0, hi0, hz0, hz1, hz2⟩ := info_parts infoB
  have hdiv : ((l.length : Int) + 8 - 1) / 8 = (((l.length + 7) / 8 : Nat) : Int) := by omega
  go_enter Try.func63, Try.ntmps63
  go_wp2_with (at_make; refine wpList_make_full _ rfl _ _ 27 rfl w.heap.size 5 i0 (.int .u8 0) 1 Try.underlying27 hi0 hz0 hz1 _ _ _ _ ((l.length + 7) / 8) rfl rfl ?a1 ?a2 ?a3 ?a4 ?a5 ?_)
  case a1 => exact hdiv
  case a2 => exact hdiv
  case a3 => rw [hz2]; omega
  case a4 => simp only [maxLen]; omega
  case a5 => exact Nat.le_refl _
  intro w1 hown hg1
  have ho1 : Own encB 5 w1 w.heap.size (.slice (some ⟨w.heap.size, 0, none⟩) ((l.length + 7) / 8) ((l.length + 7) / 8)) (pk (l.take 0) ((l.length + 7) / 8)) := by
    rw [List.take_zero, pk_nil]; exact Own.made (0 : UInt8) hown (by omega)
  have hB1 := belowG (Below.refl _ w) hg1 (by simp)
  clear hown hg1
  go_wp2
  go_loopw [14] (fun i wr => ∃ k : Nat, k ≤ l.length ∧ i = .int .i64 k ∧ Own encB 5 wr w.heap.size (.slice (some ⟨w.heap.size, 0, none⟩) ((l.length + 7) / 8) ((l.length + 7) / 8)) (pk (l.take k) ((l.length + 7) / 8)) ∧ Below w.heap.size w wr) (fun i _ => l.length - (intOf i).toNat)
  case atStart => exact ⟨0, Nat.zero_le _, rfl, ho1, hB1⟩
  case round =>
    clear ho1 hB1
    obtain ⟨k, hk, rfl, ho, hB⟩ := hrel
    by_cases hlt : k < l.length
    · obtain ⟨b, o, rfl, hcell⟩ := hcl.resolve_left (by omega)
      have hx0 := hcell k hlt
      have hlx := World.block_lt_of_cell? _ _ hx0
      simp only [] at hlx
      have hx := (hB.cell (p := ⟨b, o + k, none⟩) hlx).trans hx0
      simp only [encT] at hx
      have hn : k / 8 < (pk (l.take k) ((l.length + 7) / 8)).length := by rw [pk_len]; omega
      cases hv : l[k] with
      | false =>
        rw [hv] at hx
        have hs := Lib.hid (pk_false l k ((l.length + 7) / 8) hlt hv)
        clear hcell hcl hx0 hv
        go_wp2
        go_roundw
        case rel => exact ⟨k + 1, by omega, by go_num, by rw [hs.out]; exact ho, hB⟩
        case measure => simp [intOf]; omega
      | true =>
        rw [hv] at hx
        have hs := Lib.hid (pk_true l k ((l.length + 7) / 8) hlt hv hn).1
        have hc8 := (pk_true l k ((l.length + 7) / 8) hlt hv hn).2
        obtain ⟨hca, hfa⟩ := ho.at (k / 8) hn
        have hset := ho.set (k / 8) (UInt8.ofNat ((pk (l.take k) ((l.length + 7) / 8))[k / 8].toNat + 2 ^ (k % 8)))
        simp only [encB] at hca hset
        have hor := Lib.hid (or_bit _ (k % 8) (by omega) hc8)
        clear hcell hcl hx0 hv
        go_wp2
        go_region
        rw [hor.out]
        go_wp2
        go_roundw
        case rel => exact ⟨k + 1, by omega, by go_num, by rw [hs.out]; exact hset.1.drew, Below.drew (belowG hB hset.2 (by simp))⟩
        case measure => simp [intOf]; omega
    · obtain rfl : k = l.length := by omega
      rw [List.take_length, pk_all] at ho
      go_wp2
      go_ret
      exact ⟨_, rfl, ho, hB⟩

/-! ### Bits -/
set_option maxRecDepth 100000 in
set_option maxHeartbeats 800000 in
theorem word_Bits_no (v : Value) (b : List UInt8) (n : Int) (w : World) (h : RdV encB w v b) (hn : n < 0 ∨ ¬ bitsFit b n.toNat) (hx1 : n ≤ 9223372036854775807) (hx0 : -9223372036854775808 ≤ n) :
    Calls Try.prog 96 #[v, .int .i64 n] w fun e w' => e = .returned (.tuple #[.slice none 0 0, .bool false]) ∧ w = w' := by
  obtain ⟨a, c, rfl, hc, hm, hcl⟩ := h.open
  by_cases h0 : n < 0
  · clear hn hcl
    go_enter Try.func96, Try.ntmps96
    go_wp2
    go_ret2
    exact ⟨rfl, rfl⟩
  · obtain ⟨m, rfl⟩ := Int.eq_ofNat_of_zero_le (by omega : 0 ≤ n)
    have hf := Lib.hid (hn.resolve_left h0)
    rw [Int.toNat_natCast] at hf
    clear hn
    by_cases hl : b.length = (m + 7) / 8
    · have q1 : (((b.length : Nat) : Int) != (m : Int) / 8 + ((m : Int) % 8 + 8 - 1) / 8) = false := by rw [bne_eq_false_iff_eq]; omega
      have h8 : 0 < m % 8 := by
        rcases Nat.eq_zero_or_pos (m % 8) with h | h
        · exact absurd ⟨hl, .inl h⟩ hf.out
        · exact h
      have hne : ¬ (b.getD (m / 8) 0).toNat / 2 ^ (m % 8) = 0 := fun h => hf.out ⟨hl, .inr h⟩
      obtain ⟨g, o, rfl, hcell⟩ := hcl.resolve_left (by omega)
      have hx := hcell (b.length - 1) (by omega)
      have e1 : b[b.length - 1]'(by omega) = b.getD (m / 8) 0 := by
        rw [List.getD_eq_getElem?_getD, List.getElem?_eq_getElem (by omega), Option.getD_some]
        congr 1; omega
      rw [e1] at hx
      simp only [encB] at hx
      generalize b.getD (m / 8) 0 = y at *
      have hl' := Lib.hid hl
      have hlb : 1 ≤ b.length := by omega
      have hne' : ((y.toNat : Int) / 2 ^ (m % 8) != 0) = true := by rw [shr_nat, bne_iff_ne]; omega
      clear hcell hcl e1 hl hne
      go_enter Try.func96, Try.ntmps96
      go_wp2
      go_ret2
      exact ⟨rfl, rfl⟩
    · have q1 : (((b.length : Nat) : Int) != (m : Int) / 8 + ((m : Int) % 8 + 8 - 1) / 8) = true := by rw [bne_iff_ne]; omega
      clear hcl hl
      go_enter Try.func96, Try.ntmps96
      go_wp2
      go_ret2
      exact ⟨rfl, rfl⟩

set_option maxRecDepth 100000 in
set_option maxHeartbeats 800000 in
theorem word_Bits_yes (v : Value) (b : List UInt8) (m : Nat) (w : World) (h : RdV encB w v b) (hf : bitsFit b m) (hx : m ≤ 800000) :
    Calls Try.prog 96 #[v, .int .i64 (m : Int)] w fun e w' => ∃ v', e = .returned (.tuple #[v', .bool true]) ∧ Own encT 4 w' w.heap.size v' (wBitsL b m) ∧ Below w.heap.size w w' := by
  obtain ⟨a, c, rfl, hc, hm, hcl⟩ := h.open
  have hl := hf.1
  have hf' := Lib.hid hf
  have q1 : (((b.length : Nat) : Int) != (m : Int) / 8 + ((m : Int) % 8 + 8 - 1) / 8) = false := by rw [bne_eq_false_iff_eq]; omega
  have hl' := Lib.hid hl
  have hcl' := Lib.hid hcl
  clear hl hcl hf
  by_cases h8 : m % 8 = 0
  · have h8' := Lib.hid h8
    have hd : ((m : Int) % 8) ≤ 0 := by omega
    clear h8
    go_enter Try.func96, Try.ntmps96
    go_wp2
    go_loopw [7, 40] (fun x i wr => ∃ k : Nat, k ≤ m ∧ i = .int .i64 k ∧ Own encT 4 wr w.heap.size x (wBitsL b k) ∧ Below w.heap.size w wr) (fun _ i _ => m - (intOf i).toNat)
    case atStart => exact ⟨0, Nat.zero_le _, rfl, Own.nil _ _ _ _, Below.refl _ _⟩
    case round =>
      obtain ⟨k, hk, rfl, ho, hB⟩ := hrel
      by_cases hlt : k < m
      · have hlk : k / 8 < b.length := by have := hl'.out; omega
        obtain ⟨g, o, he, hcell⟩ := hcl'.out.resolve_left (by omega)
        have hx0 := hcell (k / 8) hlk
        have e1 : b[k / 8] = b.getD (k / 8) 0 := by rw [List.getD_eq_getElem?_getD, List.getElem?_eq_getElem hlk, Option.getD_some]
        rw [e1] at hx0
        have hlx := World.block_lt_of_cell? _ _ hx0
        simp only [] at hlx
        have hx := (hB.cell (p := ⟨g, o + k / 8, none⟩) hlx).trans hx0
        simp only [encB] at hx
        have hv := and_bit (b.getD (k / 8) 0) (k % 8)
        have hs := Lib.hid (wBitsL_step b k)
        have lenF : (wBitsL b k).length + 1 ≤ 140737488355328 := by rw [wBitsL_len]; omega
        generalize b.getD (k / 8) 0 = y at *
        clear hcell hx0 e1
        cases he
        go_wp2_with (at_builtin; refine wp_app (enc := encT) (l := wBitsL b k) (m := [bitsOf y (k % 8)]) encT_one rfl (.tmp 43) (.tmp 54) _ rfl _ _ _ Try.underlying23 infoT rfl w.heap.size _ rfl (ho.alloc _) _ rfl ?a2 ?a3 (by omega) ?a4 ?a5)
        case a2 => exact RdV.lit encT _ _ [bitsOf y (k % 8)] _ _ _ rfl (Nat.le_refl _) (by simp) (by simp [encT])
        case a3 => rw [Nat.mul_one]; exact lenF
        case a4 => exact Nat.le_trans hB.size (by simp)
        intro v2 w2 ho2 hg2
        clear hv
        go_wp2
        go_roundw
        case rel => exact ⟨k + 1, by omega, by go_num, by rw [hs.out]; exact ho2, belowG (belowA hB _) hg2 (fun k hk => (ho.base k hk).1)⟩
        case measure => simp [intOf]; omega
      · obtain rfl : k = m := by omega
        go_wp2
        go_ret2
        exact ⟨_, rfl, ho, hB⟩
  · have hd : 0 < m % 8 := by omega
    obtain ⟨g0, o0, he0, hcell0⟩ := hcl'.out.resolve_left (by have := hl'.out; omega)
    have hlb : 1 ≤ b.length := by have := hl'.out; omega
    have hx1 := hcell0 (b.length - 1) (by omega)
    have e0 : b[b.length - 1]'(by omega) = b.getD (m / 8) 0 := by
      rw [List.getD_eq_getElem?_getD, List.getElem?_eq_getElem (by have := hl'.out; omega), Option.getD_some]
      congr 1; have := hl'.out; omega
    rw [e0] at hx1
    simp only [encB] at hx1
    have hne : (((b.getD (m / 8) 0).toNat : Int) / 2 ^ (m % 8) != 0) = false := by
      rw [shr_nat, bne_eq_false_iff_eq]; have := hf'.out.2.resolve_left h8; omega
    generalize b.getD (m / 8) 0 = y0 at *
    clear hcell0 e0
    subst he0
    go_enter Try.func96, Try.ntmps96
    go_wp2
    go_loopw [7, 40] (fun x i wr => ∃ k : Nat, k ≤ m ∧ i = .int .i64 k ∧ Own encT 4 wr w.heap.size x (wBitsL b k) ∧ Below w.heap.size w wr) (fun _ i _ => m - (intOf i).toNat)
    case atStart => exact ⟨0, Nat.zero_le _, rfl, Own.nil _ _ _ _, Below.refl _ _⟩
    case round =>
      obtain ⟨k, hk, rfl, ho, hB⟩ := hrel
      by_cases hlt : k < m
      · have hlk : k / 8 < b.length := by have := hl'.out; omega
        obtain ⟨g, o, he, hcell⟩ := hcl'.out.resolve_left (by omega)
        have hx0 := hcell (k / 8) hlk
        have e1 : b[k / 8] = b.getD (k / 8) 0 := by rw [List.getD_eq_getElem?_getD, List.getElem?_eq_getElem hlk, Option.getD_some]
        rw [e1] at hx0
        have hlx := World.block_lt_of_cell? _ _ hx0
        simp only [] at hlx
        have hx := (hB.cell (p := ⟨g, o + k / 8, none⟩) hlx).trans hx0
        simp only [encB] at hx
        have hv := and_bit (b.getD (k / 8) 0) (k % 8)
        have hs := Lib.hid (wBitsL_step b k)
        have lenF : (wBitsL b k).length + 1 ≤ 140737488355328 := by rw [wBitsL_len]; omega
        generalize b.getD (k / 8) 0 = y at *
        clear hcell hx0 e1
        cases he
        go_wp2_with (at_builtin; refine wp_app (enc := encT) (l := wBitsL b k) (m := [bitsOf y (k % 8)]) encT_one rfl (.tmp 43) (.tmp 54) _ rfl _ _ _ Try.underlying23 infoT rfl w.heap.size _ rfl (ho.alloc _) _ rfl ?d2 ?d3 (by omega) ?d4 ?d5)
        case d2 => exact RdV.lit encT _ _ [bitsOf y (k % 8)] _ _ _ rfl (Nat.le_refl _) (by simp) (by simp [encT])
        case d3 => rw [Nat.mul_one]; exact lenF
        case d4 => exact Nat.le_trans hB.size (by simp)
        intro v2 w2 ho2 hg2
        clear hv
        go_wp2
        go_roundw
        case rel => exact ⟨k + 1, by omega, by go_num, by rw [hs.out]; exact ho2, belowG (belowA hB _) hg2 (fun k hk => (ho.base k hk).1)⟩
        case measure => simp [intOf]; omega
      · obtain rfl : k = m := by omega
        go_wp2
        go_ret2
        exact ⟨_, rfl, ho, hB⟩
end Go.Proofs.Ytjkofefcoeejbaa

/- The reference of layer 2: what its functions compute. -/
namespace Go.Proofs.Ytjkofefcoeejbaa
open Go.RowKit

set_option maxHeartbeats 400000 in
theorem refW_Words_no (v : Value) (l : List UInt8) (w : World) (h : RdV encB w v l) (hn : l.length % 2 = 1) :
    Calls Try.prog 89 #[v] w fun e w' => e = .returned (.tuple #[.slice none 0 0, .bool false]) ∧ w = w' := by
  obtain ⟨a, c, rfl, hc, hm, _⟩ := h.open
  have hb : ((l.length : Int) % 2 == 1) = true := by rw [beq_iff_eq]; omega
  clear hn
  go_enter Try.func89, Try.ntmps89
  go_wp2
  go_ret2
  exact ⟨rfl, rfl⟩
set_option maxRecDepth 100000 in
set_option maxHeartbeats 400000 in
theorem refW_Words_yes (v : Value) (l : List UInt8) (w : World) (h : RdV encB w v l) (hn : l.length % 2 = 0) (hl : l.length ≤ 100000) :
    Calls Try.prog 89 #[v] w fun e w' => ∃ v', e = .returned (.tuple #[v', .bool true]) ∧ Own encW 24 w' w.heap.size v' (wWords l) ∧ Below w.heap.size w w' := by
  obtain ⟨a, c, rfl, hc, hm, hcl⟩ := h.open
  have hcl' := Lib.hid hcl
  clear hcl
  have hb : ((l.length : Int) % 2 == 1) = false := by rw [beq_eq_false_iff_ne]; omega
  have hn' := Lib.hid hn
  clear hn
  go_enter Try.func89, Try.ntmps89
  go_wp2
  go_loopw [4, 5] (fun x i wr => ∃ k : Nat, k ≤ l.length ∧ k % 2 = 0 ∧ i = .int .i64 k ∧ Own encW 24 wr w.heap.size x (wWords (l.take k)) ∧ Below w.heap.size w wr) (fun _ i _ => l.length - (intOf i).toNat)
  case atStart => exact ⟨0, Nat.zero_le _, rfl, rfl, Own.nil _ _ _ _, Below.refl _ _⟩
  case round =>
    obtain ⟨k, hk, hk2, rfl, ho, hB⟩ := hrel
    clear hb
    have hn := hn'.out
    have hcl := hcl'.out
    by_cases hlt : k < l.length
    · obtain ⟨b, o, rfl, hcell⟩ := hcl.resolve_left (by omega)
      have hx0 := hcell k hlt
      have hlx := World.block_lt_of_cell? _ _ hx0
      simp only [] at hlx
      have hx := (hB.cell (p := ⟨b, o + k, none⟩) hlx).trans hx0
      have hy := (hB.cell (p := ⟨b, o + (k + 1), none⟩) hlx).trans (hcell (k + 1) (by omega))
      simp only [encB] at hx hy
      have ag := (fun e => absurd (ho.base b e).1 (by omega) : _ = some b → False)
      have hlr := Nat.lt_of_lt_of_le hlx hB.size
      have hs := Lib.hid (wWords_step l k (by omega) hk2)
      clear hcell hcl hx0
      go_wp2
      have q0 : (0 : Int) ≤ (k : Int) := by omega
      have q1 : (k : Int) < (l.length : Int) := by omega
      have q2 : (0 : Int) ≤ (k : Int) + 1 := by omega
      have q3 : (k : Int) + 1 < (l.length : Int) := by omega
      have q4 : IntKind.i64.wrap ((k : Int) + 1) = (k : Int) + 1 := IntWalk.i64_in _ (by omega)
      have q5 : ((k : Int) + 1).toNat = k + 1 := by omega
      have lenF : ((wWords (l.take k)).length + [mkW l[k] l[k + 1]].length) * 2 ≤ 140737488355328 := by rw [wWords_len, List.length_take, List.length_singleton]; omega
      go_region_held3 (fun w' => w'.cell? ⟨b, o + k, none⟩ = some (.int .u8 (l[k].toNat : Int)) ∧ w'.cell? ⟨b, o + (k + 1), none⟩ = some (.int .u8 (l[k + 1].toNat : Int)))
        (first | (go_split_ands; refine ⟨hg1.cell ?_ (fun e => ag e.symm), hg1.cell ?_ (fun e => ag e.symm)⟩ <;> assumption) | (go_keep; done))
        ((refine step_app (enc := encW) (l := wWords (l.take k)) (m := [mkW l[k] l[k + 1]]) encW_one rfl _ _ _ rfl 24 (.int .u16 0) 2 Try.underlying22 infoW rfl w.heap.size _ rfl (by first | exact ho.drew.alloc _ | exact (ho.alloc _).drew) _ rfl (RdV.drew (RdV.lit encW _ _ [mkW l[k] l[k + 1]] _ _ _ rfl (Nat.le_refl _) (by simp) (by simp [encW, add_mkW]))) (by simp) lenF (by omega) (by first | exact Nat.le_succ_of_le hB.size | (simp; exact Nat.le_succ_of_le hB.size)) ?_; intro v1 w1 ho1 hg1))
      clear q0 q1 q2 q3 q4 q5
      go_wp2
      go_roundw
      case rel => exact ⟨k + 2, by omega, by omega, by go_num, by rw [hs.out]; exact ho1, by first | exact belowG (Below.drew (belowA hB _)) hg1 (fun k hk => (ho.base k hk).1) | exact belowG (belowA (Below.drew hB) _) hg1 (fun k hk => (ho.base k hk).1)⟩
      case measure => simp [intOf]; omega
    · obtain rfl : k = l.length := by omega
      rw [List.take_length] at ho
      go_wp2
      go_ret2
      exact ⟨_, rfl, ho, hB⟩


set_option maxHeartbeats 400000 in
theorem refW_Same (v1 v2 : Value) (l1 l2 : List UInt16) (w : World) (h1 : RdV encW w v1 l1) (h2 : RdV encW w v2 l2) :
    Calls Try.prog 55 #[v1, v2] w fun e w' => e = .returned (.bool (decide (l1 = l2))) ∧ ∃ n, w' = w.drewN n := by
  obtain ⟨a1, c1, rfl, hc1, hm1, hl1⟩ := h1.open
  obtain ⟨a2, c2, rfl, hc2, hm2, hl2⟩ := h2.open
  clear h1 h2
  by_cases hlen : l1.length = l2.length
  · have hd : (((l1.length : Nat) : Int) != ((l2.length : Nat) : Int)) = false := by simp [hlen]
    have hlen' := Lib.hid hlen
    clear hlen
    go_enter Try.func55, Try.ntmps55
    go_wp2
    go_loopw [5] (fun i wr => ∃ k : Nat, k ≤ l1.length ∧ i = .int .i64 k ∧ l1.take k = l2.take k ∧ ∃ n, wr = w.drewN n) (fun i _ => l1.length - (intOf i).toNat)
    case atStart => exact ⟨0, Nat.zero_le _, rfl, rfl, 0, rfl⟩
    case round =>
      obtain ⟨k, hk, rfl, heq, n, rfl⟩ := hrel
      have heq' := Lib.hid heq
      clear heq
      by_cases hlt : k < l1.length
      · obtain ⟨b1, o1, rfl, hcell1⟩ := hl1.resolve_left (by omega)
        obtain ⟨b2, o2, rfl, hcell2⟩ := hl2.resolve_left (by have := hlen'.out; omega)
        have hlt2 : k < l2.length := by have := hlen'.out; omega
        have hx1 := hcell1 k hlt
        have hx2 := hcell2 k hlt2
        unfold encW at hx1 hx2
        clear hcell1 hcell2 hl1 hl2
        by_cases hxy : l1[k] = l2[k]
        · have hxy' := Lib.hid hxy
          have hn : ((l1[k].toNat : Int) != (l2[k].toNat : Int)) = false := by rw [hxy]; simp
          clear hxy
          go_wp2
          go_quiet (fail)
          go_wp2
          go_roundw
          case rel => exact ⟨k + 1, by omega, by go_num, by rw [List.take_succ_eq_append_getElem hlt, List.take_succ_eq_append_getElem hlt2, heq'.out, hxy'.out], _, rfl⟩
          case measure => simp [intOf]; omega
        · have hn : ((l1[k].toNat : Int) != (l2[k].toNat : Int)) = true := by
            rw [bne_iff_ne]; intro h; apply hxy; exact UInt16.toNat_inj.1 (by omega)
          have hfin := Lib.hid (show decide (l1 = l2) = false by rw [decide_eq_false_iff_not]; rintro rfl; exact hxy rfl)
          clear hxy
          go_wp2
          go_quiet (fail)
          go_wp2
          go_ret
          exact ⟨by rw [hfin.out]; rfl, _, World.drewN_drewN _ _ _⟩
      · obtain rfl : k = l1.length := by omega
        have hfin := Lib.hid (show decide (l1 = l2) = true by
          rw [decide_eq_true_iff]
          have := heq'.out
          rw [List.take_length, hlen'.out, List.take_length] at this
          exact this)
        go_wp2
        go_ret
        exact ⟨by rw [hfin.out]; rfl, n, rfl⟩
  · have hd : (((l1.length : Nat) : Int) != ((l2.length : Nat) : Int)) = true := by rw [bne_iff_ne]; omega
    have hfin := Lib.hid (show decide (l1 = l2) = false by rw [decide_eq_false_iff_not]; rintro rfl; exact hlen rfl)
    clear hlen
    go_enter Try.func55, Try.ntmps55
    go_wp2
    go_ret
    exact ⟨by rw [hfin.out]; rfl, 0, rfl⟩

set_option maxHeartbeats 400000 in
theorem refW_SameBits (v1 v2 : Value) (l1 l2 : List Bool) (w : World) (h1 : RdV encT w v1 l1) (h2 : RdV encT w v2 l2) :
    Calls Try.prog 56 #[v1, v2] w fun e w' => e = .returned (.bool (decide (l1 = l2))) ∧ ∃ n, w' = w.drewN n := by
  obtain ⟨a1, c1, rfl, hc1, hm1, hl1⟩ := h1.open
  obtain ⟨a2, c2, rfl, hc2, hm2, hl2⟩ := h2.open
  clear h1 h2
  by_cases hlen : l1.length = l2.length
  · have hd : (((l1.length : Nat) : Int) != ((l2.length : Nat) : Int)) = false := by simp [hlen]
    have hlen' := Lib.hid hlen
    clear hlen
    go_enter Try.func56, Try.ntmps56
    go_wp2
    go_loopw [5] (fun i wr => ∃ k : Nat, k ≤ l1.length ∧ i = .int .i64 k ∧ l1.take k = l2.take k ∧ ∃ n, wr = w.drewN n) (fun i _ => l1.length - (intOf i).toNat)
    case atStart => exact ⟨0, Nat.zero_le _, rfl, rfl, 0, rfl⟩
    case round =>
      obtain ⟨k, hk, rfl, heq, n, rfl⟩ := hrel
      have heq' := Lib.hid heq
      clear heq
      by_cases hlt : k < l1.length
      · obtain ⟨b1, o1, rfl, hcell1⟩ := hl1.resolve_left (by omega)
        obtain ⟨b2, o2, rfl, hcell2⟩ := hl2.resolve_left (by have := hlen'.out; omega)
        have hlt2 : k < l2.length := by have := hlen'.out; omega
        have hx1 := hcell1 k hlt
        have hx2 := hcell2 k hlt2
        unfold encT at hx1 hx2
        clear hcell1 hcell2 hl1 hl2
        by_cases hxy : l1[k] = l2[k]
        · have hxy' := Lib.hid hxy
          have hn : (!(l1[k] == l2[k])) = false := by rw [hxy]; simp
          clear hxy
          go_wp2
          go_quiet (fail)
          go_wp2
          go_roundw
          case rel => exact ⟨k + 1, by omega, by go_num, by rw [List.take_succ_eq_append_getElem hlt, List.take_succ_eq_append_getElem hlt2, heq'.out, hxy'.out], _, rfl⟩
          case measure => simp [intOf]; omega
        · have hn : (!(l1[k] == l2[k])) = true := by
            simp [hxy]
          have hfin := Lib.hid (show decide (l1 = l2) = false by rw [decide_eq_false_iff_not]; rintro rfl; exact hxy rfl)
          clear hxy
          go_wp2
          go_quiet (fail)
          go_wp2
          go_ret
          exact ⟨by rw [hfin.out]; rfl, _, World.drewN_drewN _ _ _⟩
      · obtain rfl : k = l1.length := by omega
        have hfin := Lib.hid (show decide (l1 = l2) = true by
          rw [decide_eq_true_iff]
          have := heq'.out
          rw [List.take_length, hlen'.out, List.take_length] at this
          exact this)
        go_wp2
        go_ret
        exact ⟨by rw [hfin.out]; rfl, n, rfl⟩
  · have hd : (((l1.length : Nat) : Int) != ((l2.length : Nat) : Int)) = true := by rw [bne_iff_ne]; omega
    have hfin := Lib.hid (show decide (l1 = l2) = false by rw [decide_eq_false_iff_not]; rintro rfl; exact hlen rfl)
    clear hlen
    go_enter Try.func56, Try.ntmps56
    go_wp2
    go_ret
    exact ⟨by rw [hfin.out]; rfl, 0, rfl⟩

set_option maxHeartbeats 400000 in
theorem refW_Put (n : Int) (w : World) (h0 : 0 ≤ n) (h1 : n < 65536) :
    Calls Try.prog 121 #[.int .u16 n] w fun e w' => e = .returned (.agg #[.int .u8 (n / 256), .int .u8 (n % 256)]) ∧ Below w.heap.size w w' := by
  have hd := div_u16 n 256 h0 h1 (by omega)
  go_enter Try.func121, Try.ntmps121
  go_wp2
  refine bodyPost_ret (v := .agg #[.int .u8 (n / 256), .int .u8 (n % 256)]) (by simp [results, Try.results121, go_sem]) rfl ?_
  exact ⟨rfl, belowA (Below.refl _ w) _⟩
set_option maxRecDepth 100000 in
set_option maxHeartbeats 400000 in
theorem refW_Bytes (v : Value) (l : List UInt16) (w : World) (h : RdV encW w v l) (hl : l.length ≤ 100000) :
    Calls Try.prog 82 #[v] w fun e w' => ∃ v', e = .returned v' ∧ Own encB 5 w' w.heap.size v' (wBytes l) ∧ Below w.heap.size w w' := by
  obtain ⟨a, c, rfl, hc, hm, hcl⟩ := h.open
  go_enter Try.func82, Try.ntmps82
  go_wp2
  go_loopw [3, 4] (fun x i wr => ∃ k : Nat, k ≤ l.length ∧ i = .int .i64 k ∧ Own encB 5 wr w.heap.size x (wBytes (l.take k)) ∧ Below w.heap.size w wr) (fun _ i _ => l.length - (intOf i).toNat)
  case atStart => exact ⟨0, Nat.zero_le _, rfl, Own.lit encB w _ _ (Nat.le_refl _) [] _ _ rfl (by simp) rfl, belowA (Below.refl _ w) _⟩
  case round =>
    obtain ⟨k, hk, rfl, ho, hB⟩ := hrel
    by_cases hlt : k < l.length
    · obtain ⟨b, o, rfl, hcell⟩ := hcl.resolve_left (by omega)
      have hx0 := hcell k hlt
      have hlx := World.block_lt_of_cell? _ _ hx0
      simp only [] at hlx
      have hx := (hB.cell (p := ⟨b, o + k, none⟩) hlx).trans hx0
      simp only [encW] at hx
      have hs := Lib.hid (wBytes_step l k hlt)
      have lenF : (wBytes (l.take k)).length + 2 ≤ 140737488355328 := by rw [wBytes_len, List.length_take]; omega
      have hn := l[k].toNat_lt
      clear hcell hcl hx0
      generalize l[k] = n at *
      go_wp2_with (first | (go_at_call 121; refine (refW_Put _ _ (by omega) (by omega)).mono ?_; rintro e w1 ⟨rfl, hB1⟩) |
        (at_builtin; refine wp_app (enc := encB) (l := wBytes (l.take k)) (m := [UInt8.ofNat (n.toNat / 256), UInt8.ofNat (n.toNat % 256)]) encB_one rfl (.tmp 18) (.tmp 23) _ rfl _ _ _ Try.underlying27 infoB rfl w.heap.size _ rfl (((ho.below hB1).alloc _).alloc _) _ rfl ?a2 ?a3 (by omega) ?a4 ?a5))
      case a2 => exact RdV.litg encB _ _ [UInt8.ofNat (n.toNat / 256), UInt8.ofNat (n.toNat % 256)] _ _ _ _ (by simp) rfl (Nat.le_refl _) (by simp) (by simp [encB]; omega)
      case a3 => rw [Nat.mul_one]; exact lenF
      case a4 => exact (belowA (belowA (belowT hB hB1) _) _).size
      intro v2 w2 ho2 hg2
      go_wp2
      go_roundw
      case rel => exact ⟨k + 1, by omega, by go_num, by rw [hs.out]; exact ho2, belowG (belowA (belowA (belowT hB hB1) _) _) hg2 (fun k hk => (ho.base k hk).1)⟩
      case measure => simp [intOf]; omega
    · obtain rfl : k = l.length := by omega
      rw [List.take_length] at ho
      go_wp2
      go_ret
      exact ⟨_, rfl, ho, hB⟩

set_option maxRecDepth 100000 in
set_option maxHeartbeats 800000 in
theorem refW_Pack (v : Value) (l : List Bool) (w : World) (h : RdV encT w v l) (hl : l.length ≤ 1000000) :
    Calls Try.prog 83 #[v] w fun e w' => ∃ v', e = .returned v' ∧ Own encB 5 w' w.heap.size v' (wPack l) ∧ Below w.heap.size w w' := by
  obtain ⟨a, c, rfl, hc, hm, hcl⟩ := h.open
  go_enter Try.func83, Try.ntmps83
  go_wp2
  go_loopw [3, 4, 5] (fun x y i wr => ∃ k e : Nat, k ≤ l.length ∧ e ≤ 8 ∧ e % 8 = k % 8 ∧ i = .int .i64 k ∧ y = .int .i64 (2 ^ e) ∧ Own encB 5 wr w.heap.size x (wPack (l.take k)) ∧ Below w.heap.size w wr) (fun _ _ i _ => l.length - (intOf i).toNat)
  case atStart => exact ⟨0, 0, Nat.zero_le _, by omega, rfl, rfl, rfl, (by rw [List.take_zero]; exact Own.lit encB w _ _ (Nat.le_refl _) [] _ _ rfl (by simp) rfl), belowA (Below.refl _ w) _⟩
  case round =>
    obtain ⟨k, e, hk, he, hek, rfl, rfl, ho, hB⟩ := hrel
    have hpe : (0 : Int) < 2 ^ e := Int.pow_pos (by omega)
    have hpe2 : (2 : Int) ^ e ≤ 256 := by
      have : (2 : Nat) ^ e ≤ 2 ^ 8 := Nat.pow_le_pow_right (by omega) he
      have h : (((2 : Nat) ^ e : Nat) : Int) ≤ ((2 ^ 8 : Nat) : Int) := by exact_mod_cast this
      simpa using h
    by_cases hlt : k < l.length
    · obtain ⟨b, o, rfl, hcell⟩ := hcl.resolve_left (by omega)
      have hx0 := hcell k hlt
      have hlx := World.block_lt_of_cell? _ _ hx0
      simp only [] at hlx
      have hx := (hB.cell (p := ⟨b, o + k, none⟩) hlx).trans hx0
      simp only [encT] at hx
      have lenF : (wPack (l.take k)).length + 1 ≤ 140737488355328 := by rw [wPack_len, List.length_take]; omega
      have hW := Lib.hid (pk_wPack l k hlt)
      by_cases h8 : k % 8 = 0
      · have hd : ((k : Int) % 8 == 0) = true := by rw [beq_iff_eq]; omega
        have hM := Lib.hid (pk_more l k hlt h8)
        have h8' := Lib.hid h8
        clear hcell hcl hx0 h8 hek
        go_wp2_with (at_builtin; refine wp_app (enc := encB) (l := wPack (l.take k)) (m := [0]) encB_one rfl (.tmp 16) (.tmp 17) _ rfl _ _ _ Try.underlying27 infoB rfl w.heap.size _ rfl (ho.alloc _) _ rfl ?a2 ?a3 (by omega) ?a4 ?a5)
        case a2 => exact RdV.lit encB _ _ [0] _ _ _ rfl (Nat.le_refl _) (by simp) (by simp [encB])
        case a3 => rw [Nat.mul_one]; exact lenF
        case a4 => exact (belowA hB _).size
        intro v2 w2 ho2 hg2
        rw [hM.out] at ho2
        have hB2 := belowG (belowA hB _) hg2 (fun k hk => (ho.base k hk).1)
        have hx2 := (hB2.cell (p := ⟨b, o + k, none⟩) hlx).trans ((hB.cell (p := ⟨b, o + k, none⟩) hlx).symm.trans hx)
        clear hg2 ho hB hx hd
        have h80 : k % 8 = 0 := h8'.out
        obtain ⟨g, cap, rfl, hgb, hgl⟩ := ho2.block (by rw [pk_len]; omega)
        rw [pk_len] at ho2 ⊢
        cases hv : l[k] with
        | false =>
          rw [hv] at hx2
          have hs := Lib.hid ((pk_false l k (k / 8 + 1) hlt hv).symm.trans hW.out)
          clear hv
          go_wp2
          go_roundw
          case rel => exact ⟨k + 1, 1, by omega, by omega, by omega, by go_num, by rw [Int.pow_succ, Int.mul_comm]; rfl, by rw [← hs.out]; exact ho2, hB2⟩
          case measure => simp [intOf]; omega
        | true =>
          rw [hv] at hx2
          have hn : k / 8 < (pk (l.take k) (k / 8 + 1)).length := by rw [pk_len]; omega
          have hp := pk_true l k (k / 8 + 1) hlt hv hn
          have hs := Lib.hid (hp.1.symm.trans hW.out)
          have hc8 := hp.2
          obtain ⟨hca, hfa⟩ := ho2.at (k / 8) hn
          have hset := ho2.set (k / 8) (UInt8.ofNat ((pk (l.take k) (k / 8 + 1))[k / 8].toNat + 2 ^ (k % 8)))
          simp only [encB] at hca hset
          clear hv hp
          go_wp2
          have hv1 : (((pk (l.take k) (k / 8 + 1))[k / 8].toNat : Int) + 1) % 256 = ((UInt8.ofNat ((pk (l.take k) (k / 8 + 1))[k / 8].toNat + 2 ^ (k % 8))).toNat : Int) := by
            rw [UInt8.toNat_ofNat', h80]; omega
          rw [hv1]
          go_roundw
          case rel => exact ⟨k + 1, 1, by omega, by omega, by omega, by go_num, rfl, by rw [← hs.out]; exact hset.1, belowG hB2 hset.2 (by simp; exact hgb)⟩
          case measure => simp [intOf]; omega
      · have hd : ((k : Int) % 8 == 0) = false := by rw [beq_eq_false_iff_ne]; omega
        obtain rfl : e = k % 8 := by omega
        rw [pk_enough l k hlt h8] at ho
        clear hcell hcl hx0
        obtain ⟨g, cap, rfl, hgb, hgl⟩ := ho.block (by rw [pk_len]; omega)
        rw [pk_len] at ho ⊢
        cases hv : l[k] with
        | false =>
          rw [hv] at hx
          have hs := Lib.hid ((pk_false l k (k / 8 + 1) hlt hv).symm.trans hW.out)
          clear hv
          go_wp2
          go_roundw
          case rel => exact ⟨k + 1, k % 8 + 1, by omega, by omega, by omega, by go_num, by rw [Int.pow_succ, Int.mul_comm], by rw [← hs.out]; exact ho, hB⟩
          case measure => simp [intOf]; omega
        | true =>
          rw [hv] at hx
          have hn : k / 8 < (pk (l.take k) (k / 8 + 1)).length := by rw [pk_len]; omega
          have hp := pk_true l k (k / 8 + 1) hlt hv hn
          have hs := Lib.hid (hp.1.symm.trans hW.out)
          have hc8 := hp.2
          obtain ⟨hca, hfa⟩ := ho.at (k / 8) hn
          have hset := ho.set (k / 8) (UInt8.ofNat ((pk (l.take k) (k / 8 + 1))[k / 8].toNat + 2 ^ (k % 8)))
          simp only [encB] at hca hset
          clear hv hp
          go_wp2
          have hv2 : (((pk (l.take k) (k / 8 + 1))[k / 8].toNat : Int) + 2 ^ (k % 8)) % 256 = ((UInt8.ofNat ((pk (l.take k) (k / 8 + 1))[k / 8].toNat + 2 ^ (k % 8))).toNat : Int) := by
            have h2 : ((2 ^ (k % 8) : Nat) : Int) = (2 : Int) ^ (k % 8) := by simp
            rw [UInt8.toNat_ofNat', ← h2]; omega
          rw [hv2]
          go_roundw
          case rel => exact ⟨k + 1, k % 8 + 1, by omega, by omega, by omega, by go_num, by rw [Int.pow_succ, Int.mul_comm], by rw [← hs.out]; exact hset.1, belowG hB hset.2 (by simp; exact hgb)⟩
          case measure => simp [intOf]; omega
    · obtain rfl : k = l.length := by omega
      rw [List.take_length] at ho
      go_wp2
      go_ret
      exact ⟨_, rfl, ho, hB⟩

theorem word_Bits (v : Value) (b : List UInt8) (n : Int) (w : World) (h : RdV encB w v b) (hl : b.length ≤ 100000) (hx1 : n ≤ 9223372036854775807) (hx0 : -9223372036854775808 ≤ n) :
    Calls Try.prog 96 #[v, .int .i64 n] w fun e w' => ∃ v', e = .returned (.tuple #[v', .bool (bitsTell b n).1]) ∧ RdV encT w' v' (bitsTell b n).2 ∧ Below w.heap.size w w' := by
  by_cases h0 : 0 ≤ n ∧ bitsFit b n.toNat
  · obtain ⟨m, rfl⟩ := Int.eq_ofNat_of_zero_le h0.1
    have hf : bitsFit b m := by simpa using h0.2
    rw [bitsTell_nat, wBits_yes hf]
    refine (word_Bits_yes v b m w h hf (by have := hf.1; omega)).mono ?_
    rintro e w' ⟨v', rfl, ho, hB⟩
    exact ⟨v', rfl, ho.rd, hB⟩
  · have e : bitsTell b n = (false, []) := by
      by_cases h1 : n < 0
      · exact bitsTell_neg h1
      · obtain ⟨m, rfl⟩ := Int.eq_ofNat_of_zero_le (by omega : 0 ≤ n)
        rw [bitsTell_nat]
        exact wBits_no fun hf => h0 ⟨by omega, by simpa using hf⟩
    rw [e]
    refine (word_Bits_no v b n w h (by by_cases h1 : n < 0; exact .inl h1; exact .inr fun hf => h0 ⟨by omega, hf⟩) hx1 hx0).mono ?_
    rintro e w' ⟨rfl, rfl⟩
    exact ⟨_, rfl, RdV.nil _ _, Below.refl _ _⟩
theorem word_Words (v : Value) (l : List UInt8) (w : World) (h : RdV encB w v l) (hl : l.length ≤ 100000) :
    Calls Try.prog 98 #[v] w fun e w' => ∃ v', e = .returned (.tuple #[v', .bool (wordsTell l).1]) ∧ RdV encW w' v' (wordsTell l).2 ∧ Below w.heap.size w w' := by
  rcases (by omega : l.length % 2 = 1 ∨ l.length % 2 = 0) with hn | hn
  · rw [wordsTell_no hn]
    refine (word_Words_no v l w h hn).mono ?_
    rintro e w' ⟨rfl, rfl⟩
    exact ⟨_, rfl, RdV.nil _ _, Below.refl _ _⟩
  · rw [wordsTell_yes hn]
    refine (word_Words_yes v l w h hn hl).mono ?_
    rintro e w' ⟨v', rfl, ho, hB⟩
    exact ⟨v', rfl, ho.rd, hB⟩
theorem refW_Words (v : Value) (l : List UInt8) (w : World) (h : RdV encB w v l) (hl : l.length ≤ 100000) :
    Calls Try.prog 89 #[v] w fun e w' => ∃ v', e = .returned (.tuple #[v', .bool (wordsTell l).1]) ∧ RdV encW w' v' (wordsTell l).2 ∧ Below w.heap.size w w' := by
  rcases (by omega : l.length % 2 = 1 ∨ l.length % 2 = 0) with hn | hn
  · rw [wordsTell_no hn]
    refine (refW_Words_no v l w h hn).mono ?_
    rintro e w' ⟨rfl, rfl⟩
    exact ⟨_, rfl, RdV.nil _ _, Below.refl _ _⟩
  · rw [wordsTell_yes hn]
    refine (refW_Words_yes v l w h hn hl).mono ?_
    rintro e w' ⟨v', rfl, ho, hB⟩
    exact ⟨v', rfl, ho.rd, hB⟩

def cap16 : Nat := 65536
end Go.Proofs.Ytjkofefcoeejbaa
