/- Words of the front evaluator at lists and numbers: what each operation answers. -/
import Derived.Test.YtbhnkdnfmlnajaaEnv
namespace Go.Proofs.Ytbhnkdnfmlnajaa
open Go
set_option linter.unusedSimpArgs false

attribute [simp] bi_some bi_none
/-- a word that simp always turns, so that it never looks into what comes behind a step that is stuck -/
def mk0 (_ : Unit) : Bool := true
@[simp] theorem mk0_s : mk0 () = true := by unfold mk0; rfl
@[congr] theorem bi_congr {α β : Type} {x x' : Option α} {u : Bool} (k : α → Option β) (h : Unit → x = x') (_ : Unit → mk0 () = u) : bi x k = bi x' k := by rw [h ()]
@[congr] theorem condR_congr {d d' : DV} {u : Bool} (x y : R) (h : Unit → d = d') (_ : Unit → mk0 () = u) : condR d x y = condR d' x y := by rw [h ()]
@[congr] theorem wantF_congr {d d' : DV} {u : Bool} (w : Bool) (x : Option DV) (h : Unit → d = d') (_ : Unit → mk0 () = u) : wantF d w x = wantF d' w x := by rw [h ()]
@[congr] theorem wantH_congr {d d' : DV} {u : Bool} (w : Bool) (H : Heap) (x : Option (DV × Heap)) (h : Unit → d = d') (_ : Unit → mk0 () = u) : wantH d w H x = wantH d' w H x := by rw [h ()]
@[simp ↓] theorem condR_pos (p : Prop) [Decidable p] (x y : R) (h : p) : condR (.flat (.bool (decide p))) x y = x := by simp [h, condR]
@[simp ↓] theorem condR_neg (p : Prop) [Decidable p] (x y : R) (h : ¬p) : condR (.flat (.bool (decide p))) x y = y := by simp [h, condR]
@[simp ↓] theorem wantF_pos (p : Prop) [Decidable p] (x : Option DV) (h : p) : wantF (.flat (.bool (decide p))) true x = x := by simp [h, wantF, guardD]
@[simp ↓] theorem wantF_neg (p : Prop) [Decidable p] (x : Option DV) (h : ¬p) : wantF (.flat (.bool (decide p))) true x = some (.flat undef) := by simp [h, wantF, guardD]
@[simp ↓] theorem wantF_pos' (p : Prop) [Decidable p] (x : Option DV) (h : p) : wantF (.flat (.bool (decide p))) false x = some (.flat undef) := by simp [h, wantF, guardD]
@[simp ↓] theorem wantF_neg' (p : Prop) [Decidable p] (x : Option DV) (h : ¬p) : wantF (.flat (.bool (decide p))) false x = x := by simp [h, wantF, guardD]
@[simp] theorem pickD_pos (p : Prop) [Decidable p] (x y : DV) (h : p) : pickD (.flat (.bool (decide p))) x y = some x := by simp [pickD, h]
@[simp] theorem pickD_neg (p : Prop) [Decidable p] (x y : DV) (h : ¬p) : pickD (.flat (.bool (decide p))) x y = some y := by simp [pickD, h]
@[simp ↓] theorem wantF_n (p : Prop) [Decidable p] (w : Bool) (x : Option DV) : wantF (.flat (.bool (!decide p))) w x = wantF (.flat (.bool (decide p))) (!w) x := by
  by_cases h : p <;> cases w <;> simp [h, wantF, guardD]
@[simp ↓] theorem condR_n (p : Prop) [Decidable p] (x y : R) : condR (.flat (.bool (!decide p))) x y = condR (.flat (.bool (decide p))) y x := by
  by_cases h : p <;> simp [h, condR]
@[simp ↓] theorem condR_t (x y : R) : condR (.flat (.bool true)) x y = x := rfl
@[simp ↓] theorem condR_f (x y : R) : condR (.flat (.bool false)) x y = y := rfl
theorem condR_b (b : Bool) (x y : R) : condR (.flat (.bool b)) x y = if b = true then x else y := by cases b <;> rfl
theorem condR_d (p : Prop) [Decidable p] (x y : R) : condR (.flat (.bool (decide p))) x y = if p then x else y := by
  by_cases h : p <;> simp [h]
theorem pickD_d (p : Prop) [Decidable p] (x y : DV) : pickD (.flat (.bool (decide p))) x y = some (if p then x else y) := by
  by_cases h : p <;> simp [pickD, h]
@[simp] theorem pickD_t (x y : DV) : pickD (.flat (.bool true)) x y = some x := rfl
@[simp] theorem pickD_f (x y : DV) : pickD (.flat (.bool false)) x y = some y := rfl
@[simp ↓] theorem wantF_tt (x : Option DV) : wantF (.flat (.bool true)) true x = x := rfl
@[simp ↓] theorem wantF_ff (x : Option DV) : wantF (.flat (.bool false)) false x = x := rfl
@[simp ↓] theorem wantF_tf (x : Option DV) : wantF (.flat (.bool true)) false x = some (.flat undef) := rfl
@[simp ↓] theorem wantF_ft (x : Option DV) : wantF (.flat (.bool false)) true x = some (.flat undef) := rfl
@[simp ↓] theorem wantF_u (w : Bool) (x : Option DV) : wantF (.flat undef) w x = some (.flat undef) := rfl
@[simp ↓] theorem wantH_tt (H : Heap) (x : Option (DV × Heap)) : wantH (.flat (.bool true)) true H x = x := rfl
@[simp ↓] theorem wantH_ff (H : Heap) (x : Option (DV × Heap)) : wantH (.flat (.bool false)) false H x = x := rfl
@[simp ↓] theorem wantH_tf (H : Heap) (x : Option (DV × Heap)) : wantH (.flat (.bool true)) false H x = some (.flat undef, H) := rfl
@[simp ↓] theorem wantH_ft (H : Heap) (x : Option (DV × Heap)) : wantH (.flat (.bool false)) true H x = some (.flat undef, H) := rfl
@[simp ↓] theorem wantH_u (w : Bool) (H : Heap) (x : Option (DV × Heap)) : wantH (.flat undef) w H x = some (.flat undef, H) := rfl
@[simp] theorem notD_b (b : Bool) : notD (.flat (.bool b)) = some (.flat (.bool (!b))) := rfl
@[simp] theorem eqB_b (a b : Bool) : eqB (.flat (.bool a)) (.flat (.bool b)) = some (.flat (.bool (a == b))) := rfl
@[simp] theorem neB_b (a b : Bool) : neB (.flat (.bool a)) (.flat (.bool b)) = some (.flat (.bool (a != b))) := rfl
@[simp] theorem addK_i (k : IntKind) (x y : Int) : addK k (.flat (.int k x)) (.flat (.int k y)) = some (.flat (.int k (k.wrap (x + y)))) := by simp [addK, arI]
@[simp] theorem subK_i (k : IntKind) (x y : Int) : subK k (.flat (.int k x)) (.flat (.int k y)) = some (.flat (.int k (k.wrap (x - y)))) := by simp [subK, arI]
@[simp] theorem mulK_i (k : IntKind) (x y : Int) : mulK k (.flat (.int k x)) (.flat (.int k y)) = some (.flat (.int k (k.wrap (x * y)))) := by simp [mulK, arI]
def andI (k : IntKind) (x y : Int) : Int := k.wrap (BitVec.ofInt k.bits x &&& BitVec.ofInt k.bits y).toNat
def orI (k : IntKind) (x y : Int) : Int := k.wrap (BitVec.ofInt k.bits x ||| BitVec.ofInt k.bits y).toNat
def xorI (k : IntKind) (x y : Int) : Int := k.wrap (BitVec.ofInt k.bits x ^^^ BitVec.ofInt k.bits y).toNat
def andNotI (k : IntKind) (x y : Int) : Int := k.wrap (BitVec.ofInt k.bits x &&& ~~~BitVec.ofInt k.bits y).toNat
def shlI (k : IntKind) (x y : Int) : Int := k.wrap (x * 2 ^ (min y.toNat k.bits))
def shrI (k : IntKind) (x y : Int) : Int := x.fdiv (2 ^ (min y.toNat k.bits))
@[simp] theorem andK_i (k : IntKind) (x y : Int) : andK k (.flat (.int k x)) (.flat (.int k y)) = some (.flat (.int k (andI k x y))) := by simp [andK, arI, andI]
@[simp] theorem orK_i (k : IntKind) (x y : Int) : orK k (.flat (.int k x)) (.flat (.int k y)) = some (.flat (.int k (orI k x y))) := by simp [orK, arI, orI]
@[simp] theorem xorK_i (k : IntKind) (x y : Int) : xorK k (.flat (.int k x)) (.flat (.int k y)) = some (.flat (.int k (xorI k x y))) := by simp [xorK, arI, xorI]
@[simp] theorem andNotK_i (k : IntKind) (x y : Int) : andNotK k (.flat (.int k x)) (.flat (.int k y)) = some (.flat (.int k (andNotI k x y))) := by simp [andNotK, arI, andNotI]
@[simp] theorem quoK_i (k : IntKind) (x y : Int) (h : y ≠ 0) : quoK k (.flat (.int k x)) (.flat (.int k y)) = some (.flat (.int k (k.wrap (x.tdiv y)))) := by simp [quoK, divI, h]
@[simp] theorem remK_i (k : IntKind) (x y : Int) (h : y ≠ 0) : remK k (.flat (.int k x)) (.flat (.int k y)) = some (.flat (.int k (x.tmod y))) := by simp [remK, divI, h]
@[simp] theorem shlK_i (k k2 : IntKind) (x y : Int) (h : 0 ≤ y) : shlK k (.flat (.int k x)) (.flat (.int k2 y)) = some (.flat (.int k (shlI k x y))) := by simp [shlK, shI, h, shlI]
@[simp] theorem shrK_i (k k2 : IntKind) (x y : Int) (h : 0 ≤ y) : shrK k (.flat (.int k x)) (.flat (.int k2 y)) = some (.flat (.int k (shrI k x y))) := by simp [shrK, shI, h, shrI]
@[simp] theorem eqK_i (k : IntKind) (x y : Int) : eqK k (.flat (.int k x)) (.flat (.int k y)) = some (.flat (.bool (decide (x = y)))) := by simp [eqK, cmI]; rfl
@[simp] theorem neK_i (k : IntKind) (x y : Int) : neK k (.flat (.int k x)) (.flat (.int k y)) = some (.flat (.bool (decide (¬ x = y)))) := by
  simp only [neK, cmI, and_self, if_true, bne]
  by_cases h : x = y <;> simp [h]
@[simp] theorem ltK_i (k : IntKind) (x y : Int) : ltK k (.flat (.int k x)) (.flat (.int k y)) = some (.flat (.bool (decide (x < y)))) := by simp [ltK, cmI]
@[simp] theorem leK_i (k : IntKind) (x y : Int) : leK k (.flat (.int k x)) (.flat (.int k y)) = some (.flat (.bool (decide (x ≤ y)))) := by simp [leK, cmI]
@[simp] theorem gtK_i (k : IntKind) (x y : Int) : gtK k (.flat (.int k x)) (.flat (.int k y)) = some (.flat (.bool (decide (y < x)))) := by simp [gtK, cmI]
@[simp] theorem geK_i (k : IntKind) (x y : Int) : geK k (.flat (.int k x)) (.flat (.int k y)) = some (.flat (.bool (decide (y ≤ x)))) := by simp [geK, cmI]
@[simp] theorem cvK_i (k k2 : IntKind) (x : Int) : cvK k (.flat (.int k2 x)) = some (.flat (.int k (k.wrap x))) := rfl
@[simp] theorem maxI_i (k : IntKind) (x y : Int) : maxI (.flat (.int k x)) (.flat (.int k y)) = some (.flat (.int k (max x y))) := rfl
@[simp] theorem minI_i (k : IntKind) (x y : Int) : minI (.flat (.int k x)) (.flat (.int k y)) = some (.flat (.int k (min x y))) := rfl
theorem wrap_i64 (x : Int) (h0 : -9223372036854775808 ≤ x) (h1 : x < 9223372036854775808) : IntKind.wrap .i64 x = x := by
  unfold IntKind.wrap
  have hb : (2 : Int) ^ IntKind.i64.bits = 18446744073709551616 := rfl
  have hb2 : (2 : Int) ^ (IntKind.i64.bits - 1) = 9223372036854775808 := rfl
  have hs : IntKind.i64.signed = true := rfl
  simp only [hb, hb2, hs, Bool.true_and, decide_eq_true_eq]
  split <;> omega
theorem wrap_u8 (x : Int) : IntKind.wrap .u8 x = x % 256 := rfl
theorem wrap_u16 (x : Int) : IntKind.wrap .u16 x = x % 65536 := rfl
theorem wrap_u8_id (x : Int) (h0 : 0 ≤ x) (h1 : x < 256) : IntKind.wrap .u8 x = x := by rw [wrap_u8]; omega
theorem wrap_u16_id (x : Int) (h0 : 0 ≤ x) (h1 : x < 65536) : IntKind.wrap .u16 x = x := by rw [wrap_u16]; omega
theorem shrI_w8 (x : Int) : shrI .u16 x 8 = x / 256 := by
  unfold shrI
  have : (2 : Int) ^ min (8 : Int).toNat IntKind.u16.bits = 256 := rfl
  rw [this, Int.fdiv_eq_ediv_of_nonneg _ (by omega)]
theorem shlI_w8 (x : Int) (h0 : 0 ≤ x) (h1 : x < 256) : shlI .u16 x 8 = 256 * x := by
  unfold shlI
  have : (2 : Int) ^ min (8 : Int).toNat IntKind.u16.bits = 256 := rfl
  rw [this, wrap_u16]; omega
theorem orI_nat (k : IntKind) (a b : Nat) (hk : k.signed = false) (ha : a < 2 ^ k.bits) (hb : b < 2 ^ k.bits) : orI k a b = ((a ||| b : Nat) : Int) := by
  unfold orI IntKind.wrap
  have h : a ||| b < 2 ^ k.bits := Nat.or_lt_two_pow ha hb
  simp only [hk, Bool.false_and, Bool.false_eq_true, if_false]
  rw [BitVec.toNat_or, BitVec.toNat_ofInt, BitVec.toNat_ofInt]
  have e1 : ((a : Int) % ((2 ^ k.bits : Nat) : Int)).toNat = a := by rw [Int.emod_eq_of_lt (by omega) (by exact_mod_cast ha)]; simp
  have e2 : ((b : Int) % ((2 ^ k.bits : Nat) : Int)).toNat = b := by rw [Int.emod_eq_of_lt (by omega) (by exact_mod_cast hb)]; simp
  rw [e1, e2]
  have : (2 : Int) ^ k.bits = ((2 ^ k.bits : Nat) : Int) := by simp
  rw [this]
  exact Int.emod_eq_of_lt (by omega) (by exact_mod_cast h)
theorem orI_add (k : IntKind) (n : Nat) (a b : Int) (hk : k.signed = false) (ha : 0 ≤ a) (hb : 0 ≤ b) (hbn : b < 2 ^ n) (h : 2 ^ n * a < 2 ^ k.bits) (hn : n ≤ k.bits) : orI k (2 ^ n * a) b = 2 ^ n * a + b := by
  obtain ⟨a, rfl⟩ := Int.eq_ofNat_of_zero_le ha
  obtain ⟨b, rfl⟩ := Int.eq_ofNat_of_zero_le hb
  have hb' : b < 2 ^ n := by exact_mod_cast hbn
  have h' : 2 ^ n * a < 2 ^ k.bits := by exact_mod_cast h
  have e : (2 : Int) ^ n * (a : Int) = ((2 ^ n * a : Nat) : Int) := by simp
  rw [e, orI_nat k _ _ hk h' (Nat.lt_of_lt_of_le hb' (Nat.pow_le_pow_right (by omega) hn)), ← Nat.two_pow_add_eq_or_of_lt hb' a]
  simp
theorem orI_w8 (a b : Int) (h0 : 0 ≤ a) (h1 : a < 256) (h2 : 0 ≤ b) (h3 : b < 256) : orI .u16 (256 * a) b = 256 * a + b :=
  orI_add .u16 8 a b rfl h0 h2 (by omega) (by show 256 * a < 65536; omega) (by decide)
theorem andI_i64 (a b : Nat) (ha : a < 9223372036854775808) (hb : b < 9223372036854775808) : andI .i64 a b = ((a &&& b : Nat) : Int) := by
  unfold andI
  have h : a &&& b ≤ a := Nat.and_le_left
  rw [BitVec.toNat_and, BitVec.toNat_ofInt, BitVec.toNat_ofInt]
  have e1 : ((a : Int) % ((2 ^ IntKind.i64.bits : Nat) : Int)).toNat = a := by
    have : ((2 ^ IntKind.i64.bits : Nat) : Int) = 18446744073709551616 := rfl
    rw [this]; omega
  have e2 : ((b : Int) % ((2 ^ IntKind.i64.bits : Nat) : Int)).toNat = b := by
    have : ((2 ^ IntKind.i64.bits : Nat) : Int) = 18446744073709551616 := rfl
    rw [this]; omega
  rw [e1, e2, wrap_i64 _ (by omega) (by omega)]
theorem andI_one (a : Nat) (ha : a < 9223372036854775808) : andI .i64 a 1 = ((a % 2 : Nat) : Int) := by
  have := andI_i64 a 1 ha (by omega)
  rw [Nat.and_one_is_mod] at this
  exact this
theorem tdiv_pos (x y : Int) (h : 0 ≤ x) : x.tdiv y = x / y := Int.tdiv_eq_ediv_of_nonneg h
theorem tmod_pos (x y : Int) (h : 0 ≤ x) : x.tmod y = x % y := Int.tmod_eq_emod_of_nonneg h
@[simp] theorem extD_0 (a : DV) (l : List DV) : extD 0 (.tup (a :: l)) = some a := rfl
@[simp] theorem extD_1 (a b : DV) (l : List DV) : extD 1 (.tup (a :: b :: l)) = some b := rfl
@[simp] theorem extD_2 (a b c : DV) (l : List DV) : extD 2 (.tup (a :: b :: c :: l)) = some c := rfl

/-! lists -/
def LV {α : Type} (sz : Nat) (enc : α → DV) (l : List α) (t : Tag) : DV := mkl sz (l.map enc) t
theorem LV_nil {α : Type} (sz : Nat) (enc : α → DV) (t : Tag) : DV.list 0 [] t = LV sz enc [] t := rfl
theorem LV_cons {α : Type} (sz : Nat) (enc : α → DV) (a : α) (l : List α) (t : Tag) : LV sz enc (a :: l) t = .list sz (enc a :: l.map enc) t := rfl
@[simp] theorem lenD_LV {α : Type} (sz : Nat) (enc : α → DV) (l : List α) (t : Tag) : lenD (LV sz enc l t) = some (.flat (.int .i64 l.length)) := by
  cases l <;> simp [LV, mkl, lenD]
@[simp] theorem lenD_nil (t : Tag) : lenD (.list 0 [] t) = some (.flat (.int .i64 0)) := rfl
@[simp] theorem LV_cells {α : Type} (sz : Nat) (enc : α → DV) (l : List α) (t : Tag) : (LV sz enc l t).cells = [LV sz enc l t] := by cases l <;> rfl
@[simp] theorem LV_leaf {α : Type} (sz : Nat) (enc : α → DV) (l : List α) (t : Tag) : (LV sz enc l t).leaf = true := by cases l <;> rfl
@[simp] theorem idxSl_LV {α : Type} (sz : Nat) (enc : α → DV) (l : List α) (t : Tag) (k : IntKind) (i : Int) (h0 : 0 ≤ i) (h1 : i.toNat < l.length) :
    idxSl sz (LV sz enc l t) (.flat (.int k i)) = some (.elem (enc (l[i.toNat]'h1)) 0) := by
  cases l with
  | nil => simp at h1
  | cons a l =>
    rw [LV_cons]
    simp only [idxSl, intD, h0, if_true]
    rw [← List.map_cons, List.getElem?_map, List.getElem?_eq_getElem h1]
    rfl
@[simp] theorem loadG_elem (ag : Bool) (sz : Nat) (x : DV) (off : Nat) (H : Heap) : loadG ag sz (.elem x off) H = partD ag sz off x.cells := rfl
@[simp] theorem loadE_elem (ag : Bool) (sz : Nat) (x : DV) (off : Nat) : loadE ag sz (.elem x off) = partD ag sz off x.cells := rfl
@[simp] theorem partD_flat (v : Value) : partD false 1 0 [.flat v] = some (.flat v) := rfl
@[simp] theorem cells_flat (v : Value) : (DV.flat v).cells = [.flat v] := rfl
@[simp] theorem cells_agg (l : List DV) : (DV.agg l).cells = l := rfl
def slT (t : Tag) (full : Bool) : Tag := if full ∧ t = .ti then .ti else .sh
@[simp] theorem slT_sh (b : Bool) : slT .sh b = .sh := by simp [slT]
theorem mkl_drop {α : Type} (sz : Nat) (enc : α → DV) (l : List α) (a b : Nat) (t : Tag) : mkl sz (((l.map enc).take b).drop a) t = LV sz enc ((l.take b).drop a) t := by
  rw [← List.map_take, ← List.map_drop]; rfl
theorem LV_list {α : Type} (sz : Nat) (enc : α → DV) (l : List α) (t : Tag) : ∃ s, LV sz enc l t = .list s (l.map enc) t ∧ ((l.map enc).isEmpty || s == sz) = true := by
  cases l with
  | nil => exact ⟨0, rfl, rfl⟩
  | cons a l => exact ⟨sz, rfl, by simp⟩
theorem slX_gen {α : Type} (sz : Nat) (enc : α → DV) (l : List α) (t : Tag) (lo hi mx : Option DV) (a b m : Option Int) (ha : optD lo = some a) (hb : optD hi = some b) (hm : optD mx = some m) :
    slX sz (LV sz enc l t) lo hi mx = sliceL sz (l.map enc) t a b m := by
  obtain ⟨s, h1, h2⟩ := LV_list sz enc l t
  simp only [slX, ha, hb, hm, h1, sliceSl, h2, if_true]
@[simp] theorem slX_ab {α : Type} (sz : Nat) (enc : α → DV) (l : List α) (t : Tag) (k1 k2 : IntKind) (a b : Int) (h0 : 0 ≤ a) (h1 : a ≤ b) (h2 : b ≤ l.length) :
    slX sz (LV sz enc l t) (some (.flat (.int k1 a))) (some (.flat (.int k2 b))) none = some (LV sz enc ((l.take b.toNat).drop a.toNat) (slT t (b.toNat == l.length))) := by
  rw [slX_gen sz enc l t _ _ _ (some a) (some b) none rfl rfl rfl]
  simp only [sliceL, boundsD, List.length_map, Option.getD_some, Option.getD_none, h0, h1, h2, Option.isNone_none, true_or, or_true, and_true, true_and, Int.le_refl, if_true, Option.isSome_none, Bool.false_eq_true, false_and, if_false]
  rw [mkl_drop]
  simp only [slT, beq_iff_eq]
@[simp] theorem slX_a {α : Type} (sz : Nat) (enc : α → DV) (l : List α) (t : Tag) (k1 : IntKind) (a : Int) (h0 : 0 ≤ a) (h1 : a ≤ l.length) :
    slX sz (LV sz enc l t) (some (.flat (.int k1 a))) none none = some (LV sz enc (l.drop a.toNat) (slT t true)) := by
  rw [slX_gen sz enc l t _ _ _ (some a) none none rfl rfl rfl]
  simp only [sliceL, boundsD, List.length_map, Option.getD_some, Option.getD_none, h0, h1, Option.isNone_none, true_or, or_true, and_true, true_and, Int.le_refl, if_true, Option.isSome_none, Bool.false_eq_true, false_and, if_false, Int.toNat_natCast]
  rw [mkl_drop, List.take_length]
  simp only [slT, true_and]
@[simp] theorem slX_b {α : Type} (sz : Nat) (enc : α → DV) (l : List α) (t : Tag) (k2 : IntKind) (b : Int) (h1 : 0 ≤ b) (h2 : b ≤ l.length) :
    slX sz (LV sz enc l t) none (some (.flat (.int k2 b))) none = some (LV sz enc (l.take b.toNat) (slT t (b.toNat == l.length))) := by
  rw [slX_gen sz enc l t _ _ _ none (some b) none rfl rfl rfl]
  simp only [sliceL, boundsD, List.length_map, Option.getD_some, Option.getD_none, h1, h2, Option.isNone_none, true_or, or_true, and_true, true_and, Int.le_refl, if_true, Option.isSome_none, Bool.false_eq_true, false_and, if_false]
  rw [mkl_drop]
  simp only [slT, beq_iff_eq, Int.toNat_zero, List.drop_zero]
@[simp] theorem slX_bm {α : Type} (sz : Nat) (enc : α → DV) (l : List α) (t : Tag) (k2 k3 : IntKind) (b : Int) (h1 : 0 ≤ b) (h2 : b ≤ l.length) :
    slX sz (LV sz enc l t) none (some (.flat (.int k2 b))) (some (.flat (.int k3 b))) = some (LV sz enc (l.take b.toNat) .ti) := by
  rw [slX_gen sz enc l t _ _ _ none (some b) (some b) rfl rfl rfl]
  simp only [sliceL, boundsD, List.length_map, Option.getD_some, Option.getD_none, h1, h2, or_true, and_true, true_and, Int.le_refl, if_true, Option.isSome_some]
  rw [mkl_drop]
  simp only [Int.toNat_zero, List.drop_zero]
theorem appG_ti {α : Type} {e : TypeId} {ag : Bool} {sz by_ : Nat} {enc : α → DV} {xs ys : List α} {t' : Tag} {H : Heap} {fl : Nat} (hne : ys ≠ []) (hc : chunkOk ag sz 0 = true) (hb : (xs.length + ys.length) * by_ ≤ 140737488355328) (hb2 : xs.length + ys.length ≤ 140737488355328) :
    appG e ag sz by_ (LV sz enc xs .ti) (LV sz enc ys t') H fl = some (LV sz enc (xs ++ ys) (.own H.length), H ++ [.token e sz (xs.length + ys.length)]) := by
  obtain ⟨s1, h1, g1⟩ := LV_list sz enc xs .ti
  obtain ⟨s2, h2, g2⟩ := LV_list sz enc ys t'
  have hl : ∀ k, LV sz enc (xs ++ ys) (.own k) = .list sz (xs.map enc ++ ys.map enc) (.own k) := by
    intro k
    cases xs with
    | nil => cases ys with
      | nil => exact absurd rfl hne
      | cons y ys => rfl
    | cons x xs => simp [LV, mkl]
  rw [hl, h1, h2]
  unfold appG appendD srcD
  simp only [g2, if_true]
  cases ys with
  | nil => exact absurd rfl hne
  | cons y ys =>
    have g3 : ¬xs = [] → s1 = sz := by
      intro h
      have : xs.isEmpty = false := by cases xs <;> simp_all
      simpa [this] using g1
    simp only [List.map_cons, List.length_map, List.length_cons] at *
    simp [hc, hb, hb2, effH, Eff.heap]
    exact g3

@[simp] theorem leaf_int (k : IntKind) (x : Int) : (DV.flat (.int k x)).leaf = true := rfl
@[simp] theorem leaf_bool (b : Bool) : (DV.flat (.bool b)).leaf = true := rfl
@[simp] theorem leaf_string (b : ByteArray) : (DV.flat (.string b)).leaf = true := rfl
@[simp] theorem leaf_ptr (k o : Nat) : (DV.ptr k o).leaf = true := rfl
@[simp] theorem leaf_list (sz : Nat) (l : List DV) (t : Tag) : (DV.list sz l t).leaf = true := rfl
@[simp] theorem leaf_nilp : (DV.flat (.pointer none)).leaf = true := rfl
@[simp] theorem cells_list (sz : Nat) (l : List DV) (t : Tag) : (DV.list sz l t).cells = [.list sz l t] := rfl
@[simp] theorem cells_ptr (k o : Nat) : (DV.ptr k o).cells = [.ptr k o] := rfl
@[simp] theorem loadG_ptr (ag : Bool) (sz k off : Nat) (H : Heap) : loadG ag sz (.ptr k off) H = match H[k]? with | some (.cells _ cs) => partD ag sz off cs | _ => none := rfl
@[simp] theorem partD_t (sz off : Nat) (cs : List DV) : partD true sz off cs = if off + sz ≤ cs.length then some (.agg ((cs.drop off).take sz)) else none := rfl
@[simp] theorem partD_f (sz off : Nat) (cs : List DV) : partD false sz off cs = cs[off]? := rfl
@[simp] theorem allocG_s (e : TypeId) (d : DV) (nid : Nat) (H : Heap) (h : d.cells.all DV.leaf = true) : allocG e d nid H = some (H.set nid (.cells e d.cells)) := by unfold allocG; rw [if_pos h]
@[simp] theorem storeG_s (sz k off : Nat) (d : DV) (H : Heap) (fl : Nat) (h : fl ≤ k) : storeG sz (.ptr k off) d H fl = match H[k]? with
    | some (.cells e cs) => if d.cells.length = sz ∧ off + sz ≤ cs.length ∧ d.cells.all DV.leaf = true then some (H.set k (.cells e (splice off d.cells cs))) else none
    | _ => none := by
  unfold storeG
  simp only [h, true_and]
  rfl
@[simp] theorem buildA_s (zero : DV) (size : Nat) (parts : List (Nat × DV)) : buildA zero size parts = (fillD (fun i => some (i * size, size)) zero.cells parts).map .agg := by unfold buildA; rfl
@[simp] theorem buildS_s (zero : DV) (pl : List (Nat × Nat)) (parts : List (Nat × DV)) : buildS zero pl parts = (fillD (pl[·]?) zero.cells parts).map .agg := by unfold buildS; rfl
@[simp] theorem fillD_n (place : Nat → Option (Nat × Nat)) (cells : List DV) : fillD place cells [] = some cells := by unfold fillD; rfl
@[simp] theorem fillD_c (place : Nat → Option (Nat × Nat)) (cells : List DV) (i : Nat) (d : DV) (rest : List (Nat × DV)) :
    fillD place cells ((i, d) :: rest) = match place i with
      | none => none
      | some (off, size) => if d.cells.length ≠ size ∨ off + d.cells.length > cells.length ∨ d.cells.all DV.leaf = false then none else fillD place (splice off d.cells cells) rest := by
  rw [fillD]
  rfl
@[simp] theorem splice_s (off : Nat) (new old : List DV) : splice off new old = old.take off ++ new ++ old.drop (off + new.length) := by unfold splice; rfl
@[simp] theorem buildL_i1 (k : IntKind) (x a : Int) : buildL false 1 1 (.flat (.int k x)) [(0, .flat (.int k a))] = some (LV 1 (I k) [a] .ti) := rfl

/-! pure calls -/
@[simp] theorem mapO_nil {α β : Type} (f : α → Option β) : mapO f [] = some [] := rfl
@[simp] theorem mapO_cons {α β : Type} (f : α → Option β) (x : α) (l : List α) : mapO f (x :: l) = bi (f x) fun y => bi (mapO f l) fun r => some (y :: r) := by
  simp only [mapO, bi]
  cases f x with
  | none => rfl
  | some y => dsimp only; cases mapO f l <;> rfl
@[simp] theorem outLeaf_LV {α : Type} (ti : Bool) (H : Heap) (sz : Nat) (enc : α → DV) (l : List α) (t : Tag) : outLeaf ti H (LV sz enc l t) = some (LV sz enc l (shTag ti t)) := by cases l <;> rfl
@[simp] theorem outEl_LV {α : Type} (ti : Bool) (H : Heap) (sz : Nat) (enc : α → DV) (l : List α) (t : Tag) : outEl ti H (LV sz enc l t) = some (LV sz enc l (shTag ti t)) := by cases l <;> rfl
@[simp] theorem outD_LV {α : Type} (ti : Bool) (H : Heap) (sz : Nat) (enc : α → DV) (l : List α) (t : Tag) : outD ti H (LV sz enc l t) = some (LV sz enc l (shTag ti t)) := by cases l <;> rfl
@[simp] theorem outEl_nil (ti : Bool) (H : Heap) (t : Tag) : outEl ti H (.list 0 [] t) = some (.list 0 [] (shTag ti t)) := rfl
@[simp] theorem outLeaf_nil (ti : Bool) (H : Heap) (t : Tag) : outLeaf ti H (.list 0 [] t) = some (.list 0 [] (shTag ti t)) := rfl
@[simp] theorem outD_nil (ti : Bool) (H : Heap) (t : Tag) : outD ti H (.list 0 [] t) = some (.list 0 [] (shTag ti t)) := rfl
@[simp] theorem outLeaf_i (ti : Bool) (H : Heap) (k : IntKind) (x : Int) : outLeaf ti H (.flat (.int k x)) = some (.flat (.int k x)) := rfl
@[simp] theorem outLeaf_b (ti : Bool) (H : Heap) (b : Bool) : outLeaf ti H (.flat (.bool b)) = some (.flat (.bool b)) := rfl
@[simp] theorem outLeaf_s (ti : Bool) (H : Heap) (s : ByteArray) : outLeaf ti H (.flat (.string s)) = some (.flat (.string s)) := rfl
@[simp] theorem outEl_flat (ti : Bool) (H : Heap) (v : Value) : outEl ti H (.flat v) = some (.flat v) := rfl
@[simp] theorem outEl_agg (ti : Bool) (H : Heap) (cs : List DV) : outEl ti H (.agg cs) = (mapO (outLeaf ti H) cs).map .agg := rfl
@[simp] theorem outD_tup (ti : Bool) (H : Heap) (cs : List DV) : outD ti H (.tup cs) = (mapO (outEl ti H) cs).map .tup := rfl
@[simp] theorem outD_agg (ti : Bool) (H : Heap) (cs : List DV) : outD ti H (.agg cs) = (mapO (outLeaf ti H) cs).map .agg := rfl
@[simp] theorem outD_flat (ti : Bool) (H : Heap) (v : Value) : outD ti H (.flat v) = some (.flat v) := rfl
@[simp] theorem shTag_sh (ti : Bool) : shTag ti .sh = .sh := by cases ti <;> rfl
@[simp] theorem shTag_f (t : Tag) : shTag false t = .sh := by cases t <;> rfl
@[simp] theorem shTag_ti : shTag true .ti = .ti := rfl
@[simp] theorem shTag_own (ti : Bool) (k : Nat) : shTag ti (.own k) = .sh := by cases ti <;> rfl
theorem argEl_eq (d : DV) : argEl d = outEl false [] d := rfl
theorem cP_of {n f : Nat} {ti : Bool} {args args' : List DV} {H' : Heap} {r r' : DV} (h1 : mapO argEl args = some args') (h2 : callG Try.prog ENV n f args' [] 0 = some (r, H')) (h3 : outD ti H' r = some r') : cP n f ti args = some r' := by
  unfold cP callP
  rw [h1, bi_some, h2, bi_some]
  exact h3
@[simp] theorem cellR_ptr (ag : Bool) (sz k off : Nat) (H : Heap) : cellR ag sz (.ptr k off) H = loadG ag sz (.ptr k off) H := rfl

@[simp] theorem get_0 {α : Type} (a : α) (l : List α) : (a :: l)[0]? = some a := rfl
@[simp] theorem get_1 {α : Type} (a b : α) (l : List α) : (a :: b :: l)[1]? = some b := rfl
@[simp] theorem get_2 {α : Type} (a b c : α) (l : List α) : (a :: b :: c :: l)[2]? = some c := rfl
@[simp] theorem get_3 {α : Type} (a b c d : α) (l : List α) : (a :: b :: c :: d :: l)[3]? = some d := rfl
/-! a list that a loop builds -/
def TgOk (t : Tag) (e : TypeId) (sz fl n : Nat) (H : Heap) : Prop := t = .ti ∨ ∃ k, t = .own k ∧ H[k]? = some (.token e sz n) ∧ fl ≤ k
def HExt (H H' : Heap) : Prop := H.length ≤ H'.length ∧ ∀ (j : Nat) (b : DBlk), H[j]? = some b → (∀ e s n, b ≠ .token e s n) → H'[j]? = some b
theorem HExt.refl (H : Heap) : HExt H H := ⟨Nat.le_refl _, fun _ _ h _ => h⟩
theorem HExt.trans {H1 H2 H3 : Heap} (h : HExt H1 H2) (k : HExt H2 H3) : HExt H1 H3 := ⟨Nat.le_trans h.1 k.1, fun j b hb hn => k.2 j b (h.2 j b hb hn) hn⟩
theorem HExt.app (H X : Heap) : HExt H (H ++ X) := ⟨by simp, fun j b hb _ => by
  have : j < H.length := by rcases Nat.lt_or_ge j H.length with h | h; exact h; rw [List.getElem?_eq_none h] at hb; cases hb
  rw [List.getElem?_append_left this]; exact hb⟩
theorem appG_ok {α : Type} {e : TypeId} {ag : Bool} {sz by_ : Nat} {enc : α → DV} {xs ys : List α} {t t' : Tag} {H : Heap} {fl : Nat} (ht : TgOk t e sz fl xs.length H) (hfl : fl ≤ H.length) (hne : ys ≠ []) (hc : chunkOk ag sz 0 = true) (hb : (xs.length + ys.length) * by_ ≤ 140737488355328) (hb2 : xs.length + ys.length ≤ 140737488355328) :
    ∃ t2 H', appG e ag sz by_ (LV sz enc xs t) (LV sz enc ys t') H fl = some (LV sz enc (xs ++ ys) t2, H') ∧ TgOk t2 e sz fl (xs ++ ys).length H' ∧ HExt H H' ∧ fl ≤ H'.length := by
  rcases ht with rfl | ⟨k, rfl, hk, hkf⟩
  · refine ⟨_, _, appG_ti hne hc hb hb2, .inr ⟨_, rfl, by simp, hfl⟩, HExt.app _ _, by simp; omega⟩
  · have hkl : k < H.length := by rcases Nat.lt_or_ge k H.length with h | h; exact h; rw [List.getElem?_eq_none h] at hk; cases hk
    have hl : ∀ k, LV sz enc (xs ++ ys) (.own k) = .list sz (xs.map enc ++ ys.map enc) (.own k) := by
      intro k
      cases xs with
      | nil => cases ys with
        | nil => exact absurd rfl hne
        | cons y ys => rfl
      | cons x xs => simp [LV, mkl]
    refine ⟨.own k, H.set k (.token e sz (xs ++ ys).length), ?_, .inr ⟨k, rfl, by rw [List.getElem?_set]; simp [hkl], hkf⟩, ⟨by simp, fun j b hb hn => ?_⟩, by simpa using hfl⟩
    · obtain ⟨s1, h1, g1⟩ := LV_list sz enc xs (.own k)
      obtain ⟨s2, h2, g2⟩ := LV_list sz enc ys t'
      rw [hl, h1, h2]
      unfold appG appendD srcD
      simp only [g2, if_true]
      cases ys with
      | nil => exact absurd rfl hne
      | cons y ys =>
        have g3 : ¬xs = [] → s1 = sz := by
          intro h
          have : xs.isEmpty = false := by cases xs <;> simp_all
          simpa [this] using g1
        simp only [List.map_cons, List.length_map, List.length_cons] at *
        simp [hc, hb, hb2, effH, Eff.heap, hk, hkf]
        exact g3
    · rw [List.getElem?_set, if_neg]
      · exact hb
      · intro e; subst e
        rw [hk] at hb; cases hb
        exact hn _ _ _ rfl

/-! rows of the call's own -/
theorem flat_one {α : Type} (n : Nat) (a : α) : (List.replicate n [a]).flatten = List.replicate n a := by
  induction n with
  | zero => rfl
  | succ n ih => rw [List.replicate_succ, List.flatten_cons, ih]; rfl
@[simp] theorem makeG_i (by_ : Nat) (e : TypeId) (k k1 : IntKind) (z n : Int) (nid : Nat) (H : Heap) (h0 : 0 ≤ n) (h1 : n ≤ 100000) (hb : by_ ≤ 8) :
    makeG false 1 by_ e (.flat (.int k z)) (.flat (.int k1 n)) (.flat (.int k1 n)) nid H = some (.row false 1 nid 0 n.toNat n.toNat, H.set nid (.cells e ((List.replicate n.toNat z).map (I k)))) := by
  have hm : n * (by_ : Int) ≤ 140737488355328 := by
    have : n * (by_ : Int) ≤ 100000 * 8 := by
      refine Int.mul_le_mul h1 (by omega) (by omega) (by omega)
    omega
  unfold makeG makeD
  simp [intD, h0, hm, show n ≤ 140737488355328 by omega, effH, Eff.heap, flat_one]
theorem plainEl_map {k : IntKind} (l : List Int) : mapO plainEl (l.map (I k)) = some (l.map (I k)) := by
  induction l with
  | nil => rfl
  | cons a l ih => rw [List.map_cons, mapO_cons, ih]; rfl
theorem chunk_one (n : Nat) (cs : List DV) (h : n ≤ cs.length) : chunk false 1 n cs = cs.take n := by
  induction n generalizing cs with
  | zero => simp [chunk]
  | succ n ih => cases cs with
    | nil => simp at h
    | cons c cs => simp [chunk, ih cs (by simpa using h)]
theorem cells_map (k : IntKind) (l : List Int) : ((l.map (I k)).map DV.cells).flatten = l.map (I k) := by
  induction l with
  | nil => rfl
  | cons a l ih => simp only [List.map_cons, List.flatten_cons, ih]; rfl
/-- the elements of a source -/
theorem srcD_LV {α : Type} (ag : Bool) (sz : Nat) (enc : α → DV) (l : List α) (t : Tag) (H : Heap) : srcD ag sz (LV sz enc l t) H = some (l.map enc) := by
  obtain ⟨s, h1, h2⟩ := LV_list sz enc l t
  rw [h1]
  show (if _ then _ else _) = _
  rw [if_pos h2]
theorem srcD_row (k : IntKind) (b off n c : Nat) (H : Heap) (e : TypeId) (l : List Int) (h : H[b]? = some (.cells e (l.map (I k)))) (hl : off + n ≤ l.length) (hl2 : l.length ≤ 100000) :
    srcD false 1 (.row false 1 b off n c) H = some (((l.drop off).take n).map (I k)) := by
  have hck : chunkOk false 1 n = true := by simp [chunkOk]; omega
  unfold srcD
  simp only [hck, and_self, if_true, rowCells, h, Nat.mul_one, List.length_map, hl, Option.bind_some]
  rw [chunk_one _ _ (by simp; omega)]
  rw [← List.map_drop, ← List.map_take, ← List.map_take, List.take_take, Nat.min_self, plainEl_map]
theorem copyG_row (k : IntKind) (y : DV) (b off n c : Nat) (H : Heap) (fl : Nat) (e : TypeId) (l ys : List Int) (h : H[b]? = some (.cells e (l.map (I k)))) (hs : srcD false 1 y H = some (ys.map (I k))) (hfl : fl ≤ b) (hl : off + min ys.length n ≤ l.length) :
    copyG false 1 (.row false 1 b off n c) y H fl = some (.flat (.int .i64 (min ys.length n : Nat)), H.set b (.cells e ((l.take off ++ ys.take (min ys.length n) ++ l.drop (off + min ys.length n)).map (I k)))) := by
  have hm : min (min ys.length n) ys.length = min ys.length n := by omega
  unfold copyG copyD
  rw [hs]
  simp only [hfl, and_self, if_true, h, List.length_map, ← List.map_take, cells_map, Nat.mul_one, hl, List.length_take, hm, effH, Option.map_some, Eff.heap, splice, List.map_append, List.map_drop]

@[simp] theorem saX_all (ag : Bool) (n sz k off : Nat) : saX ag n sz (.ptr k off) none none none = some (.row ag sz k off n n) := by
  simp only [saX, optD, sliceAr, boundsD, Option.getD_none, Int.le_refl, Option.isNone_none, true_or, and_self, true_and, and_true, if_true, Int.toNat_natCast, Int.toNat_zero]
  simp
@[simp] theorem slX_row_a (ag : Bool) (sz k off n c : Nat) (k1 : IntKind) (a : Int) (h0 : 0 ≤ a) (h1 : a ≤ n) (h2 : n ≤ c) (h3 : a < c) :
    slX sz (.row ag sz k off n c) (some (.flat (.int k1 a))) none none = some (.row ag sz k (off + a.toNat * sz) (n - a.toNat) (c - a.toNat)) := by
  have h4 : (n : Int) ≤ c := by omega
  have h5 : ¬ c = a.toNat := by omega
  simp only [slX, optD, intD, Option.map_some, sliceSl, boundsD, Option.getD_none, Option.getD_some, h0, h1, h4, Int.le_refl, Option.isNone_none, true_or, and_self, true_and, and_true, if_true, Int.toNat_natCast]
  simp [h5, Nat.not_lt.mpr h2]
@[simp] theorem idxSl_row (ag : Bool) (sz k off n c : Nat) (k1 : IntKind) (i : Int) (h0 : 0 ≤ i) (h1 : i < n) : idxSl sz (.row ag sz k off n c) (.flat (.int k1 i)) = some (.ptr k (off + i.toNat * sz)) := by
  simp [idxSl, intD, h0, h1]

theorem outEl_row (ti : Bool) (k : IntKind) (b off n c : Nat) (H : Heap) (e : TypeId) (l : List Int) (h : H[b]? = some (.cells e (l.map (I k)))) (hl : off + n ≤ l.length) (hl2 : l.length ≤ 100000) (hc : n ≤ c) :
    outEl ti H (.row false 1 b off n c) = some (LV 1 (I k) ((l.drop off).take n) (if ti && n == c then .ti else .sh)) := by
  have hck : chunkOk false 1 n = true := by simp [chunkOk]; omega
  have hrw : outEl ti H (.row false 1 b off n c) = outLeaf ti H (.row false 1 b off n c) := rfl
  rw [hrw]
  unfold outLeaf
  simp only [hck, hc, and_self, if_true, rowCells, h, Nat.mul_one, List.length_map, hl, Option.bind_some]
  rw [chunk_one _ _ (by simp; omega)]
  rw [← List.map_drop, ← List.map_take, ← List.map_take, List.take_take, Nat.min_self, plainEl_map]
  rfl
end Go.Proofs.Ytbhnkdnfmlnajaa
