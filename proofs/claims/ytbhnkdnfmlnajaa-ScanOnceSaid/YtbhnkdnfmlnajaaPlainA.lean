/- Plain laws on bits of words, and that the reference's sum is the program's. No program in sight. -/
import Derived.WalkKit
import Derived.OpenShut
import Derived.Laws.BitsLemmas
namespace Go.Proofs.Ytbhnkdnfmlnajaa
open Go.RowKit

theorem wraps_u16 (n : Int) (h0 : 0 ≤ n) (h1 : n < 2 ^ 16) : IntKind.u16.wrap n = n := by
  simp [IntKind.wrap, IntKind.bits, IntKind.signed]; omega
theorem bits_xor_nat (k : IntKind) (j : Nat) (hj : j ≤ k.bits) (hk : ∀ n : Int, 0 ≤ n → n < 2 ^ j → k.wrap n = n) (a b : Nat) (ha : a < 2 ^ j) (hb : b < 2 ^ j) :
    Go.bits .xor k a b = ((a ^^^ b : Nat) : Int) := by
  have hp : 2 ^ j ≤ 2 ^ k.bits := Nat.pow_le_pow_right (by decide) hj
  have ha' : a % 2 ^ k.bits = a := Nat.mod_eq_of_lt (Nat.lt_of_lt_of_le ha hp)
  have hb' : b % 2 ^ k.bits = b := Nat.mod_eq_of_lt (Nat.lt_of_lt_of_le hb hp)
  have cast : ∀ n : Nat, n < 2 ^ j → ((n : Nat) : Int) < 2 ^ j := fun n h => by exact_mod_cast h
  simp only [Go.bits, BitVec.ofInt_natCast, BitVec.toNat_xor, BitVec.toNat_ofNat, ha', hb']
  exact hk _ (Int.natCast_nonneg _) (cast _ (Nat.xor_lt_two_pow ha hb))
theorem xor_u16 (x y : Int) (hx0 : 0 ≤ x) (hx1 : x < 65536) (hy0 : 0 ≤ y) (hy1 : y < 65536) : Go.bits .xor .u16 x y = ((x.toNat ^^^ y.toNat : Nat) : Int) := by
  obtain ⟨a, rfl⟩ := Int.eq_ofNat_of_zero_le hx0
  obtain ⟨b, rfl⟩ := Int.eq_ofNat_of_zero_le hy0
  exact bits_xor_nat .u16 16 (by decide) wraps_u16 a b (by omega) (by omega)
theorem and_u16 (x y : Int) (hx0 : 0 ≤ x) (hx1 : x < 65536) (hy0 : 0 ≤ y) (hy1 : y < 65536) : Go.bits .and .u16 x y = ((x.toNat &&& y.toNat : Nat) : Int) := by
  obtain ⟨a, rfl⟩ := Int.eq_ofNat_of_zero_le hx0
  obtain ⟨b, rfl⟩ := Int.eq_ofNat_of_zero_le hy0
  exact (bits_nat .u16 16 (by decide) wraps_u16 a b (by omega) (by omega)).1
theorem or_u16 (x y : Int) (hx0 : 0 ≤ x) (hx1 : x < 65536) (hy0 : 0 ≤ y) (hy1 : y < 65536) : Go.bits .or .u16 x y = ((x.toNat ||| y.toNat : Nat) : Int) := by
  obtain ⟨a, rfl⟩ := Int.eq_ofNat_of_zero_le hx0
  obtain ⟨b, rfl⟩ := Int.eq_ofNat_of_zero_le hy0
  exact (bits_nat .u16 16 (by decide) wraps_u16 a b (by omega) (by omega)).2

theorem div_u16 (x c : Int) (h0 : 0 ≤ x) (h1 : x < 65536) (hc : 0 < c) : IntKind.u16.wrap (x.tdiv c) = x / c := by
  rw [Int.tdiv_eq_ediv_of_nonneg h0]
  have := Int.ediv_nonneg h0 (Int.le_of_lt hc)
  have := Int.ediv_le_self c h0
  exact wraps_u16 _ (by omega) (by omega)
theorem wraps_i64 (n : Int) (h0 : 0 ≤ n) (h1 : n < 2 ^ 62) : IntKind.i64.wrap n = n := by
  simp [IntKind.wrap, IntKind.bits, IntKind.signed]; omega
theorem and1_i64 (x : Int) (h0 : 0 ≤ x) (h1 : x < 2 ^ 62) : Go.bits .and .i64 x 1 = x % 2 := bits_mask .i64 62 (by decide) wraps_i64 1 (by decide) x h0 h1
/-! ### the program's sum -/
def crcBit (x : Int) : Int := Go.bits .xor .u16 (x / 2) (Go.bits .and .u16 40961 (IntKind.u16.wrap (-(Go.bits .and .u16 x 1))))
def crcBits : Nat → Int → Int
  | 0, x => x
  | n + 1, x => crcBit (crcBits n x)
def crcByte (s : Int) (c : UInt8) : Int := crcBits 8 (Go.bits .xor .u16 s (IntKind.u16.wrap (c.toNat : Int)))
def crcMore (s : Int) (l : List UInt8) : Int := l.foldl crcByte s
theorem crcMore_snoc (s : Int) (l : List UInt8) (k : Nat) (h : k < l.length) : crcMore s (l.take (k + 1)) = crcByte (crcMore s (l.take k)) l[k] := by
  unfold crcMore; rw [List.take_succ_eq_append_getElem h, List.foldl_append]; rfl

/-! ### the reference's -/
/-- the bits by which two bytes differ, the first j of them -/
def xsum (a b : Int) : Nat → Int
  | 0 => 0
  | j + 1 => xsum a b j + if a / 2 ^ j % 2 ≠ b / 2 ^ j % 2 then 2 ^ j else 0
def refBit (x : Int) : Int := if x % 2 = 1 then Go.bits .xor .u16 (x / 2) 40961 else x / 2
def refBits : Nat → Int → Int
  | 0, x => x
  | n + 1, x => refBit (refBits n x)
def refStep (s : Int) (c : UInt8) : Int := refBits 8 (s - s % 256 + xsum (s % 256) (c.toNat : Int) 8)
theorem xsum_le (a b : Int) (j : Nat) : 0 ≤ xsum a b j ∧ xsum a b j < 2 ^ j := by
  induction j with
  | zero => simp [xsum]
  | succ j ih =>
    have h2 : (0 : Int) < 2 ^ j := Int.pow_pos (by omega)
    simp only [xsum, Int.pow_succ]
    split <;> omega
theorem refBit_bd (x : Int) (h0 : 0 ≤ x) (h1 : x < 65536) : 0 ≤ refBit x ∧ refBit x < 65536 := by
  unfold refBit
  split
  · have := bounds_u16 (wf_bits .xor .u16 (x / 2) 40961); omega
  · omega
theorem refBits_bd (n : Nat) (x : Int) (h0 : 0 ≤ x) (h1 : x < 65536) : 0 ≤ refBits n x ∧ refBits n x < 65536 := by
  induction n with
  | zero => exact ⟨h0, h1⟩
  | succ n ih => exact refBit_bd _ ih.1 ih.2
theorem refStep_bd (s : Int) (c : UInt8) (h0 : 0 ≤ s) (h1 : s < 65536) : 0 ≤ refStep s c ∧ refStep s c < 65536 := by
  have := xsum_le (s % 256) (c.toNat : Int) 8
  unfold refStep
  exact refBits_bd _ _ (by omega) (by omega)

/-! ### they are one -/
theorem xsum_nat (a b j : Nat) : xsum (a : Int) (b : Int) j = (((a ^^^ b) % 2 ^ j : Nat) : Int) := by
  induction j with
  | zero => simp [xsum, Nat.mod_one]
  | succ j ih =>
    have hx : ((a ^^^ b) / 2 ^ j) % 2 = ((a / 2 ^ j % 2) ^^^ (b / 2 ^ j % 2)) := by
      have := Nat.xor_mod_two_pow (a := a / 2 ^ j) (b := b / 2 ^ j) (n := 1)
      rw [Nat.xor_div_two_pow]; simpa using this
    rw [Nat.mod_pow_succ, xsum, ih, hx]
    have e : ∀ x : Nat, (x : Int) / 2 ^ j % 2 = ((x / 2 ^ j % 2 : Nat) : Int) := by
      intro x
      have h2 : ((2 ^ j : Nat) : Int) = 2 ^ j := by simp
      rw [Int.natCast_emod, Int.natCast_ediv, h2]
      rfl
    rw [e, e]
    have h1 : a / 2 ^ j % 2 < 2 := Nat.mod_lt _ (by omega)
    have h2 : b / 2 ^ j % 2 < 2 := Nat.mod_lt _ (by omega)
    generalize a / 2 ^ j % 2 = p at *
    generalize b / 2 ^ j % 2 = q at *
    rcases (by omega : (p = 0 ∨ p = 1)) with rfl | rfl <;> rcases (by omega : (q = 0 ∨ q = 1)) with rfl | rfl <;> simp
theorem xor_split (s c : Nat) (hc : c < 256) : s ^^^ c = s - s % 256 + ((s % 256) ^^^ c) % 2 ^ 8 := by
  have h1 : (s ^^^ c) % 2 ^ 8 = (s % 256) ^^^ c := by
    rw [Nat.xor_mod_two_pow]; congr 1; exact Nat.mod_eq_of_lt hc
  have h2 : (s ^^^ c) / 2 ^ 8 = s / 256 := by
    rw [Nat.xor_div_two_pow, Nat.div_eq_of_lt hc]; simp
  have h3 : ((s % 256) ^^^ c) < 2 ^ 8 := Nat.xor_lt_two_pow (Nat.mod_lt _ (by omega)) hc
  have h4 := Nat.div_add_mod (s ^^^ c) (2 ^ 8)
  rw [h1, h2] at h4
  rw [Nat.mod_eq_of_lt h3]
  have := Nat.div_add_mod s 256
  omega
theorem crcBit_is (x : Int) (h0 : 0 ≤ x) (h1 : x < 65536) : crcBit x = refBit x := by
  unfold crcBit refBit
  rw [and_u16 x 1 h0 h1 (by omega) (by omega)]
  have e : (x.toNat &&& (1 : Int).toNat) = x.toNat % 2 := by
    show x.toNat &&& 1 = _
    exact Nat.and_one_is_mod _
  rw [e]
  rcases (by omega : x.toNat % 2 = 0 ∨ x.toNat % 2 = 1) with h | h
  · rw [h, if_neg (by omega)]
    rw [show IntKind.u16.wrap (-((0 : Nat) : Int)) = 0 from rfl, show Go.bits .and .u16 40961 0 = 0 from by decide, xor_u16 _ _ (by omega) (by omega) (by omega) (by omega)]
    simp; omega
  · rw [h, if_pos (by omega)]
    rw [show IntKind.u16.wrap (-((1 : Nat) : Int)) = 65535 from by decide, show Go.bits .and .u16 40961 65535 = 40961 from by decide]
theorem crcBits_is (n : Nat) (x : Int) (h0 : 0 ≤ x) (h1 : x < 65536) : crcBits n x = refBits n x := by
  induction n with
  | zero => rfl
  | succ n ih => have := refBits_bd n x h0 h1; rw [crcBits, refBits, ih, crcBit_is _ this.1 this.2]
theorem crcByte_is (s : Int) (c : UInt8) (h0 : 0 ≤ s) (h1 : s < 65536) : crcByte s c = refStep s c := by
  have hc : (c.toNat : Int) < 256 := by have := c.toNat_lt; omega
  unfold crcByte refStep
  rw [wraps_u16 _ (by omega) (by omega), xor_u16 _ _ h0 h1 (by omega) (by omega), Int.toNat_natCast]
  obtain ⟨a, rfl⟩ := Int.eq_ofNat_of_zero_le h0
  have e : ((a : Int) % 256) = ((a % 256 : Nat) : Int) := by omega
  rw [e, xsum_nat, Int.toNat_natCast, xor_split a c.toNat (by omega)]
  have hle : a % 256 ≤ a := Nat.mod_le _ _
  have hlt : ((a % 256) ^^^ c.toNat) % 2 ^ 8 < 2 ^ 8 := Nat.mod_lt _ (by omega)
  rw [Int.natCast_add, Int.natCast_sub hle]
  exact crcBits_is _ _ (by omega) (by omega)
theorem crcByte_bd (s : Int) (c : UInt8) (h0 : 0 ≤ s) (h1 : s < 65536) : 0 ≤ crcByte s c ∧ crcByte s c < 65536 := by
  rw [crcByte_is s c h0 h1]; exact refStep_bd s c h0 h1
theorem crcMore_bd (l : List UInt8) : ∀ (s : Int), 0 ≤ s → s < 65536 → 0 ≤ crcMore s l ∧ crcMore s l < 65536 := by
  induction l with
  | nil => exact fun s h0 h1 => ⟨h0, h1⟩
  | cons x l ih => exact fun s h0 h1 => ih _ (crcByte_bd s x h0 h1).1 (crcByte_bd s x h0 h1).2
theorem refMore_is (l : List UInt8) : ∀ (s : Int), 0 ≤ s → s < 65536 → l.foldl refStep s = crcMore s l := by
  induction l with
  | nil => exact fun _ _ _ => rfl
  | cons x l ih => intro s h0 h1; rw [List.foldl_cons, ← crcByte_is s x h0 h1, ih _ (crcByte_bd s x h0 h1).1 (crcByte_bd s x h0 h1).2]; rfl
end Go.Proofs.Ytbhnkdnfmlnajaa
