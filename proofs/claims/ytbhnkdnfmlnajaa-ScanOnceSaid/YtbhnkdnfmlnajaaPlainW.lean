/- Plain laws of layer 2: words and bits of bytes, and back. No program in sight. -/
import Derived.Test.YtbhnkdnfmlnajaaPlainB
namespace Go.Proofs.Ytbhnkdnfmlnajaa
open Go.RowKit

def mkW (a b : UInt8) : UInt16 := UInt16.ofNat (256 * a.toNat + b.toNat)
theorem mkW_nat (a b : UInt8) : (mkW a b).toNat = 256 * a.toNat + b.toNat := by
  have := a.toNat_lt; have := b.toNat_lt
  unfold mkW; rw [UInt16.toNat_ofNat']; omega
theorem or_mkW (a b : UInt8) : Go.bits .or .u16 (IntKind.u16.wrap (IntKind.u16.wrap (a.toNat : Int) * 256)) (IntKind.u16.wrap (b.toNat : Int)) = ((mkW a b).toNat : Int) := by
  have := a.toNat_lt; have := b.toNat_lt
  rw [mkW_nat, wraps_u16 (a.toNat : Int) (by omega) (by omega), wraps_u16 (b.toNat : Int) (by omega) (by omega), wraps_u16 _ (by omega) (by omega),
    bits_join .u16 16 (by decide) wraps_u16 8 _ _ (by omega) (by omega) (by omega) (by omega) (by omega) (by omega)]
  omega
def wWords : List UInt8 → List UInt16
  | a :: b :: l => mkW a b :: wWords l
  | _ => []
theorem wWords_append (l m : List UInt8) (h : l.length % 2 = 0) : wWords (l ++ m) = wWords l ++ wWords m := by
  induction l using wWords.induct with
  | case1 a b l ih => simp only [List.cons_append, wWords]; rw [ih (by simp at h; omega)]
  | case2 l hl =>
    cases l with
    | nil => rfl
    | cons a l =>
      cases l with
      | nil => simp at h
      | cons b l => exact absurd rfl (hl a b l)
theorem wWords_len (l : List UInt8) : (wWords l).length = l.length / 2 := by
  induction l using wWords.induct with
  | case1 a b l ih => simp only [wWords, List.length_cons, ih]; omega
  | case2 l hl =>
    cases l with
    | nil => rfl
    | cons a l =>
      cases l with
      | nil => simp [wWords]
      | cons b l => exact absurd rfl (hl a b l)
theorem wWords_step (l : List UInt8) (k : Nat) (h : k + 1 < l.length) (hk : k % 2 = 0) : wWords (l.take (k + 2)) = wWords (l.take k) ++ [mkW l[k] l[k + 1]] := by
  have e : l.take (k + 2) = l.take k ++ [l[k], l[k + 1]] := by
    rw [show k + 2 = k + 1 + 1 from rfl, List.take_succ_eq_append_getElem h, List.take_succ_eq_append_getElem (by omega : k < l.length), List.append_assoc]; rfl
  rw [e, wWords_append _ _ (by rw [List.length_take]; omega)]
  rfl
def wBytes (l : List UInt16) : List UInt8 := l.flatMap fun n => [UInt8.ofNat (n.toNat / 256), UInt8.ofNat (n.toNat % 256)]
theorem wBytes_step (l : List UInt16) (k : Nat) (h : k < l.length) : wBytes (l.take (k + 1)) = wBytes (l.take k) ++ [UInt8.ofNat (l[k].toNat / 256), UInt8.ofNat (l[k].toNat % 256)] := by
  unfold wBytes
  rw [List.take_succ_eq_append_getElem h, List.flatMap_append]; simp
theorem wBytes_len (l : List UInt16) : (wBytes l).length = 2 * l.length := by
  unfold wBytes
  induction l with
  | nil => rfl
  | cons a l ih => simp [List.flatMap_cons] at ih ⊢; omega
theorem wWords_bytes (l : List UInt16) : wWords (wBytes l) = l := by
  induction l with
  | nil => rfl
  | cons a l ih =>
    show wWords (UInt8.ofNat (a.toNat / 256) :: UInt8.ofNat (a.toNat % 256) :: wBytes l) = _
    rw [wWords, ih]
    congr 1
    have := a.toNat_lt
    apply UInt16.toNat_inj.1
    rw [mkW_nat, UInt8.toNat_ofNat', UInt8.toNat_ofNat']
    omega

/-! ### bits -/
/-- the bits of a byte, the lowest first -/
def bitsOf (c : UInt8) (i : Nat) : Bool := c.toNat / 2 ^ i % 2 = 1
theorem and1_u8 (x : Int) (h0 : 0 ≤ x) (h1 : x < 256) : Go.bits .and .u8 x 1 = x % 2 := bits_mask .u8 8 (by decide) wraps_u8 1 (by decide) x h0 h1
theorem shr_nat (c : UInt8) (i : Nat) : (c.toNat : Int) / 2 ^ i = ((c.toNat / 2 ^ i : Nat) : Int) := by
  rw [Int.natCast_ediv]; simp
theorem and_bit (c : UInt8) (i : Nat) : (Go.bits .and .u8 ((c.toNat : Int) / 2 ^ i) 1 == 1) = bitsOf c i := by
  have hc := c.toNat_lt
  have hle : c.toNat / 2 ^ i ≤ c.toNat := Nat.div_le_self _ _
  rw [shr_nat]
  unfold bitsOf
  generalize c.toNat / 2 ^ i = q at *
  rw [and1_u8 _ (by omega) (by omega)]
  rw [Bool.eq_iff_iff, beq_iff_eq, decide_eq_true_iff]
  omega
/-- bits as one byte -/
def bOf8 : List Bool → Nat
  | [] => 0
  | b :: l => (if b then 1 else 0) + 2 * bOf8 l
theorem bOf8_lt (l : List Bool) : bOf8 l < 2 ^ l.length := by
  induction l with
  | nil => simp [bOf8]
  | cons b l ih => simp only [bOf8, List.length_cons, Nat.pow_succ]; split <;> omega
theorem bOf8_snoc (l : List Bool) (b : Bool) : bOf8 (l ++ [b]) = bOf8 l + if b then 2 ^ l.length else 0 := by
  induction l with
  | nil => simp [bOf8]
  | cons c l ih =>
    simp only [List.cons_append, bOf8, ih, List.length_cons, Nat.pow_succ]
    split <;> split <;> omega
theorem bOf8_bit (l : List Bool) (i : Nat) : (bOf8 l / 2 ^ i % 2 = 1) ↔ l[i]? = some true := by
  induction l generalizing i with
  | nil => simp [bOf8]
  | cons b l ih =>
    cases i with
    | zero => simp only [bOf8, Nat.pow_zero, Nat.div_one, List.getElem?_cons_zero]; cases b <;> simp <;> omega
    | succ i =>
      have e : bOf8 (b :: l) / 2 ^ (i + 1) = bOf8 l / 2 ^ i := by
        rw [Nat.pow_succ, Nat.mul_comm, ← Nat.div_div_eq_div_mul]
        congr 1
        simp only [bOf8]; split <;> omega
      rw [e, ih]; simp
/-- bits as bytes -/
def wPack (l : List Bool) : List UInt8 := (List.range ((l.length + 7) / 8)).map fun i => UInt8.ofNat (bOf8 ((l.drop (8 * i)).take 8))
theorem wPack_len (l : List Bool) : (wPack l).length = (l.length + 7) / 8 := by simp [wPack]
theorem wPack_get (l : List Bool) (i : Nat) (h : i < (wPack l).length) : (wPack l)[i].toNat = bOf8 ((l.drop (8 * i)).take 8) := by
  have hb := bOf8_lt ((l.drop (8 * i)).take 8)
  have hl : ((l.drop (8 * i)).take 8).length ≤ 8 := by simp; omega
  have : 2 ^ ((l.drop (8 * i)).take 8).length ≤ 2 ^ 8 := Nat.pow_le_pow_right (by omega) hl
  simp only [wPack, List.getElem_map, List.getElem_range, UInt8.toNat_ofNat']
  omega
/-- bits as n bytes -/
def pk (l : List Bool) (n : Nat) : List UInt8 := (List.range n).map fun i => UInt8.ofNat (bOf8 ((l.drop (8 * i)).take 8))
theorem pk_len (l : List Bool) (n : Nat) : (pk l n).length = n := by simp [pk]
theorem pk_get (l : List Bool) (n i : Nat) (h : i < (pk l n).length) : (pk l n)[i].toNat = bOf8 ((l.drop (8 * i)).take 8) := by
  have hb := bOf8_lt ((l.drop (8 * i)).take 8)
  have hl : ((l.drop (8 * i)).take 8).length ≤ 8 := by simp; omega
  have : 2 ^ ((l.drop (8 * i)).take 8).length ≤ 2 ^ 8 := Nat.pow_le_pow_right (by omega) hl
  simp only [pk, List.getElem_map, List.getElem_range, UInt8.toNat_ofNat']
  omega
theorem pk_nil (n : Nat) : pk [] n = List.replicate n 0 := by
  apply List.ext_getElem
  · simp [pk]
  · intro i h1 h2; simp [pk, bOf8]
theorem chunk_same (l : List Bool) (k i : Nat) (h : k < l.length) (hi : i ≠ k / 8) : ((l.take (k + 1)).drop (8 * i)).take 8 = ((l.take k).drop (8 * i)).take 8 := by
  rw [List.take_succ_eq_append_getElem h]
  have hk : (l.take k).length = k := by simp; omega
  rcases Nat.lt_or_ge i (k / 8) with hlt | hge
  · rw [List.drop_append_of_le_length (by omega), List.take_append_of_le_length (by simp; omega)]
  · rw [List.drop_eq_nil_of_le (by simp; omega), List.drop_eq_nil_of_le (by omega)]
theorem chunk_step (l : List Bool) (k : Nat) (h : k < l.length) : ((l.take (k + 1)).drop (8 * (k / 8))).take 8 = ((l.take k).drop (8 * (k / 8))).take 8 ++ [l[k]] := by
  rw [List.take_succ_eq_append_getElem h]
  have hk : (l.take k).length = k := by simp; omega
  rw [List.drop_append_of_le_length (by omega), List.take_of_length_le (by simp; omega), List.take_of_length_le (l := (l.take k).drop _) (by simp; omega)]
theorem chunk_len (l : List Bool) (k : Nat) (h : k < l.length) : (((l.take k).drop (8 * (k / 8))).take 8).length = k % 8 := by simp; omega
theorem pk_false (l : List Bool) (k n : Nat) (h : k < l.length) (hb : l[k] = false) : pk (l.take (k + 1)) n = pk (l.take k) n := by
  apply List.ext_getElem
  · simp [pk_len]
  · intro i h1 h2
    apply UInt8.toNat_inj.1
    rw [pk_get, pk_get]
    by_cases hi : i = k / 8
    · subst hi; rw [chunk_step l k h, bOf8_snoc, hb]; simp
    · rw [chunk_same l k i h hi]
theorem pk_true (l : List Bool) (k n : Nat) (h : k < l.length) (hb : l[k] = true) (hn : k / 8 < (pk (l.take k) n).length) :
    pk (l.take (k + 1)) n = (pk (l.take k) n).set (k / 8) (UInt8.ofNat ((pk (l.take k) n)[k / 8].toNat + 2 ^ (k % 8))) ∧ (pk (l.take k) n)[k / 8].toNat < 2 ^ (k % 8) := by
  have hlt : (pk (l.take k) n)[k / 8].toNat < 2 ^ (k % 8) := by
    rw [pk_get]; have := bOf8_lt (((l.take k).drop (8 * (k / 8))).take 8); rwa [chunk_len l k h] at this
  refine ⟨?_, hlt⟩
  have hp : 2 ^ (k % 8 + 1) ≤ 2 ^ 8 := Nat.pow_le_pow_right (by omega) (by omega)
  rw [Nat.pow_succ] at hp
  apply List.ext_getElem
  · simp [pk_len]
  · intro i h1 h2
    apply UInt8.toNat_inj.1
    rw [List.getElem_set]
    by_cases hi : k / 8 = i
    · subst hi
      rw [if_pos rfl, pk_get, chunk_step l k h, bOf8_snoc, hb, if_pos rfl, chunk_len l k h, UInt8.toNat_ofNat', pk_get]
      rw [pk_get] at hlt
      omega
    · rw [if_neg hi, pk_get, pk_get, chunk_same l k i h (fun e => hi e.symm)]
theorem pk_all (l : List Bool) : pk l ((l.length + 7) / 8) = wPack l := rfl
theorem or_u8_pow (x : Nat) (e : Nat) (he : e < 8) (hx : x < 2 ^ e) : Go.bits .or .u8 (x : Int) (((2 ^ e : Nat)) : Int) = ((x + 2 ^ e : Nat) : Int) := by
  have hp : 2 ^ (e + 1) ≤ 2 ^ 8 := Nat.pow_le_pow_right (by omega) (by omega)
  rw [Nat.pow_succ] at hp
  have h := (bits_nat .u8 8 (by decide) wraps_u8 x (2 ^ e) (by omega) (by omega)).2
  rw [h]
  have := Nat.two_pow_add_eq_or_of_lt hx 1
  rw [Nat.mul_one, Nat.or_comm] at this
  rw [← this]; omega
theorem or_bit (x e : Nat) (he : e < 8) (hx : x < 2 ^ e) : Go.bits .or .u8 (x : Int) ((2 : Int) ^ e % 256) = ((UInt8.ofNat (x + 2 ^ e)).toNat : Int) := by
  have hp : 2 ^ (e + 1) ≤ 2 ^ 8 := Nat.pow_le_pow_right (by omega) (by omega)
  rw [Nat.pow_succ] at hp
  have h1 : ((2 : Int) ^ e % 256) = ((2 ^ e : Nat) : Int) := by
    have : ((2 ^ e : Nat) : Int) = (2 : Int) ^ e := by simp
    rw [← this]; omega
  rw [h1, or_u8_pow x e he hx, UInt8.toNat_ofNat']
  omega
/-- so many bits of bytes -/
def wBitsL (b : List UInt8) (n : Nat) : List Bool := (List.range n).map fun i => bitsOf (b.getD (i / 8) 0) (i % 8)
theorem wBitsL_len (b : List UInt8) (n : Nat) : (wBitsL b n).length = n := by simp [wBitsL]
theorem bOf8_bits (c : UInt8) (m : Nat) : bOf8 ((List.range m).map (bitsOf c)) = c.toNat % 2 ^ m := by
  induction m with
  | zero => simp [bOf8, Nat.mod_one]
  | succ m ih =>
    rw [List.range_succ, List.map_append, List.map_singleton, bOf8_snoc, ih, List.length_map, List.length_range, Nat.mod_pow_succ]
    unfold bitsOf
    have : c.toNat / 2 ^ m % 2 < 2 := Nat.mod_lt _ (by omega)
    by_cases h : c.toNat / 2 ^ m % 2 = 1
    · simp [h]
    · rw [show c.toNat / 2 ^ m % 2 = 0 by omega]; simp
theorem bits_chunk (b : List UInt8) (n i : Nat) : ((wBitsL b n).drop (8 * i)).take 8 = (List.range (min 8 (n - 8 * i))).map (bitsOf (b.getD i 0)) := by
  apply List.ext_getElem
  · simp [wBitsL_len]
  · intro j h1 h2
    simp only [List.length_map, List.length_range] at h2
    simp only [List.getElem_take, List.getElem_drop, wBitsL, List.getElem_map, List.getElem_range]
    rw [show (8 * i + j) / 8 = i by omega, show (8 * i + j) % 8 = j by omega]
/-- whether bytes are so many bits, and no more -/
def bitsFit (b : List UInt8) (n : Nat) : Prop := b.length = (n + 7) / 8 ∧ (n % 8 = 0 ∨ (b.getD (n / 8) 0).toNat / 2 ^ (n % 8) = 0)
instance (b : List UInt8) (n : Nat) : Decidable (bitsFit b n) := by unfold bitsFit; infer_instance
theorem pack_bits (b : List UInt8) (n : Nat) : wPack (wBitsL b n) = b ↔ bitsFit b n := by
  have hl : (wPack (wBitsL b n)).length = (n + 7) / 8 := by rw [wPack_len, wBitsL_len]
  have get : ∀ i (h : i < (wPack (wBitsL b n)).length), (wPack (wBitsL b n))[i].toNat = (b.getD i 0).toNat % 2 ^ min 8 (n - 8 * i) := by
    intro i h
    rw [wPack_get, bits_chunk b n i, bOf8_bits]
  constructor
  · intro he
    refine ⟨by rw [← hl, he], ?_⟩
    by_cases h0 : n % 8 = 0
    · exact .inl h0
    · right
      have hi : n / 8 < (wPack (wBitsL b n)).length := by rw [hl]; omega
      have h1 := get _ hi
      rw [show min 8 (n - 8 * (n / 8)) = n % 8 by omega] at h1
      have h2 : (wPack (wBitsL b n))[n / 8].toNat = (b.getD (n / 8) 0).toNat := by
        have : (wPack (wBitsL b n))[n / 8]? = b[n / 8]? := by rw [he]
        rw [List.getElem?_eq_getElem hi] at this
        rw [List.getD_eq_getElem?_getD, ← this, Option.getD_some]
      rw [h2] at h1
      rw [h1]
      exact Nat.div_eq_of_lt (Nat.mod_lt _ (Nat.two_pow_pos _))
  · rintro ⟨h1, h2⟩
    apply List.ext_getElem
    · rw [hl, h1]
    · intro i k1 k2
      apply UInt8.toNat_inj.1
      rw [get i k1, List.getD_eq_getElem?_getD, List.getElem?_eq_getElem k2, Option.getD_some]
      have hb := b[i].toNat_lt
      rcases Nat.lt_or_ge (8 * i + 8) (n + 1) with h | h
      · rw [show min 8 (n - 8 * i) = 8 by omega, Nat.mod_eq_of_lt hb]
      · have hi : i = n / 8 := by omega
        subst hi
        rw [show min 8 (n - 8 * (n / 8)) = n % 8 by omega]
        have h3 := h2.resolve_left (by omega)
        rw [List.getD_eq_getElem?_getD, List.getElem?_eq_getElem k2, Option.getD_some] at h3
        apply Nat.mod_eq_of_lt
        exact (Nat.div_eq_zero_iff_lt (Nat.two_pow_pos _)).1 h3
theorem wBitsL_step (b : List UInt8) (k : Nat) : wBitsL b (k + 1) = wBitsL b k ++ [bitsOf (b.getD (k / 8) 0) (k % 8)] := by
  unfold wBitsL; rw [List.range_succ, List.map_append]; rfl
theorem wBits_pack (l : List Bool) : wBitsL (wPack l) l.length = l := by
  apply List.ext_getElem
  · simp [wBitsL]
  · intro i h1 h2
    simp only [wBitsL, List.getElem_map, List.getElem_range, bitsOf]
    have hi : i / 8 < (wPack l).length := by rw [wPack_len]; omega
    rw [List.getD_eq_getElem?_getD, List.getElem?_eq_getElem hi, Option.getD_some, wPack_get]
    have e := bOf8_bit ((l.drop (8 * (i / 8))).take 8) (i % 8)
    rw [List.getElem?_take, if_pos (by omega), List.getElem?_drop, show 8 * (i / 8) + i % 8 = i by omega, List.getElem?_eq_getElem h2] at e
    rw [Bool.eq_iff_iff, decide_eq_true_iff, e]
    simp
theorem pk_enough (l : List Bool) (k : Nat) (h : k < l.length) (hk : k % 8 ≠ 0) : wPack (l.take k) = pk (l.take k) (k / 8 + 1) := by
  unfold wPack pk
  rw [List.length_take, Nat.min_eq_left (by omega), show (k + 7) / 8 = k / 8 + 1 by omega]
theorem pk_more (l : List Bool) (k : Nat) (h : k < l.length) (hk : k % 8 = 0) : wPack (l.take k) ++ [0] = pk (l.take k) (k / 8 + 1) := by
  unfold wPack pk
  rw [List.length_take, Nat.min_eq_left (by omega), show (k + 7) / 8 = k / 8 by omega, List.range_succ, List.map_append]
  congr 1
  rw [List.map_singleton, List.drop_eq_nil_of_le (by simp; omega)]
  rfl
theorem pk_wPack (l : List Bool) (k : Nat) (h : k < l.length) : pk (l.take (k + 1)) (k / 8 + 1) = wPack (l.take (k + 1)) := by
  unfold wPack pk
  rw [List.length_take, Nat.min_eq_left (by omega), show (k + 1 + 7) / 8 = k / 8 + 1 by omega]
theorem add_mkW (a b : UInt8) : IntKind.u16.wrap (IntKind.u16.wrap (256 * IntKind.u16.wrap (a.toNat : Int)) + IntKind.u16.wrap (b.toNat : Int)) = ((mkW a b).toNat : Int) := by
  have := a.toNat_lt; have := b.toNat_lt
  rw [mkW_nat, wraps_u16 (a.toNat : Int) (by omega) (by omega), wraps_u16 (b.toNat : Int) (by omega) (by omega), wraps_u16 (256 * (a.toNat : Int)) (by omega) (by omega), wraps_u16 _ (by omega) (by omega)]
  omega
/-- what Bits tells of bytes -/
def wBits (b : List UInt8) (n : Nat) : Bool × List Bool := if bitsFit b n then (true, wBitsL b n) else (false, [])
theorem wBits_yes {b : List UInt8} {n : Nat} (h : bitsFit b n) : wBits b n = (true, wBitsL b n) := if_pos h
theorem wBits_no {b : List UInt8} {n : Nat} (h : ¬ bitsFit b n) : wBits b n = (false, []) := if_neg h
theorem fit_pack (l : List Bool) : bitsFit (wPack l) l.length := by
  rw [← pack_bits, wBits_pack]

/-- what Bits tells of bytes, at any number -/
def bitsTell (b : List UInt8) (n : Int) : Bool × List Bool := if n < 0 then (false, []) else wBits b n.toNat
theorem bitsTell_nat (b : List UInt8) (m : Nat) : bitsTell b (m : Int) = wBits b m := by unfold bitsTell; rw [if_neg (by omega)]; rfl
theorem bitsTell_neg {b : List UInt8} {n : Int} (h : n < 0) : bitsTell b n = (false, []) := if_pos h
/-- what Words tells of bytes -/
def wordsTell (l : List UInt8) : Bool × List UInt16 := if l.length % 2 = 1 then (false, []) else (true, wWords l)
theorem wordsTell_no {l : List UInt8} (h : l.length % 2 = 1) : wordsTell l = (false, []) := if_pos h
theorem wordsTell_yes {l : List UInt8} (h : l.length % 2 = 0) : wordsTell l = (true, wWords l) := if_neg (by omega)
/-! ### masks -/
def maskB (n a o : Nat) (i : Nat) : Bool := if a.testBit i then n.testBit i else o.testBit i
/-- the reference's sum, its first j bits -/
def msum (n a o : Nat) : Nat → Nat
  | 0 => 0
  | j + 1 => msum n a o j + if maskB n a o j then 2 ^ j else 0
def maskN (n a o : Nat) : Nat := (n &&& a) ||| (o &&& (a ^^^ 65535))
theorem maskN_bit (n a o : Nat) (i : Nat) (h : i < 16) : (maskN n a o).testBit i = maskB n a o i := by
  unfold maskN maskB
  have h1 : (65535 : Nat).testBit i = true := by
    have := Nat.testBit_two_pow_sub_one 16 i
    rw [show (2 : Nat) ^ 16 - 1 = 65535 from rfl] at this
    rw [this]; simpa using h
  rw [Nat.testBit_or, Nat.testBit_and, Nat.testBit_and, Nat.testBit_xor, h1]
  cases a.testBit i <;> simp
theorem maskN_lt (n a o : Nat) (hn : n < 65536) (ho : o < 65536) : maskN n a o < 65536 := by
  have h1 : n &&& a < 2 ^ 16 := Nat.lt_of_le_of_lt Nat.and_le_left hn
  have h2 : o &&& (a ^^^ 65535) < 2 ^ 16 := Nat.lt_of_le_of_lt Nat.and_le_left ho
  exact Nat.or_lt_two_pow h1 h2
theorem msum_mod (n a o j : Nat) (h : j ≤ 16) : msum n a o j = maskN n a o % 2 ^ j := by
  induction j with
  | zero => simp [msum, Nat.mod_one]
  | succ j ih =>
    rw [msum, ih (by omega), Nat.mod_pow_succ, ← maskN_bit n a o j (by omega), Nat.testBit_eq_decide_div_mod_eq]
    have : maskN n a o / 2 ^ j % 2 < 2 := Nat.mod_lt _ (by omega)
    by_cases hb : maskN n a o / 2 ^ j % 2 = 1
    · simp [hb]
    · rw [show maskN n a o / 2 ^ j % 2 = 0 by omega]; simp
theorem msum_all (n a o : Nat) (hn : n < 65536) (ho : o < 65536) : msum n a o 16 = maskN n a o := by
  rw [msum_mod _ _ _ _ (Nat.le_refl _)]; exact Nat.mod_eq_of_lt (maskN_lt n a o hn ho)
theorem msum_lt (n a o j : Nat) : msum n a o j < 2 ^ j := by
  induction j with
  | zero => simp [msum]
  | succ j ih => rw [msum, Nat.pow_succ]; split <;> omega
theorem bits16_ext (x y : Nat) (hx : x < 65536) (hy : y < 65536) (h : ∀ i, i < 16 → x.testBit i = y.testBit i) : x = y := by
  apply Nat.eq_of_testBit_eq
  intro i
  rcases Nat.lt_or_ge i 16 with h1 | h1
  · exact h i h1
  · have e : ∀ z : Nat, z < 65536 → z.testBit i = false := fun z hz => Nat.testBit_lt_two_pow (Nat.lt_of_lt_of_le hz (Nat.pow_le_pow_right (by omega) h1 : 2 ^ 16 ≤ 2 ^ i))
    rw [e x hx, e y hy]
theorem mask_again (n a o : Nat) (hn : n < 65536) (ho : o < 65536) : maskN (maskN n a o) a o = maskN n a o := by
  have hm := maskN_lt n a o hn ho
  refine bits16_ext _ _ (maskN_lt _ _ _ hm ho) hm fun i hi => ?_
  rw [maskN_bit _ _ _ _ hi]
  unfold maskB
  rw [maskN_bit _ _ _ _ hi]
  unfold maskB
  cases a.testBit i <;> simp
theorem mask_all (n o : Nat) (hn : n < 65536) : maskN n 65535 o = n := by
  unfold maskN
  rw [Nat.xor_self, Nat.and_zero, Nat.or_zero, show (65535 : Nat) = 2 ^ 16 - 1 from rfl, Nat.and_two_pow_sub_one_eq_mod]
  exact Nat.mod_eq_of_lt hn
theorem mask_none (n o : Nat) (ho : o < 65536) : maskN n 0 o = o := by
  unfold maskN
  rw [Nat.and_zero, Nat.zero_or, Nat.zero_xor, show (65535 : Nat) = 2 ^ 16 - 1 from rfl, Nat.and_two_pow_sub_one_eq_mod]
  exact Nat.mod_eq_of_lt ho
theorem andNot_u16 (x y : Nat) (hx : x < 65536) (hy : y < 65536) : Go.bits .andNot .u16 (x : Int) (y : Int) = ((x &&& (y ^^^ 65535) : Nat) : Int) := by
  have e : (BitVec.ofInt 16 (x : Int) &&& ~~~(BitVec.ofInt 16 (y : Int))).toNat = x &&& (y ^^^ 65535) := by
    rw [BitVec.toNat_and, BitVec.ofInt_natCast, BitVec.ofInt_natCast, BitVec.toNat_ofNat, Nat.mod_eq_of_lt (by omega)]
    congr 1
    rw [BitVec.toNat_not, BitVec.toNat_ofNat, Nat.mod_eq_of_lt (by omega)]
    have h1 : y ^^^ 65535 < 2 ^ 16 := Nat.xor_lt_two_pow hy (by omega)
    apply bits16_ext _ _ (by omega) h1
    intro i hi
    have h3 := Nat.testBit_two_pow_sub_succ (x := y) (n := 16) (by omega) i
    rw [show 2 ^ 16 - 1 - y = 2 ^ 16 - (y + 1) by omega, h3, Nat.testBit_xor]
    have h4 := Nat.testBit_two_pow_sub_one 16 i
    rw [show (2 : Nat) ^ 16 - 1 = 65535 from rfl] at h4
    rw [h4]
    simp [hi]
  unfold Go.bits
  show IntKind.u16.wrap ((BitVec.ofInt 16 (x : Int) &&& ~~~(BitVec.ofInt 16 (y : Int))).toNat : Int) = _
  rw [e]
  have : x &&& (y ^^^ 65535) < 65536 := Nat.lt_of_le_of_lt Nat.and_le_left hx
  exact wraps_u16 _ (by omega) (by omega)
theorem mask_int (n a o : Nat) (hn : n < 65536) (ha : a < 65536) (ho : o < 65536) :
    Go.bits .or .u16 (Go.bits .and .u16 (n : Int) (a : Int)) (Go.bits .andNot .u16 (o : Int) (a : Int)) = (maskN n a o : Int) := by
  have h1 : n &&& a < 65536 := Nat.lt_of_le_of_lt Nat.and_le_left hn
  have h2 : o &&& (a ^^^ 65535) < 65536 := Nat.lt_of_le_of_lt Nat.and_le_left ho
  rw [and_u16 _ _ (by omega) (by omega) (by omega) (by omega), andNot_u16 o a ho ha]
  have h3 := or_u16 ((n &&& a : Nat) : Int) ((o &&& (a ^^^ 65535) : Nat) : Int) (by omega) (by omega) (by omega) (by omega)
  exact h3
end Go.Proofs.Ytbhnkdnfmlnajaa
