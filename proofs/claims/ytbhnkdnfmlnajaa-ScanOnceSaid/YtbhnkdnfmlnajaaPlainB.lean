/- Plain laws: the sum is linear; bytes with their sum have the sum 0, and no others. -/
import Derived.Test.YtbhnkdnfmlnajaaPlainA
namespace Go.Proofs.Ytbhnkdnfmlnajaa
open Go.RowKit

def nBit (x : Nat) : Nat := (x / 2) ^^^ (if x % 2 = 1 then 40961 else 0)
def nBits : Nat → Nat → Nat
  | 0, x => x
  | n + 1, x => nBit (nBits n x)
def nMore (s : Nat) (l : List UInt8) : Nat := l.foldl (fun s c => nBits 8 (s ^^^ c.toNat)) s
theorem nBit_lt (x : Nat) (h : x < 65536) : nBit x < 65536 := by
  unfold nBit
  have h2 : (if x % 2 = 1 then 40961 else 0) < 2 ^ 16 := by split <;> omega
  exact Nat.xor_lt_two_pow (by omega) h2
theorem nBits_lt (n x : Nat) (h : x < 65536) : nBits n x < 65536 := by
  induction n with
  | zero => exact h
  | succ n ih => exact nBit_lt _ ih
theorem crcBit_nat (x : Nat) (h : x < 65536) : crcBit (x : Int) = (nBit x : Int) := by
  rw [crcBit_is _ (by omega) (by omega)]
  unfold refBit nBit
  by_cases ho : x % 2 = 1
  · rw [if_pos (by omega), if_pos ho, xor_u16 _ _ (by omega) (by omega) (by omega) (by omega)]
    rfl
  · rw [if_neg (by omega), if_neg ho]; simp
theorem crcBits_nat (n x : Nat) (h : x < 65536) : crcBits n (x : Int) = (nBits n x : Int) := by
  induction n with
  | zero => rfl
  | succ n ih => rw [crcBits, ih, nBits, crcBit_nat _ (nBits_lt n x h)]
theorem crcMore_nat (l : List UInt8) : ∀ s : Nat, s < 65536 → crcMore (s : Int) l = (nMore s l : Int) := by
  induction l with
  | nil => exact fun _ _ => rfl
  | cons c l ih =>
    intro s h
    have hc := c.toNat_lt
    have hx : s ^^^ c.toNat < 2 ^ 16 := Nat.xor_lt_two_pow h (by omega)
    show crcMore (crcByte (s : Int) c) l = _
    have e : crcByte (s : Int) c = (nBits 8 (s ^^^ c.toNat) : Int) := by
      unfold crcByte
      rw [wraps_u16 _ (by omega) (by omega), xor_u16 _ _ (by omega) (by omega) (by omega) (by omega), ← crcBits_nat _ _ hx]
      rfl
    rw [e, ih _ (nBits_lt _ _ hx)]
    rfl
theorem nMore_lt (l : List UInt8) : ∀ s : Nat, s < 65536 → nMore s l < 65536 := by
  intro s h
  have := crcMore_bd l (s : Int) (by omega) (by omega)
  rw [crcMore_nat l s h] at this
  omega
theorem nMore_append (s : Nat) (a b : List UInt8) : nMore s (a ++ b) = nMore (nMore s a) b := by unfold nMore; rw [List.foldl_append]
theorem crcMore_append (s : Int) (a b : List UInt8) : crcMore s (a ++ b) = crcMore (crcMore s a) b := by unfold crcMore; rw [List.foldl_append]

theorem nBit_xor (x y : Nat) : nBit (x ^^^ y) = nBit x ^^^ nBit y := by
  unfold nBit
  have h1 : (x ^^^ y) / 2 = x / 2 ^^^ y / 2 := by simpa using Nat.xor_div_two_pow (a := x) (b := y) (n := 1)
  have h2 : (x ^^^ y) % 2 = (x % 2) ^^^ (y % 2) := by simpa using Nat.xor_mod_two_pow (a := x) (b := y) (n := 1)
  rw [h1, h2]
  rcases (by omega : x % 2 = 0 ∨ x % 2 = 1) with h | h <;> rcases (by omega : y % 2 = 0 ∨ y % 2 = 1) with k | k <;> rw [h, k]
  · simp
  · simp [Nat.xor_assoc]
  · simp only [Nat.xor_zero, if_true]
    rw [Nat.xor_assoc, Nat.xor_assoc]
    simp [Nat.xor_comm]
  · have e : ∀ p q c : Nat, p ^^^ c ^^^ (q ^^^ c) = p ^^^ q := by
      intro p q c
      rw [Nat.xor_comm q c, Nat.xor_assoc, ← Nat.xor_assoc c c q]; simp
    simp [e]
theorem nBits_xor (n x y : Nat) : nBits n (x ^^^ y) = nBits n x ^^^ nBits n y := by
  induction n with
  | zero => rfl
  | succ n ih => rw [nBits, ih, nBit_xor]; rfl
theorem nBit_zero (x : Nat) (h : x < 65536) (hz : nBit x = 0) : x = 0 := by
  unfold nBit at hz
  rcases (by omega : x % 2 = 0 ∨ x % 2 = 1) with h2 | h2
  · rw [if_neg (by omega)] at hz; simp at hz; omega
  · rw [if_pos h2] at hz
    have h3 : x / 2 = 40961 := by
      have := congrArg (· ^^^ 40961) hz
      simpa [Nat.xor_assoc] using this
    omega
theorem nBits_zero (n : Nat) : ∀ x : Nat, x < 65536 → nBits n x = 0 → x = 0 := by
  induction n with
  | zero => exact fun _ _ h => h
  | succ n ih => exact fun x h hz => ih x h (nBit_zero _ (nBits_lt n x h) hz)
theorem nBits_shift (n : Nat) : ∀ y : Nat, nBits n (2 ^ n * y) = y := by
  have key : ∀ m k y : Nat, nBits m (2 ^ (m + k) * y) = 2 ^ k * y := by
    intro m
    induction m with
    | zero => intro k y; simp [nBits]
    | succ m ih =>
      intro k y
      have := ih (k + 1) y
      rw [show m + 1 + k = m + (k + 1) by omega, nBits, this]
      unfold nBit
      have e : 2 ^ (k + 1) * y = 2 * (2 ^ k * y) := by rw [Nat.pow_succ, Nat.mul_comm (2 ^ k) 2, Nat.mul_assoc]
      rw [e, if_neg (by omega)]
      simp
  intro y
  simpa using key n 0 y
theorem nBits_add (m n x : Nat) : nBits m (nBits n x) = nBits (m + n) x := by
  induction m with
  | zero => simp [nBits]
  | succ m ih => rw [nBits, ih, show m + 1 + n = m + n + 1 by omega]; rfl
theorem nBits_nil (n : Nat) : nBits n 0 = 0 := by
  induction n with
  | zero => rfl
  | succ n ih => rw [nBits, ih]; rfl
/-- two bytes more: sixteen bits at once -/
theorem nMore_two (s : Nat) (a b : UInt8) : nMore s [a, b] = nBits 16 (s ^^^ a.toNat ^^^ 256 * b.toNat) := by
  show nBits 8 (nBits 8 (s ^^^ a.toNat) ^^^ b.toNat) = _
  rw [show (16 : Nat) = 8 + 8 from rfl, ← nBits_add 8 8, nBits_xor 8 (s ^^^ a.toNat), show 256 * b.toNat = 2 ^ 8 * b.toNat from rfl, nBits_shift 8]
theorem two_zero (s : Nat) (a b : UInt8) (h : s < 65536) : nMore s [a, b] = 0 ↔ a.toNat = s % 256 ∧ b.toNat = s / 256 := by
  have ha := a.toNat_lt
  have hb := b.toNat_lt
  have e : a.toNat ^^^ 256 * b.toNat = a.toNat + 256 * b.toNat := by
    have h1 : (a.toNat ^^^ 256 * b.toNat) % 2 ^ 8 = a.toNat := by
      rw [Nat.xor_mod_two_pow, show 256 * b.toNat = 2 ^ 8 * b.toNat from rfl, Nat.mul_mod_right, Nat.mod_eq_of_lt (by omega)]; simp
    have h2 : (a.toNat ^^^ 256 * b.toNat) / 2 ^ 8 = b.toNat := by
      rw [Nat.xor_div_two_pow, show 256 * b.toNat = 2 ^ 8 * b.toNat from rfl, Nat.mul_div_cancel_left _ (by omega), Nat.div_eq_of_lt (by omega)]; simp
    have := Nat.div_add_mod (a.toNat ^^^ 256 * b.toNat) (2 ^ 8)
    omega
  rw [nMore_two, Nat.xor_assoc, e]
  constructor
  · intro hz
    have hx : s ^^^ (a.toNat + 256 * b.toNat) < 2 ^ 16 := Nat.xor_lt_two_pow (by omega) (by omega)
    have := nBits_zero 16 _ hx hz
    have : s = a.toNat + 256 * b.toNat := by
      have h3 := congrArg (· ^^^ (a.toNat + 256 * b.toNat)) this
      simpa [Nat.xor_assoc] using h3
    omega
  · intro ⟨h1, h2⟩
    have : a.toNat + 256 * b.toNat = s := by omega
    rw [this, Nat.xor_self, nBits_nil]
def lowB (n : Int) : UInt8 := UInt8.ofNat n.toNat
theorem lowB_nat (n : Int) (h0 : 0 ≤ n) (h1 : n < 256) : ((lowB n).toNat : Int) = n := by
  unfold lowB; rw [UInt8.toNat_ofNat']; omega
def crcPut (l : List UInt8) : List UInt8 := l ++ [lowB (crcMore 65535 l % 256), lowB (crcMore 65535 l / 256 % 256)]
theorem crcPut_zero (l : List UInt8) : crcMore 65535 (crcPut l) = 0 := by
  have h := nMore_lt l 65535 (by omega)
  have e := crcMore_nat l 65535 (by omega)
  have e' : crcMore 65535 l = (nMore 65535 l : Int) := e
  unfold crcPut
  rw [e', show (65535 : Int) = ((65535 : Nat) : Int) from rfl, crcMore_nat _ _ (by omega), nMore_append]
  have h1 := lowB_nat ((nMore 65535 l : Int) % 256) (by omega) (by omega)
  have h2 := lowB_nat ((nMore 65535 l : Int) / 256 % 256) (by omega) (by omega)
  rw [(two_zero _ _ _ h).2 ⟨by omega, by omega⟩]
  rfl
/-- the only bytes with the sum 0 are those with their own sum behind them -/
theorem crc_zero (l : List UInt8) (h2 : 2 ≤ l.length) (hz : crcMore 65535 l = 0) : crcPut (l.take (l.length - 2)) = l := by
  obtain ⟨f, a, b, rfl⟩ : ∃ f a b, l = f ++ [a, b] := by
    refine ⟨l.take (l.length - 2), l[l.length - 2], l[l.length - 1], ?_⟩
    have h3 : l = l.take (l.length - 2) ++ l.drop (l.length - 2) := (List.take_append_drop _ _).symm
    have h4 : l.drop (l.length - 2) = [l[l.length - 2], l[l.length - 1]] := by
      rw [List.drop_eq_getElem_cons (by omega), show l.length - 2 + 1 = l.length - 1 by omega, List.drop_eq_getElem_cons (by omega), show l.length - 1 + 1 = l.length by omega, List.drop_length]
    rw [h4] at h3
    exact h3
  have e : (f ++ [a, b]).take ((f ++ [a, b]).length - 2) = f := by simp
  rw [e]
  have h := nMore_lt f 65535 (by omega)
  rw [show (65535 : Int) = ((65535 : Nat) : Int) from rfl, crcMore_nat _ _ (by omega), nMore_append] at hz
  obtain ⟨h3, h4⟩ := (two_zero _ a b h).1 (by exact_mod_cast hz)
  have e' : crcMore 65535 f = (nMore 65535 f : Int) := crcMore_nat f 65535 (by omega)
  unfold crcPut
  rw [e']
  have k1 : lowB ((nMore 65535 f : Int) % 256) = a := by
    apply UInt8.toNat_inj.1
    have := lowB_nat ((nMore 65535 f : Int) % 256) (by omega) (by omega)
    omega
  have k2 : lowB ((nMore 65535 f : Int) / 256 % 256) = b := by
    apply UInt8.toNat_inj.1
    have := lowB_nat ((nMore 65535 f : Int) / 256 % 256) (by omega) (by omega)
    omega
  rw [k1, k2]
theorem crcPut_take (l : List UInt8) (h2 : 2 ≤ l.length) : crcPut (l.take (l.length - 2)) = l ↔ crcMore 65535 l = 0 :=
  ⟨fun h => h ▸ crcPut_zero _, crc_zero l h2⟩
end Go.Proofs.Ytbhnkdnfmlnajaa
