/- Sums of bytes that are turned in up to sixteen bits, one behind the other. -/
import Derived.Test.YtbmjflieedadkaaPlainB
namespace Go.Proofs.Ytbmjflieedadkaa
open Go
theorem nMore_lin (l : List UInt8) : ∀ x y : Nat, nMore (x ^^^ y) l = nMore x l ^^^ nBits (8 * l.length) y := by
  induction l with
  | nil => intro x y; rfl
  | cons c l ih =>
    intro x y
    show nMore (nBits 8 ((x ^^^ y) ^^^ c.toNat)) l = nMore (nBits 8 (x ^^^ c.toNat)) l ^^^ _
    have e : (x ^^^ y) ^^^ c.toNat = (x ^^^ c.toNat) ^^^ y := by rw [Nat.xor_assoc, Nat.xor_comm y, ← Nat.xor_assoc]
    rw [e, nBits_xor, ih, nBits_add]
    rfl
/-- a byte with a bit turned -/
def flipB (c : UInt8) (j : Nat) : UInt8 := UInt8.ofNat (c.toNat ^^^ 2 ^ j)
theorem flipB_nat (c : UInt8) (j : Nat) (h : j < 8) : (flipB c j).toNat = c.toNat ^^^ 2 ^ j := by
  unfold flipB
  rw [UInt8.toNat_ofNat']
  refine Nat.mod_eq_of_lt ?_
  refine Nat.xor_lt_two_pow c.toNat_lt ?_
  exact Nat.pow_lt_pow_right (by omega) h
def flip1 (l : List UInt8) (p : Nat) : List UInt8 := match l[p / 8]? with
  | some c => l.set (p / 8) (flipB c (p % 8))
  | none => l
theorem flip1_len (l : List UInt8) (p : Nat) : (flip1 l p).length = l.length := by unfold flip1; split <;> simp
theorem nBits_pow (m j : Nat) (h : j ≤ m) : nBits m (2 ^ j) = nBits (m - j) 1 := by
  have h1 := nBits_add (m - j) j (2 ^ j)
  have h2 := nBits_shift j 1
  rw [Nat.mul_one] at h2
  rw [h2, Nat.sub_add_cancel h] at h1
  exact h1.symm
theorem nMore_flip (s : Nat) (l : List UInt8) (p : Nat) (h : p < 8 * l.length) : nMore s (flip1 l p) = nMore s l ^^^ nBits (8 * l.length - p) 1 := by
  have hp : p / 8 < l.length := by omega
  have hl : l = l.take (p / 8) ++ (l[p / 8] :: l.drop (p / 8 + 1)) := by rw [← List.drop_eq_getElem_cons hp, List.take_append_drop]
  have hf : flip1 l p = l.take (p / 8) ++ (flipB l[p / 8] (p % 8) :: l.drop (p / 8 + 1)) := by
    unfold flip1
    rw [List.getElem?_eq_getElem hp]
    exact List.set_eq_take_append_cons_drop.trans (by rw [if_pos hp])
  have e1 : nMore s l = nMore (nBits 8 (nMore s (l.take (p / 8)) ^^^ (l[p / 8]).toNat)) (l.drop (p / 8 + 1)) := by
    conv => lhs; rw [hl]
    rw [nMore_append]
    rfl
  have e2 : nMore s (flip1 l p) = nMore (nBits 8 (nMore s (l.take (p / 8)) ^^^ (flipB l[p / 8] (p % 8)).toNat)) (l.drop (p / 8 + 1)) := by
    rw [hf, nMore_append]
    rfl
  rw [e1, e2, flipB_nat _ _ (by omega), ← Nat.xor_assoc, nBits_xor, nMore_lin, nBits_pow 8 (p % 8) (by omega), nBits_add]
  congr 2
  simp only [List.length_drop]
  omega
/-- bytes turned at a place by the first i bits of a number -/
def flipsL (l : List UInt8) (at_ turn : Nat) : Nat → List UInt8
  | 0 => l
  | i + 1 => if turn / 2 ^ i % 2 = 1 then flip1 (flipsL l at_ turn i) (at_ + i) else flipsL l at_ turn i
theorem flipsL_len (l : List UInt8) (at_ turn : Nat) : ∀ i, (flipsL l at_ turn i).length = l.length
  | 0 => rfl
  | i + 1 => by
    unfold flipsL
    split
    · rw [flip1_len, flipsL_len l at_ turn i]
    · exact flipsL_len l at_ turn i
theorem mod_succ_xor (t i : Nat) : t % 2 ^ (i + 1) = t % 2 ^ i ^^^ (if t / 2 ^ i % 2 = 1 then 2 ^ i else 0) := by
  apply Nat.eq_of_testBit_eq
  intro j
  rw [Nat.testBit_xor, Nat.testBit_mod_two_pow, Nat.testBit_mod_two_pow]
  have hb : t.testBit i = decide (t / 2 ^ i % 2 = 1) := by rw [Nat.testBit_eq_decide_div_mod_eq]
  by_cases h1 : t / 2 ^ i % 2 = 1
  · rw [if_pos h1, Nat.testBit_two_pow]
    rw [h1] at hb
    by_cases h2 : j = i
    · subst h2
      simp at hb
      simp [hb]
    · have : decide (i = j) = false := by simp; omega
      rw [this]
      by_cases h3 : j < i
      · simp [h3, show j < i + 1 by omega]
      · simp [h3, show ¬ j < i + 1 by omega]
  · rw [if_neg h1, Nat.zero_testBit, Bool.xor_false]
    by_cases h2 : j = i
    · subst h2
      have : t.testBit j = false := by rw [hb]; simpa using h1
      simp [this]
    · by_cases h3 : j < i
      · simp [h3, show j < i + 1 by omega]
      · simp [h3, show ¬ j < i + 1 by omega]
theorem nMore_flips (s : Nat) (l : List UInt8) (at_ turn : Nat) : ∀ i, at_ + i ≤ 8 * l.length → nMore s (flipsL l at_ turn i) = nMore s l ^^^ nBits (8 * l.length - at_) (turn % 2 ^ i)
  | 0, _ => by simp [flipsL, Nat.mod_one, nBits_nil]
  | i + 1, h => by
    have ih := nMore_flips s l at_ turn i (by omega)
    rw [mod_succ_xor, nBits_xor]
    unfold flipsL
    by_cases h1 : turn / 2 ^ i % 2 = 1
    · rw [if_pos h1, if_pos h1, nMore_flip _ _ _ (by rw [flipsL_len]; omega), ih, flipsL_len, nBits_pow _ i (by omega), Nat.xor_assoc, Nat.sub_sub]
    · rw [if_neg h1, if_neg h1, ih, nBits_nil, Nat.xor_zero]
/-- turned in up to sixteen bits, bytes whose sum is zero have another one -/
theorem flips_sum (l : List UInt8) (at_ turn : Nat) (h : at_ + 16 ≤ 8 * l.length) (h0 : turn ≠ 0) (h1 : turn < 65536) (hz : nMore 65535 l = 0) : nMore 65535 (flipsL l at_ turn 16) ≠ 0 := by
  rw [nMore_flips _ _ _ _ _ h, hz, Nat.zero_xor]
  intro e
  have : turn % 2 ^ 16 = 0 := nBits_zero _ _ (Nat.mod_lt _ (by omega)) e
  omega
end Go.Proofs.Ytbmjflieedadkaa
