/- The middle of two numbers by and, xor and shift. -/
import Derived.Test.YtbhnkdnfmlnajaaEv
namespace Go.Proofs.Ytbhnkdnfmlnajaa
open Go
theorem and_xor_add : ∀ (n a b : Nat), a < n → 2 * (a &&& b) + (a ^^^ b) = a + b
  | 0, a, b, h => by omega
  | n + 1, a, b, h => by
    by_cases h0 : a = 0
    · subst h0
      simp
    · have ih := and_xor_add n (a / 2) (b / 2) (by omega)
      have e1 := Nat.and_div_two (a := a) (b := b)
      have e2 := Nat.xor_div_two (a := a) (b := b)
      have m1 : (a &&& b) % 2 = if a % 2 = 1 ∧ b % 2 = 1 then 1 else 0 := by
        have := Nat.and_mod_two_pow (a := a) (b := b) (n := 1)
        simp only [Nat.pow_one] at this
        rw [this]
        rcases Nat.mod_two_eq_zero_or_one a with x | x <;> rcases Nat.mod_two_eq_zero_or_one b with y | y <;> simp [x, y]
      have m2 : (a ^^^ b) % 2 = if a % 2 = b % 2 then 0 else 1 := by
        have := Nat.xor_mod_two_pow (a := a) (b := b) (n := 1)
        simp only [Nat.pow_one] at this
        rw [this]
        rcases Nat.mod_two_eq_zero_or_one a with x | x <;> rcases Nat.mod_two_eq_zero_or_one b with y | y <;> simp [x, y]
      rw [← e1, ← e2] at ih
      split at m1 <;> split at m2 <;> omega
theorem mid_two (a b : Int) (ha : 0 ≤ a ∧ a < 65536) (hb : 0 ≤ b ∧ b < 65536) : andI .u16 a b + xorI .u16 a b / 2 = (a + b) / 2 ∧ 0 ≤ andI .u16 a b ∧ 0 ≤ xorI .u16 a b := by
  obtain ⟨a, rfl⟩ := Int.eq_ofNat_of_zero_le ha.1
  obtain ⟨b, rfl⟩ := Int.eq_ofNat_of_zero_le hb.1
  have h := and_xor_add (a + 1) a b (by omega)
  have l1 : a &&& b ≤ a := Nat.and_le_left
  have e1 : andI .u16 a b = ((a &&& b : Nat) : Int) := by
    unfold andI
    rw [BitVec.toNat_and, BitVec.toNat_ofInt, BitVec.toNat_ofInt]
    have x1 : ((a : Int) % ((2 ^ IntKind.u16.bits : Nat) : Int)).toNat = a := by
      have : ((2 ^ IntKind.u16.bits : Nat) : Int) = 65536 := rfl
      rw [this]; omega
    have x2 : ((b : Int) % ((2 ^ IntKind.u16.bits : Nat) : Int)).toNat = b := by
      have : ((2 ^ IntKind.u16.bits : Nat) : Int) = 65536 := rfl
      rw [this]; omega
    rw [x1, x2, wrap_u16]
    omega
  have l2 : a ^^^ b < 65536 := Nat.xor_lt_two_pow (n := 16) (by omega) (by omega)
  have e2 : xorI .u16 a b = ((a ^^^ b : Nat) : Int) := by
    unfold xorI
    rw [BitVec.toNat_xor, BitVec.toNat_ofInt, BitVec.toNat_ofInt]
    have x1 : ((a : Int) % ((2 ^ IntKind.u16.bits : Nat) : Int)).toNat = a := by
      have : ((2 ^ IntKind.u16.bits : Nat) : Int) = 65536 := rfl
      rw [this]; omega
    have x2 : ((b : Int) % ((2 ^ IntKind.u16.bits : Nat) : Int)).toNat = b := by
      have : ((2 ^ IntKind.u16.bits : Nat) : Int) = 65536 := rfl
      rw [this]; omega
    rw [x1, x2, wrap_u16]
    omega
  rw [e1, e2]
  omega
end Go.Proofs.Ytbhnkdnfmlnajaa
