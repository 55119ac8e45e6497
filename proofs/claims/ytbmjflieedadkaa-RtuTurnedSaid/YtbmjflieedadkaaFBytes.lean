/- Go functions as Lean functions on deep values; printed by a program of mine. -/
import Derived.Test.YtbmjflieedadkaaEnv
namespace Go.Proofs.Ytbmjflieedadkaa
open Go
set_option maxRecDepth 100000
set_option linter.unusedVariables false
/-! bytes.Clone -/
noncomputable def s_bytes_Clone (n : Nat) (H : Heap) (fl : Nat) (a0 : DV) : R :=
  bi (binD Try.prog .eql 22 (.tmp 3) (.const (.slice none 0 0)) a0 (.list 0 [] .ti)) fun d0 =>
  condR d0 (
  some ((.list 0 [] .ti), H)) (
  bi (buildL false 1 0 (I .u8 0) []) fun d1 =>
  bi (appG 5 false 1 1 d1 a0 H fl) fun p2 =>
  some (p2.1, p2.2))
theorem s_bytes_Clone_eq (n : Nat) (H : Heap) (fl : Nat) (a0 : DV) : callG Try.prog ENV (n + 1) 76 [a0] H fl = s_bytes_Clone n H fl a0 := by kernel_rfl

/-! bytes.Equal -/
noncomputable def s_bytes_Equal (n : Nat) (H : Heap) (fl : Nat) (a0 a1 : DV) : R :=
  bi (convD Try.prog 22 9 a0) fun d0 =>
  bi (convD Try.prog 22 9 a1) fun d1 =>
  bi (eqS d0 d1) fun d2 =>
  some (d2, H)
theorem s_bytes_Equal_eq (n : Nat) (H : Heap) (fl : Nat) (a0 a1 : DV) : callG Try.prog ENV (n + 1) 42 [a0, a1] H fl = s_bytes_Equal n H fl a0 a1 := by kernel_rfl

end Go.Proofs.Ytbmjflieedadkaa
