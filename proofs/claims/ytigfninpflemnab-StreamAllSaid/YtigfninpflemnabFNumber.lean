/- Go functions as Lean functions on deep values; printed by a program of mine. -/
import Derived.Test.YtigfninpflemnabEnv
namespace Go.Proofs.Ytigfninpflemnab
open Go
set_option maxRecDepth 100000
set_option linter.unusedVariables false
/-! triune/mbap.number -/
noncomputable def s_mbap_number (n : Nat) (H : Heap) (fl : Nat) (a0 a1 : DV) : R :=
  bi (lenD a0) fun d0 =>
  bi (addK .i64 a1 (I .i64 2)) fun d1 =>
  bi (ltK .i64 d0 d1) fun d2 =>
  condR d2 (
  some ((.tup [(I .i64 0), (Bo false)]), H)) (
  bi (addK .i64 a1 (I .i64 2)) fun d3 =>
  bi (slX 1 a0 (some a1) (some d3) none) fun d4 =>
  bi (cP n 93 false [d4]) fun d5 =>
  bi (extD 0 d5) fun d6 =>
  bi (extD 1 d5) fun d7 =>
  bi (idxSl 1 d6 (I .i64 0)) fun d8 =>
  bi (loadG false 1 d8 H) fun d9 =>
  bi (cvK .i64 d9) fun d10 =>
  some ((.tup [d10, (Bo true)]), H))
theorem s_mbap_number_eq (n : Nat) (H : Heap) (fl : Nat) (a0 a1 : DV) : callG Try.prog ENV (n + 1) 87 [a0, a1] H fl = s_mbap_number n H fl a0 a1 := by kernel_rfl

end Go.Proofs.Ytigfninpflemnab
