/- Go functions as Lean functions on deep values; printed by a program of mine. -/
import Derived.Test.YtigfninpflemnabEnv
namespace Go.Proofs.Ytigfninpflemnab
open Go
set_option maxRecDepth 100000
set_option linter.unusedVariables false
/-! triune/triunelaw14.do -/
noncomputable def s_triunelaw14_do (n : Nat) (H : Heap) (fl : Nat) (a0 a1 : DV) : R :=
  bi (allocG 64 a1 (List.length H) (H ++ [.hole])) fun h0 =>
  bi (loadG false 1 (.ptr (List.length H) 0) h0) fun d1 =>
  bi (eqK .i64 d1 (I .i64 0)) fun d2 =>
  condR d2 (
   bi (loadG true 4 (.ptr (List.length H) 2) h0) fun d3 =>
   bi (cW n 34 [a0, d3] h0 fl) fun p4 =>
  some ((I .i64 0), p4.2)) (
   bi (eqK .i64 d1 (I .i64 1)) fun d5 =>
   condR d5 (
    bi (loadG false 1 (.ptr (List.length H) 1) h0) fun d6 =>
    bi (cW n 56 [a0, d6] h0 fl) fun p7 =>
  some (p7.1, p7.2)) (
    bi (eqK .i64 d1 (I .i64 2)) fun d8 =>
    condR d8 (
     bi (loadG true 3 (.ptr (List.length H) 6) h0) fun d9 =>
     bi (cW n 55 [a0, d9] h0 fl) fun p10 =>
  some (p10.1, p10.2)) (
  bi (loadG false 1 (.ptr (List.length H) 1) h0) fun d11 =>
  bi (cW n 57 [a0, d11] h0 fl) fun p12 =>
  some (p12.1, p12.2))))
theorem s_triunelaw14_do_eq (n : Nat) (H : Heap) (fl : Nat) (a0 a1 : DV) : callG Try.prog ENV (n + 1) 26 [a0, a1] H fl = s_triunelaw14_do n H fl a0 a1 := by kernel_rfl

end Go.Proofs.Ytigfninpflemnab
