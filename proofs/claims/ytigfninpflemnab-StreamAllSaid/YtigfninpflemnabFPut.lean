/- Go functions as Lean functions on deep values; printed by a program of mine. -/
import Derived.Test.YtigfninpflemnabEnv
namespace Go.Proofs.Ytigfninpflemnab
open Go
set_option maxRecDepth 100000
set_option linter.unusedVariables false
/-! triune/word.Put -/
noncomputable def s_word_Put (n : Nat) (H : Heap) (fl : Nat) (a0 : DV) : R :=
  bi (allocG 122 (.agg [(I .u8 0), (I .u8 0)]) (List.length H) (H ++ [.hole])) fun h0 =>
  bi (shrK .u16 a0 (I .u64 8)) fun d1 =>
  bi (cvK .u8 d1) fun d2 =>
  bi (cvK .u8 a0) fun d3 =>
  bi (buildA (.agg [(I .u8 0), (I .u8 0)]) 1 [(0, d2), (1, d3)]) fun d4 =>
  bi (storeG 2 (.ptr (List.length H) 0) d4 h0 fl) fun h5 =>
  bi (cellR true 2 (.ptr (List.length H) 0) h5) fun r0 =>
  some (r0, h5)
theorem s_word_Put_eq (n : Nat) (H : Heap) (fl : Nat) (a0 : DV) : callG Try.prog ENV (n + 1) 64 [a0] H fl = s_word_Put n H fl a0 := by kernel_rfl

end Go.Proofs.Ytigfninpflemnab
