/- Go functions as Lean functions on deep values; printed by a program of mine. -/
import Derived.Test.YtigfninpflemnabEnv
namespace Go.Proofs.Ytigfninpflemnab
open Go
set_option maxRecDepth 100000
set_option linter.unusedVariables false
/-! triune/mbap.Bytes -/
noncomputable def s_mbap_Bytes (n : Nat) (H : Heap) (fl : Nat) (a0 : DV) : R :=
  bi (allocG 84 a0 (List.length H) (H ++ [.hole])) fun h0 =>
  bi (loadG false 1 (.ptr (List.length H) 2) h0) fun d1 =>
  bi (lenD d1) fun d2 =>
  bi (eqK .i64 d2 (I .i64 0)) fun d3 =>
  condR d3 (
  some ((.tup [(.list 0 [] .ti), (I .i64 3)]), h0)) (
   bi (gtK .i64 d2 (I .i64 253)) fun d4 =>
   condR d4 (
  some ((.tup [(.list 0 [] .ti), (I .i64 4)]), h0)) (
  bi (loadG false 1 (.ptr (List.length H) 2) (h0 ++ [.hole])) fun d5 =>
  bi (lenD d5) fun d6 =>
  bi (addK .i64 (I .i64 7) d6) fun d7 =>
  bi (makeG false 1 1 5 (I .u8 0) d7 d7 (List.length h0) (h0 ++ [.hole])) fun p8 =>
  bi (loadG false 1 (.ptr (List.length H) 0) (p8.2 ++ [.hole, .hole])) fun d9 =>
  bi (cP n 64 false [d9]) fun d10 =>
  bi (loadG false 1 (.ptr (List.length H) 2) (p8.2 ++ [.hole, .hole])) fun d11 =>
  bi (lenD d11) fun d12 =>
  bi (addK .i64 d12 (I .i64 1)) fun d13 =>
  bi (cvK .u16 d13) fun d14 =>
  bi (cP n 64 false [d14]) fun d15 =>
  bi (allocG 122 (.agg [(I .u8 0), (I .u8 0)]) (List.length p8.2) (p8.2 ++ [.hole, .hole])) fun h16 =>
  bi (allocG 122 (.agg [(I .u8 0), (I .u8 0)]) (List.length p8.2 + 1) h16) fun h17 =>
  bi (storeG 2 (.ptr (List.length p8.2) 0) d10 h17 fl) fun h18 =>
  bi (storeG 2 (.ptr (List.length p8.2 + 1) 0) d15 h18 fl) fun h19 =>
  bi (saX false 2 1 (.ptr (List.length p8.2) 0) none none none) fun d20 =>
  bi (copyG false 1 p8.1 d20 h19 fl) fun p21 =>
  bi (slX 1 p8.1 (some (I .i64 4)) none none) fun d22 =>
  bi (saX false 2 1 (.ptr (List.length p8.2 + 1) 0) none none none) fun d23 =>
  bi (copyG false 1 d22 d23 p21.2 fl) fun p24 =>
  bi (loadG false 1 (.ptr (List.length H) 1) p24.2) fun d25 =>
  bi (idxSl 1 p8.1 (I .i64 6)) fun d26 =>
  bi (storeG 1 d26 d25 p24.2 fl) fun h27 =>
  bi (slX 1 p8.1 (some (I .i64 7)) none none) fun d28 =>
  bi (loadG false 1 (.ptr (List.length H) 2) h27) fun d29 =>
  bi (copyG false 1 d28 d29 h27 fl) fun p30 =>
  some ((.tup [p8.1, (I .i64 0)]), p30.2)))
theorem s_mbap_Bytes_eq (n : Nat) (H : Heap) (fl : Nat) (a0 : DV) : callG Try.prog ENV (n + 1) 36 [a0] H fl = s_mbap_Bytes n H fl a0 := by kernel_rfl

end Go.Proofs.Ytigfninpflemnab
