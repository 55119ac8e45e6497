/- Go functions as Lean functions on deep values; printed by a program of mine. -/
import Derived.Test.YtjkofefcoeejbaaKX9
namespace Go.Proofs.Ytjkofefcoeejbaa
open Go
set_option maxRecDepth 100000
set_option linter.unusedVariables false
/-! triune/triunelaw07.AnswerExcept -/
noncomputable def s_triunelaw07_AnswerExcept (n : Nat) (H : Heap) (fl : Nat) (a0 a1 : DV) : R :=
  bi (allocG 26 a0 (List.length H) (H ++ [.hole])) fun h0 =>
  bi (cP2 n 25 false []) fun d1 =>
  bi (loadG true 8 (.ptr (List.length H) 0) h0) fun d2 =>
  bi (cP2 n 13 false [d2]) fun d3 =>
  bi (wantF d3 false (loadG true 8 (.ptr (List.length H) 0) h0)) fun d4 =>
  bi (wantF d3 false (cP2 n 20 false [d4])) fun d5 =>
  bi (wantF d3 false (notD d5)) fun d6 =>
  bi (pickD d3 (Bo true) d6) fun d7 =>
  condR d7 (
  some (d1, h0)) (
  bi (buildS (.agg [(I .i64 0), (.list 0 [] .ti), (.list 0 [] .ti), (.list 0 [] .ti)]) [(0, 1), (1, 1), (2, 1), (3, 1)] [(0, a1)]) fun d8 =>
  bi (allocG 47 (.agg [(I .i64 0), (.list 0 [] .ti), (.list 0 [] .ti), (.list 0 [] .ti)]) (List.length h0) (h0 ++ [.hole])) fun h9 =>
  bi (storeG 4 (.ptr (List.length h0) 0) d8 h9 fl) fun h10 =>
  bi (loadG true 8 (.ptr (List.length H) 0) h10) fun d11 =>
  bi (loadG true 4 (.ptr (List.length h0) 0) h10) fun d12 =>
  bi (cP2 n 27 false [d11, d12]) fun d13 =>
  bi (extD 0 d13) fun d14 =>
  bi (extD 1 d13) fun d15 =>
  bi (ltK .i64 a1 (I .i64 0)) fun d16 =>
  bi (wantF d16 false (some a1)) fun d17 =>
  bi (wantF d16 false (gtK .i64 d17 (I .i64 255))) fun d18 =>
  bi (pickD d16 (Bo true) d18) fun d19 =>
  condR d19 (
   bi (wantF d1 true (some d15)) fun d20 =>
   bi (wantF d1 true (eqK .i64 d20 (I .i64 2))) fun d21 =>
   bi (pickD d1 d21 (Bo false)) fun d22 =>
  some (d22, h10)) (
  bi (eqK .i64 a1 (I .i64 0)) fun d23 =>
  condR d23 (
  some (d1, h10)) (
  bi (loadG true 8 (.ptr (List.length H) 0) (h10 ++ [.hole])) fun d24 =>
  bi (cP2 n 29 false [d24, d14]) fun d25 =>
  bi (extD 0 d25) fun d26 =>
  bi (extD 1 d25) fun d27 =>
  bi (allocG 47 (.agg [(I .i64 0), (.list 0 [] .ti), (.list 0 [] .ti), (.list 0 [] .ti)]) (List.length h10) (h10 ++ [.hole])) fun h28 =>
  bi (storeG 4 (.ptr (List.length h10) 0) d26 h28 fl) fun h29 =>
  bi (wantF d1 true (some d15)) fun d30 =>
  bi (wantF d1 true (eqK .i64 d30 (I .i64 0))) fun d31 =>
  bi (pickD d1 d31 (Bo false)) fun d32 =>
  bi (wantF d32 true (some d14)) fun d33 =>
  bi (wantF d32 true (lenD d33)) fun d34 =>
  bi (wantF d32 true (eqK .i64 d34 (I .i64 2))) fun d35 =>
  bi (pickD d32 d35 (Bo false)) fun d36 =>
  bi (wantF d36 true (some d14)) fun d37 =>
  bi (wantF d36 true (idxSl 1 d37 (I .i64 0))) fun d38 =>
  bi (wantF d36 true (loadG false 1 d38 h29)) fun d39 =>
  bi (wantF d36 true (geK .u8 d39 (I .u8 128))) fun d40 =>
  bi (pickD d36 d40 (Bo false)) fun d41 =>
  bi (wantF d41 true (some d27)) fun d42 =>
  bi (wantF d41 true (eqK .i64 d42 (I .i64 0))) fun d43 =>
  bi (pickD d41 d43 (Bo false)) fun d44 =>
  bi (wantF d44 true (some (.ptr (List.length h10) 0))) fun d45 =>
  bi (wantF d44 true (loadG false 1 d45 h29)) fun d46 =>
  bi (wantF d44 true (some a1)) fun d47 =>
  bi (wantF d44 true (eqK .i64 d46 d47)) fun d48 =>
  bi (pickD d44 d48 (Bo false)) fun d49 =>
  some (d49, h29))))
theorem s_triunelaw07_AnswerExcept_eq (n : Nat) (H : Heap) (fl : Nat) (a0 a1 : DV) : callG Try.prog ENV2 (n + 1) 8 [a0, a1] H fl = s_triunelaw07_AnswerExcept n H fl a0 a1 := by kernel_rfl

end Go.Proofs.Ytjkofefcoeejbaa
