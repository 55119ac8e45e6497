/- Go functions as Lean functions on deep values; printed by a program of mine. -/
import Derived.Test.YtjkofefcoeejbaaKA7
namespace Go.Proofs.Ytjkofefcoeejbaa
open Go
set_option maxRecDepth 100000
set_option linter.unusedVariables false
/-! triune/triunelaw06.AskTells -/
noncomputable def s_triunelaw06_AskTells (n : Nat) (H : Heap) (fl : Nat) (a0 a1 a2 : DV) : R :=
  bi (allocG 26 a0 (List.length H) (H ++ [.hole])) fun h0 =>
  bi (cP n 12 false []) fun d1 =>
  bi (loadG true 8 (.ptr (List.length H) 0) h0) fun d2 =>
  bi (cP n 13 false [d2]) fun d3 =>
  bi (wantF d3 false (some a1)) fun d4 =>
  bi (wantF d3 false (lenD d4)) fun d5 =>
  bi (wantF d3 false (gtK .i64 d5 (I .i64 600))) fun d6 =>
  bi (pickD d3 (Bo true) d6) fun d7 =>
  condR d7 (
  some (d1, h0)) (
  bi (loadG true 8 (.ptr (List.length H) 0) h0) fun d8 =>
  bi (cP n 14 false [d8]) fun d9 =>
  bi (extD 0 d9) fun d10 =>
  bi (extD 1 d9) fun d11 =>
  bi (loadG true 8 (.ptr (List.length H) 0) h0) fun d12 =>
  bi (cP n 15 false [d12]) fun d13 =>
  bi (extD 0 d13) fun d14 =>
  bi (extD 1 d13) fun d15 =>
  bi (cP n 16 false [a1]) fun d16 =>
  bi (extD 0 d16) fun d17 =>
  bi (extD 1 d16) fun d18 =>
  bi (allocG 26 (.agg [(I .i64 0), (I .i64 0), (I .i64 0), (I .i64 0), (.list 0 [] .ti), (.list 0 [] .ti), (I .u16 0), (I .u16 0)]) (List.length h0) (h0 ++ [.hole])) fun h19 =>
  bi (storeG 8 (.ptr (List.length h0) 0) d17 h19 fl) fun h20 =>
  bi (cP n 17 false [a1]) fun d21 =>
  bi (extD 0 d21) fun d22 =>
  bi (extD 1 d21) fun d23 =>
  bi (allocG 30 (.agg [(I .i64 0), (I .i64 0), (I .i64 0), (I .i64 0), (.list 0 [] .ti), (.list 0 [] .ti), (I .u16 0), (I .u16 0)]) (List.length h20) (h20 ++ [.hole])) fun h24 =>
  bi (storeG 8 (.ptr (List.length h20) 0) d22 h24 fl) fun h25 =>
  bi (cP n 18 false [d10, d14]) fun d26 =>
  bi (loadG true 8 (.ptr (List.length h0) 0) h25) fun d27 =>
  bi (loadG true 8 (.ptr (List.length h20) 0) h25) fun d28 =>
  bi (cP n 19 false [d27, d28]) fun d29 =>
  bi (wantF d1 true (some d26)) fun d30 =>
  bi (pickD d1 d30 (Bo false)) fun d31 =>
  bi (wantF d31 true (some d11)) fun d32 =>
  bi (wantF d31 true (some d15)) fun d33 =>
  bi (wantF d31 true (eqK .i64 d32 d33)) fun d34 =>
  bi (pickD d31 d34 (Bo false)) fun d35 =>
  bi (wantF d35 true (some d29)) fun d36 =>
  bi (pickD d35 d36 (Bo false)) fun d37 =>
  bi (wantF d37 true (some d18)) fun d38 =>
  bi (wantF d37 true (some d23)) fun d39 =>
  bi (wantF d37 true (eqK .i64 d38 d39)) fun d40 =>
  bi (pickD d37 d40 (Bo false)) fun d41 =>
  bi (wantF d41 true (loadG true 8 (.ptr (List.length H) 0) h25)) fun d42 =>
  bi (wantF d41 true (cP n 20 false [d42])) fun d43 =>
  bi (wantF d41 true (loadG true 8 (.ptr (List.length H) 0) h25)) fun d44 =>
  bi (wantF d41 true (cP n 21 false [d44])) fun d45 =>
  bi (wantF d41 true (eqB d43 d45)) fun d46 =>
  bi (pickD d41 d46 (Bo false)) fun d47 =>
  bi (wantF d47 true (some a2)) fun d48 =>
  bi (wantF d47 true (cP n 22 false [d48])) fun d49 =>
  bi (wantF d47 true (some a2)) fun d50 =>
  bi (wantF d47 true (cP n 23 false [d50])) fun d51 =>
  bi (wantF d47 true (eqB d49 d51)) fun d52 =>
  bi (pickD d47 d52 (Bo false)) fun d53 =>
  some (d53, h25))
theorem s_triunelaw06_AskTells_eq (n : Nat) (H : Heap) (fl : Nat) (a0 a1 a2 : DV) : callG Try.prog ENV (n + 1) 3 [a0, a1, a2] H fl = s_triunelaw06_AskTells n H fl a0 a1 a2 := by kernel_rfl

end Go.Proofs.Ytjkofefcoeejbaa
