/- Go functions as Lean functions on deep values; printed by a program of mine. -/
import Derived.Test.YtigfninpflemnabEnv
namespace Go.Proofs.Ytigfninpflemnab
open Go
set_option maxRecDepth 100000
set_option linter.unusedVariables false
/-! triune/triunelaw03.RtuTells -/
noncomputable def s_triunelaw03_RtuTells (n : Nat) (H : Heap) (fl : Nat) (a0 a1 a2 : DV) : R :=
  bi (allocG 97 a0 (List.length H) (H ++ [.hole, .hole])) fun h0 =>
  bi (allocG 97 a1 (List.length H + 1) h0) fun h1 =>
  bi (cP n 42 false []) fun d2 =>
  bi (loadG false 1 (.ptr (List.length H) 1) h1) fun d3 =>
  bi (lenD d3) fun d4 =>
  bi (gtK .i64 d4 (I .i64 400)) fun d5 =>
  bi (wantF d5 false (some (.ptr (List.length H + 1) 1))) fun d6 =>
  bi (wantF d5 false (loadG false 1 d6 h1)) fun d7 =>
  bi (wantF d5 false (lenD d7)) fun d8 =>
  bi (wantF d5 false (gtK .i64 d8 (I .i64 400))) fun d9 =>
  bi (pickD d5 (Bo true) d9) fun d10 =>
  bi (wantF d10 false (some a2)) fun d11 =>
  bi (wantF d10 false (lenD d11)) fun d12 =>
  bi (wantF d10 false (gtK .i64 d12 (I .i64 400))) fun d13 =>
  bi (pickD d10 (Bo true) d13) fun d14 =>
  condR d14 (
  some (d2, h1)) (
  bi (loadG true 2 (.ptr (List.length H) 0) h1) fun d15 =>
  bi (cP n 43 false [d15]) fun d16 =>
  bi (extD 0 d16) fun d17 =>
  bi (extD 1 d16) fun d18 =>
  bi (loadG true 2 (.ptr (List.length H) 0) h1) fun d19 =>
  bi (cP n 44 false [d19]) fun d20 =>
  bi (extD 0 d20) fun d21 =>
  bi (extD 1 d20) fun d22 =>
  bi (cP n 45 false [a2]) fun d23 =>
  bi (extD 0 d23) fun d24 =>
  bi (extD 1 d23) fun d25 =>
  bi (allocG 97 (.agg [(I .u8 0), (.list 0 [] .ti)]) (List.length h1) (h1 ++ [.hole])) fun h26 =>
  bi (storeG 2 (.ptr (List.length h1) 0) d24 h26 fl) fun h27 =>
  bi (cP n 46 false [a2]) fun d28 =>
  bi (extD 0 d28) fun d29 =>
  bi (extD 1 d28) fun d30 =>
  bi (allocG 100 (.agg [(I .u8 0), (.list 0 [] .ti)]) (List.length h27) (h27 ++ [.hole])) fun h31 =>
  bi (storeG 2 (.ptr (List.length h27) 0) d29 h31 fl) fun h32 =>
  bi (cP n 47 false [d17, d21]) fun d33 =>
  bi (loadG true 2 (.ptr (List.length h1) 0) h32) fun d34 =>
  bi (loadG true 2 (.ptr (List.length h27) 0) h32) fun d35 =>
  bi (cP n 48 false [d34, d35]) fun d36 =>
  bi (wantF d2 true (some d33)) fun d37 =>
  bi (pickD d2 d37 (Bo false)) fun d38 =>
  bi (wantF d38 true (some d18)) fun d39 =>
  bi (wantF d38 true (some d22)) fun d40 =>
  bi (wantF d38 true (eqK .i64 d39 d40)) fun d41 =>
  bi (pickD d38 d41 (Bo false)) fun d42 =>
  bi (wantF d42 true (some d36)) fun d43 =>
  bi (pickD d42 d43 (Bo false)) fun d44 =>
  bi (wantF d44 true (some d25)) fun d45 =>
  bi (wantF d44 true (some d30)) fun d46 =>
  bi (wantF d44 true (eqK .i64 d45 d46)) fun d47 =>
  bi (pickD d44 d47 (Bo false)) fun d48 =>
  bi (wantF d48 true (loadG true 2 (.ptr (List.length H) 0) h32)) fun d49 =>
  bi (wantF d48 true (loadG true 2 (.ptr (List.length H + 1) 0) h32)) fun d50 =>
  bi (wantF d48 true (cP n 49 false [d49, d50])) fun d51 =>
  bi (wantF d48 true (loadG true 2 (.ptr (List.length H) 0) h32)) fun d52 =>
  bi (wantF d48 true (loadG true 2 (.ptr (List.length H + 1) 0) h32)) fun d53 =>
  bi (wantF d48 true (cP n 48 false [d52, d53])) fun d54 =>
  bi (wantF d48 true (eqB d51 d54)) fun d55 =>
  bi (pickD d48 d55 (Bo false)) fun d56 =>
  some (d56, h32))
theorem s_triunelaw03_RtuTells_eq (n : Nat) (H : Heap) (fl : Nat) (a0 a1 a2 : DV) : callG Try.prog ENV (n + 1) 9 [a0, a1, a2] H fl = s_triunelaw03_RtuTells n H fl a0 a1 a2 := by kernel_rfl

end Go.Proofs.Ytigfninpflemnab
