/- Go functions as Lean functions on deep values; printed by a program of mine. -/
import Derived.Test.YtjkofefcoeejbaaEnv
namespace Go.Proofs.Ytjkofefcoeejbaa
open Go
set_option maxRecDepth 100000
set_option linter.unusedVariables false
/-! triune/triunelaw06.AskSame -/
noncomputable def s_triunelaw06_AskSame (n : Nat) (H : Heap) (fl : Nat) (a0 a1 : DV) : R :=
  bi (allocG 26 a0 (List.length H) (H ++ [.hole, .hole])) fun h0 =>
  bi (allocG 26 a1 (List.length H + 1) h0) fun h1 =>
  bi (cP n 12 false []) fun d2 =>
  bi (loadG true 8 (.ptr (List.length H) 0) h1) fun d3 =>
  bi (cP n 13 false [d3]) fun d4 =>
  bi (wantF d4 false (loadG true 8 (.ptr (List.length H + 1) 0) h1)) fun d5 =>
  bi (wantF d4 false (cP n 13 false [d5])) fun d6 =>
  bi (pickD d4 (Bo true) d6) fun d7 =>
  condR d7 (
  some (d2, h1)) (
  bi (wantF d2 true (loadG true 8 (.ptr (List.length H) 0) h1)) fun d8 =>
  bi (wantF d2 true (loadG true 8 (.ptr (List.length H + 1) 0) h1)) fun d9 =>
  bi (wantF d2 true (cP n 24 false [d8, d9])) fun d10 =>
  bi (wantF d2 true (loadG true 8 (.ptr (List.length H) 0) h1)) fun d11 =>
  bi (wantF d2 true (loadG true 8 (.ptr (List.length H + 1) 0) h1)) fun d12 =>
  bi (wantF d2 true (cP n 19 false [d11, d12])) fun d13 =>
  bi (wantF d2 true (eqB d10 d13)) fun d14 =>
  bi (pickD d2 d14 (Bo false)) fun d15 =>
  bi (wantF d15 true (loadG true 8 (.ptr (List.length H) 0) h1)) fun d16 =>
  bi (wantF d15 true (loadG true 8 (.ptr (List.length H) 0) h1)) fun d17 =>
  bi (wantF d15 true (cP n 24 false [d16, d17])) fun d18 =>
  bi (pickD d15 d18 (Bo false)) fun d19 =>
  bi (wantF d19 true (loadG true 8 (.ptr (List.length H) 0) h1)) fun d20 =>
  bi (wantF d19 true (loadG true 8 (.ptr (List.length H + 1) 0) h1)) fun d21 =>
  bi (wantF d19 true (cP n 24 false [d20, d21])) fun d22 =>
  bi (wantF d19 true (loadG true 8 (.ptr (List.length H + 1) 0) h1)) fun d23 =>
  bi (wantF d19 true (loadG true 8 (.ptr (List.length H) 0) h1)) fun d24 =>
  bi (wantF d19 true (cP n 24 false [d23, d24])) fun d25 =>
  bi (wantF d19 true (eqB d22 d25)) fun d26 =>
  bi (pickD d19 d26 (Bo false)) fun d27 =>
  some (d27, h1))
theorem s_triunelaw06_AskSame_eq (n : Nat) (H : Heap) (fl : Nat) (a0 a1 : DV) : callG Try.prog ENV (n + 1) 5 [a0, a1] H fl = s_triunelaw06_AskSame n H fl a0 a1 := by kernel_rfl

end Go.Proofs.Ytjkofefcoeejbaa
