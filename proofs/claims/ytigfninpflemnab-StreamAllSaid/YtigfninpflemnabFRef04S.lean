/- Go functions as Lean functions on deep values; printed by a program of mine. -/
import Derived.Test.YtigfninpflemnabEnv
namespace Go.Proofs.Ytigfninpflemnab
open Go
set_option maxRecDepth 100000
set_option linter.unusedVariables false
/-! triune/triuneref04.Same -/
noncomputable def s_triuneref04_Same (n : Nat) (H : Heap) (fl : Nat) (a0 a1 : DV) : R :=
  bi (allocG 132 a0 (List.length H) (H ++ [.hole, .hole])) fun h0 =>
  bi (allocG 132 a1 (List.length H + 1) h0) fun h1 =>
  bi (loadG false 1 (.ptr (List.length H) 0) h1) fun d2 =>
  bi (loadG false 1 (.ptr (List.length H + 1) 0) h1) fun d3 =>
  bi (eqK .u16 d2 d3) fun d4 =>
  bi (wantF d4 true (some (.ptr (List.length H) 1))) fun d5 =>
  bi (wantF d4 true (loadG false 1 d5 h1)) fun d6 =>
  bi (wantF d4 true (some (.ptr (List.length H + 1) 1))) fun d7 =>
  bi (wantF d4 true (loadG false 1 d7 h1)) fun d8 =>
  bi (wantF d4 true (eqK .u8 d6 d8)) fun d9 =>
  bi (pickD d4 d9 (Bo false)) fun d10 =>
  bi (wantF d10 true (some (.ptr (List.length H) 2))) fun d11 =>
  bi (wantF d10 true (loadG false 1 d11 h1)) fun d12 =>
  bi (wantF d10 true (some (.ptr (List.length H + 1) 2))) fun d13 =>
  bi (wantF d10 true (loadG false 1 d13 h1)) fun d14 =>
  bi (wantF d10 true (cP n 47 false [d12, d14])) fun d15 =>
  bi (pickD d10 d15 (Bo false)) fun d16 =>
  some (d16, h1)
theorem s_triuneref04_Same_eq (n : Nat) (H : Heap) (fl : Nat) (a0 a1 : DV) : callG Try.prog ENV (n + 1) 67 [a0, a1] H fl = s_triuneref04_Same n H fl a0 a1 := by kernel_rfl

end Go.Proofs.Ytigfninpflemnab
