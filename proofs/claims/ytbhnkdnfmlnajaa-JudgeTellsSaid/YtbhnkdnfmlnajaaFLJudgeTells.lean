/- Go functions as Lean functions on deep values; printed by a program of mine. -/
import Derived.Test.YtbhnkdnfmlnajaaKT8
namespace Go.Proofs.Ytbhnkdnfmlnajaa
open Go
set_option maxRecDepth 100000
set_option linter.unusedVariables false
/-! triune/triunelaw13.JudgeTells -/
noncomputable def s_triunelaw13_JudgeTells (n : Nat) (H : Heap) (fl : Nat) (a0 a1 a2 : DV) : R :=
  bi (allocG 104 a1 (List.length H) (H ++ [.hole, .hole])) fun h0 =>
  bi (allocG 52 a2 (List.length H + 1) h0) fun h1 =>
  bi (cP n 44 false []) fun d2 =>
  bi (cP n 24 false [a0]) fun d3 =>
  bi (notD d3) fun d4 =>
  bi (wantF d4 false (some (.ptr (List.length H) 0))) fun d5 =>
  bi (wantF d4 false (loadG false 1 d5 h1)) fun d6 =>
  bi (wantF d4 false (lenD d6)) fun d7 =>
  bi (wantF d4 false (some (.ptr (List.length H) 1))) fun d8 =>
  bi (wantF d4 false (loadG false 1 d8 h1)) fun d9 =>
  bi (wantF d4 false (lenD d9)) fun d10 =>
  bi (wantF d4 false (addK .i64 d7 d10)) fun d11 =>
  bi (wantF d4 false (some (.ptr (List.length H) 2))) fun d12 =>
  bi (wantF d4 false (loadG false 1 d12 h1)) fun d13 =>
  bi (wantF d4 false (lenD d13)) fun d14 =>
  bi (wantF d4 false (addK .i64 d11 d14)) fun d15 =>
  bi (wantF d4 false (gtK .i64 d15 (I .i64 200))) fun d16 =>
  bi (pickD d4 (Bo true) d16) fun d17 =>
  condR d17 (
  some (d2, h1)) (
  bi (loadG true 3 (.ptr (List.length H) 0) h1) fun d18 =>
  bi (cK n 45 [a0, d18, (I .i64 7)] h1 fl) fun p19 =>
  bi (extD 0 p19.1) fun d20 =>
  bi (extD 1 p19.1) fun d21 =>
  bi (binD Try.prog .eql 105 (.tmp 41) (.const (.pointer none)) d20 (.flat (.pointer none))) fun d22 =>
  bi (wantF d22 false (some d21)) fun d23 =>
  bi (wantF d22 false (binD Try.prog .eql 106 (.tmp 44) (.const (.pointer none)) d23 (.flat (.pointer none)))) fun d24 =>
  bi (pickD d22 (Bo true) d24) fun d25 =>
  condR d25 (
  some ((Bo false), p19.2)) (
  bi (loadG true 3 (.ptr (List.length H + 1) 0) (p19.2 ++ [.hole])) fun d26 =>
  bi (cO n 46 [a0, d20, (I .i64 7), d26] (p19.2 ++ [.hole])) fun d27 =>
  bi (allocG 110 (.agg [(Bo false), (Bo false), (Bo false), (Bo false)]) (List.length p19.2) (p19.2 ++ [.hole])) fun h28 =>
  bi (storeG 4 (.ptr (List.length p19.2) 0) d27 h28 fl) fun h29 =>
  bi (loadG true 3 (.ptr (List.length H + 1) 0) (h29 ++ [.hole])) fun d30 =>
  bi (cO n 47 [a0, d21, (I .i64 7), d30] (h29 ++ [.hole])) fun d31 =>
  bi (extD 0 d31) fun d32 =>
  bi (extD 1 d31) fun d33 =>
  bi (allocG 52 (.agg [(Bo false), (Bo false), (Bo false)]) (List.length h29) (h29 ++ [.hole])) fun h34 =>
  bi (storeG 3 (.ptr (List.length h29) 0) d32 h34 fl) fun h35 =>
  bi (loadG true 3 (.ptr (List.length H + 1) 0) h35) fun d36 =>
  bi (cO n 49 [a0, d20, (I .i64 7), d36] h35) fun d37 =>
  bi (loadG true 3 (.ptr (List.length H + 1) 0) h35) fun d38 =>
  bi (cO n 50 [a0, d21, (I .i64 7), d38] h35) fun d39 =>
  bi (cP n 48 false [d37, d39]) fun d40 =>
  bi (wantF d2 true (some (.ptr (List.length p19.2) 0))) fun d41 =>
  bi (wantF d2 true (loadG true 3 d41 h35)) fun d42 =>
  bi (wantF d2 true (loadG true 3 (.ptr (List.length h29) 0) h35)) fun d43 =>
  bi (wantF d2 true (binD Try.prog .eql 52 (.tmp 70) (.tmp 71) d42 d43)) fun d44 =>
  bi (pickD d2 d44 (Bo false)) fun d45 =>
  bi (wantF d45 true (some (.ptr (List.length p19.2) 3))) fun d46 =>
  bi (wantF d45 true (loadG false 1 d46 h35)) fun d47 =>
  bi (wantF d45 true (some d33)) fun d48 =>
  bi (wantF d45 true (eqB d47 d48)) fun d49 =>
  bi (pickD d45 d49 (Bo false)) fun d50 =>
  bi (wantF d50 true (some a0)) fun d51 =>
  bi (wantF d50 true (some d20)) fun d52 =>
  bi (wantF d50 true (cO n 51 [d51, d52, (I .i64 7)] h35)) fun d53 =>
  bi (wantF d50 true (some a0)) fun d54 =>
  bi (wantF d50 true (some d21)) fun d55 =>
  bi (wantF d50 true (cO n 52 [d54, d55, (I .i64 7)] h35)) fun d56 =>
  bi (wantF d50 true (binD Try.prog .eql 52 (.tmp 83) (.tmp 86) d53 d56)) fun d57 =>
  bi (pickD d50 d57 (Bo false)) fun d58 =>
  bi (wantF d58 true (some d40)) fun d59 =>
  bi (pickD d58 d59 (Bo false)) fun d60 =>
  some (d60, h35)))
theorem s_triunelaw13_JudgeTells_eq (n : Nat) (H : Heap) (fl : Nat) (a0 a1 a2 : DV) : callG Try.prog ENV (n + 1) 8 [a0, a1, a2] H fl = s_triunelaw13_JudgeTells n H fl a0 a1 a2 := by kernel_rfl

end Go.Proofs.Ytbhnkdnfmlnajaa
