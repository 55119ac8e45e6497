/- Go functions as Lean functions on deep values; printed by a program of mine. -/
import Derived.Test.YtjkofefcoeejbaaKV5
namespace Go.Proofs.Ytjkofefcoeejbaa
open Go
set_option maxRecDepth 100000
set_option linter.unusedVariables false
/-! triune/triunelaw12.VoteTells -/
noncomputable def s_triunelaw12_VoteTells (n : Nat) (H : Heap) (fl : Nat) (a0 a1 a2 : DV) : R :=
  bi (allocG 65 a0 (List.length H) (H ++ [.hole, .hole])) fun h0 =>
  bi (allocG 66 a2 (List.length H + 1) h0) fun h1 =>
  bi (cP n 35 false []) fun d2 =>
  bi (loadG true 5 (.ptr (List.length H) 0) h1) fun d3 =>
  bi (buildL true 5 1 (.agg [(I .i64 0), (I .i64 0), (I .i64 0), (I .i64 0), (I .i64 0)]) [(0, d3)]) fun d4 =>
  bi (cP n 36 false [d4]) fun d5 =>
  bi (notD d5) fun d6 =>
  bi (wantF d6 false (some a1)) fun d7 =>
  bi (wantF d6 false (lenD d7)) fun d8 =>
  bi (wantF d6 false (gtK .i64 d8 (I .i64 100))) fun d9 =>
  bi (pickD d6 (Bo true) d9) fun d10 =>
  condR d10 (
  some (d2, h1)) (
  bi (cP n 37 false [a1]) fun d11 =>
  bi (extD 0 d11) fun d12 =>
  bi (extD 1 d11) fun d13 =>
  bi (cP n 38 false [a1]) fun d14 =>
  bi (extD 0 d14) fun d15 =>
  bi (extD 1 d14) fun d16 =>
  bi (cP n 39 false [a1]) fun d17 =>
  bi (extD 0 d17) fun d18 =>
  bi (extD 1 d17) fun d19 =>
  bi (cP n 40 false [a1]) fun d20 =>
  bi (extD 0 d20) fun d21 =>
  bi (extD 1 d20) fun d22 =>
  bi (loadG true 5 (.ptr (List.length H) 0) h1) fun d23 =>
  bi (cP n 41 false [d23, a1]) fun d24 =>
  bi (extD 0 d24) fun d25 =>
  bi (extD 1 d24) fun d26 =>
  bi (loadG true 5 (.ptr (List.length H) 0) h1) fun d27 =>
  bi (cP n 42 false [d27, a1]) fun d28 =>
  bi (extD 0 d28) fun d29 =>
  bi (extD 1 d28) fun d30 =>
  bi (wantF d2 true (some d12)) fun d31 =>
  bi (wantF d2 true (some d15)) fun d32 =>
  bi (wantF d2 true (eqK .u16 d31 d32)) fun d33 =>
  bi (pickD d2 d33 (Bo false)) fun d34 =>
  bi (wantF d34 true (some d13)) fun d35 =>
  bi (wantF d34 true (some d16)) fun d36 =>
  bi (wantF d34 true (eqB d35 d36)) fun d37 =>
  bi (pickD d34 d37 (Bo false)) fun d38 =>
  bi (wantF d38 true (some d18)) fun d39 =>
  bi (wantF d38 true (some d21)) fun d40 =>
  bi (wantF d38 true (eqK .u16 d39 d40)) fun d41 =>
  bi (pickD d38 d41 (Bo false)) fun d42 =>
  bi (wantF d42 true (some d19)) fun d43 =>
  bi (wantF d42 true (some d22)) fun d44 =>
  bi (wantF d42 true (eqB d43 d44)) fun d45 =>
  bi (pickD d42 d45 (Bo false)) fun d46 =>
  bi (wantF d46 true (some d25)) fun d47 =>
  bi (wantF d46 true (some d29)) fun d48 =>
  bi (wantF d46 true (eqK .u16 d47 d48)) fun d49 =>
  bi (pickD d46 d49 (Bo false)) fun d50 =>
  bi (wantF d50 true (some d26)) fun d51 =>
  bi (wantF d50 true (some d30)) fun d52 =>
  bi (wantF d50 true (eqB d51 d52)) fun d53 =>
  bi (pickD d50 d53 (Bo false)) fun d54 =>
  bi (wantF d54 true (loadG true 5 (.ptr (List.length H) 0) h1)) fun d55 =>
  bi (wantF d54 true (some (.ptr (List.length H + 1) 0))) fun d56 =>
  bi (wantF d54 true (loadG false 1 d56 h1)) fun d57 =>
  bi (wantF d54 true (some (.ptr (List.length H + 1) 1))) fun d58 =>
  bi (wantF d54 true (loadG false 1 d58 h1)) fun d59 =>
  bi (wantF d54 true (cP n 43 false [d55, d57, d59])) fun d60 =>
  bi (wantF d54 true (loadG true 5 (.ptr (List.length H) 0) h1)) fun d61 =>
  bi (wantF d54 true (some (.ptr (List.length H + 1) 0))) fun d62 =>
  bi (wantF d54 true (loadG false 1 d62 h1)) fun d63 =>
  bi (wantF d54 true (some (.ptr (List.length H + 1) 1))) fun d64 =>
  bi (wantF d54 true (loadG false 1 d64 h1)) fun d65 =>
  bi (wantF d54 true (cP n 44 false [d61, d63, d65])) fun d66 =>
  bi (wantF d54 true (eqB d60 d66)) fun d67 =>
  bi (pickD d54 d67 (Bo false)) fun d68 =>
  some (d68, h1))
theorem s_triunelaw12_VoteTells_eq (n : Nat) (H : Heap) (fl : Nat) (a0 a1 a2 : DV) : callG Try.prog ENV (n + 1) 9 [a0, a1, a2] H fl = s_triunelaw12_VoteTells n H fl a0 a1 a2 := by kernel_rfl

end Go.Proofs.Ytjkofefcoeejbaa
