/- Go functions as Lean functions on deep values; printed by a program of mine. -/
import Derived.Test.YtjkofefcoeejbaaKV5
namespace Go.Proofs.Ytjkofefcoeejbaa
open Go
set_option maxRecDepth 100000
set_option linter.unusedVariables false
/-! triune/triunelaw12.VoteBetween -/
noncomputable def s_triunelaw12_VoteBetween (n : Nat) (H : Heap) (fl : Nat) (a0 : DV) : R :=
  bi (allocG 74 a0 (List.length H) (H ++ [.hole])) fun h0 =>
  bi (cP n 35 false []) fun d1 =>
  bi (loadG false 1 (.ptr (List.length H) 0) h0) fun d2 =>
  bi (loadG false 1 (.ptr (List.length H) 1) h0) fun d3 =>
  bi (loadG false 1 (.ptr (List.length H) 2) h0) fun d4 =>
  bi (buildL false 1 3 (I .u16 0) [(0, d2), (1, d3), (2, d4)]) fun d5 =>
  bi (cP n 37 false [d5]) fun d6 =>
  bi (extD 0 d6) fun d7 =>
  bi (extD 1 d6) fun d8 =>
  bi (buildL false 1 2 (I .u16 0) [(0, d2), (1, d3)]) fun d9 =>
  bi (cP n 37 false [d9]) fun d10 =>
  bi (extD 0 d10) fun d11 =>
  bi (extD 1 d10) fun d12 =>
  bi (remK .u16 d2 (I .u16 2)) fun d13 =>
  bi (remK .u16 d2 (I .u16 2)) fun d14 =>
  bi (loadG false 1 (.ptr (List.length H) 2) h0) fun d15 =>
  bi (remK .u16 d15 (I .u16 2)) fun d16 =>
  bi (buildL false 1 3 (I .u16 0) [(0, d13), (1, d14), (2, d16)]) fun d17 =>
  bi (cP n 39 false [d17]) fun d18 =>
  bi (extD 0 d18) fun d19 =>
  bi (extD 1 d18) fun d20 =>
  bi (wantF d1 true (some d8)) fun d21 =>
  bi (pickD d1 d21 (Bo false)) fun d22 =>
  bi (wantF d22 true (some d12)) fun d23 =>
  bi (pickD d22 d23 (Bo false)) fun d24 =>
  bi (wantF d24 true (some d7)) fun d25 =>
  bi (wantF d24 true (some d2)) fun d26 =>
  bi (wantF d24 true (some d3)) fun d27 =>
  bi (wantF d24 true (minI d26 d27)) fun d28 =>
  bi (wantF d24 true (geK .u16 d25 d28)) fun d29 =>
  bi (pickD d24 d29 (Bo false)) fun d30 =>
  bi (wantF d30 true (some d7)) fun d31 =>
  bi (wantF d30 true (some d2)) fun d32 =>
  bi (wantF d30 true (some d3)) fun d33 =>
  bi (wantF d30 true (maxI d32 d33)) fun d34 =>
  bi (wantF d30 true (leK .u16 d31 d34)) fun d35 =>
  bi (pickD d30 d35 (Bo false)) fun d36 =>
  bi (wantF d36 true (some d11)) fun d37 =>
  bi (wantF d36 true (some d2)) fun d38 =>
  bi (wantF d36 true (some d3)) fun d39 =>
  bi (wantF d36 true (minI d38 d39)) fun d40 =>
  bi (wantF d36 true (geK .u16 d37 d40)) fun d41 =>
  bi (pickD d36 d41 (Bo false)) fun d42 =>
  bi (wantF d42 true (some d11)) fun d43 =>
  bi (wantF d42 true (some d2)) fun d44 =>
  bi (wantF d42 true (some d3)) fun d45 =>
  bi (wantF d42 true (maxI d44 d45)) fun d46 =>
  bi (wantF d42 true (leK .u16 d43 d46)) fun d47 =>
  bi (pickD d42 d47 (Bo false)) fun d48 =>
  bi (wantF d48 true (some d20)) fun d49 =>
  bi (pickD d48 d49 (Bo false)) fun d50 =>
  bi (wantF d50 true (some d19)) fun d51 =>
  bi (wantF d50 true (some d2)) fun d52 =>
  bi (wantF d50 true (remK .u16 d52 (I .u16 2))) fun d53 =>
  bi (wantF d50 true (eqK .u16 d51 d53)) fun d54 =>
  bi (pickD d50 d54 (Bo false)) fun d55 =>
  some (d55, h0)
theorem s_triunelaw12_VoteBetween_eq (n : Nat) (H : Heap) (fl : Nat) (a0 : DV) : callG Try.prog ENV (n + 1) 11 [a0] H fl = s_triunelaw12_VoteBetween n H fl a0 := by kernel_rfl

end Go.Proofs.Ytjkofefcoeejbaa
