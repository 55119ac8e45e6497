/- Go functions as Lean functions on deep values; printed by a program of mine. -/
import Derived.Test.YtjkofefcoeejbaaEnv
namespace Go.Proofs.Ytjkofefcoeejbaa
open Go
set_option maxRecDepth 100000
set_option linter.unusedVariables false
/-! triune/ask.Same -/
noncomputable def s_ask_Same (n : Nat) (H : Heap) (fl : Nat) (a0 a1 : DV) : R :=
  bi (allocG 26 a0 (List.length H) (H ++ [.hole, .hole])) fun h0 =>
  bi (allocG 26 a1 (List.length H + 1) h0) fun h1 =>
  bi (loadG false 1 (.ptr (List.length H) 4) h1) fun d2 =>
  bi (loadG false 1 (.ptr (List.length H + 1) 4) h1) fun d3 =>
  bi (cP n 58 false [d2, d3]) fun d4 =>
  bi (wantF d4 true (some (.ptr (List.length H) 5))) fun d5 =>
  bi (wantF d4 true (loadG false 1 d5 h1)) fun d6 =>
  bi (wantF d4 true (some (.ptr (List.length H + 1) 5))) fun d7 =>
  bi (wantF d4 true (loadG false 1 d7 h1)) fun d8 =>
  bi (wantF d4 true (cP n 59 false [d6, d8])) fun d9 =>
  bi (pickD d4 d9 (Bo false)) fun d10 =>
  bi (wantF d10 true (some (.ptr (List.length H) 0))) fun d11 =>
  bi (wantF d10 true (loadG false 1 d11 h1)) fun d12 =>
  bi (wantF d10 true (some (.ptr (List.length H) 1))) fun d13 =>
  bi (wantF d10 true (loadG false 1 d13 h1)) fun d14 =>
  bi (wantF d10 true (some (.ptr (List.length H) 2))) fun d15 =>
  bi (wantF d10 true (loadG false 1 d15 h1)) fun d16 =>
  bi (wantF d10 true (some (.ptr (List.length H) 3))) fun d17 =>
  bi (wantF d10 true (loadG false 1 d17 h1)) fun d18 =>
  bi (wantF d10 true (some (.ptr (List.length H) 6))) fun d19 =>
  bi (wantF d10 true (loadG false 1 d19 h1)) fun d20 =>
  bi (wantF d10 true (cvK .i64 d20)) fun d21 =>
  bi (wantF d10 true (some (.ptr (List.length H) 7))) fun d22 =>
  bi (wantF d10 true (loadG false 1 d22 h1)) fun d23 =>
  bi (wantF d10 true (cvK .i64 d23)) fun d24 =>
  bi (wantF d10 true (buildA (.agg [(I .i64 0), (I .i64 0), (I .i64 0), (I .i64 0), (I .i64 0), (I .i64 0)]) 1 [(0, d12), (1, d14), (2, d16), (3, d18), (4, d21), (5, d24)])) fun d25 =>
  bi (wantF d10 true (some (.ptr (List.length H + 1) 0))) fun d26 =>
  bi (wantF d10 true (loadG false 1 d26 h1)) fun d27 =>
  bi (wantF d10 true (some (.ptr (List.length H + 1) 1))) fun d28 =>
  bi (wantF d10 true (loadG false 1 d28 h1)) fun d29 =>
  bi (wantF d10 true (some (.ptr (List.length H + 1) 2))) fun d30 =>
  bi (wantF d10 true (loadG false 1 d30 h1)) fun d31 =>
  bi (wantF d10 true (some (.ptr (List.length H + 1) 3))) fun d32 =>
  bi (wantF d10 true (loadG false 1 d32 h1)) fun d33 =>
  bi (wantF d10 true (some (.ptr (List.length H + 1) 6))) fun d34 =>
  bi (wantF d10 true (loadG false 1 d34 h1)) fun d35 =>
  bi (wantF d10 true (cvK .i64 d35)) fun d36 =>
  bi (wantF d10 true (some (.ptr (List.length H + 1) 7))) fun d37 =>
  bi (wantF d10 true (loadG false 1 d37 h1)) fun d38 =>
  bi (wantF d10 true (cvK .i64 d38)) fun d39 =>
  bi (wantF d10 true (buildA (.agg [(I .i64 0), (I .i64 0), (I .i64 0), (I .i64 0), (I .i64 0), (I .i64 0)]) 1 [(0, d27), (1, d29), (2, d31), (3, d33), (4, d36), (5, d39)])) fun d40 =>
  bi (wantF d10 true (binD Try.prog .eql 87 (.tmp 34) (.tmp 49) d25 d40)) fun d41 =>
  bi (pickD d10 d41 (Bo false)) fun d42 =>
  some (d42, h1)
theorem s_ask_Same_eq (n : Nat) (H : Heap) (fl : Nat) (a0 a1 : DV) : callG Try.prog ENV (n + 1) 24 [a0, a1] H fl = s_ask_Same n H fl a0 a1 := by kernel_rfl

/-! triune/triuneref06.Same -/
noncomputable def s_triuneref06_Same (n : Nat) (H : Heap) (fl : Nat) (a0 a1 : DV) : R :=
  bi (allocG 30 a0 (List.length H) (H ++ [.hole, .hole])) fun h0 =>
  bi (allocG 30 a1 (List.length H + 1) h0) fun h1 =>
  bi (loadG false 1 (.ptr (List.length H) 0) h1) fun d2 =>
  bi (loadG false 1 (.ptr (List.length H + 1) 0) h1) fun d3 =>
  bi (eqK .i64 d2 d3) fun d4 =>
  bi (wantF d4 true (some (.ptr (List.length H) 1))) fun d5 =>
  bi (wantF d4 true (loadG false 1 d5 h1)) fun d6 =>
  bi (wantF d4 true (some (.ptr (List.length H + 1) 1))) fun d7 =>
  bi (wantF d4 true (loadG false 1 d7 h1)) fun d8 =>
  bi (wantF d4 true (eqK .i64 d6 d8)) fun d9 =>
  bi (pickD d4 d9 (Bo false)) fun d10 =>
  bi (wantF d10 true (some (.ptr (List.length H) 2))) fun d11 =>
  bi (wantF d10 true (loadG false 1 d11 h1)) fun d12 =>
  bi (wantF d10 true (some (.ptr (List.length H + 1) 2))) fun d13 =>
  bi (wantF d10 true (loadG false 1 d13 h1)) fun d14 =>
  bi (wantF d10 true (eqK .i64 d12 d14)) fun d15 =>
  bi (pickD d10 d15 (Bo false)) fun d16 =>
  bi (wantF d16 true (some (.ptr (List.length H) 3))) fun d17 =>
  bi (wantF d16 true (loadG false 1 d17 h1)) fun d18 =>
  bi (wantF d16 true (some (.ptr (List.length H + 1) 3))) fun d19 =>
  bi (wantF d16 true (loadG false 1 d19 h1)) fun d20 =>
  bi (wantF d16 true (eqK .i64 d18 d20)) fun d21 =>
  bi (pickD d16 d21 (Bo false)) fun d22 =>
  bi (wantF d22 true (some (.ptr (List.length H) 6))) fun d23 =>
  bi (wantF d22 true (loadG false 1 d23 h1)) fun d24 =>
  bi (wantF d22 true (some (.ptr (List.length H + 1) 6))) fun d25 =>
  bi (wantF d22 true (loadG false 1 d25 h1)) fun d26 =>
  bi (wantF d22 true (eqK .u16 d24 d26)) fun d27 =>
  bi (pickD d22 d27 (Bo false)) fun d28 =>
  bi (wantF d28 true (some (.ptr (List.length H) 7))) fun d29 =>
  bi (wantF d28 true (loadG false 1 d29 h1)) fun d30 =>
  bi (wantF d28 true (some (.ptr (List.length H + 1) 7))) fun d31 =>
  bi (wantF d28 true (loadG false 1 d31 h1)) fun d32 =>
  bi (wantF d28 true (eqK .u16 d30 d32)) fun d33 =>
  bi (pickD d28 d33 (Bo false)) fun d34 =>
  bi (wantF d34 true (some (.ptr (List.length H) 4))) fun d35 =>
  bi (wantF d34 true (loadG false 1 d35 h1)) fun d36 =>
  bi (wantF d34 true (some (.ptr (List.length H + 1) 4))) fun d37 =>
  bi (wantF d34 true (loadG false 1 d37 h1)) fun d38 =>
  bi (wantF d34 true (cP n 55 false [d36, d38])) fun d39 =>
  bi (pickD d34 d39 (Bo false)) fun d40 =>
  bi (wantF d40 true (some (.ptr (List.length H) 5))) fun d41 =>
  bi (wantF d40 true (loadG false 1 d41 h1)) fun d42 =>
  bi (wantF d40 true (some (.ptr (List.length H + 1) 5))) fun d43 =>
  bi (wantF d40 true (loadG false 1 d43 h1)) fun d44 =>
  bi (wantF d40 true (cP n 56 false [d42, d44])) fun d45 =>
  bi (pickD d40 d45 (Bo false)) fun d46 =>
  some (d46, h1)
theorem s_triuneref06_Same_eq (n : Nat) (H : Heap) (fl : Nat) (a0 a1 : DV) : callG Try.prog ENV (n + 1) 19 [a0, a1] H fl = s_triuneref06_Same n H fl a0 a1 := by kernel_rfl

/-! triune/triuneref06.Large -/
noncomputable def s_triuneref06_Large (n : Nat) (H : Heap) (fl : Nat) (a0 : DV) : R :=
  bi (allocG 30 a0 (List.length H) (H ++ [.hole])) fun h0 =>
  bi (loadG false 1 (.ptr (List.length H) 4) h0) fun d1 =>
  bi (lenD d1) fun d2 =>
  bi (gtK .i64 d2 (I .i64 300)) fun d3 =>
  bi (wantF d3 false (some (.ptr (List.length H) 5))) fun d4 =>
  bi (wantF d3 false (loadG false 1 d4 h0)) fun d5 =>
  bi (wantF d3 false (lenD d5)) fun d6 =>
  bi (wantF d3 false (gtK .i64 d6 (I .i64 3000))) fun d7 =>
  bi (pickD d3 (Bo true) d7) fun d8 =>
  some (d8, h0)
theorem s_triuneref06_Large_eq (n : Nat) (H : Heap) (fl : Nat) (a0 : DV) : callG Try.prog ENV (n + 1) 13 [a0] H fl = s_triuneref06_Large n H fl a0 := by kernel_rfl

end Go.Proofs.Ytjkofefcoeejbaa
