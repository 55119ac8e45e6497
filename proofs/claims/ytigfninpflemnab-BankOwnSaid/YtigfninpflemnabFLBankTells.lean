/- Go functions as Lean functions on deep values; printed by a program of mine. -/
import Derived.Test.YtigfninpflemnabEnv
namespace Go.Proofs.Ytigfninpflemnab
open Go
set_option maxRecDepth 100000
set_option linter.unusedVariables false
/-! triune/triunelaw15.may -/
noncomputable def s_triunelaw15_may (n : Nat) (H : Heap) (fl : Nat) (a0 : DV) : R :=
  bi (allocG 26 a0 (List.length H) (H ++ [.hole])) fun h0 =>
  bi (loadG false 1 (.ptr (List.length H) 0) h0) fun d1 =>
  bi (cP n 50 false [d1]) fun d2 =>
  bi (loadG false 1 (.ptr (List.length H) 0) h0) fun d3 =>
  bi (lenD d3) fun d4 =>
  bi (wantF d2 true (some (.ptr (List.length H) 1))) fun d5 =>
  bi (wantF d2 true (loadG false 1 d5 h0)) fun d6 =>
  bi (wantF d2 true (lenD d6)) fun d7 =>
  bi (wantF d2 true (some d4)) fun d8 =>
  bi (wantF d2 true (eqK .i64 d7 d8)) fun d9 =>
  bi (pickD d2 d9 (Bo false)) fun d10 =>
  bi (wantF d10 true (some (.ptr (List.length H) 2))) fun d11 =>
  bi (wantF d10 true (idxArr 3 1 d11 (I .i64 0))) fun d12 =>
  bi (wantF d10 true (loadG false 1 d12 h0)) fun d13 =>
  bi (wantF d10 true (lenD d13)) fun d14 =>
  bi (wantF d10 true (some d4)) fun d15 =>
  bi (wantF d10 true (eqK .i64 d14 d15)) fun d16 =>
  bi (pickD d10 d16 (Bo false)) fun d17 =>
  bi (wantF d17 true (some (.ptr (List.length H) 2))) fun d18 =>
  bi (wantF d17 true (idxArr 3 1 d18 (I .i64 1))) fun d19 =>
  bi (wantF d17 true (loadG false 1 d19 h0)) fun d20 =>
  bi (wantF d17 true (lenD d20)) fun d21 =>
  bi (wantF d17 true (some d4)) fun d22 =>
  bi (wantF d17 true (eqK .i64 d21 d22)) fun d23 =>
  bi (pickD d17 d23 (Bo false)) fun d24 =>
  bi (wantF d24 true (some (.ptr (List.length H) 2))) fun d25 =>
  bi (wantF d24 true (idxArr 3 1 d25 (I .i64 2))) fun d26 =>
  bi (wantF d24 true (loadG false 1 d26 h0)) fun d27 =>
  bi (wantF d24 true (lenD d27)) fun d28 =>
  bi (wantF d24 true (some d4)) fun d29 =>
  bi (wantF d24 true (eqK .i64 d28 d29)) fun d30 =>
  bi (pickD d24 d30 (Bo false)) fun d31 =>
  bi (wantF d31 true (some (.ptr (List.length H) 5))) fun d32 =>
  bi (wantF d31 true (loadG false 1 d32 h0)) fun d33 =>
  bi (wantF d31 true (lenD d33)) fun d34 =>
  bi (wantF d31 true (leK .i64 d34 (I .i64 100))) fun d35 =>
  bi (pickD d31 d35 (Bo false)) fun d36 =>
  some (d36, h0)
theorem s_triunelaw15_may_eq (n : Nat) (H : Heap) (fl : Nat) (a0 : DV) : callG Try.prog ENV (n + 1) 13 [a0] H fl = s_triunelaw15_may n H fl a0 := by kernel_rfl

/-! triune/triunelaw15.BankTells -/
noncomputable def s_triunelaw15_BankTells (n : Nat) (H : Heap) (fl : Nat) (a0 a1 a2 : DV) : R :=
  bi (allocG 26 a0 (List.length H) (H ++ [.hole, .hole])) fun h0 =>
  bi (allocG 27 a1 (List.length H + 1) h0) fun h1 =>
  bi (cP n 12 false []) fun d2 =>
  bi (loadG true 6 (.ptr (List.length H) 0) h1) fun d3 =>
  bi (cP n 13 false [d3]) fun d4 =>
  bi (notD d4) fun d5 =>
  bi (wantF d5 false (some (.ptr (List.length H + 1) 0))) fun d6 =>
  bi (wantF d5 false (loadG false 1 d6 h1)) fun d7 =>
  bi (wantF d5 false (ltK .i64 d7 (I .i64 0))) fun d8 =>
  bi (pickD d5 (Bo true) d8) fun d9 =>
  bi (wantF d9 false (some (.ptr (List.length H + 1) 0))) fun d10 =>
  bi (wantF d9 false (loadG false 1 d10 h1)) fun d11 =>
  bi (wantF d9 false (gtK .i64 d11 (I .i64 3))) fun d12 =>
  bi (pickD d9 (Bo true) d12) fun d13 =>
  bi (wantF d13 false (some (.ptr (List.length H + 1) 1))) fun d14 =>
  bi (wantF d13 false (loadG false 1 d14 h1)) fun d15 =>
  bi (wantF d13 false (ltK .i64 d15 (I .i64 0))) fun d16 =>
  bi (pickD d13 (Bo true) d16) fun d17 =>
  bi (wantF d17 false (some (.ptr (List.length H + 1) 1))) fun d18 =>
  bi (wantF d17 false (loadG false 1 d18 h1)) fun d19 =>
  bi (wantF d17 false (gtK .i64 d19 (I .i64 65535))) fun d20 =>
  bi (pickD d17 (Bo true) d20) fun d21 =>
  bi (wantF d21 false (some (.ptr (List.length H + 1) 2))) fun d22 =>
  bi (wantF d21 false (loadG false 1 d22 h1)) fun d23 =>
  bi (wantF d21 false (gtK .i64 d23 (I .i64 2000))) fun d24 =>
  bi (pickD d21 (Bo true) d24) fun d25 =>
  bi (wantF d25 false (some a2)) fun d26 =>
  bi (wantF d25 false (lenD d26)) fun d27 =>
  bi (wantF d25 false (gtK .i64 d27 (I .i64 200))) fun d28 =>
  bi (pickD d25 (Bo true) d28) fun d29 =>
  condR d29 (
  some (d2, h1)) (
  bi (loadG true 6 (.ptr (List.length H) 0) h1) fun d30 =>
  bi (loadG false 1 (.ptr (List.length H + 1) 0) h1) fun d31 =>
  bi (loadG false 1 (.ptr (List.length H + 1) 1) h1) fun d32 =>
  bi (loadG false 1 (.ptr (List.length H + 1) 2) h1) fun d33 =>
  bi (cP n 14 false [d30, d31, d32, d33]) fun d34 =>
  bi (extD 0 d34) fun d35 =>
  bi (extD 1 d34) fun d36 =>
  bi (loadG true 6 (.ptr (List.length H) 0) h1) fun d37 =>
  bi (loadG false 1 (.ptr (List.length H + 1) 0) h1) fun d38 =>
  bi (loadG false 1 (.ptr (List.length H + 1) 1) h1) fun d39 =>
  bi (loadG false 1 (.ptr (List.length H + 1) 2) h1) fun d40 =>
  bi (cP n 15 false [d37, d38, d39, d40]) fun d41 =>
  bi (extD 0 d41) fun d42 =>
  bi (extD 1 d41) fun d43 =>
  bi (cP n 16 false [d35, d42]) fun d44 =>
  bi (loadG false 1 (.ptr (List.length H) 0) h1) fun d45 =>
  bi (loadG false 1 (.ptr (List.length H + 1) 0) h1) fun d46 =>
  bi (loadG false 1 (.ptr (List.length H + 1) 1) h1) fun d47 =>
  bi (cP n 17 false [d45, d46, d47, a2]) fun d48 =>
  bi (extD 0 d48) fun d49 =>
  bi (extD 1 d48) fun d50 =>
  bi (loadG false 1 (.ptr (List.length H) 0) h1) fun d51 =>
  bi (loadG false 1 (.ptr (List.length H + 1) 0) h1) fun d52 =>
  bi (loadG false 1 (.ptr (List.length H + 1) 1) h1) fun d53 =>
  bi (cP n 18 false [d51, d52, d53, a2]) fun d54 =>
  bi (extD 0 d54) fun d55 =>
  bi (extD 1 d54) fun d56 =>
  bi (cP n 20 false [d49]) fun d57 =>
  bi (cP n 19 false [d57, d55]) fun d58 =>
  bi (loadG false 1 (.ptr (List.length H + 1) 3) h1) fun d59 =>
  bi (andK .i64 d59 (I .i64 65535)) fun d60 =>
  bi (cvK .u16 d60) fun d61 =>
  bi (loadG false 1 (.ptr (List.length H + 1) 0) h1) fun d62 =>
  bi (loadG false 1 (.ptr (List.length H + 1) 1) h1) fun d63 =>
  bi (cP n 21 false [d61, d62, d63, a2]) fun d64 =>
  bi (extD 0 d64) fun d65 =>
  bi (extD 1 d64) fun d66 =>
  bi (loadG false 1 (.ptr (List.length H + 1) 3) h1) fun d67 =>
  bi (andK .i64 d67 (I .i64 65535)) fun d68 =>
  bi (cvK .u16 d68) fun d69 =>
  bi (loadG false 1 (.ptr (List.length H + 1) 0) h1) fun d70 =>
  bi (loadG false 1 (.ptr (List.length H + 1) 1) h1) fun d71 =>
  bi (cP n 22 false [d69, d70, d71, a2]) fun d72 =>
  bi (extD 0 d72) fun d73 =>
  bi (extD 1 d72) fun d74 =>
  bi (wantF d2 true (some d44)) fun d75 =>
  bi (pickD d2 d75 (Bo false)) fun d76 =>
  bi (wantF d76 true (some d36)) fun d77 =>
  bi (wantF d76 true (some d43)) fun d78 =>
  bi (wantF d76 true (eqB d77 d78)) fun d79 =>
  bi (pickD d76 d79 (Bo false)) fun d80 =>
  bi (wantF d80 true (some d58)) fun d81 =>
  bi (pickD d80 d81 (Bo false)) fun d82 =>
  bi (wantF d82 true (some d50)) fun d83 =>
  bi (wantF d82 true (some d56)) fun d84 =>
  bi (wantF d82 true (eqB d83 d84)) fun d85 =>
  bi (pickD d82 d85 (Bo false)) fun d86 =>
  bi (wantF d86 true (some d65)) fun d87 =>
  bi (wantF d86 true (some d73)) fun d88 =>
  bi (wantF d86 true (eqK .i64 d87 d88)) fun d89 =>
  bi (pickD d86 d89 (Bo false)) fun d90 =>
  bi (wantF d90 true (some d66)) fun d91 =>
  bi (wantF d90 true (some d74)) fun d92 =>
  bi (wantF d90 true (eqK .i64 d91 d92)) fun d93 =>
  bi (pickD d90 d93 (Bo false)) fun d94 =>
  some (d94, h1))
theorem s_triunelaw15_BankTells_eq (n : Nat) (H : Heap) (fl : Nat) (a0 a1 a2 : DV) : callG Try.prog ENV (n + 1) 3 [a0, a1, a2] H fl = s_triunelaw15_BankTells n H fl a0 a1 a2 := by kernel_rfl

end Go.Proofs.Ytigfninpflemnab
