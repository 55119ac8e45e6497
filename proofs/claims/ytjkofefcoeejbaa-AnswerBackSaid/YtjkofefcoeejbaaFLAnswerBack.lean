/- Go functions as Lean functions on deep values; printed by a program of mine. -/
import Derived.Test.YtjkofefcoeejbaaKX9
namespace Go.Proofs.Ytjkofefcoeejbaa
open Go
set_option maxRecDepth 100000
set_option linter.unusedVariables false
/-! triune/triunelaw07.AnswerBack -/
noncomputable def s_triunelaw07_AnswerBack (n : Nat) (H : Heap) (fl : Nat) (a0 a1 a2 : DV) : R :=
  bi (allocG 26 a0 (List.length H) (H ++ [.hole, .hole])) fun h0 =>
  bi (allocG 47 a1 (List.length H + 1) h0) fun h1 =>
  bi (cP2 n 25 false []) fun d2 =>
  bi (loadG true 8 (.ptr (List.length H) 0) h1) fun d3 =>
  bi (cP2 n 13 false [d3]) fun d4 =>
  bi (wantF d4 false (loadG true 4 (.ptr (List.length H + 1) 0) h1)) fun d5 =>
  bi (wantF d4 false (cP2 n 26 false [d5])) fun d6 =>
  bi (pickD d4 (Bo true) d6) fun d7 =>
  bi (wantF d7 false (some a2)) fun d8 =>
  bi (wantF d7 false (lenD d8)) fun d9 =>
  bi (wantF d7 false (gtK .i64 d9 (I .i64 600))) fun d10 =>
  bi (pickD d7 (Bo true) d10) fun d11 =>
  condR d11 (
  some (d2, h1)) (
  bi (loadG true 8 (.ptr (List.length H) 0) h1) fun d12 =>
  bi (loadG true 4 (.ptr (List.length H + 1) 0) h1) fun d13 =>
  bi (cP2 n 27 false [d12, d13]) fun d14 =>
  bi (extD 0 d14) fun d15 =>
  bi (extD 1 d14) fun d16 =>
  bi (eqK .i64 d16 (I .i64 0)) fun d17 =>
  bi (loadG true 8 (.ptr (List.length H) 0) h1) fun d18 =>
  bi (loadG true 4 (.ptr (List.length H + 1) 0) h1) fun d19 =>
  bi (cP2 n 32 false [d18, d19]) fun d20 =>
  bi (neB d17 d20) fun d21 =>
  condR d21 (
  some ((Bo false), h1)) (
  bi (eqK .i64 d16 (I .i64 0)) fun d22 =>
  condR d22 (
   bi (loadG true 8 (.ptr (List.length H) 0) (h1 ++ [.hole])) fun d23 =>
   bi (cP2 n 29 false [d23, d15]) fun d24 =>
   bi (extD 0 d24) fun d25 =>
   bi (extD 1 d24) fun d26 =>
   bi (allocG 47 (.agg [(I .i64 0), (.list 0 [] .ti), (.list 0 [] .ti), (.list 0 [] .ti)]) (List.length h1) (h1 ++ [.hole])) fun h27 =>
   bi (storeG 4 (.ptr (List.length h1) 0) d25 h27 fl) fun h28 =>
   bi (neK .i64 d26 (I .i64 0)) fun d29 =>
   bi (wantF d29 false (loadG true 4 (.ptr (List.length H + 1) 0) h28)) fun d30 =>
   bi (wantF d29 false (loadG true 4 (.ptr (List.length h1) 0) h28)) fun d31 =>
   bi (wantF d29 false (cP2 n 34 false [d30, d31])) fun d32 =>
   bi (wantF d29 false (notD d32)) fun d33 =>
   bi (pickD d29 (Bo true) d33) fun d34 =>
   bi (wantF d34 false (some d15)) fun d35 =>
   bi (wantF d34 false (lenD d35)) fun d36 =>
   bi (wantF d34 false (gtK .i64 d36 (I .i64 253))) fun d37 =>
   bi (pickD d34 (Bo true) d37) fun d38 =>
   bi (wantF d38 false (some d15)) fun d39 =>
   bi (wantF d38 false (lenD d39)) fun d40 =>
   bi (wantF d38 false (ltK .i64 d40 (I .i64 2))) fun d41 =>
   bi (pickD d38 (Bo true) d41) fun d42 =>
   condR d42 (
  some ((Bo false), h28)) (
  bi (loadG true 8 (.ptr (List.length H) 0) (h28 ++ [.hole])) fun d43 =>
  bi (cP2 n 29 false [d43, a2]) fun d44 =>
  bi (extD 0 d44) fun d45 =>
  bi (extD 1 d44) fun d46 =>
  bi (allocG 47 (.agg [(I .i64 0), (.list 0 [] .ti), (.list 0 [] .ti), (.list 0 [] .ti)]) (List.length h28) (h28 ++ [.hole])) fun h47 =>
  bi (storeG 4 (.ptr (List.length h28) 0) d45 h47 fl) fun h48 =>
  bi (neK .i64 d46 (I .i64 0)) fun d49 =>
  condR d49 (
   bi (wantF d2 true (some (.ptr (List.length h28) 0))) fun d50 =>
   bi (wantF d2 true (loadG false 1 d50 h48)) fun d51 =>
   bi (wantF d2 true (eqK .i64 d51 (I .i64 0))) fun d52 =>
   bi (pickD d2 d52 (Bo false)) fun d53 =>
   bi (wantF d53 true (some (.ptr (List.length h28) 2))) fun d54 =>
   bi (wantF d53 true (loadG false 1 d54 h48)) fun d55 =>
   bi (wantF d53 true (lenD d55)) fun d56 =>
   bi (wantF d53 true (eqK .i64 d56 (I .i64 0))) fun d57 =>
   bi (pickD d53 d57 (Bo false)) fun d58 =>
  some (d58, h48)) (
  bi (loadG true 8 (.ptr (List.length H) 0) h48) fun d59 =>
  bi (loadG true 4 (.ptr (List.length h28) 0) h48) fun d60 =>
  bi (cP2 n 27 false [d59, d60]) fun d61 =>
  bi (extD 0 d61) fun d62 =>
  bi (extD 1 d61) fun d63 =>
  bi (cP2 n 18 false [d62, a2]) fun d64 =>
  bi (wantF d2 true (some d63)) fun d65 =>
  bi (wantF d2 true (eqK .i64 d65 (I .i64 0))) fun d66 =>
  bi (pickD d2 d66 (Bo false)) fun d67 =>
  bi (wantF d67 true (some d64)) fun d68 =>
  bi (pickD d67 d68 (Bo false)) fun d69 =>
  some (d69, h48)))) (
  bi (loadG true 8 (.ptr (List.length H) 0) (h1 ++ [.hole])) fun d70 =>
  bi (cP2 n 29 false [d70, a2]) fun d71 =>
  bi (extD 0 d71) fun d72 =>
  bi (extD 1 d71) fun d73 =>
  bi (allocG 47 (.agg [(I .i64 0), (.list 0 [] .ti), (.list 0 [] .ti), (.list 0 [] .ti)]) (List.length h1) (h1 ++ [.hole])) fun h74 =>
  bi (storeG 4 (.ptr (List.length h1) 0) d72 h74 fl) fun h75 =>
  bi (neK .i64 d73 (I .i64 0)) fun d76 =>
  condR d76 (
   bi (wantF d2 true (some (.ptr (List.length h1) 0))) fun d77 =>
   bi (wantF d2 true (loadG false 1 d77 h75)) fun d78 =>
   bi (wantF d2 true (eqK .i64 d78 (I .i64 0))) fun d79 =>
   bi (pickD d2 d79 (Bo false)) fun d80 =>
   bi (wantF d80 true (some (.ptr (List.length h1) 2))) fun d81 =>
   bi (wantF d80 true (loadG false 1 d81 h75)) fun d82 =>
   bi (wantF d80 true (lenD d82)) fun d83 =>
   bi (wantF d80 true (eqK .i64 d83 (I .i64 0))) fun d84 =>
   bi (pickD d80 d84 (Bo false)) fun d85 =>
  some (d85, h75)) (
  bi (loadG true 8 (.ptr (List.length H) 0) h75) fun d86 =>
  bi (loadG true 4 (.ptr (List.length h1) 0) h75) fun d87 =>
  bi (cP2 n 27 false [d86, d87]) fun d88 =>
  bi (extD 0 d88) fun d89 =>
  bi (extD 1 d88) fun d90 =>
  bi (cP2 n 18 false [d89, a2]) fun d91 =>
  bi (wantF d2 true (some d90)) fun d92 =>
  bi (wantF d2 true (eqK .i64 d92 (I .i64 0))) fun d93 =>
  bi (pickD d2 d93 (Bo false)) fun d94 =>
  bi (wantF d94 true (some d91)) fun d95 =>
  bi (pickD d94 d95 (Bo false)) fun d96 =>
  some (d96, h75)))))
theorem s_triunelaw07_AnswerBack_eq (n : Nat) (H : Heap) (fl : Nat) (a0 a1 a2 : DV) : callG Try.prog ENV2 (n + 1) 7 [a0, a1, a2] H fl = s_triunelaw07_AnswerBack n H fl a0 a1 a2 := by kernel_rfl

end Go.Proofs.Ytjkofefcoeejbaa
