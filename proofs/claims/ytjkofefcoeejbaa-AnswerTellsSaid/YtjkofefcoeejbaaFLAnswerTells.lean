/- Go functions as Lean functions on deep values; printed by a program of mine. -/
import Derived.Test.YtjkofefcoeejbaaKY10
namespace Go.Proofs.Ytjkofefcoeejbaa
open Go
set_option maxRecDepth 100000
set_option linter.unusedVariables false
/-! triune/triunelaw07.AnswerTells -/
noncomputable def s_triunelaw07_AnswerTells (n : Nat) (H : Heap) (fl : Nat) (a0 a1 a2 : DV) : R :=
  bi (allocG 26 a0 (List.length H) (H ++ [.hole, .hole])) fun h0 =>
  bi (allocG 48 a1 (List.length H + 1) h0) fun h1 =>
  bi (cP2 n 25 false []) fun d2 =>
  bi (loadG true 4 (.ptr (List.length H + 1) 0) (h1 ++ [.hole])) fun d3 =>
  bi (allocG 49 (.agg [(I .i64 0), (.list 0 [] .ti), (.list 0 [] .ti), (.list 0 [] .ti)]) (List.length h1) (h1 ++ [.hole])) fun h4 =>
  bi (storeG 4 (.ptr (List.length h1) 0) d3 h4 fl) fun h5 =>
  bi (loadG true 4 (.ptr (List.length H + 1) 4) (h5 ++ [.hole])) fun d6 =>
  bi (allocG 49 (.agg [(I .i64 0), (.list 0 [] .ti), (.list 0 [] .ti), (.list 0 [] .ti)]) (List.length h5) (h5 ++ [.hole])) fun h7 =>
  bi (storeG 4 (.ptr (List.length h5) 0) d6 h7 fl) fun h8 =>
  bi (loadG true 8 (.ptr (List.length H) 0) h8) fun d9 =>
  bi (cP2 n 13 false [d9]) fun d10 =>
  bi (wantF d10 false (loadG true 4 (.ptr (List.length h1) 0) h8)) fun d11 =>
  bi (wantF d10 false (cP2 n 26 false [d11])) fun d12 =>
  bi (pickD d10 (Bo true) d12) fun d13 =>
  bi (wantF d13 false (loadG true 4 (.ptr (List.length h5) 0) h8)) fun d14 =>
  bi (wantF d13 false (cP2 n 26 false [d14])) fun d15 =>
  bi (pickD d13 (Bo true) d15) fun d16 =>
  bi (wantF d16 false (some a2)) fun d17 =>
  bi (wantF d16 false (lenD d17)) fun d18 =>
  bi (wantF d16 false (gtK .i64 d18 (I .i64 600))) fun d19 =>
  bi (pickD d16 (Bo true) d19) fun d20 =>
  condR d20 (
  some (d2, h8)) (
  bi (loadG true 8 (.ptr (List.length H) 0) h8) fun d21 =>
  bi (loadG true 4 (.ptr (List.length H + 1) 0) h8) fun d22 =>
  bi (cP2 n 27 false [d21, d22]) fun d23 =>
  bi (extD 0 d23) fun d24 =>
  bi (extD 1 d23) fun d25 =>
  bi (loadG true 8 (.ptr (List.length H) 0) h8) fun d26 =>
  bi (loadG true 4 (.ptr (List.length h1) 0) h8) fun d27 =>
  bi (cP2 n 28 false [d26, d27]) fun d28 =>
  bi (extD 0 d28) fun d29 =>
  bi (extD 1 d28) fun d30 =>
  bi (loadG true 8 (.ptr (List.length H) 0) (h8 ++ [.hole])) fun d31 =>
  bi (cP2 n 29 false [d31, a2]) fun d32 =>
  bi (extD 0 d32) fun d33 =>
  bi (extD 1 d32) fun d34 =>
  bi (allocG 47 (.agg [(I .i64 0), (.list 0 [] .ti), (.list 0 [] .ti), (.list 0 [] .ti)]) (List.length h8) (h8 ++ [.hole])) fun h35 =>
  bi (storeG 4 (.ptr (List.length h8) 0) d33 h35 fl) fun h36 =>
  bi (loadG true 8 (.ptr (List.length H) 0) (h36 ++ [.hole])) fun d37 =>
  bi (cP2 n 30 false [d37, a2]) fun d38 =>
  bi (extD 0 d38) fun d39 =>
  bi (extD 1 d38) fun d40 =>
  bi (allocG 49 (.agg [(I .i64 0), (.list 0 [] .ti), (.list 0 [] .ti), (.list 0 [] .ti)]) (List.length h36) (h36 ++ [.hole])) fun h41 =>
  bi (storeG 4 (.ptr (List.length h36) 0) d39 h41 fl) fun h42 =>
  bi (cP2 n 18 false [d24, d29]) fun d43 =>
  bi (loadG true 4 (.ptr (List.length h8) 0) h42) fun d44 =>
  bi (loadG true 4 (.ptr (List.length h36) 0) h42) fun d45 =>
  bi (cP2 n 31 false [d44, d45]) fun d46 =>
  bi (wantF d2 true (some d43)) fun d47 =>
  bi (pickD d2 d47 (Bo false)) fun d48 =>
  bi (wantF d48 true (some d25)) fun d49 =>
  bi (wantF d48 true (some d30)) fun d50 =>
  bi (wantF d48 true (eqK .i64 d49 d50)) fun d51 =>
  bi (pickD d48 d51 (Bo false)) fun d52 =>
  bi (wantF d52 true (some d46)) fun d53 =>
  bi (pickD d52 d53 (Bo false)) fun d54 =>
  bi (wantF d54 true (some d34)) fun d55 =>
  bi (wantF d54 true (some d40)) fun d56 =>
  bi (wantF d54 true (eqK .i64 d55 d56)) fun d57 =>
  bi (pickD d54 d57 (Bo false)) fun d58 =>
  bi (wantF d58 true (loadG true 8 (.ptr (List.length H) 0) h42)) fun d59 =>
  bi (wantF d58 true (some (.ptr (List.length H + 1) 0))) fun d60 =>
  bi (wantF d58 true (loadG true 4 d60 h42)) fun d61 =>
  bi (wantF d58 true (cP2 n 32 false [d59, d61])) fun d62 =>
  bi (wantF d58 true (loadG true 8 (.ptr (List.length H) 0) h42)) fun d63 =>
  bi (wantF d58 true (loadG true 4 (.ptr (List.length h1) 0) h42)) fun d64 =>
  bi (wantF d58 true (cP2 n 33 false [d63, d64])) fun d65 =>
  bi (wantF d58 true (eqB d62 d65)) fun d66 =>
  bi (pickD d58 d66 (Bo false)) fun d67 =>
  bi (wantF d67 true (some (.ptr (List.length H + 1) 0))) fun d68 =>
  bi (wantF d67 true (loadG true 4 d68 h42)) fun d69 =>
  bi (wantF d67 true (some (.ptr (List.length H + 1) 4))) fun d70 =>
  bi (wantF d67 true (loadG true 4 d70 h42)) fun d71 =>
  bi (wantF d67 true (cP2 n 34 false [d69, d71])) fun d72 =>
  bi (wantF d67 true (loadG true 4 (.ptr (List.length h1) 0) h42)) fun d73 =>
  bi (wantF d67 true (loadG true 4 (.ptr (List.length h5) 0) h42)) fun d74 =>
  bi (wantF d67 true (cP2 n 31 false [d73, d74])) fun d75 =>
  bi (wantF d67 true (eqB d72 d75)) fun d76 =>
  bi (pickD d67 d76 (Bo false)) fun d77 =>
  some (d77, h42))
theorem s_triunelaw07_AnswerTells_eq (n : Nat) (H : Heap) (fl : Nat) (a0 a1 a2 : DV) : callG Try.prog ENV2 (n + 1) 6 [a0, a1, a2] H fl = s_triunelaw07_AnswerTells n H fl a0 a1 a2 := by kernel_rfl

end Go.Proofs.Ytjkofefcoeejbaa
