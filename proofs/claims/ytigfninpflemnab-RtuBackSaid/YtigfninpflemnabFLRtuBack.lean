/- Go functions as Lean functions on deep values; printed by a program of mine. -/
import Derived.Test.YtigfninpflemnabEnv
namespace Go.Proofs.Ytigfninpflemnab
open Go
set_option maxRecDepth 100000
set_option linter.unusedVariables false
/-! triune/triunelaw03.RtuBack -/
noncomputable def s_triunelaw03_RtuBack (n : Nat) (H : Heap) (fl : Nat) (a0 a1 : DV) : R :=
  bi (allocG 97 a0 (List.length H) (H ++ [.hole])) fun h0 =>
  bi (cP n 42 false []) fun d1 =>
  bi (loadG false 1 (.ptr (List.length H) 1) h0) fun d2 =>
  bi (lenD d2) fun d3 =>
  bi (gtK .i64 d3 (I .i64 400)) fun d4 =>
  bi (wantF d4 false (some a1)) fun d5 =>
  bi (wantF d4 false (lenD d5)) fun d6 =>
  bi (wantF d4 false (gtK .i64 d6 (I .i64 400))) fun d7 =>
  bi (pickD d4 (Bo true) d7) fun d8 =>
  condR d8 (
  some (d1, h0)) (
  bi (loadG true 2 (.ptr (List.length H) 0) h0) fun d9 =>
  bi (cP n 43 false [d9]) fun d10 =>
  bi (extD 0 d10) fun d11 =>
  bi (extD 1 d10) fun d12 =>
  bi (eqK .i64 d12 (I .i64 0)) fun d13 =>
  condR d13 (
   bi (cP n 45 false [d11]) fun d14 =>
   bi (extD 0 d14) fun d15 =>
   bi (extD 1 d14) fun d16 =>
   bi (allocG 97 (.agg [(I .u8 0), (.list 0 [] .ti)]) (List.length h0) (h0 ++ [.hole])) fun h17 =>
   bi (storeG 2 (.ptr (List.length h0) 0) d15 h17 fl) fun h18 =>
   bi (neK .i64 d16 (I .i64 0)) fun d19 =>
   bi (wantF d19 false (loadG true 2 (.ptr (List.length H) 0) h18)) fun d20 =>
   bi (wantF d19 false (loadG true 2 (.ptr (List.length h0) 0) h18)) fun d21 =>
   bi (wantF d19 false (cP n 49 false [d20, d21])) fun d22 =>
   bi (wantF d19 false (notD d22)) fun d23 =>
   bi (pickD d19 (Bo true) d23) fun d24 =>
   bi (wantF d24 false (some d11)) fun d25 =>
   bi (wantF d24 false (lenD d25)) fun d26 =>
   bi (wantF d24 false (some (.ptr (List.length H) 1))) fun d27 =>
   bi (wantF d24 false (loadG false 1 d27 h18)) fun d28 =>
   bi (wantF d24 false (lenD d28)) fun d29 =>
   bi (wantF d24 false (addK .i64 d29 (I .i64 3))) fun d30 =>
   bi (wantF d24 false (neK .i64 d26 d30)) fun d31 =>
   bi (pickD d24 (Bo true) d31) fun d32 =>
   condR d32 (
  some ((Bo false), h18)) (
  bi (cP n 45 false [a1]) fun d33 =>
  bi (extD 0 d33) fun d34 =>
  bi (extD 1 d33) fun d35 =>
  bi (allocG 97 (.agg [(I .u8 0), (.list 0 [] .ti)]) (List.length h18) (h18 ++ [.hole])) fun h36 =>
  bi (storeG 2 (.ptr (List.length h18) 0) d34 h36 fl) fun h37 =>
  bi (neK .i64 d35 (I .i64 0)) fun d38 =>
  condR d38 (
   bi (wantF d1 true (some (.ptr (List.length h18) 1))) fun d39 =>
   bi (wantF d1 true (loadG false 1 d39 h37)) fun d40 =>
   bi (wantF d1 true (lenD d40)) fun d41 =>
   bi (wantF d1 true (eqK .i64 d41 (I .i64 0))) fun d42 =>
   bi (pickD d1 d42 (Bo false)) fun d43 =>
  some (d43, h37)) (
  bi (loadG true 2 (.ptr (List.length h18) 0) h37) fun d44 =>
  bi (cP n 43 false [d44]) fun d45 =>
  bi (extD 0 d45) fun d46 =>
  bi (extD 1 d45) fun d47 =>
  bi (cP n 47 false [d46, a1]) fun d48 =>
  bi (wantF d1 true (some d47)) fun d49 =>
  bi (wantF d1 true (eqK .i64 d49 (I .i64 0))) fun d50 =>
  bi (pickD d1 d50 (Bo false)) fun d51 =>
  bi (wantF d51 true (some d48)) fun d52 =>
  bi (pickD d51 d52 (Bo false)) fun d53 =>
  some (d53, h37)))) (
  bi (cP n 45 false [a1]) fun d54 =>
  bi (extD 0 d54) fun d55 =>
  bi (extD 1 d54) fun d56 =>
  bi (allocG 97 (.agg [(I .u8 0), (.list 0 [] .ti)]) (List.length h0) (h0 ++ [.hole])) fun h57 =>
  bi (storeG 2 (.ptr (List.length h0) 0) d55 h57 fl) fun h58 =>
  bi (neK .i64 d56 (I .i64 0)) fun d59 =>
  condR d59 (
   bi (wantF d1 true (some (.ptr (List.length h0) 1))) fun d60 =>
   bi (wantF d1 true (loadG false 1 d60 h58)) fun d61 =>
   bi (wantF d1 true (lenD d61)) fun d62 =>
   bi (wantF d1 true (eqK .i64 d62 (I .i64 0))) fun d63 =>
   bi (pickD d1 d63 (Bo false)) fun d64 =>
  some (d64, h58)) (
  bi (loadG true 2 (.ptr (List.length h0) 0) h58) fun d65 =>
  bi (cP n 43 false [d65]) fun d66 =>
  bi (extD 0 d66) fun d67 =>
  bi (extD 1 d66) fun d68 =>
  bi (cP n 47 false [d67, a1]) fun d69 =>
  bi (wantF d1 true (some d68)) fun d70 =>
  bi (wantF d1 true (eqK .i64 d70 (I .i64 0))) fun d71 =>
  bi (pickD d1 d71 (Bo false)) fun d72 =>
  bi (wantF d72 true (some d69)) fun d73 =>
  bi (pickD d72 d73 (Bo false)) fun d74 =>
  some (d74, h58))))
theorem s_triunelaw03_RtuBack_eq (n : Nat) (H : Heap) (fl : Nat) (a0 a1 : DV) : callG Try.prog ENV (n + 1) 10 [a0, a1] H fl = s_triunelaw03_RtuBack n H fl a0 a1 := by kernel_rfl

end Go.Proofs.Ytigfninpflemnab
