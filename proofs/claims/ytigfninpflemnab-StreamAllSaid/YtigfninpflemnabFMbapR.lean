/- Go functions as Lean functions on deep values; printed by a program of mine. -/
import Derived.Test.YtigfninpflemnabEnv
namespace Go.Proofs.Ytigfninpflemnab
open Go
set_option maxRecDepth 100000
set_option linter.unusedVariables false
/-! triune/mbap.Read -/
noncomputable def s_mbap_Read (n : Nat) (H : Heap) (fl : Nat) (a0 : DV) : R :=
  bi (allocG 84 (.agg [(I .u16 0), (I .u8 0), (.list 0 [] .ti)]) (List.length H) (H ++ [.hole])) fun h0 =>
  bi (cP n 87 false [a0, (I .i64 2)]) fun d1 =>
  bi (extD 0 d1) fun d2 =>
  bi (extD 1 d1) fun d3 =>
  bi (cP n 87 false [a0, (I .i64 4)]) fun d4 =>
  bi (extD 0 d4) fun d5 =>
  bi (extD 1 d4) fun d6 =>
  bi (neK .i64 d2 (I .i64 0)) fun d7 =>
  condR d7 (
  condR d7 (
   bi (buildS (.agg [(I .u16 0), (I .u8 0), (.list 0 [] .ti)]) [(0, 1), (1, 1), (2, 1)] []) fun d8 =>
   bi (storeG 3 (.ptr (List.length H) 0) d8 h0 fl) fun h9 =>
  bi (cellR true 3 (.ptr (List.length H) 0) h9) fun r0 =>
  some ((.tup [r0, (I .i64 0), (I .i64 2)]), h9)) (
   bi (notD d6) fun d10 =>
   bi (wantF d10 false (some a0)) fun d11 =>
   bi (wantF d10 false (lenD d11)) fun d12 =>
   bi (wantF d10 false (some d5)) fun d13 =>
   bi (wantF d10 false (addK .i64 (I .i64 6) d13)) fun d14 =>
   bi (wantF d10 false (ltK .i64 d12 d14)) fun d15 =>
   bi (pickD d10 (Bo true) d15) fun d16 =>
   condR d16 (
    bi (buildS (.agg [(I .u16 0), (I .u8 0), (.list 0 [] .ti)]) [(0, 1), (1, 1), (2, 1)] []) fun d17 =>
    bi (storeG 3 (.ptr (List.length H) 0) d17 h0 fl) fun h18 =>
  bi (cellR true 3 (.ptr (List.length H) 0) h18) fun r0 =>
  some ((.tup [r0, (I .i64 0), (I .i64 3)]), h18)) (
  bi (cP n 87 false [a0, (I .i64 0)]) fun d19 =>
  bi (extD 0 d19) fun d20 =>
  bi (extD 1 d19) fun d21 =>
  bi (cvK .u16 d20) fun d22 =>
  bi (idxSl 1 a0 (I .i64 6)) fun d23 =>
  bi (loadG false 1 d23 h0) fun d24 =>
  bi (addK .i64 (I .i64 6) d5) fun d25 =>
  bi (slX 1 a0 (some (I .i64 7)) (some d25) none) fun d26 =>
  bi (cP n 88 false [d26]) fun d27 =>
  bi (buildS (.agg [(I .u16 0), (I .u8 0), (.list 0 [] .ti)]) [(0, 1), (1, 1), (2, 1)] [(0, d22), (1, d24), (2, d27)]) fun d28 =>
  bi (addK .i64 (I .i64 6) d5) fun d29 =>
  bi (storeG 3 (.ptr (List.length H) 0) d28 h0 fl) fun h30 =>
  bi (cellR true 3 (.ptr (List.length H) 0) h30) fun r0 =>
  some ((.tup [r0, d29, (I .i64 0)]), h30)))) (
   bi (wantF d6 true (some d5)) fun d31 =>
   bi (wantF d6 true (ltK .i64 d31 (I .i64 2))) fun d32 =>
   bi (wantF d6 true (some d32)) fun d33 =>
   bi (wantF d33 false (some d5)) fun d34 =>
   bi (wantF d33 false (gtK .i64 d34 (I .i64 254))) fun d35 =>
   bi (wantF d6 true (pickD d33 (Bo true) d35)) fun d36 =>
   bi (pickD d6 d36 (Bo false)) fun d37 =>
  condR d37 (
   bi (buildS (.agg [(I .u16 0), (I .u8 0), (.list 0 [] .ti)]) [(0, 1), (1, 1), (2, 1)] []) fun d38 =>
   bi (storeG 3 (.ptr (List.length H) 0) d38 h0 fl) fun h39 =>
  bi (cellR true 3 (.ptr (List.length H) 0) h39) fun r0 =>
  some ((.tup [r0, (I .i64 0), (I .i64 2)]), h39)) (
   bi (notD d6) fun d40 =>
   bi (wantF d40 false (some a0)) fun d41 =>
   bi (wantF d40 false (lenD d41)) fun d42 =>
   bi (wantF d40 false (some d5)) fun d43 =>
   bi (wantF d40 false (addK .i64 (I .i64 6) d43)) fun d44 =>
   bi (wantF d40 false (ltK .i64 d42 d44)) fun d45 =>
   bi (pickD d40 (Bo true) d45) fun d46 =>
   condR d46 (
    bi (buildS (.agg [(I .u16 0), (I .u8 0), (.list 0 [] .ti)]) [(0, 1), (1, 1), (2, 1)] []) fun d47 =>
    bi (storeG 3 (.ptr (List.length H) 0) d47 h0 fl) fun h48 =>
  bi (cellR true 3 (.ptr (List.length H) 0) h48) fun r0 =>
  some ((.tup [r0, (I .i64 0), (I .i64 3)]), h48)) (
  bi (cP n 87 false [a0, (I .i64 0)]) fun d49 =>
  bi (extD 0 d49) fun d50 =>
  bi (extD 1 d49) fun d51 =>
  bi (cvK .u16 d50) fun d52 =>
  bi (idxSl 1 a0 (I .i64 6)) fun d53 =>
  bi (loadG false 1 d53 h0) fun d54 =>
  bi (addK .i64 (I .i64 6) d5) fun d55 =>
  bi (slX 1 a0 (some (I .i64 7)) (some d55) none) fun d56 =>
  bi (cP n 88 false [d56]) fun d57 =>
  bi (buildS (.agg [(I .u16 0), (I .u8 0), (.list 0 [] .ti)]) [(0, 1), (1, 1), (2, 1)] [(0, d52), (1, d54), (2, d57)]) fun d58 =>
  bi (addK .i64 (I .i64 6) d5) fun d59 =>
  bi (storeG 3 (.ptr (List.length H) 0) d58 h0 fl) fun h60 =>
  bi (cellR true 3 (.ptr (List.length H) 0) h60) fun r0 =>
  some ((.tup [r0, d59, (I .i64 0)]), h60))))
theorem s_mbap_Read_eq (n : Nat) (H : Heap) (fl : Nat) (a0 : DV) : callG Try.prog ENV (n + 1) 81 [a0] H fl = s_mbap_Read n H fl a0 := by kernel_rfl

end Go.Proofs.Ytigfninpflemnab
