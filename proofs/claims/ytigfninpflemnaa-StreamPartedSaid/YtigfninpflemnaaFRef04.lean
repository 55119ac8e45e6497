/- Go functions as Lean functions on deep values; printed by a program of mine. -/
import Derived.Test.YtigfninpflemnaaEnv
namespace Go.Proofs.Ytigfninpflemnaa
open Go
set_option maxRecDepth 100000
set_option linter.unusedVariables false
/-! triune/triuneref04.Bytes -/
noncomputable def s_triuneref04_Bytes (n : Nat) (H : Heap) (fl : Nat) (a0 : DV) : R :=
  bi (allocG 72 a0 (List.length H) (H ++ [.hole])) fun h0 =>
  bi (loadG false 1 (.ptr (List.length H) 2) h0) fun d1 =>
  bi (lenD d1) fun d2 =>
  bi (eqK .i64 d2 (I .i64 0)) fun d3 =>
  condR d3 (
  some ((.tup [(.list 0 [] .ti), (I .i64 3)]), h0)) (
  bi (gtK .i64 d2 (I .i64 253)) fun d4 =>
  condR d4 (
  some ((.tup [(.list 0 [] .ti), (I .i64 4)]), h0)) (
  bi (loadG false 1 (.ptr (List.length H) 0) h0) fun d5 =>
  bi (quoK .u16 d5 (I .u16 256)) fun d6 =>
  bi (cvK .u8 d6) fun d7 =>
  bi (loadG false 1 (.ptr (List.length H) 0) h0) fun d8 =>
  bi (remK .u16 d8 (I .u16 256)) fun d9 =>
  bi (cvK .u8 d9) fun d10 =>
  bi (addK .i64 d2 (I .i64 1)) fun d11 =>
  bi (quoK .i64 d11 (I .i64 256)) fun d12 =>
  bi (cvK .u8 d12) fun d13 =>
  bi (addK .i64 d2 (I .i64 1)) fun d14 =>
  bi (remK .i64 d14 (I .i64 256)) fun d15 =>
  bi (cvK .u8 d15) fun d16 =>
  bi (loadG false 1 (.ptr (List.length H) 1) h0) fun d17 =>
  bi (buildL false 1 7 (I .u8 0) [(0, d7), (1, d10), (2, (I .u8 0)), (3, (I .u8 0)), (4, d13), (5, d16), (6, d17)]) fun d18 =>
  bi (loadG false 1 (.ptr (List.length H) 2) h0) fun d19 =>
  bi (appG 5 false 1 1 d18 d19 h0 fl) fun p20 =>
  some ((.tup [p20.1, (I .i64 0)]), p20.2)))
theorem s_triuneref04_Bytes_eq (n : Nat) (H : Heap) (fl : Nat) (a0 : DV) : callG Try.prog ENV (n + 1) 54 [a0] H fl = s_triuneref04_Bytes n H fl a0 := by kernel_rfl

/-! triune/triuneref04.Read -/
noncomputable def s_triuneref04_Read (n : Nat) (H : Heap) (fl : Nat) (a0 : DV) : R :=
  bi (allocG 72 (.agg [(I .u16 0), (I .u8 0), (.list 0 [] .ti)]) (List.length H) (H ++ [.hole])) fun h0 =>
  bi (lenD a0) fun d1 =>
  bi (geK .i64 d1 (I .i64 4)) fun d2 =>
  bi (wantF d2 true (some a0)) fun d3 =>
  bi (wantF d2 true (idxSl 1 d3 (I .i64 2))) fun d4 =>
  bi (wantF d2 true (loadG false 1 d4 h0)) fun d5 =>
  bi (wantF d2 true (neK .u8 d5 (I .u8 0))) fun d6 =>
  bi (wantF d2 true (some d6)) fun d7 =>
  bi (wantF d7 false (some a0)) fun d8 =>
  bi (wantF d7 false (idxSl 1 d8 (I .i64 3))) fun d9 =>
  bi (wantF d7 false (loadG false 1 d9 h0)) fun d10 =>
  bi (wantF d7 false (neK .u8 d10 (I .u8 0))) fun d11 =>
  bi (wantF d2 true (pickD d7 (Bo true) d11)) fun d12 =>
  bi (pickD d2 d12 (Bo false)) fun d13 =>
  condR d13 (
   bi (buildS (.agg [(I .u16 0), (I .u8 0), (.list 0 [] .ti)]) [(0, 1), (1, 1), (2, 1)] []) fun d14 =>
   bi (storeG 3 (.ptr (List.length H) 0) d14 h0 fl) fun h15 =>
  bi (cellR true 3 (.ptr (List.length H) 0) h15) fun r0 =>
  some ((.tup [r0, (I .i64 0), (I .i64 2)]), h15)) (
  bi (lenD a0) fun d16 =>
  bi (geK .i64 d16 (I .i64 6)) fun d17 =>
  condR d17 (
   bi (idxSl 1 a0 (I .i64 4)) fun d18 =>
   bi (loadG false 1 d18 h0) fun d19 =>
   bi (cvK .i64 d19) fun d20 =>
   bi (mulK .i64 (I .i64 256) d20) fun d21 =>
   bi (idxSl 1 a0 (I .i64 5)) fun d22 =>
   bi (loadG false 1 d22 h0) fun d23 =>
   bi (cvK .i64 d23) fun d24 =>
   bi (addK .i64 d21 d24) fun d25 =>
  bi (ltK .i64 d25 (I .i64 2)) fun d26 =>
  bi (wantF d26 false (some d25)) fun d27 =>
  bi (wantF d26 false (gtK .i64 d27 (I .i64 254))) fun d28 =>
  bi (pickD d26 (Bo true) d28) fun d29 =>
  condR d29 (
   bi (buildS (.agg [(I .u16 0), (I .u8 0), (.list 0 [] .ti)]) [(0, 1), (1, 1), (2, 1)] []) fun d30 =>
   bi (storeG 3 (.ptr (List.length H) 0) d30 h0 fl) fun h31 =>
  bi (cellR true 3 (.ptr (List.length H) 0) h31) fun r0 =>
  some ((.tup [r0, (I .i64 0), (I .i64 2)]), h31)) (
  bi (lenD a0) fun d32 =>
  bi (ltK .i64 d32 (I .i64 7)) fun d33 =>
  bi (wantF d33 false (some a0)) fun d34 =>
  bi (wantF d33 false (lenD d34)) fun d35 =>
  bi (wantF d33 false (some d25)) fun d36 =>
  bi (wantF d33 false (addK .i64 (I .i64 6) d36)) fun d37 =>
  bi (wantF d33 false (ltK .i64 d35 d37)) fun d38 =>
  bi (pickD d33 (Bo true) d38) fun d39 =>
  condR d39 (
   bi (buildS (.agg [(I .u16 0), (I .u8 0), (.list 0 [] .ti)]) [(0, 1), (1, 1), (2, 1)] []) fun d40 =>
   bi (storeG 3 (.ptr (List.length H) 0) d40 h0 fl) fun h41 =>
  bi (cellR true 3 (.ptr (List.length H) 0) h41) fun r0 =>
  some ((.tup [r0, (I .i64 0), (I .i64 3)]), h41)) (
  bi (idxSl 1 a0 (I .i64 0)) fun d42 =>
  bi (loadE false 1 d42) fun d43 =>
  bi (cvK .u16 d43) fun d44 =>
  bi (mulK .u16 (I .u16 256) d44) fun d45 =>
  bi (idxSl 1 a0 (I .i64 1)) fun d46 =>
  bi (loadE false 1 d46) fun d47 =>
  bi (cvK .u16 d47) fun d48 =>
  bi (addK .u16 d45 d48) fun d49 =>
  bi (idxSl 1 a0 (I .i64 6)) fun d50 =>
  bi (loadE false 1 d50) fun d51 =>
  bi (buildL false 1 0 (I .u8 0) []) fun d52 =>
  bi (addK .i64 (I .i64 6) d25) fun d53 =>
  bi (slX 1 a0 (some (I .i64 7)) (some d53) none) fun d54 =>
  bi (appG 5 false 1 1 d52 d54 h0 fl) fun p55 =>
  bi (buildS (.agg [(I .u16 0), (I .u8 0), (.list 0 [] .ti)]) [(0, 1), (1, 1), (2, 1)] [(0, d49), (1, d51), (2, p55.1)]) fun d56 =>
  bi (addK .i64 (I .i64 6) d25) fun d57 =>
  bi (storeG 3 (.ptr (List.length H) 0) d56 p55.2 fl) fun h58 =>
  bi (cellR true 3 (.ptr (List.length H) 0) h58) fun r0 =>
  some ((.tup [r0, d57, (I .i64 0)]), h58)))) (
  bi (ltK .i64 (I .i64 2) (I .i64 2)) fun d59 =>
  bi (wantF d59 false (some (I .i64 2))) fun d60 =>
  bi (wantF d59 false (gtK .i64 d60 (I .i64 254))) fun d61 =>
  bi (pickD d59 (Bo true) d61) fun d62 =>
  condR d62 (
   bi (buildS (.agg [(I .u16 0), (I .u8 0), (.list 0 [] .ti)]) [(0, 1), (1, 1), (2, 1)] []) fun d63 =>
   bi (storeG 3 (.ptr (List.length H) 0) d63 h0 fl) fun h64 =>
  bi (cellR true 3 (.ptr (List.length H) 0) h64) fun r0 =>
  some ((.tup [r0, (I .i64 0), (I .i64 2)]), h64)) (
  bi (lenD a0) fun d65 =>
  bi (ltK .i64 d65 (I .i64 7)) fun d66 =>
  bi (wantF d66 false (some a0)) fun d67 =>
  bi (wantF d66 false (lenD d67)) fun d68 =>
  bi (wantF d66 false (some (I .i64 2))) fun d69 =>
  bi (wantF d66 false (addK .i64 (I .i64 6) d69)) fun d70 =>
  bi (wantF d66 false (ltK .i64 d68 d70)) fun d71 =>
  bi (pickD d66 (Bo true) d71) fun d72 =>
  condR d72 (
   bi (buildS (.agg [(I .u16 0), (I .u8 0), (.list 0 [] .ti)]) [(0, 1), (1, 1), (2, 1)] []) fun d73 =>
   bi (storeG 3 (.ptr (List.length H) 0) d73 h0 fl) fun h74 =>
  bi (cellR true 3 (.ptr (List.length H) 0) h74) fun r0 =>
  some ((.tup [r0, (I .i64 0), (I .i64 3)]), h74)) (
  bi (idxSl 1 a0 (I .i64 0)) fun d75 =>
  bi (loadE false 1 d75) fun d76 =>
  bi (cvK .u16 d76) fun d77 =>
  bi (mulK .u16 (I .u16 256) d77) fun d78 =>
  bi (idxSl 1 a0 (I .i64 1)) fun d79 =>
  bi (loadE false 1 d79) fun d80 =>
  bi (cvK .u16 d80) fun d81 =>
  bi (addK .u16 d78 d81) fun d82 =>
  bi (idxSl 1 a0 (I .i64 6)) fun d83 =>
  bi (loadE false 1 d83) fun d84 =>
  bi (buildL false 1 0 (I .u8 0) []) fun d85 =>
  bi (addK .i64 (I .i64 6) (I .i64 2)) fun d86 =>
  bi (slX 1 a0 (some (I .i64 7)) (some d86) none) fun d87 =>
  bi (appG 5 false 1 1 d85 d87 h0 fl) fun p88 =>
  bi (buildS (.agg [(I .u16 0), (I .u8 0), (.list 0 [] .ti)]) [(0, 1), (1, 1), (2, 1)] [(0, d82), (1, d84), (2, p88.1)]) fun d89 =>
  bi (addK .i64 (I .i64 6) (I .i64 2)) fun d90 =>
  bi (storeG 3 (.ptr (List.length H) 0) d89 p88.2 fl) fun h91 =>
  bi (cellR true 3 (.ptr (List.length H) 0) h91) fun r0 =>
  some ((.tup [r0, d90, (I .i64 0)]), h91)))))
theorem s_triuneref04_Read_eq (n : Nat) (H : Heap) (fl : Nat) (a0 : DV) : callG Try.prog ENV (n + 1) 56 [a0] H fl = s_triuneref04_Read n H fl a0 := by kernel_rfl

/-! triune/triuneref04.Same -/
noncomputable def s_triuneref04_Same (n : Nat) (H : Heap) (fl : Nat) (a0 a1 : DV) : R :=
  bi (allocG 72 a0 (List.length H) (H ++ [.hole, .hole])) fun h0 =>
  bi (allocG 72 a1 (List.length H + 1) h0) fun h1 =>
  bi (loadG false 1 (.ptr (List.length H) 0) h1) fun d2 =>
  bi (loadG false 1 (.ptr (List.length H + 1) 0) h1) fun d3 =>
  bi (eqK .u16 d2 d3) fun d4 =>
  bi (wantF d4 true (some (.ptr (List.length H) 1))) fun d5 =>
  bi (wantF d4 true (loadG false 1 d5 h1)) fun d6 =>
  bi (wantF d4 true (some (.ptr (List.length H + 1) 1))) fun d7 =>
  bi (wantF d4 true (loadG false 1 d7 h1)) fun d8 =>
  bi (wantF d4 true (eqK .u8 d6 d8)) fun d9 =>
  bi (pickD d4 d9 (Bo false)) fun d10 =>
  bi (wantF d10 true (some (.ptr (List.length H) 2))) fun d11 =>
  bi (wantF d10 true (loadG false 1 d11 h1)) fun d12 =>
  bi (wantF d10 true (some (.ptr (List.length H + 1) 2))) fun d13 =>
  bi (wantF d10 true (loadG false 1 d13 h1)) fun d14 =>
  bi (wantF d10 true (cP n 18 false [d12, d14])) fun d15 =>
  bi (pickD d10 d15 (Bo false)) fun d16 =>
  some (d16, h1)
theorem s_triuneref04_Same_eq (n : Nat) (H : Heap) (fl : Nat) (a0 a1 : DV) : callG Try.prog ENV (n + 1) 57 [a0, a1] H fl = s_triuneref04_Same n H fl a0 a1 := by kernel_rfl

end Go.Proofs.Ytigfninpflemnaa
