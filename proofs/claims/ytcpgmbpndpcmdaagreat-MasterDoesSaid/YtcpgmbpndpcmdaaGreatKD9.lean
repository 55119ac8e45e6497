/- Texts of mine, laid together: FRefM, FRef7D, FRef7G, FRef7R, GRef7R, GRef7S, GRef7G, GRef7H. -/
import Derived.Test.YtcpgmbpndpcmdaaGreatKD8
namespace Go.Proofs.YtcpgmbpndpcmdaaGreat
open Go
set_option maxRecDepth 100000
set_option linter.unusedVariables false
noncomputable def s_triuneref08_Right (n : Nat) (H : Heap) (fl : Nat) (a0 a1 a2 a3 : DV) : R :=
  bi (geK .u8 a0 (I .u8 1)) fun d0 =>
  bi (wantF d0 true (some a0)) fun d1 =>
  bi (wantF d0 true (leK .u8 d1 (I .u8 247))) fun d2 =>
  bi (pickD d0 d2 (Bo false)) fun d3 =>
  bi (wantF d3 true (some a1)) fun d4 =>
  bi (wantF d3 true (geK .i64 d4 (I .i64 1))) fun d5 =>
  bi (pickD d3 d5 (Bo false)) fun d6 =>
  bi (wantF d6 true (some a1)) fun d7 =>
  bi (wantF d6 true (leK .i64 d7 (I .i64 20))) fun d8 =>
  bi (pickD d6 d8 (Bo false)) fun d9 =>
  bi (wantF d9 true (some a2)) fun d10 =>
  bi (wantF d9 true (geK .i64 d10 (I .i64 1))) fun d11 =>
  bi (pickD d9 d11 (Bo false)) fun d12 =>
  bi (wantF d12 true (some a2)) fun d13 =>
  bi (wantF d12 true (leK .i64 d13 (I .i64 1000))) fun d14 =>
  bi (pickD d12 d14 (Bo false)) fun d15 =>
  bi (wantF d15 true (some a3)) fun d16 =>
  bi (wantF d15 true (geK .i64 d16 (I .i64 1))) fun d17 =>
  bi (pickD d15 d17 (Bo false)) fun d18 =>
  bi (wantF d18 true (some a3)) fun d19 =>
  bi (wantF d18 true (leK .i64 d19 (I .i64 5))) fun d20 =>
  bi (pickD d18 d20 (Bo false)) fun d21 =>
  some (d21, H)
theorem s_triuneref08_Right_eq (n : Nat) (H : Heap) (fl : Nat) (a0 a1 a2 a3 : DV) : callG Tryz.prog ENV2 (n + 1) 9 [a0, a1, a2, a3] H fl = s_triuneref08_Right n H fl a0 a1 a2 a3 := by kernel_rfl
noncomputable def s_triuneref08_New (n : Nat) (H : Heap) (fl : Nat) (a0 a1 a2 a3 : DV) : R :=
  bi (cP2 n 9 false [a0, a1, a2, a3]) fun d0 =>
  bi (notD d0) fun d1 =>
  condR d1 (
  some ((.tup [(.flat (.pointer none)), (I .i64 1)]), H)) (
  bi (buildS (.agg [(I .u8 0), (I .i64 0), (I .i64 0), (I .i64 0), (I .i64 0), (I .i64 0), (I .i64 0), (I .i64 0), (I .i64 0), (I .i64 0), (I .i64 0), (I .i64 0), (.list 0 [] .ti), (.list 0 [] .ti), (I .u16 0), (I .u16 0), (.list 0 [] .ti)]) [(0, 1), (1, 1), (2, 1), (3, 1), (4, 1), (5, 1), (6, 1), (7, 1), (8, 8), (16, 1)] [(0, a0), (1, a1), (2, a2), (3, a3), (5, a1)]) fun d2 =>
  bi (allocG 61 d2 (List.length H) (H ++ [.hole])) fun h3 =>
  some ((.tup [(.ptr (List.length H) 0), (I .i64 0)]), h3))
theorem s_triuneref08_New_eq (n : Nat) (H : Heap) (fl : Nat) (a0 a1 a2 a3 : DV) : callG Tryz.prog ENV2 (n + 1) 7 [a0, a1, a2, a3] H fl = s_triuneref08_New n H fl a0 a1 a2 a3 := by kernel_rfl
noncomputable def s___triuneref08_Master__Start (n : Nat) (H : Heap) (fl : Nat) (a0 a1 : DV) : R :=
  bi (allocG 58 a1 (List.length H) (H ++ [.hole])) fun h0 =>
  bi (nilD a0) fun d1 =>
  bi (fieldD 4 1 d1) fun d2 =>
  bi (loadG false 1 d2 h0) fun d3 =>
  bi (neK .i64 d3 (I .i64 0)) fun d4 =>
  condR d4 (
  some ((I .i64 8), h0)) (
  bi (loadG true 8 (.ptr (List.length H) 0) h0) fun d5 =>
  bi (cP2 n 36 false [d5]) fun d6 =>
  bi (notD d6) fun d7 =>
  condR d7 (
  some ((I .i64 2), h0)) (
  bi (buildL false 1 0 (I .u16 0) []) fun d8 =>
  bi (loadG false 1 (.ptr (List.length H) 4) h0) fun d9 =>
  bi (appG 38 false 1 2 d8 d9 h0 fl) fun p10 =>
  bi (storeG 1 (.ptr (List.length H) 4) p10.1 p10.2 fl) fun h11 =>
  bi (buildL false 1 0 (Bo false) []) fun d12 =>
  bi (loadG false 1 (.ptr (List.length H) 5) h11) fun d13 =>
  bi (appG 4 false 1 1 d12 d13 h11 fl) fun p14 =>
  bi (storeG 1 (.ptr (List.length H) 5) p14.1 p14.2 fl) fun h15 =>
  bi (loadG true 8 (.ptr (List.length H) 0) h15) fun d16 =>
  bi (nilD a0) fun d17 =>
  bi (fieldD 8 8 d17) fun d18 =>
  bi (storeG 8 d18 d16 h15 fl) fun h19 =>
  bi (nilD a0) fun d20 =>
  bi (fieldD 4 1 d20) fun d21 =>
  bi (storeG 1 d21 (I .i64 1) h19 fl) fun h22 =>
  bi (nilD a0) fun d23 =>
  bi (fieldD 6 1 d23) fun d24 =>
  bi (storeG 1 d24 (I .i64 0) h22 fl) fun h25 =>
  bi (nilD a0) fun d26 =>
  bi (fieldD 7 1 d26) fun d27 =>
  bi (storeG 1 d27 (I .i64 0) h25 fl) fun h28 =>
  some ((I .i64 0), h28)))
theorem s___triuneref08_Master__Start_eq (n : Nat) (H : Heap) (fl : Nat) (a0 a1 : DV) : callG Tryz.prog ENV2 (n + 1) 15 [a0, a1] H fl = s___triuneref08_Master__Start n H fl a0 a1 := by kernel_rfl
noncomputable def s___triuneref08_Master__Take (n : Nat) (H : Heap) (fl : Nat) (a0 a1 : DV) : R :=
  bi (lenD a1) fun d0 =>
  bi (eqK .i64 d0 (I .i64 0)) fun d1 =>
  condR d1 (
  some ((.tup []), H)) (
  bi (nilD a0) fun d2 =>
  bi (fieldD 5 1 d2) fun d3 =>
  bi (storeG 1 d3 (I .i64 0) H fl) fun h4 =>
  bi (nilD a0) fun d5 =>
  bi (fieldD 4 1 d5) fun d6 =>
  bi (loadG false 1 d6 h4) fun d7 =>
  bi (eqK .i64 d7 (I .i64 2)) fun d8 =>
  condR d8 (
   bi (buildL false 1 0 (I .u8 0) []) fun d9 =>
   bi (nilD a0) fun d10 =>
   bi (fieldD 16 1 d10) fun d11 =>
   bi (loadG false 1 d11 h4) fun d12 =>
   bi (appG 5 false 1 1 d9 d12 h4 fl) fun p13 =>
   bi (appG 5 false 1 1 p13.1 a1 p13.2 fl) fun p14 =>
   bi (nilD a0) fun d15 =>
   bi (fieldD 16 1 d15) fun d16 =>
   bi (storeG 1 d16 p14.1 p14.2 fl) fun h17 =>
   bi (nilD a0) fun d18 =>
   bi (fieldD 16 1 d18) fun d19 =>
   bi (loadG false 1 d19 h17) fun d20 =>
   bi (nilD a0) fun d21 =>
   bi (fieldD 16 1 d21) fun d22 =>
   bi (loadG false 1 d22 h17) fun d23 =>
   bi (lenD d23) fun d24 =>
   bi (minI d24 (I .i64 300)) fun d25 =>
   bi (slX 1 d20 none (some d25) none) fun d26 =>
   bi (nilD a0) fun d27 =>
   bi (fieldD 16 1 d27) fun d28 =>
   bi (storeG 1 d28 d26 h17 fl) fun h29 =>
  some ((.tup []), h29)) (
  some ((.tup []), h4)))
theorem s___triuneref08_Master__Take_eq (n : Nat) (H : Heap) (fl : Nat) (a0 a1 : DV) : callG Tryz.prog ENV2 (n + 1) 17 [a0, a1] H fl = s___triuneref08_Master__Take n H fl a0 a1 := by kernel_rfl
noncomputable def s___triuneref08_Master__failed (n : Nat) (H : Heap) (fl : Nat) (a0 a1 : DV) : R :=
  bi (allocG 51 (.agg [(I .i64 0), (.list 0 [] .ti), (.list 0 [] .ti), (.list 0 [] .ti)]) (List.length H) (H ++ [.hole])) fun h0 =>
  bi (nilD a0) fun d1 =>
  bi (fieldD 7 1 d1) fun d2 =>
  bi (loadG false 1 d2 h0) fun d3 =>
  bi (nilD a0) fun d4 =>
  bi (fieldD 3 1 d4) fun d5 =>
  bi (loadG false 1 d5 h0) fun d6 =>
  bi (ltK .i64 d3 d6) fun d7 =>
  condR d7 (
   bi (nilD a0) fun d8 =>
   bi (fieldD 4 1 d8) fun d9 =>
   bi (storeG 1 d9 (I .i64 1) h0 fl) fun h10 =>
   bi (nilD a0) fun d11 =>
   bi (fieldD 6 1 d11) fun d12 =>
   bi (storeG 1 d12 (I .i64 0) h10 fl) fun h13 =>
   bi (buildS (.agg [(I .i64 0), (.list 0 [] .ti), (.list 0 [] .ti), (.list 0 [] .ti)]) [(0, 1), (1, 1), (2, 1), (3, 1)] []) fun d14 =>
   bi (storeG 4 (.ptr (List.length H) 0) d14 h13 fl) fun h15 =>
  bi (cellR true 4 (.ptr (List.length H) 0) h15) fun r2 =>
  some ((.tup [(.list 0 [] .ti), (I .i64 0), r2]), h15)) (
  bi (nilD a0) fun d16 =>
  bi (fieldD 4 1 d16) fun d17 =>
  bi (storeG 1 d17 (I .i64 0) h0 fl) fun h18 =>
  bi (buildS (.agg [(I .i64 0), (.list 0 [] .ti), (.list 0 [] .ti), (.list 0 [] .ti)]) [(0, 1), (1, 1), (2, 1), (3, 1)] []) fun d19 =>
  bi (storeG 4 (.ptr (List.length H) 0) d19 h18 fl) fun h20 =>
  bi (cellR true 4 (.ptr (List.length H) 0) h20) fun r2 =>
  some ((.tup [(.list 0 [] .ti), a1, r2]), h20))
theorem s___triuneref08_Master__failed_eq (n : Nat) (H : Heap) (fl : Nat) (a0 a1 : DV) : callG Tryz.prog ENV2 (n + 1) 27 [a0, a1] H fl = s___triuneref08_Master__failed n H fl a0 a1 := by kernel_rfl
noncomputable def s___triuneref08_Master__Tick (n : Nat) (H : Heap) (fl : Nat) (a0 : DV) : R :=
  bi (allocG 51 (.agg [(I .i64 0), (.list 0 [] .ti), (.list 0 [] .ti), (.list 0 [] .ti)]) (List.length H) (H ++ [.hole])) fun h0 =>
  bi (buildS (.agg [(I .i64 0), (.list 0 [] .ti), (.list 0 [] .ti), (.list 0 [] .ti)]) [(0, 1), (1, 1), (2, 1), (3, 1)] []) fun d1 =>
  bi (allocG 51 (.agg [(I .i64 0), (.list 0 [] .ti), (.list 0 [] .ti), (.list 0 [] .ti)]) (List.length h0) (h0 ++ [.hole])) fun h2 =>
  bi (storeG 4 (.ptr (List.length h0) 0) d1 h2 fl) fun h3 =>
  bi (nilD a0) fun d4 =>
  bi (fieldD 5 1 d4) fun d5 =>
  bi (loadG false 1 d5 h3) fun d6 =>
  bi (addK .i64 d6 (I .i64 1)) fun d7 =>
  bi (minI d7 (I .i64 1000000)) fun d8 =>
  bi (nilD a0) fun d9 =>
  bi (fieldD 5 1 d9) fun d10 =>
  bi (storeG 1 d10 d8 h3 fl) fun h11 =>
  bi (nilD a0) fun d12 =>
  bi (fieldD 4 1 d12) fun d13 =>
  bi (loadG false 1 d13 h11) fun d14 =>
  bi (eqK .i64 d14 (I .i64 0)) fun d15 =>
  condR d15 (
   bi (loadG true 4 (.ptr (List.length h0) 0) h11) fun d16 =>
   bi (storeG 4 (.ptr (List.length H) 0) d16 h11 fl) fun h17 =>
  bi (cellR true 4 (.ptr (List.length H) 0) h17) fun r2 =>
  some ((.tup [(.list 0 [] .ti), (I .i64 0), r2]), h17)) (
  bi (nilD a0) fun d18 =>
  bi (fieldD 6 1 d18) fun d19 =>
  bi (loadG false 1 d19 h11) fun d20 =>
  bi (addK .i64 d20 (I .i64 1)) fun d21 =>
  bi (nilD a0) fun d22 =>
  bi (fieldD 6 1 d22) fun d23 =>
  bi (storeG 1 d23 d21 h11 fl) fun h24 =>
  bi (nilD a0) fun d25 =>
  bi (fieldD 4 1 d25) fun d26 =>
  bi (loadG false 1 d26 h24) fun d27 =>
  bi (eqK .i64 d27 (I .i64 1)) fun d28 =>
  condR d28 (
   bi (nilD a0) fun d29 =>
   bi (fieldD 5 1 d29) fun d30 =>
   bi (loadG false 1 d30 h24) fun d31 =>
   bi (nilD a0) fun d32 =>
   bi (fieldD 1 1 d32) fun d33 =>
   bi (loadG false 1 d33 h24) fun d34 =>
   bi (ltK .i64 d31 d34) fun d35 =>
   bi (wantF d35 true (some a0)) fun d36 =>
   bi (wantF d35 true (nilD d36)) fun d37 =>
   bi (wantF d35 true (fieldD 6 1 d37)) fun d38 =>
   bi (wantF d35 true (loadG false 1 d38 h24)) fun d39 =>
   bi (wantF d35 true (some a0)) fun d40 =>
   bi (wantF d35 true (nilD d40)) fun d41 =>
   bi (wantF d35 true (fieldD 2 1 d41)) fun d42 =>
   bi (wantF d35 true (loadG false 1 d42 h24)) fun d43 =>
   bi (wantF d35 true (ltK .i64 d39 d43)) fun d44 =>
   bi (pickD d35 d44 (Bo false)) fun d45 =>
   condR d45 (
    bi (loadG true 4 (.ptr (List.length h0) 0) h24) fun d46 =>
    bi (storeG 4 (.ptr (List.length H) 0) d46 h24 fl) fun h47 =>
  bi (cellR true 4 (.ptr (List.length H) 0) h47) fun r2 =>
  some ((.tup [(.list 0 [] .ti), (I .i64 0), r2]), h47)) (
   bi (nilD a0) fun d48 =>
   bi (fieldD 8 8 d48) fun d49 =>
   bi (loadG true 8 d49 h24) fun d50 =>
   bi (cP2 n 25 false [d50]) fun d51 =>
   bi (extD 0 d51) fun d52 =>
   bi (extD 1 d51) fun d53 =>
   bi (nilD a0) fun d54 =>
   bi (fieldD 0 1 d54) fun d55 =>
   bi (loadG false 1 d55 h24) fun d56 =>
   bi (buildS (.agg [(I .u8 0), (.list 0 [] .ti)]) [(0, 1), (1, 1)] [(0, d56), (1, d52)]) fun d57 =>
   bi (cP2 n 26 false [d57]) fun d58 =>
   bi (extD 0 d58) fun d59 =>
   bi (extD 1 d58) fun d60 =>
   bi (nilD a0) fun d61 =>
   bi (fieldD 5 1 d61) fun d62 =>
   bi (storeG 1 d62 (I .i64 0) h24 fl) fun h63 =>
   bi (nilD a0) fun d64 =>
   bi (fieldD 6 1 d64) fun d65 =>
   bi (storeG 1 d65 (I .i64 0) h63 fl) fun h66 =>
   bi (nilD a0) fun d67 =>
   bi (fieldD 7 1 d67) fun d68 =>
   bi (loadG false 1 d68 h66) fun d69 =>
   bi (addK .i64 d69 (I .i64 1)) fun d70 =>
   bi (nilD a0) fun d71 =>
   bi (fieldD 7 1 d71) fun d72 =>
   bi (storeG 1 d72 d70 h66 fl) fun h73 =>
   bi (nilD a0) fun d74 =>
   bi (fieldD 4 1 d74) fun d75 =>
   bi (storeG 1 d75 (I .i64 2) h73 fl) fun h76 =>
   bi (nilD a0) fun d77 =>
   bi (fieldD 16 1 d77) fun d78 =>
   bi (storeG 1 d78 (.list 0 [] .ti) h76 fl) fun h79 =>
   bi (loadG true 4 (.ptr (List.length h0) 0) h79) fun d80 =>
   bi (storeG 4 (.ptr (List.length H) 0) d80 h79 fl) fun h81 =>
  bi (cellR true 4 (.ptr (List.length H) 0) h81) fun r2 =>
  some ((.tup [d59, (I .i64 0), r2]), h81))) (
  bi (nilD a0) fun d82 =>
  bi (fieldD 16 1 d82) fun d83 =>
  bi (loadG false 1 d83 h24) fun d84 =>
  bi (lenD d84) fun d85 =>
  bi (eqK .i64 d85 (I .i64 0)) fun d86 =>
  condR d86 (
   bi (nilD a0) fun d87 =>
   bi (fieldD 6 1 d87) fun d88 =>
   bi (loadG false 1 d88 h24) fun d89 =>
   bi (nilD a0) fun d90 =>
   bi (fieldD 2 1 d90) fun d91 =>
   bi (loadG false 1 d91 h24) fun d92 =>
   bi (geK .i64 d89 d92) fun d93 =>
   condR d93 (
    bi (cW2 n 27 [a0, (I .i64 2)] h24 fl) fun p94 =>
    bi (extD 0 p94.1) fun d95 =>
    bi (extD 1 p94.1) fun d96 =>
    bi (extD 2 p94.1) fun d97 =>
    bi (storeG 4 (.ptr (List.length H) 0) d97 p94.2 fl) fun h98 =>
  bi (cellR true 4 (.ptr (List.length H) 0) h98) fun r2 =>
  some ((.tup [d95, d96, r2]), h98)) (
   bi (loadG true 4 (.ptr (List.length h0) 0) h24) fun d99 =>
   bi (storeG 4 (.ptr (List.length H) 0) d99 h24 fl) fun h100 =>
  bi (cellR true 4 (.ptr (List.length H) 0) h100) fun r2 =>
  some ((.tup [(.list 0 [] .ti), (I .i64 0), r2]), h100))) (
  bi (nilD a0) fun d101 =>
  bi (fieldD 5 1 d101) fun d102 =>
  bi (loadG false 1 d102 h24) fun d103 =>
  bi (nilD a0) fun d104 =>
  bi (fieldD 1 1 d104) fun d105 =>
  bi (loadG false 1 d105 h24) fun d106 =>
  bi (geK .i64 d103 d106) fun d107 =>
  condR d107 (
   bi (nilD a0) fun d108 =>
   bi (fieldD 16 1 d108) fun d109 =>
   bi (loadG false 1 d109 (h24 ++ [.hole])) fun d110 =>
   bi (cP2 n 28 false [d110]) fun d111 =>
   bi (extD 0 d111) fun d112 =>
   bi (extD 1 d111) fun d113 =>
   bi (allocG 74 (.agg [(I .u8 0), (.list 0 [] .ti)]) (List.length h24) (h24 ++ [.hole])) fun h114 =>
   bi (storeG 2 (.ptr (List.length h24) 0) d112 h114 fl) fun h115 =>
   bi (eqK .i64 d113 (I .i64 0)) fun d116 =>
   bi (wantF d116 true (some (.ptr (List.length h24) 0))) fun d117 =>
   bi (wantF d116 true (loadG false 1 d117 h115)) fun d118 =>
   bi (wantF d116 true (some a0)) fun d119 =>
   bi (wantF d116 true (nilD d119)) fun d120 =>
   bi (wantF d116 true (fieldD 0 1 d120)) fun d121 =>
   bi (wantF d116 true (loadG false 1 d121 h115)) fun d122 =>
   bi (wantF d116 true (eqK .u8 d118 d122)) fun d123 =>
   bi (pickD d116 d123 (Bo false)) fun d124 =>
   condR d124 (
    bi (nilD a0) fun d125 =>
    bi (fieldD 8 8 d125) fun d126 =>
    bi (loadG true 8 d126 (h115 ++ [.hole])) fun d127 =>
    bi (loadG false 1 (.ptr (List.length h24) 1) (h115 ++ [.hole])) fun d128 =>
    bi (cP2 n 29 false [d127, d128]) fun d129 =>
    bi (extD 0 d129) fun d130 =>
    bi (extD 1 d129) fun d131 =>
    bi (allocG 51 (.agg [(I .i64 0), (.list 0 [] .ti), (.list 0 [] .ti), (.list 0 [] .ti)]) (List.length h115) (h115 ++ [.hole])) fun h132 =>
    bi (storeG 4 (.ptr (List.length h115) 0) d130 h132 fl) fun h133 =>
    bi (eqK .i64 d131 (I .i64 0)) fun d134 =>
    condR d134 (
     bi (nilD a0) fun d135 =>
     bi (fieldD 4 1 d135) fun d136 =>
     bi (storeG 1 d136 (I .i64 0) h133 fl) fun h137 =>
     bi (loadG true 4 (.ptr (List.length h115) 0) h137) fun d138 =>
     bi (storeG 4 (.ptr (List.length H) 0) d138 h137 fl) fun h139 =>
  bi (cellR true 4 (.ptr (List.length H) 0) h139) fun r2 =>
  some ((.tup [(.list 0 [] .ti), (I .i64 1), r2]), h139)) (
   bi (cW2 n 27 [a0, (I .i64 3)] h133 fl) fun p140 =>
   bi (extD 0 p140.1) fun d141 =>
   bi (extD 1 p140.1) fun d142 =>
   bi (extD 2 p140.1) fun d143 =>
   bi (storeG 4 (.ptr (List.length H) 0) d143 p140.2 fl) fun h144 =>
  bi (cellR true 4 (.ptr (List.length H) 0) h144) fun r2 =>
  some ((.tup [d141, d142, r2]), h144))) (
   bi (cW2 n 27 [a0, (I .i64 3)] h115 fl) fun p145 =>
   bi (extD 0 p145.1) fun d146 =>
   bi (extD 1 p145.1) fun d147 =>
   bi (extD 2 p145.1) fun d148 =>
   bi (storeG 4 (.ptr (List.length H) 0) d148 p145.2 fl) fun h149 =>
  bi (cellR true 4 (.ptr (List.length H) 0) h149) fun r2 =>
  some ((.tup [d146, d147, r2]), h149))) (
  bi (nilD a0) fun d150 =>
  bi (fieldD 6 1 d150) fun d151 =>
  bi (loadG false 1 d151 h24) fun d152 =>
  bi (nilD a0) fun d153 =>
  bi (fieldD 2 1 d153) fun d154 =>
  bi (loadG false 1 d154 h24) fun d155 =>
  bi (mulK .i64 (I .i64 2) d155) fun d156 =>
  bi (geK .i64 d152 d156) fun d157 =>
  condR d157 (
   bi (cW2 n 27 [a0, (I .i64 3)] h24 fl) fun p158 =>
   bi (extD 0 p158.1) fun d159 =>
   bi (extD 1 p158.1) fun d160 =>
   bi (extD 2 p158.1) fun d161 =>
   bi (storeG 4 (.ptr (List.length H) 0) d161 p158.2 fl) fun h162 =>
  bi (cellR true 4 (.ptr (List.length H) 0) h162) fun r2 =>
  some ((.tup [d159, d160, r2]), h162)) (
  bi (loadG true 4 (.ptr (List.length h0) 0) h24) fun d163 =>
  bi (storeG 4 (.ptr (List.length H) 0) d163 h24 fl) fun h164 =>
  bi (cellR true 4 (.ptr (List.length H) 0) h164) fun r2 =>
  some ((.tup [(.list 0 [] .ti), (I .i64 0), r2]), h164))))))
theorem s___triuneref08_Master__Tick_eq (n : Nat) (H : Heap) (fl : Nat) (a0 : DV) : callG Tryz.prog ENV2 (n + 1) 11 [a0] H fl = s___triuneref08_Master__Tick n H fl a0 := by kernel_rfl
end Go.Proofs.YtcpgmbpndpcmdaaGreat
namespace Go.Proofs.YtcpgmbpndpcmdaaGreat
open Go
set_option maxRecDepth 100000
set_option linter.unusedVariables false
noncomputable def s_triuneref07_Read (n : Nat) (H : Heap) (fl : Nat) (a0 a1 : DV) : R :=
  bi (allocG 58 a0 (List.length H) (H ++ [.hole, .hole])) fun h0 =>
  bi (allocG 51 (.agg [(I .i64 0), (.list 0 [] .ti), (.list 0 [] .ti), (.list 0 [] .ti)]) (List.length H + 1) h0) fun h1 =>
  bi (loadG true 8 (.ptr (List.length H) 0) h1) fun d2 =>
  bi (cP n 36 false [d2]) fun d3 =>
  bi (notD d3) fun d4 =>
  condR d4 (
   bi (buildS (.agg [(I .i64 0), (.list 0 [] .ti), (.list 0 [] .ti), (.list 0 [] .ti)]) [(0, 1), (1, 1), (2, 1), (3, 1)] []) fun d5 =>
   bi (storeG 4 (.ptr (List.length H + 1) 0) d5 h1 fl) fun h6 =>
  bi (cellR true 4 (.ptr (List.length H + 1) 0) h6) fun r0 =>
  some ((.tup [r0, (I .i64 1)]), h6)) (
  bi (loadG true 8 (.ptr (List.length H) 0) (h1 ++ [.hole])) fun d7 =>
  bi (cP n 53 false [d7, a1]) fun d8 =>
  bi (allocG 51 (.agg [(I .i64 0), (.list 0 [] .ti), (.list 0 [] .ti), (.list 0 [] .ti)]) (List.length h1) (h1 ++ [.hole])) fun h9 =>
  bi (storeG 4 (.ptr (List.length h1) 0) d8 h9 fl) fun h10 =>
  bi (loadG true 8 (.ptr (List.length H) 0) h10) fun d11 =>
  bi (loadG true 4 (.ptr (List.length h1) 0) h10) fun d12 =>
  bi (cP n 54 false [d11, d12]) fun d13 =>
  bi (notD d13) fun d14 =>
  bi (wantF d14 false (loadG true 8 (.ptr (List.length H) 0) h10)) fun d15 =>
  bi (wantF d14 false (loadG true 4 (.ptr (List.length h1) 0) h10)) fun d16 =>
  bi (wantF d14 false (cP n 55 false [d15, d16])) fun d17 =>
  bi (wantF d14 false (some a1)) fun d18 =>
  bi (wantF d14 false (cP n 12 false [d17, d18])) fun d19 =>
  bi (wantF d14 false (notD d19)) fun d20 =>
  bi (pickD d14 (Bo true) d20) fun d21 =>
  condR d21 (
   bi (buildS (.agg [(I .i64 0), (.list 0 [] .ti), (.list 0 [] .ti), (.list 0 [] .ti)]) [(0, 1), (1, 1), (2, 1), (3, 1)] []) fun d22 =>
   bi (storeG 4 (.ptr (List.length H + 1) 0) d22 h10 fl) fun h23 =>
  bi (cellR true 4 (.ptr (List.length H + 1) 0) h23) fun r0 =>
  some ((.tup [r0, (I .i64 2)]), h23)) (
  bi (loadG true 4 (.ptr (List.length h1) 0) h10) fun d24 =>
  bi (storeG 4 (.ptr (List.length H + 1) 0) d24 h10 fl) fun h25 =>
  bi (cellR true 4 (.ptr (List.length H + 1) 0) h25) fun r0 =>
  some ((.tup [r0, (I .i64 0)]), h25)))
theorem s_triuneref07_Read_eq (n : Nat) (H : Heap) (fl : Nat) (a0 a1 : DV) : callG Tryz.prog ENV (n + 1) 29 [a0, a1] H fl = s_triuneref07_Read n H fl a0 a1 := by kernel_rfl
def s_triuneref07_Same_I0 (x2 x3 x5 : DV) : List DV := [.any, .any, x2, x3, .any, x5, .any, .any, .any, .any, .any, .any, .any, .any, .any, .any, .any, .any, .any, .any, .any, .any, .any, .any, .any, .any, .any, .any, .any, .any, .any, .any, .any, .any, .any, .any, .any, .any, .any, .any, .any, .any, .any, .any, .any, .any, .any, .any, .any, .any, .any, .any, .any, .any]
def s_triuneref07_Same_O0 (x4 : DV) : List DV := [.any, .any, .any, .any, x4, .any, .any, .any, .any, .any, .any, .any, .any, .any, .any, .any, .any, .any, .any, .any, .any, .any, .any, .any, .any, .any, .any, .any, .any, .any, .any, .any, .any, .any, .any, .any, .any, .any, .any, .any, .any, .any, .any, .any, .any, .any, .any, .any, .any, .any, .any, .any, .any, .any]
noncomputable abbrev s_triuneref07_Same_b0 (n fl : Nat) : List DV → Heap → (Ex → KF) → R := execG ⟨Tryz.prog, callG Tryz.prog ENV n, ENV.md, fl, 54⟩ n (loopAt (bodyOf Tryz.f13) 0) []
noncomputable def s_triuneref07_Same_B0 (n fl : Nat) (rec : DV → DV → DV → Heap → R) (k : Ex → KF) (x2 x3 x5 : DV) (H : Heap) : R :=
  bi (fieldD 3 1 x2) fun d0 =>
  bi (loadG false 1 d0 H) fun d1 =>
  bi (lenD d1) fun d2 =>
  bi (ltK .i64 x5 d2) fun d3 =>
  condR d3 (
  bi (fieldD 3 1 x2) fun d4 =>
  bi (loadG false 1 d4 H) fun d5 =>
  bi (idxSl 1 d5 x5) fun d6 =>
  bi (loadG false 1 d6 H) fun d7 =>
  bi (fieldD 3 1 x3) fun d8 =>
  bi (loadG false 1 d8 H) fun d9 =>
  bi (idxSl 1 d9 x5) fun d10 =>
  bi (loadG false 1 d10 H) fun d11 =>
  bi (neS d7 d11) fun d12 =>
  condR d12 (
  k .ret (s_triuneref07_Same_O0 (Bo false)) H) (
  bi (addK .i64 x5 (I .i64 1)) fun d13 =>
  rec x2 x3 d13 H)) (
  k (.exit 0) (s_triuneref07_Same_O0 .any) H)
noncomputable def s_triuneref07_Same_L0 (n fl : Nat) (k : Ex → KF) : Nat → DV → DV → DV → Heap → R
  | 0, _, _, _, _ => none
  | m + 1, x2, x3, x5, H => s_triuneref07_Same_B0 n fl (s_triuneref07_Same_L0 n fl k m) k x2 x3 x5 H
theorem s_triuneref07_Same_S0 (n fl m : Nat) (k : Ex → KF) (x2 x3 x5 : DV) (H : Heap) : loopG [2, 3, 5] [4] 54 (s_triuneref07_Same_b0 n fl) (m + 1) (s_triuneref07_Same_I0 x2 x3 x5) H k = s_triuneref07_Same_B0 n fl (fun x2 x3 x5 H => loopG [2, 3, 5] [4] 54 (s_triuneref07_Same_b0 n fl) m (s_triuneref07_Same_I0 x2 x3 x5) H k) k x2 x3 x5 H := by kernel_rfl
theorem s_triuneref07_Same_L0_eq (n fl : Nat) (k : Ex → KF) : ∀ (m : Nat) (x2 x3 x5 : DV) (H : Heap), loopG [2, 3, 5] [4] 54 (s_triuneref07_Same_b0 n fl) m (s_triuneref07_Same_I0 x2 x3 x5) H k = s_triuneref07_Same_L0 n fl k m x2 x3 x5 H := by
  intro m
  induction m with
  | zero => intros; rfl
  | succ m ih =>
    intro x2 x3 x5 H
    rw [s_triuneref07_Same_S0, show (fun x2 x3 x5 H => loopG [2, 3, 5] [4] 54 (s_triuneref07_Same_b0 n fl) m (s_triuneref07_Same_I0 x2 x3 x5) H k) = s_triuneref07_Same_L0 n fl k m from by funext x2 x3 x5 H; exact ih _ _ _ _]
    rw [s_triuneref07_Same_L0]
noncomputable def s_triuneref07_Same (n : Nat) (H : Heap) (fl : Nat) (a0 a1 : DV) : R :=
  bi (allocG 51 a0 (List.length H) (H ++ [.hole, .hole])) fun h0 =>
  bi (allocG 51 a1 (List.length H + 1) h0) fun h1 =>
  bi (loadG false 1 (.ptr (List.length H) 0) h1) fun d2 =>
  bi (loadG false 1 (.ptr (List.length H + 1) 0) h1) fun d3 =>
  bi (neK .i64 d2 d3) fun d4 =>
  bi (wantF d4 false (some (.ptr (List.length H) 1))) fun d5 =>
  bi (wantF d4 false (loadG false 1 d5 h1)) fun d6 =>
  bi (wantF d4 false (some (.ptr (List.length H + 1) 1))) fun d7 =>
  bi (wantF d4 false (loadG false 1 d7 h1)) fun d8 =>
  bi (wantF d4 false (cP n 30 false [d6, d8])) fun d9 =>
  bi (wantF d4 false (notD d9)) fun d10 =>
  bi (pickD d4 (Bo true) d10) fun d11 =>
  bi (wantF d11 false (some (.ptr (List.length H) 2))) fun d12 =>
  bi (wantF d11 false (loadG false 1 d12 h1)) fun d13 =>
  bi (wantF d11 false (some (.ptr (List.length H + 1) 2))) fun d14 =>
  bi (wantF d11 false (loadG false 1 d14 h1)) fun d15 =>
  bi (wantF d11 false (cP n 31 false [d13, d15])) fun d16 =>
  bi (wantF d11 false (notD d16)) fun d17 =>
  bi (pickD d11 (Bo true) d17) fun d18 =>
  bi (wantF d18 false (some (.ptr (List.length H) 3))) fun d19 =>
  bi (wantF d18 false (loadG false 1 d19 h1)) fun d20 =>
  bi (wantF d18 false (lenD d20)) fun d21 =>
  bi (wantF d18 false (some (.ptr (List.length H + 1) 3))) fun d22 =>
  bi (wantF d18 false (loadG false 1 d22 h1)) fun d23 =>
  bi (wantF d18 false (lenD d23)) fun d24 =>
  bi (wantF d18 false (neK .i64 d21 d24)) fun d25 =>
  bi (pickD d18 (Bo true) d25) fun d26 =>
  condR d26 (
  some ((Bo false), h1)) (
  loopG [2, 3, 5] [4] 54 (s_triuneref07_Same_b0 n fl) n (s_triuneref07_Same_I0 (.ptr (List.length H) 0) (.ptr (List.length H + 1) 0) (I .i64 0)) h1 fun x S27 h27 => match x with
  | .normal => none
  | .exit i27 => (
  if i27 = 0 then (
  some ((Bo true), h27)) else (
  none))
  | .ret => (
  some ((S27.getD 4 .any), h27)))
theorem s_triuneref07_Same_eq (n : Nat) (H : Heap) (fl : Nat) (a0 a1 : DV) : callG Tryz.prog ENV (n + 1) 13 [a0, a1] H fl = s_triuneref07_Same n H fl a0 a1 := by kernel_rfl
end Go.Proofs.YtcpgmbpndpcmdaaGreat
namespace Go.Proofs.YtcpgmbpndpcmdaaGreat
open Go
set_option maxRecDepth 100000
set_option linter.unusedVariables false
def s_triuneref07_guess_I2 (x1 x4 x5 x10 : DV) : List DV := [.any, x1, .any, .any, x4, x5, .any, .any, .any, .any, x10, .any, .any, .any, .any, .any, .any, .any, .any, .any, .any, .any, .any, .any, .any, .any, .any, .any, .any, .any, .any, .any, .any, .any, .any, .any, .any, .any, .any, .any, .any, .any, .any, .any, .any, .any, .any, .any, .any, .any, .any, .any, .any, .any, .any, .any, .any, .any, .any, .any, .any, .any, .any, .any, .any, .any, .any, .any, .any, .any, .any, .any, .any, .any, .any, .any, .any, .any, .any, .any, .any, .any, .any, .any, .any, .any, .any, .any, .any, .any, .any, .any, .any, .any, .any, .any, .any, .any, .any, .any, .any, .any, .any, .any, .any, .any, .any, .any, .any, .any, .any, .any, .any, .any, .any, .any, .any, .any, .any, .any, .any, .any, .any, .any, .any, .any, .any, .any, .any, .any, .any, .any, .any, .any, .any]
def s_triuneref07_guess_O2 (x4 x5 : DV) : List DV := [.any, .any, .any, .any, x4, x5, .any, .any, .any, .any, .any, .any, .any, .any, .any, .any, .any, .any, .any, .any, .any, .any, .any, .any, .any, .any, .any, .any, .any, .any, .any, .any, .any, .any, .any, .any, .any, .any, .any, .any, .any, .any, .any, .any, .any, .any, .any, .any, .any, .any, .any, .any, .any, .any, .any, .any, .any, .any, .any, .any, .any, .any, .any, .any, .any, .any, .any, .any, .any, .any, .any, .any, .any, .any, .any, .any, .any, .any, .any, .any, .any, .any, .any, .any, .any, .any, .any, .any, .any, .any, .any, .any, .any, .any, .any, .any, .any, .any, .any, .any, .any, .any, .any, .any, .any, .any, .any, .any, .any, .any, .any, .any, .any, .any, .any, .any, .any, .any, .any, .any, .any, .any, .any, .any, .any, .any, .any, .any, .any, .any, .any, .any, .any, .any, .any]
noncomputable abbrev s_triuneref07_guess_b2 (n fl : Nat) : List DV → Heap → (Ex → KF) → R := execG ⟨Tryz.prog, callG Tryz.prog ENV n, ENV.md, fl, 135⟩ n (loopAt (bodyOf Tryz.f53) 2) []
noncomputable def s_triuneref07_guess_B2 (n fl : Nat) (rec : DV → DV → DV → DV → Heap → R) (k : Ex → KF) (x1 x4 x5 x10 : DV) (H : Heap) : R :=
  bi (addK .i64 x10 (I .i64 1)) fun d0 =>
  bi (lenD x1) fun d1 =>
  bi (ltK .i64 d0 d1) fun d2 =>
  bi (wantF d2 true (some x10)) fun d3 =>
  bi (wantF d2 true (addK .i64 d3 (I .i64 2))) fun d4 =>
  bi (wantF d2 true (some x1)) fun d5 =>
  bi (wantF d2 true (some x10)) fun d6 =>
  bi (wantF d2 true (addK .i64 d6 (I .i64 1))) fun d7 =>
  bi (wantF d2 true (idxSl 1 d5 d7)) fun d8 =>
  bi (wantF d2 true (loadG false 1 d8 H)) fun d9 =>
  bi (wantF d2 true (cvK .i64 d9)) fun d10 =>
  bi (wantF d2 true (addK .i64 d4 d10)) fun d11 =>
  bi (wantF d2 true (some x1)) fun d12 =>
  bi (wantF d2 true (lenD d12)) fun d13 =>
  bi (wantF d2 true (leK .i64 d11 d13)) fun d14 =>
  bi (pickD d2 d14 (Bo false)) fun d15 =>
  condR d15 (
  bi (fieldD 3 1 x5) fun d16 =>
  bi (loadG false 1 d16 H) fun d17 =>
  bi (addK .i64 x10 (I .i64 2)) fun d18 =>
  bi (addK .i64 x10 (I .i64 2)) fun d19 =>
  bi (addK .i64 x10 (I .i64 1)) fun d20 =>
  bi (idxSl 1 x1 d20) fun d21 =>
  bi (loadG false 1 d21 H) fun d22 =>
  bi (cvK .i64 d22) fun d23 =>
  bi (addK .i64 d19 d23) fun d24 =>
  bi (slX 1 x1 (some d18) (some d24) none) fun d25 =>
  bi (convD Tryz.prog 41 9 d25) fun d26 =>
  bi (buildL false 1 1 (.flat (.string ⟨#[]⟩)) [(0, d26)]) fun d27 =>
  bi (appG 9 false 1 16 d17 d27 H fl) fun p28 =>
  bi (fieldD 3 1 x5) fun d29 =>
  bi (storeG 1 d29 p28.1 p28.2 fl) fun h30 =>
  bi (addK .i64 x10 (I .i64 2)) fun d31 =>
  bi (addK .i64 x10 (I .i64 1)) fun d32 =>
  bi (idxSl 1 x1 d32) fun d33 =>
  bi (loadG false 1 d33 h30) fun d34 =>
  bi (cvK .i64 d34) fun d35 =>
  bi (addK .i64 d31 d35) fun d36 =>
  rec x1 x4 x5 d36 h30) (
  k (.exit 5) (s_triuneref07_guess_O2 x4 x5) H)
noncomputable def s_triuneref07_guess_L2 (n fl : Nat) (k : Ex → KF) : Nat → DV → DV → DV → DV → Heap → R
  | 0, _, _, _, _, _ => none
  | m + 1, x1, x4, x5, x10, H => s_triuneref07_guess_B2 n fl (s_triuneref07_guess_L2 n fl k m) k x1 x4 x5 x10 H
theorem s_triuneref07_guess_S2 (n fl m : Nat) (k : Ex → KF) (x1 x4 x5 x10 : DV) (H : Heap) : loopG [1, 4, 5, 10] [4, 5] 135 (s_triuneref07_guess_b2 n fl) (m + 1) (s_triuneref07_guess_I2 x1 x4 x5 x10) H k = s_triuneref07_guess_B2 n fl (fun x1 x4 x5 x10 H => loopG [1, 4, 5, 10] [4, 5] 135 (s_triuneref07_guess_b2 n fl) m (s_triuneref07_guess_I2 x1 x4 x5 x10) H k) k x1 x4 x5 x10 H := by kernel_rfl
theorem s_triuneref07_guess_L2_eq (n fl : Nat) (k : Ex → KF) : ∀ (m : Nat) (x1 x4 x5 x10 : DV) (H : Heap), loopG [1, 4, 5, 10] [4, 5] 135 (s_triuneref07_guess_b2 n fl) m (s_triuneref07_guess_I2 x1 x4 x5 x10) H k = s_triuneref07_guess_L2 n fl k m x1 x4 x5 x10 H := by
  intro m
  induction m with
  | zero => intros; rfl
  | succ m ih =>
    intro x1 x4 x5 x10 H
    rw [s_triuneref07_guess_S2, show (fun x1 x4 x5 x10 H => loopG [1, 4, 5, 10] [4, 5] 135 (s_triuneref07_guess_b2 n fl) m (s_triuneref07_guess_I2 x1 x4 x5 x10) H k) = s_triuneref07_guess_L2 n fl k m from by funext x1 x4 x5 x10 H; exact ih _ _ _ _ _]
    rw [s_triuneref07_guess_L2]
def s_triuneref07_guess_I1 (x2 x4 x5 x6 x7 x8 x9 : DV) : List DV := [.any, .any, x2, .any, x4, x5, x6, x7, x8, x9, .any, .any, .any, .any, .any, .any, .any, .any, .any, .any, .any, .any, .any, .any, .any, .any, .any, .any, .any, .any, .any, .any, .any, .any, .any, .any, .any, .any, .any, .any, .any, .any, .any, .any, .any, .any, .any, .any, .any, .any, .any, .any, .any, .any, .any, .any, .any, .any, .any, .any, .any, .any, .any, .any, .any, .any, .any, .any, .any, .any, .any, .any, .any, .any, .any, .any, .any, .any, .any, .any, .any, .any, .any, .any, .any, .any, .any, .any, .any, .any, .any, .any, .any, .any, .any, .any, .any, .any, .any, .any, .any, .any, .any, .any, .any, .any, .any, .any, .any, .any, .any, .any, .any, .any, .any, .any, .any, .any, .any, .any, .any, .any, .any, .any, .any, .any, .any, .any, .any, .any, .any, .any, .any, .any, .any]
def s_triuneref07_guess_O1 (x2 x4 x5 x6 x7 x8 : DV) : List DV := [.any, .any, x2, .any, x4, x5, x6, x7, x8, .any, .any, .any, .any, .any, .any, .any, .any, .any, .any, .any, .any, .any, .any, .any, .any, .any, .any, .any, .any, .any, .any, .any, .any, .any, .any, .any, .any, .any, .any, .any, .any, .any, .any, .any, .any, .any, .any, .any, .any, .any, .any, .any, .any, .any, .any, .any, .any, .any, .any, .any, .any, .any, .any, .any, .any, .any, .any, .any, .any, .any, .any, .any, .any, .any, .any, .any, .any, .any, .any, .any, .any, .any, .any, .any, .any, .any, .any, .any, .any, .any, .any, .any, .any, .any, .any, .any, .any, .any, .any, .any, .any, .any, .any, .any, .any, .any, .any, .any, .any, .any, .any, .any, .any, .any, .any, .any, .any, .any, .any, .any, .any, .any, .any, .any, .any, .any, .any, .any, .any, .any, .any, .any, .any, .any, .any]
noncomputable abbrev s_triuneref07_guess_b1 (n fl : Nat) : List DV → Heap → (Ex → KF) → R := execG ⟨Tryz.prog, callG Tryz.prog ENV n, ENV.md, fl, 135⟩ n (loopAt (bodyOf Tryz.f53) 1) []
noncomputable def s_triuneref07_guess_B1 (n fl : Nat) (rec : DV → DV → DV → DV → DV → DV → DV → Heap → R) (k : Ex → KF) (x2 x4 x5 x6 x7 x8 x9 : DV) (H : Heap) : R :=
  bi (remK .i64 x7 (I .i64 8)) fun d0 =>
  bi (ltK .i64 x9 d0) fun d1 =>
  condR d1 (
  bi (quoK .i64 x8 (I .i64 2)) fun d2 =>
  bi (addK .i64 x9 (I .i64 1)) fun d3 =>
  rec x2 x4 x5 x6 x7 d2 d3 H) (
  k (.exit 3) (s_triuneref07_guess_O1 x2 x4 x5 x6 x7 x8) H)
noncomputable def s_triuneref07_guess_L1 (n fl : Nat) (k : Ex → KF) : Nat → DV → DV → DV → DV → DV → DV → DV → Heap → R
  | 0, _, _, _, _, _, _, _, _ => none
  | m + 1, x2, x4, x5, x6, x7, x8, x9, H => s_triuneref07_guess_B1 n fl (s_triuneref07_guess_L1 n fl k m) k x2 x4 x5 x6 x7 x8 x9 H
theorem s_triuneref07_guess_S1 (n fl m : Nat) (k : Ex → KF) (x2 x4 x5 x6 x7 x8 x9 : DV) (H : Heap) : loopG [2, 4, 5, 6, 7, 8, 9] [2, 4, 5, 6, 7, 8] 135 (s_triuneref07_guess_b1 n fl) (m + 1) (s_triuneref07_guess_I1 x2 x4 x5 x6 x7 x8 x9) H k = s_triuneref07_guess_B1 n fl (fun x2 x4 x5 x6 x7 x8 x9 H => loopG [2, 4, 5, 6, 7, 8, 9] [2, 4, 5, 6, 7, 8] 135 (s_triuneref07_guess_b1 n fl) m (s_triuneref07_guess_I1 x2 x4 x5 x6 x7 x8 x9) H k) k x2 x4 x5 x6 x7 x8 x9 H := by kernel_rfl
theorem s_triuneref07_guess_L1_eq (n fl : Nat) (k : Ex → KF) : ∀ (m : Nat) (x2 x4 x5 x6 x7 x8 x9 : DV) (H : Heap), loopG [2, 4, 5, 6, 7, 8, 9] [2, 4, 5, 6, 7, 8] 135 (s_triuneref07_guess_b1 n fl) m (s_triuneref07_guess_I1 x2 x4 x5 x6 x7 x8 x9) H k = s_triuneref07_guess_L1 n fl k m x2 x4 x5 x6 x7 x8 x9 H := by
  intro m
  induction m with
  | zero => intros; rfl
  | succ m ih =>
    intro x2 x4 x5 x6 x7 x8 x9 H
    rw [s_triuneref07_guess_S1, show (fun x2 x4 x5 x6 x7 x8 x9 H => loopG [2, 4, 5, 6, 7, 8, 9] [2, 4, 5, 6, 7, 8] 135 (s_triuneref07_guess_b1 n fl) m (s_triuneref07_guess_I1 x2 x4 x5 x6 x7 x8 x9) H k) = s_triuneref07_guess_L1 n fl k m from by funext x2 x4 x5 x6 x7 x8 x9 H; exact ih _ _ _ _ _ _ _ _]
    rw [s_triuneref07_guess_L1]
def s_triuneref07_guess_I0 (x2 x4 x5 x6 x7 : DV) : List DV := [.any, .any, x2, .any, x4, x5, x6, x7, .any, .any, .any, .any, .any, .any, .any, .any, .any, .any, .any, .any, .any, .any, .any, .any, .any, .any, .any, .any, .any, .any, .any, .any, .any, .any, .any, .any, .any, .any, .any, .any, .any, .any, .any, .any, .any, .any, .any, .any, .any, .any, .any, .any, .any, .any, .any, .any, .any, .any, .any, .any, .any, .any, .any, .any, .any, .any, .any, .any, .any, .any, .any, .any, .any, .any, .any, .any, .any, .any, .any, .any, .any, .any, .any, .any, .any, .any, .any, .any, .any, .any, .any, .any, .any, .any, .any, .any, .any, .any, .any, .any, .any, .any, .any, .any, .any, .any, .any, .any, .any, .any, .any, .any, .any, .any, .any, .any, .any, .any, .any, .any, .any, .any, .any, .any, .any, .any, .any, .any, .any, .any, .any, .any, .any, .any, .any]
def s_triuneref07_guess_O0 (x4 x5 : DV) : List DV := [.any, .any, .any, .any, x4, x5, .any, .any, .any, .any, .any, .any, .any, .any, .any, .any, .any, .any, .any, .any, .any, .any, .any, .any, .any, .any, .any, .any, .any, .any, .any, .any, .any, .any, .any, .any, .any, .any, .any, .any, .any, .any, .any, .any, .any, .any, .any, .any, .any, .any, .any, .any, .any, .any, .any, .any, .any, .any, .any, .any, .any, .any, .any, .any, .any, .any, .any, .any, .any, .any, .any, .any, .any, .any, .any, .any, .any, .any, .any, .any, .any, .any, .any, .any, .any, .any, .any, .any, .any, .any, .any, .any, .any, .any, .any, .any, .any, .any, .any, .any, .any, .any, .any, .any, .any, .any, .any, .any, .any, .any, .any, .any, .any, .any, .any, .any, .any, .any, .any, .any, .any, .any, .any, .any, .any, .any, .any, .any, .any, .any, .any, .any, .any, .any, .any]
noncomputable abbrev s_triuneref07_guess_b0 (n fl : Nat) : List DV → Heap → (Ex → KF) → R := execG ⟨Tryz.prog, callG Tryz.prog ENV n, ENV.md, fl, 135⟩ n (loopAt (bodyOf Tryz.f53) 0) [([2, 4, 5, 6, 7, 8, 9], [2, 4, 5, 6, 7, 8])]
noncomputable def s_triuneref07_guess_B0 (n fl : Nat) (rec : DV → DV → DV → DV → DV → Heap → R) (k : Ex → KF) (x2 x4 x5 x6 x7 : DV) (H : Heap) : R :=
  bi (fieldD 2 1 x2) fun d0 =>
  bi (loadG false 1 d0 H) fun d1 =>
  bi (ltK .i64 x7 d1) fun d2 =>
  bi (wantF d2 true (some x7)) fun d3 =>
  bi (wantF d2 true (some x6)) fun d4 =>
  bi (wantF d2 true (lenD d4)) fun d5 =>
  bi (wantF d2 true (mulK .i64 (I .i64 8) d5)) fun d6 =>
  bi (wantF d2 true (ltK .i64 d3 d6)) fun d7 =>
  bi (pickD d2 d7 (Bo false)) fun d8 =>
  condR d8 (
  bi (quoK .i64 x7 (I .i64 8)) fun d9 =>
  bi (idxSl 1 x6 d9) fun d10 =>
  bi (loadG false 1 d10 H) fun d11 =>
  bi (cvK .i64 d11) fun d12 =>
  loopG [2, 4, 5, 6, 7, 8, 9] [2, 4, 5, 6, 7, 8] 135 (s_triuneref07_guess_b1 n fl) n (s_triuneref07_guess_I1 x2 x4 x5 x6 x7 d12 (I .i64 0)) H fun x S13 h13 => match x with
  | .normal => none
  | .exit i13 => (
  if i13 = 3 then (
  bi (fieldD 1 1 (S13.getD 5 .any)) fun d14 =>
  bi (loadG false 1 d14 h13) fun d15 =>
  bi (remK .i64 (S13.getD 8 .any) (I .i64 2)) fun d16 =>
  bi (eqK .i64 d16 (I .i64 1)) fun d17 =>
  bi (buildL false 1 1 (Bo false) [(0, d17)]) fun d18 =>
  bi (appG 4 false 1 1 d15 d18 h13 fl) fun p19 =>
  bi (fieldD 1 1 (S13.getD 5 .any)) fun d20 =>
  bi (storeG 1 d20 p19.1 p19.2 fl) fun h21 =>
  bi (addK .i64 (S13.getD 7 .any) (I .i64 1)) fun d22 =>
  rec (S13.getD 2 .any) (S13.getD 4 .any) (S13.getD 5 .any) (S13.getD 6 .any) d22 h21) else (
  if i13 = 2 then (
  bi (addK .i64 (S13.getD 7 .any) (I .i64 1)) fun d23 =>
  rec (S13.getD 2 .any) (S13.getD 4 .any) (S13.getD 5 .any) (S13.getD 6 .any) d23 h13) else (
  k (.exit i13) (s_triuneref07_guess_O0 (S13.getD 4 .any) (S13.getD 5 .any)) h13)))
  | .ret => (
  k .ret (s_triuneref07_guess_O0 (S13.getD 4 .any) (S13.getD 5 .any)) h13)) (
  k (.exit 1) (s_triuneref07_guess_O0 x4 x5) H)
noncomputable def s_triuneref07_guess_L0 (n fl : Nat) (k : Ex → KF) : Nat → DV → DV → DV → DV → DV → Heap → R
  | 0, _, _, _, _, _, _ => none
  | m + 1, x2, x4, x5, x6, x7, H => s_triuneref07_guess_B0 n fl (s_triuneref07_guess_L0 n fl k m) k x2 x4 x5 x6 x7 H
theorem s_triuneref07_guess_S0 (n fl m : Nat) (k : Ex → KF) (x2 x4 x5 x6 x7 : DV) (H : Heap) : loopG [2, 4, 5, 6, 7] [4, 5] 135 (s_triuneref07_guess_b0 n fl) (m + 1) (s_triuneref07_guess_I0 x2 x4 x5 x6 x7) H k = s_triuneref07_guess_B0 n fl (fun x2 x4 x5 x6 x7 H => loopG [2, 4, 5, 6, 7] [4, 5] 135 (s_triuneref07_guess_b0 n fl) m (s_triuneref07_guess_I0 x2 x4 x5 x6 x7) H k) k x2 x4 x5 x6 x7 H := by kernel_rfl
theorem s_triuneref07_guess_L0_eq (n fl : Nat) (k : Ex → KF) : ∀ (m : Nat) (x2 x4 x5 x6 x7 : DV) (H : Heap), loopG [2, 4, 5, 6, 7] [4, 5] 135 (s_triuneref07_guess_b0 n fl) m (s_triuneref07_guess_I0 x2 x4 x5 x6 x7) H k = s_triuneref07_guess_L0 n fl k m x2 x4 x5 x6 x7 H := by
  intro m
  induction m with
  | zero => intros; rfl
  | succ m ih =>
    intro x2 x4 x5 x6 x7 H
    rw [s_triuneref07_guess_S0, show (fun x2 x4 x5 x6 x7 H => loopG [2, 4, 5, 6, 7] [4, 5] 135 (s_triuneref07_guess_b0 n fl) m (s_triuneref07_guess_I0 x2 x4 x5 x6 x7) H k) = s_triuneref07_guess_L0 n fl k m from by funext x2 x4 x5 x6 x7 H; exact ih _ _ _ _ _ _]
    rw [s_triuneref07_guess_L0]
noncomputable def s_triuneref07_guess (n : Nat) (H : Heap) (fl : Nat) (a0 a1 : DV) : R :=
  bi (allocG 58 a0 (List.length H) (H ++ [.hole, .hole])) fun h0 =>
  bi (allocG 51 (.agg [(I .i64 0), (.list 0 [] .ti), (.list 0 [] .ti), (.list 0 [] .ti)]) (List.length H + 1) h0) fun h1 =>
  bi (lenD a1) fun d2 =>
  bi (eqK .i64 d2 (I .i64 2)) fun d3 =>
  bi (wantF d3 true (some a1)) fun d4 =>
  bi (wantF d3 true (idxSl 1 d4 (I .i64 0))) fun d5 =>
  bi (wantF d3 true (loadG false 1 d5 h1)) fun d6 =>
  bi (wantF d3 true (cvK .i64 d6)) fun d7 =>
  bi (wantF d3 true (some (.ptr (List.length H) 0))) fun d8 =>
  bi (wantF d3 true (loadG false 1 d8 h1)) fun d9 =>
  bi (wantF d3 true (addK .i64 (I .i64 128) d9)) fun d10 =>
  bi (wantF d3 true (eqK .i64 d7 d10)) fun d11 =>
  bi (pickD d3 d11 (Bo false)) fun d12 =>
  condR d12 (
   bi (idxSl 1 a1 (I .i64 1)) fun d13 =>
   bi (loadG false 1 d13 h1) fun d14 =>
   bi (cvK .i64 d14) fun d15 =>
   bi (buildS (.agg [(I .i64 0), (.list 0 [] .ti), (.list 0 [] .ti), (.list 0 [] .ti)]) [(0, 1), (1, 1), (2, 1), (3, 1)] [(0, d15)]) fun d16 =>
   bi (storeG 4 (.ptr (List.length H + 1) 0) d16 h1 fl) fun h17 =>
  bi (cellR true 4 (.ptr (List.length H + 1) 0) h17) fun r0 =>
  some (r0, h17)) (
  bi (buildS (.agg [(I .i64 0), (.list 0 [] .ti), (.list 0 [] .ti), (.list 0 [] .ti)]) [(0, 1), (1, 1), (2, 1), (3, 1)] []) fun d18 =>
  bi (allocG 51 (.agg [(I .i64 0), (.list 0 [] .ti), (.list 0 [] .ti), (.list 0 [] .ti)]) (List.length h1) (h1 ++ [.hole])) fun h19 =>
  bi (storeG 4 (.ptr (List.length h1) 0) d18 h19 fl) fun h20 =>
  bi (lenD a1) fun d21 =>
  bi (minI (I .i64 2) d21) fun d22 =>
  bi (slX 1 a1 (some d22) none none) fun d23 =>
  bi (loadG false 1 (.ptr (List.length H) 0) h20) fun d24 =>
  bi (eqK .i64 d24 (I .i64 1)) fun d25 =>
  condR d25 (
  condR d25 (
   loopG [2, 4, 5, 6, 7] [4, 5] 135 (s_triuneref07_guess_b0 n fl) n (s_triuneref07_guess_I0 (.ptr (List.length H) 0) (.ptr (List.length H + 1) 0) (.ptr (List.length h1) 0) d23 (I .i64 0)) h20 fun x S26 h26 => match x with
   | .normal => none
   | .exit i26 => (
   if i26 = 1 then (
  bi (loadG true 4 (S26.getD 5 .any) h26) fun d27 =>
  bi (storeG 4 (S26.getD 4 .any) d27 h26 fl) fun h28 =>
  bi (cellR true 4 (S26.getD 4 .any) h28) fun r0 =>
  some (r0, h28)) else (
  if i26 = 0 then (
  bi (loadG true 4 (S26.getD 5 .any) h26) fun d29 =>
  bi (storeG 4 (S26.getD 4 .any) d29 h26 fl) fun h30 =>
  bi (cellR true 4 (S26.getD 4 .any) h30) fun r0 =>
  some (r0, h30)) else (
  none)))
   | .ret => (
  bi (cellR true 4 (S26.getD 4 .any) h26) fun r0 =>
  some (r0, h26))) (
   bi (eqK .i64 d24 (I .i64 3)) fun d31 =>
   condR d31 (
   condR d31 (
    bi (cP n 73 false [d23]) fun d32 =>
    bi (extD 0 d32) fun d33 =>
    bi (extD 1 d32) fun d34 =>
    bi (storeG 1 (.ptr (List.length h1) 2) d33 h20 fl) fun h35 =>
  bi (loadG true 4 (.ptr (List.length h1) 0) h35) fun d36 =>
  bi (storeG 4 (.ptr (List.length H + 1) 0) d36 h35 fl) fun h37 =>
  bi (cellR true 4 (.ptr (List.length H + 1) 0) h37) fun r0 =>
  some (r0, h37)) (
    bi (eqK .i64 d24 (I .i64 43)) fun d38 =>
    condR d38 (
     loopG [1, 4, 5, 10] [4, 5] 135 (s_triuneref07_guess_b2 n fl) n (s_triuneref07_guess_I2 a1 (.ptr (List.length H + 1) 0) (.ptr (List.length h1) 0) (I .i64 7)) h20 fun x S39 h39 => match x with
     | .normal => none
     | .exit i39 => (
     if i39 = 5 then (
  bi (loadG true 4 (S39.getD 5 .any) h39) fun d40 =>
  bi (storeG 4 (S39.getD 4 .any) d40 h39 fl) fun h41 =>
  bi (cellR true 4 (S39.getD 4 .any) h41) fun r0 =>
  some (r0, h41)) else (
  if i39 = 0 then (
  bi (loadG true 4 (S39.getD 5 .any) h39) fun d42 =>
  bi (storeG 4 (S39.getD 4 .any) d42 h39 fl) fun h43 =>
  bi (cellR true 4 (S39.getD 4 .any) h43) fun r0 =>
  some (r0, h43)) else (
  none)))
     | .ret => (
  bi (cellR true 4 (S39.getD 4 .any) h39) fun r0 =>
  some (r0, h39))) (
  bi (loadG true 4 (.ptr (List.length h1) 0) h20) fun d44 =>
  bi (storeG 4 (.ptr (List.length H + 1) 0) d44 h20 fl) fun h45 =>
  bi (cellR true 4 (.ptr (List.length H + 1) 0) h45) fun r0 =>
  some (r0, h45)))) (
    bi (eqK .i64 d24 (I .i64 4)) fun d46 =>
    condR d46 (
   condR d46 (
    bi (cP n 73 false [d23]) fun d47 =>
    bi (extD 0 d47) fun d48 =>
    bi (extD 1 d47) fun d49 =>
    bi (storeG 1 (.ptr (List.length h1) 2) d48 h20 fl) fun h50 =>
  bi (loadG true 4 (.ptr (List.length h1) 0) h50) fun d51 =>
  bi (storeG 4 (.ptr (List.length H + 1) 0) d51 h50 fl) fun h52 =>
  bi (cellR true 4 (.ptr (List.length H + 1) 0) h52) fun r0 =>
  some (r0, h52)) (
    bi (eqK .i64 d24 (I .i64 43)) fun d53 =>
    condR d53 (
     loopG [1, 4, 5, 10] [4, 5] 135 (s_triuneref07_guess_b2 n fl) n (s_triuneref07_guess_I2 a1 (.ptr (List.length H + 1) 0) (.ptr (List.length h1) 0) (I .i64 7)) h20 fun x S54 h54 => match x with
     | .normal => none
     | .exit i54 => (
     if i54 = 5 then (
  bi (loadG true 4 (S54.getD 5 .any) h54) fun d55 =>
  bi (storeG 4 (S54.getD 4 .any) d55 h54 fl) fun h56 =>
  bi (cellR true 4 (S54.getD 4 .any) h56) fun r0 =>
  some (r0, h56)) else (
  if i54 = 0 then (
  bi (loadG true 4 (S54.getD 5 .any) h54) fun d57 =>
  bi (storeG 4 (S54.getD 4 .any) d57 h54 fl) fun h58 =>
  bi (cellR true 4 (S54.getD 4 .any) h58) fun r0 =>
  some (r0, h58)) else (
  none)))
     | .ret => (
  bi (cellR true 4 (S54.getD 4 .any) h54) fun r0 =>
  some (r0, h54))) (
  bi (loadG true 4 (.ptr (List.length h1) 0) h20) fun d59 =>
  bi (storeG 4 (.ptr (List.length H + 1) 0) d59 h20 fl) fun h60 =>
  bi (cellR true 4 (.ptr (List.length H + 1) 0) h60) fun r0 =>
  some (r0, h60)))) (
     bi (eqK .i64 d24 (I .i64 23)) fun d61 =>
   condR d61 (
    bi (cP n 73 false [d23]) fun d62 =>
    bi (extD 0 d62) fun d63 =>
    bi (extD 1 d62) fun d64 =>
    bi (storeG 1 (.ptr (List.length h1) 2) d63 h20 fl) fun h65 =>
  bi (loadG true 4 (.ptr (List.length h1) 0) h65) fun d66 =>
  bi (storeG 4 (.ptr (List.length H + 1) 0) d66 h65 fl) fun h67 =>
  bi (cellR true 4 (.ptr (List.length H + 1) 0) h67) fun r0 =>
  some (r0, h67)) (
    bi (eqK .i64 d24 (I .i64 43)) fun d68 =>
    condR d68 (
     loopG [1, 4, 5, 10] [4, 5] 135 (s_triuneref07_guess_b2 n fl) n (s_triuneref07_guess_I2 a1 (.ptr (List.length H + 1) 0) (.ptr (List.length h1) 0) (I .i64 7)) h20 fun x S69 h69 => match x with
     | .normal => none
     | .exit i69 => (
     if i69 = 5 then (
  bi (loadG true 4 (S69.getD 5 .any) h69) fun d70 =>
  bi (storeG 4 (S69.getD 4 .any) d70 h69 fl) fun h71 =>
  bi (cellR true 4 (S69.getD 4 .any) h71) fun r0 =>
  some (r0, h71)) else (
  if i69 = 0 then (
  bi (loadG true 4 (S69.getD 5 .any) h69) fun d72 =>
  bi (storeG 4 (S69.getD 4 .any) d72 h69 fl) fun h73 =>
  bi (cellR true 4 (S69.getD 4 .any) h73) fun r0 =>
  some (r0, h73)) else (
  none)))
     | .ret => (
  bi (cellR true 4 (S69.getD 4 .any) h69) fun r0 =>
  some (r0, h69))) (
  bi (loadG true 4 (.ptr (List.length h1) 0) h20) fun d74 =>
  bi (storeG 4 (.ptr (List.length H + 1) 0) d74 h20 fl) fun h75 =>
  bi (cellR true 4 (.ptr (List.length H + 1) 0) h75) fun r0 =>
  some (r0, h75))))))) (
   bi (eqK .i64 d24 (I .i64 2)) fun d76 =>
  condR d76 (
   loopG [2, 4, 5, 6, 7] [4, 5] 135 (s_triuneref07_guess_b0 n fl) n (s_triuneref07_guess_I0 (.ptr (List.length H) 0) (.ptr (List.length H + 1) 0) (.ptr (List.length h1) 0) d23 (I .i64 0)) h20 fun x S77 h77 => match x with
   | .normal => none
   | .exit i77 => (
   if i77 = 1 then (
  bi (loadG true 4 (S77.getD 5 .any) h77) fun d78 =>
  bi (storeG 4 (S77.getD 4 .any) d78 h77 fl) fun h79 =>
  bi (cellR true 4 (S77.getD 4 .any) h79) fun r0 =>
  some (r0, h79)) else (
  if i77 = 0 then (
  bi (loadG true 4 (S77.getD 5 .any) h77) fun d80 =>
  bi (storeG 4 (S77.getD 4 .any) d80 h77 fl) fun h81 =>
  bi (cellR true 4 (S77.getD 4 .any) h81) fun r0 =>
  some (r0, h81)) else (
  none)))
   | .ret => (
  bi (cellR true 4 (S77.getD 4 .any) h77) fun r0 =>
  some (r0, h77))) (
   bi (eqK .i64 d24 (I .i64 3)) fun d82 =>
   condR d82 (
   condR d82 (
    bi (cP n 73 false [d23]) fun d83 =>
    bi (extD 0 d83) fun d84 =>
    bi (extD 1 d83) fun d85 =>
    bi (storeG 1 (.ptr (List.length h1) 2) d84 h20 fl) fun h86 =>
  bi (loadG true 4 (.ptr (List.length h1) 0) h86) fun d87 =>
  bi (storeG 4 (.ptr (List.length H + 1) 0) d87 h86 fl) fun h88 =>
  bi (cellR true 4 (.ptr (List.length H + 1) 0) h88) fun r0 =>
  some (r0, h88)) (
    bi (eqK .i64 d24 (I .i64 43)) fun d89 =>
    condR d89 (
     loopG [1, 4, 5, 10] [4, 5] 135 (s_triuneref07_guess_b2 n fl) n (s_triuneref07_guess_I2 a1 (.ptr (List.length H + 1) 0) (.ptr (List.length h1) 0) (I .i64 7)) h20 fun x S90 h90 => match x with
     | .normal => none
     | .exit i90 => (
     if i90 = 5 then (
  bi (loadG true 4 (S90.getD 5 .any) h90) fun d91 =>
  bi (storeG 4 (S90.getD 4 .any) d91 h90 fl) fun h92 =>
  bi (cellR true 4 (S90.getD 4 .any) h92) fun r0 =>
  some (r0, h92)) else (
  if i90 = 0 then (
  bi (loadG true 4 (S90.getD 5 .any) h90) fun d93 =>
  bi (storeG 4 (S90.getD 4 .any) d93 h90 fl) fun h94 =>
  bi (cellR true 4 (S90.getD 4 .any) h94) fun r0 =>
  some (r0, h94)) else (
  none)))
     | .ret => (
  bi (cellR true 4 (S90.getD 4 .any) h90) fun r0 =>
  some (r0, h90))) (
  bi (loadG true 4 (.ptr (List.length h1) 0) h20) fun d95 =>
  bi (storeG 4 (.ptr (List.length H + 1) 0) d95 h20 fl) fun h96 =>
  bi (cellR true 4 (.ptr (List.length H + 1) 0) h96) fun r0 =>
  some (r0, h96)))) (
    bi (eqK .i64 d24 (I .i64 4)) fun d97 =>
    condR d97 (
   condR d97 (
    bi (cP n 73 false [d23]) fun d98 =>
    bi (extD 0 d98) fun d99 =>
    bi (extD 1 d98) fun d100 =>
    bi (storeG 1 (.ptr (List.length h1) 2) d99 h20 fl) fun h101 =>
  bi (loadG true 4 (.ptr (List.length h1) 0) h101) fun d102 =>
  bi (storeG 4 (.ptr (List.length H + 1) 0) d102 h101 fl) fun h103 =>
  bi (cellR true 4 (.ptr (List.length H + 1) 0) h103) fun r0 =>
  some (r0, h103)) (
    bi (eqK .i64 d24 (I .i64 43)) fun d104 =>
    condR d104 (
     loopG [1, 4, 5, 10] [4, 5] 135 (s_triuneref07_guess_b2 n fl) n (s_triuneref07_guess_I2 a1 (.ptr (List.length H + 1) 0) (.ptr (List.length h1) 0) (I .i64 7)) h20 fun x S105 h105 => match x with
     | .normal => none
     | .exit i105 => (
     if i105 = 5 then (
  bi (loadG true 4 (S105.getD 5 .any) h105) fun d106 =>
  bi (storeG 4 (S105.getD 4 .any) d106 h105 fl) fun h107 =>
  bi (cellR true 4 (S105.getD 4 .any) h107) fun r0 =>
  some (r0, h107)) else (
  if i105 = 0 then (
  bi (loadG true 4 (S105.getD 5 .any) h105) fun d108 =>
  bi (storeG 4 (S105.getD 4 .any) d108 h105 fl) fun h109 =>
  bi (cellR true 4 (S105.getD 4 .any) h109) fun r0 =>
  some (r0, h109)) else (
  none)))
     | .ret => (
  bi (cellR true 4 (S105.getD 4 .any) h105) fun r0 =>
  some (r0, h105))) (
  bi (loadG true 4 (.ptr (List.length h1) 0) h20) fun d110 =>
  bi (storeG 4 (.ptr (List.length H + 1) 0) d110 h20 fl) fun h111 =>
  bi (cellR true 4 (.ptr (List.length H + 1) 0) h111) fun r0 =>
  some (r0, h111)))) (
     bi (eqK .i64 d24 (I .i64 23)) fun d112 =>
   condR d112 (
    bi (cP n 73 false [d23]) fun d113 =>
    bi (extD 0 d113) fun d114 =>
    bi (extD 1 d113) fun d115 =>
    bi (storeG 1 (.ptr (List.length h1) 2) d114 h20 fl) fun h116 =>
  bi (loadG true 4 (.ptr (List.length h1) 0) h116) fun d117 =>
  bi (storeG 4 (.ptr (List.length H + 1) 0) d117 h116 fl) fun h118 =>
  bi (cellR true 4 (.ptr (List.length H + 1) 0) h118) fun r0 =>
  some (r0, h118)) (
    bi (eqK .i64 d24 (I .i64 43)) fun d119 =>
    condR d119 (
     loopG [1, 4, 5, 10] [4, 5] 135 (s_triuneref07_guess_b2 n fl) n (s_triuneref07_guess_I2 a1 (.ptr (List.length H + 1) 0) (.ptr (List.length h1) 0) (I .i64 7)) h20 fun x S120 h120 => match x with
     | .normal => none
     | .exit i120 => (
     if i120 = 5 then (
  bi (loadG true 4 (S120.getD 5 .any) h120) fun d121 =>
  bi (storeG 4 (S120.getD 4 .any) d121 h120 fl) fun h122 =>
  bi (cellR true 4 (S120.getD 4 .any) h122) fun r0 =>
  some (r0, h122)) else (
  if i120 = 0 then (
  bi (loadG true 4 (S120.getD 5 .any) h120) fun d123 =>
  bi (storeG 4 (S120.getD 4 .any) d123 h120 fl) fun h124 =>
  bi (cellR true 4 (S120.getD 4 .any) h124) fun r0 =>
  some (r0, h124)) else (
  none)))
     | .ret => (
  bi (cellR true 4 (S120.getD 4 .any) h120) fun r0 =>
  some (r0, h120))) (
  bi (loadG true 4 (.ptr (List.length h1) 0) h20) fun d125 =>
  bi (storeG 4 (.ptr (List.length H + 1) 0) d125 h20 fl) fun h126 =>
  bi (cellR true 4 (.ptr (List.length H + 1) 0) h126) fun r0 =>
  some (r0, h126))))))))
theorem s_triuneref07_guess_eq (n : Nat) (H : Heap) (fl : Nat) (a0 a1 : DV) : callG Tryz.prog ENV (n + 1) 53 [a0, a1] H fl = s_triuneref07_guess n H fl a0 a1 := by kernel_rfl
end Go.Proofs.YtcpgmbpndpcmdaaGreat
namespace Go.Proofs.YtcpgmbpndpcmdaaGreat
open Go
set_option maxRecDepth 100000
set_option linter.unusedVariables false
def s_triuneref07_Right_I0 (x2 x3 x7 x8 : DV) : List DV := [.any, .any, x2, x3, .any, .any, .any, x7, x8, .any, .any, .any, .any, .any, .any, .any, .any, .any, .any, .any, .any, .any, .any, .any, .any, .any, .any, .any, .any, .any, .any, .any, .any, .any, .any, .any, .any, .any, .any, .any, .any, .any, .any, .any, .any, .any, .any, .any, .any, .any, .any, .any, .any, .any, .any, .any, .any, .any, .any, .any, .any, .any, .any, .any, .any, .any, .any, .any, .any, .any, .any, .any, .any, .any, .any, .any, .any, .any, .any, .any, .any, .any, .any, .any, .any, .any, .any, .any, .any, .any, .any, .any, .any, .any, .any, .any, .any, .any, .any, .any, .any, .any, .any, .any, .any, .any, .any, .any, .any, .any, .any, .any, .any, .any, .any]
def s_triuneref07_Right_O0 (x2 x3 x4 x7 : DV) : List DV := [.any, .any, x2, x3, x4, .any, .any, x7, .any, .any, .any, .any, .any, .any, .any, .any, .any, .any, .any, .any, .any, .any, .any, .any, .any, .any, .any, .any, .any, .any, .any, .any, .any, .any, .any, .any, .any, .any, .any, .any, .any, .any, .any, .any, .any, .any, .any, .any, .any, .any, .any, .any, .any, .any, .any, .any, .any, .any, .any, .any, .any, .any, .any, .any, .any, .any, .any, .any, .any, .any, .any, .any, .any, .any, .any, .any, .any, .any, .any, .any, .any, .any, .any, .any, .any, .any, .any, .any, .any, .any, .any, .any, .any, .any, .any, .any, .any, .any, .any, .any, .any, .any, .any, .any, .any, .any, .any, .any, .any, .any, .any, .any, .any, .any, .any]
noncomputable abbrev s_triuneref07_Right_b0 (n fl : Nat) : List DV → Heap → (Ex → KF) → R := execG ⟨Tryz.prog, callG Tryz.prog ENV n, ENV.md, fl, 115⟩ n (loopAt (bodyOf Tryz.f54) 0) []
noncomputable def s_triuneref07_Right_B0 (n fl : Nat) (rec : DV → DV → DV → DV → Heap → R) (k : Ex → KF) (x2 x3 x7 x8 : DV) (H : Heap) : R :=
  bi (fieldD 3 1 x3) fun d0 =>
  bi (loadG false 1 d0 H) fun d1 =>
  bi (lenD d1) fun d2 =>
  bi (ltK .i64 x8 d2) fun d3 =>
  bi (wantF d3 true (some x8)) fun d4 =>
  bi (wantF d3 true (ltK .i64 d4 (I .i64 300))) fun d5 =>
  bi (pickD d3 d5 (Bo false)) fun d6 =>
  condR d6 (
  bi (fieldD 3 1 x3) fun d7 =>
  bi (loadG false 1 d7 H) fun d8 =>
  bi (idxSl 1 d8 x8) fun d9 =>
  bi (loadG false 1 d9 H) fun d10 =>
  bi (lenStr d10) fun d11 =>
  bi (gtK .i64 d11 (I .i64 245)) fun d12 =>
  condR d12 (
  k .ret (s_triuneref07_Right_O0 x2 x3 (Bo false) x7) H) (
  bi (addK .i64 x8 (I .i64 1)) fun d13 =>
  rec x2 x3 x7 d13 H)) (
  k (.exit 0) (s_triuneref07_Right_O0 x2 x3 .any x7) H)
noncomputable def s_triuneref07_Right_L0 (n fl : Nat) (k : Ex → KF) : Nat → DV → DV → DV → DV → Heap → R
  | 0, _, _, _, _, _ => none
  | m + 1, x2, x3, x7, x8, H => s_triuneref07_Right_B0 n fl (s_triuneref07_Right_L0 n fl k m) k x2 x3 x7 x8 H
theorem s_triuneref07_Right_S0 (n fl m : Nat) (k : Ex → KF) (x2 x3 x7 x8 : DV) (H : Heap) : loopG [2, 3, 7, 8] [2, 3, 4, 7] 115 (s_triuneref07_Right_b0 n fl) (m + 1) (s_triuneref07_Right_I0 x2 x3 x7 x8) H k = s_triuneref07_Right_B0 n fl (fun x2 x3 x7 x8 H => loopG [2, 3, 7, 8] [2, 3, 4, 7] 115 (s_triuneref07_Right_b0 n fl) m (s_triuneref07_Right_I0 x2 x3 x7 x8) H k) k x2 x3 x7 x8 H := by kernel_rfl
theorem s_triuneref07_Right_L0_eq (n fl : Nat) (k : Ex → KF) : ∀ (m : Nat) (x2 x3 x7 x8 : DV) (H : Heap), loopG [2, 3, 7, 8] [2, 3, 4, 7] 115 (s_triuneref07_Right_b0 n fl) m (s_triuneref07_Right_I0 x2 x3 x7 x8) H k = s_triuneref07_Right_L0 n fl k m x2 x3 x7 x8 H := by
  intro m
  induction m with
  | zero => intros; rfl
  | succ m ih =>
    intro x2 x3 x7 x8 H
    rw [s_triuneref07_Right_S0, show (fun x2 x3 x7 x8 H => loopG [2, 3, 7, 8] [2, 3, 4, 7] 115 (s_triuneref07_Right_b0 n fl) m (s_triuneref07_Right_I0 x2 x3 x7 x8) H k) = s_triuneref07_Right_L0 n fl k m from by funext x2 x3 x7 x8 H; exact ih _ _ _ _ _]
    rw [s_triuneref07_Right_L0]
noncomputable def s_triuneref07_Right (n : Nat) (H : Heap) (fl : Nat) (a0 a1 : DV) : R :=
  bi (allocG 58 a0 (List.length H) (H ++ [.hole, .hole])) fun h0 =>
  bi (allocG 51 a1 (List.length H + 1) h0) fun h1 =>
  bi (loadG true 8 (.ptr (List.length H) 0) h1) fun d2 =>
  bi (cP n 36 false [d2]) fun d3 =>
  bi (notD d3) fun d4 =>
  bi (wantF d4 false (some (.ptr (List.length H + 1) 0))) fun d5 =>
  bi (wantF d4 false (loadG false 1 d5 h1)) fun d6 =>
  bi (wantF d4 false (ltK .i64 d6 (I .i64 0))) fun d7 =>
  bi (pickD d4 (Bo true) d7) fun d8 =>
  bi (wantF d8 false (some (.ptr (List.length H + 1) 0))) fun d9 =>
  bi (wantF d8 false (loadG false 1 d9 h1)) fun d10 =>
  bi (wantF d8 false (gtK .i64 d10 (I .i64 255))) fun d11 =>
  bi (pickD d8 (Bo true) d11) fun d12 =>
  condR d12 (
  some ((Bo false), h1)) (
  bi (loadG false 1 (.ptr (List.length H + 1) 0) h1) fun d13 =>
  bi (eqK .i64 d13 (I .i64 0)) fun d14 =>
  bi (wantF d14 true (some (.ptr (List.length H) 0))) fun d15 =>
  bi (wantF d14 true (loadG false 1 d15 h1)) fun d16 =>
  bi (wantF d14 true (eqK .i64 d16 (I .i64 43))) fun d17 =>
  bi (pickD d14 d17 (Bo false)) fun d18 =>
  bi (loadG false 1 (.ptr (List.length H + 1) 0) h1) fun d19 =>
  bi (eqK .i64 d19 (I .i64 0)) fun d20 =>
  bi (wantF d20 true (some (.ptr (List.length H) 0))) fun d21 =>
  bi (wantF d20 true (loadG false 1 d21 h1)) fun d22 =>
  bi (wantF d20 true (leK .i64 d22 (I .i64 2))) fun d23 =>
  bi (pickD d20 d23 (Bo false)) fun d24 =>
  condR d24 (
   bi (loadG false 1 (.ptr (List.length H) 2) h1) fun d25 =>
  bi (loadG false 1 (.ptr (List.length H + 1) 0) h1) fun d26 =>
  bi (eqK .i64 d26 (I .i64 0)) fun d27 =>
  bi (wantF d27 true (some (.ptr (List.length H) 0))) fun d28 =>
  bi (wantF d27 true (loadG false 1 d28 h1)) fun d29 =>
  bi (wantF d27 true (eqK .i64 d29 (I .i64 3))) fun d30 =>
  bi (wantF d27 true (some d30)) fun d31 =>
  bi (wantF d31 false (some (.ptr (List.length H) 0))) fun d32 =>
  bi (wantF d31 false (loadG false 1 d32 h1)) fun d33 =>
  bi (wantF d31 false (eqK .i64 d33 (I .i64 4))) fun d34 =>
  bi (wantF d27 true (pickD d31 (Bo true) d34)) fun d35 =>
  bi (wantF d27 true (some d35)) fun d36 =>
  bi (wantF d36 false (some (.ptr (List.length H) 0))) fun d37 =>
  bi (wantF d36 false (loadG false 1 d37 h1)) fun d38 =>
  bi (wantF d36 false (eqK .i64 d38 (I .i64 23))) fun d39 =>
  bi (wantF d27 true (pickD d36 (Bo true) d39)) fun d40 =>
  bi (pickD d27 d40 (Bo false)) fun d41 =>
  condR d41 (
   bi (loadG false 1 (.ptr (List.length H) 2) h1) fun d42 =>
  bi (loadG false 1 (.ptr (List.length H + 1) 1) h1) fun d43 =>
  bi (lenD d43) fun d44 =>
  bi (neK .i64 d44 d25) fun d45 =>
  bi (wantF d45 false (some (.ptr (List.length H + 1) 2))) fun d46 =>
  bi (wantF d45 false (loadG false 1 d46 h1)) fun d47 =>
  bi (wantF d45 false (lenD d47)) fun d48 =>
  bi (wantF d45 false (some d42)) fun d49 =>
  bi (wantF d45 false (neK .i64 d48 d49)) fun d50 =>
  bi (pickD d45 (Bo true) d50) fun d51 =>
  bi (wantF d51 false (some (.ptr (List.length H + 1) 3))) fun d52 =>
  bi (wantF d51 false (loadG false 1 d52 h1)) fun d53 =>
  bi (wantF d51 false (lenD d53)) fun d54 =>
  bi (wantF d51 false (gtK .i64 d54 (I .i64 0))) fun d55 =>
  bi (wantF d51 false (some d18)) fun d56 =>
  bi (wantF d51 false (neB d55 d56)) fun d57 =>
  bi (pickD d51 (Bo true) d57) fun d58 =>
  condR d58 (
  some ((Bo false), h1)) (
  loopG [2, 3, 7, 8] [2, 3, 4, 7] 115 (s_triuneref07_Right_b0 n fl) n (s_triuneref07_Right_I0 (.ptr (List.length H) 0) (.ptr (List.length H + 1) 0) d18 (I .i64 0)) h1 fun x S59 h59 => match x with
  | .normal => none
  | .exit i59 => (
  if i59 = 0 then (
  bi (notD (S59.getD 7 .any)) fun d60 =>
  bi (wantF d60 false (fieldD 3 1 (S59.getD 3 .any))) fun d61 =>
  bi (wantF d60 false (loadG false 1 d61 h59)) fun d62 =>
  bi (wantF d60 false (cP n 74 false [d62])) fun d63 =>
  bi (wantF d60 false (leK .i64 d63 (I .i64 253))) fun d64 =>
  bi (wantF d60 false (some d64)) fun d65 =>
  bi (wantF d65 true (fieldD 1 1 (S59.getD 2 .any))) fun d66 =>
  bi (wantF d65 true (loadG false 1 d66 h59)) fun d67 =>
  bi (wantF d65 true (fieldD 3 1 (S59.getD 3 .any))) fun d68 =>
  bi (wantF d65 true (loadG false 1 d68 h59)) fun d69 =>
  bi (wantF d65 true (lenD d69)) fun d70 =>
  bi (wantF d65 true (addK .i64 d67 d70)) fun d71 =>
  bi (wantF d65 true (leK .i64 d71 (I .i64 256))) fun d72 =>
  bi (wantF d60 false (pickD d65 d72 (Bo false))) fun d73 =>
  bi (pickD d60 (Bo true) d73) fun d74 =>
  some (d74, h59)) else (
  none))
  | .ret => (
  some ((S59.getD 4 .any), h59)))) (
  bi (loadG false 1 (.ptr (List.length H + 1) 1) h1) fun d75 =>
  bi (lenD d75) fun d76 =>
  bi (neK .i64 d76 d25) fun d77 =>
  bi (wantF d77 false (some (.ptr (List.length H + 1) 2))) fun d78 =>
  bi (wantF d77 false (loadG false 1 d78 h1)) fun d79 =>
  bi (wantF d77 false (lenD d79)) fun d80 =>
  bi (wantF d77 false (some (I .i64 0))) fun d81 =>
  bi (wantF d77 false (neK .i64 d80 d81)) fun d82 =>
  bi (pickD d77 (Bo true) d82) fun d83 =>
  bi (wantF d83 false (some (.ptr (List.length H + 1) 3))) fun d84 =>
  bi (wantF d83 false (loadG false 1 d84 h1)) fun d85 =>
  bi (wantF d83 false (lenD d85)) fun d86 =>
  bi (wantF d83 false (gtK .i64 d86 (I .i64 0))) fun d87 =>
  bi (wantF d83 false (some d18)) fun d88 =>
  bi (wantF d83 false (neB d87 d88)) fun d89 =>
  bi (pickD d83 (Bo true) d89) fun d90 =>
  condR d90 (
  some ((Bo false), h1)) (
  loopG [2, 3, 7, 8] [2, 3, 4, 7] 115 (s_triuneref07_Right_b0 n fl) n (s_triuneref07_Right_I0 (.ptr (List.length H) 0) (.ptr (List.length H + 1) 0) d18 (I .i64 0)) h1 fun x S91 h91 => match x with
  | .normal => none
  | .exit i91 => (
  if i91 = 0 then (
  bi (notD (S91.getD 7 .any)) fun d92 =>
  bi (wantF d92 false (fieldD 3 1 (S91.getD 3 .any))) fun d93 =>
  bi (wantF d92 false (loadG false 1 d93 h91)) fun d94 =>
  bi (wantF d92 false (cP n 74 false [d94])) fun d95 =>
  bi (wantF d92 false (leK .i64 d95 (I .i64 253))) fun d96 =>
  bi (wantF d92 false (some d96)) fun d97 =>
  bi (wantF d97 true (fieldD 1 1 (S91.getD 2 .any))) fun d98 =>
  bi (wantF d97 true (loadG false 1 d98 h91)) fun d99 =>
  bi (wantF d97 true (fieldD 3 1 (S91.getD 3 .any))) fun d100 =>
  bi (wantF d97 true (loadG false 1 d100 h91)) fun d101 =>
  bi (wantF d97 true (lenD d101)) fun d102 =>
  bi (wantF d97 true (addK .i64 d99 d102)) fun d103 =>
  bi (wantF d97 true (leK .i64 d103 (I .i64 256))) fun d104 =>
  bi (wantF d92 false (pickD d97 d104 (Bo false))) fun d105 =>
  bi (pickD d92 (Bo true) d105) fun d106 =>
  some (d106, h91)) else (
  none))
  | .ret => (
  some ((S91.getD 4 .any), h91))))) (
  bi (loadG false 1 (.ptr (List.length H + 1) 0) h1) fun d107 =>
  bi (eqK .i64 d107 (I .i64 0)) fun d108 =>
  bi (wantF d108 true (some (.ptr (List.length H) 0))) fun d109 =>
  bi (wantF d108 true (loadG false 1 d109 h1)) fun d110 =>
  bi (wantF d108 true (eqK .i64 d110 (I .i64 3))) fun d111 =>
  bi (wantF d108 true (some d111)) fun d112 =>
  bi (wantF d112 false (some (.ptr (List.length H) 0))) fun d113 =>
  bi (wantF d112 false (loadG false 1 d113 h1)) fun d114 =>
  bi (wantF d112 false (eqK .i64 d114 (I .i64 4))) fun d115 =>
  bi (wantF d108 true (pickD d112 (Bo true) d115)) fun d116 =>
  bi (wantF d108 true (some d116)) fun d117 =>
  bi (wantF d117 false (some (.ptr (List.length H) 0))) fun d118 =>
  bi (wantF d117 false (loadG false 1 d118 h1)) fun d119 =>
  bi (wantF d117 false (eqK .i64 d119 (I .i64 23))) fun d120 =>
  bi (wantF d108 true (pickD d117 (Bo true) d120)) fun d121 =>
  bi (pickD d108 d121 (Bo false)) fun d122 =>
  condR d122 (
   bi (loadG false 1 (.ptr (List.length H) 2) h1) fun d123 =>
  bi (loadG false 1 (.ptr (List.length H + 1) 1) h1) fun d124 =>
  bi (lenD d124) fun d125 =>
  bi (neK .i64 d125 (I .i64 0)) fun d126 =>
  bi (wantF d126 false (some (.ptr (List.length H + 1) 2))) fun d127 =>
  bi (wantF d126 false (loadG false 1 d127 h1)) fun d128 =>
  bi (wantF d126 false (lenD d128)) fun d129 =>
  bi (wantF d126 false (some d123)) fun d130 =>
  bi (wantF d126 false (neK .i64 d129 d130)) fun d131 =>
  bi (pickD d126 (Bo true) d131) fun d132 =>
  bi (wantF d132 false (some (.ptr (List.length H + 1) 3))) fun d133 =>
  bi (wantF d132 false (loadG false 1 d133 h1)) fun d134 =>
  bi (wantF d132 false (lenD d134)) fun d135 =>
  bi (wantF d132 false (gtK .i64 d135 (I .i64 0))) fun d136 =>
  bi (wantF d132 false (some d18)) fun d137 =>
  bi (wantF d132 false (neB d136 d137)) fun d138 =>
  bi (pickD d132 (Bo true) d138) fun d139 =>
  condR d139 (
  some ((Bo false), h1)) (
  loopG [2, 3, 7, 8] [2, 3, 4, 7] 115 (s_triuneref07_Right_b0 n fl) n (s_triuneref07_Right_I0 (.ptr (List.length H) 0) (.ptr (List.length H + 1) 0) d18 (I .i64 0)) h1 fun x S140 h140 => match x with
  | .normal => none
  | .exit i140 => (
  if i140 = 0 then (
  bi (notD (S140.getD 7 .any)) fun d141 =>
  bi (wantF d141 false (fieldD 3 1 (S140.getD 3 .any))) fun d142 =>
  bi (wantF d141 false (loadG false 1 d142 h140)) fun d143 =>
  bi (wantF d141 false (cP n 74 false [d143])) fun d144 =>
  bi (wantF d141 false (leK .i64 d144 (I .i64 253))) fun d145 =>
  bi (wantF d141 false (some d145)) fun d146 =>
  bi (wantF d146 true (fieldD 1 1 (S140.getD 2 .any))) fun d147 =>
  bi (wantF d146 true (loadG false 1 d147 h140)) fun d148 =>
  bi (wantF d146 true (fieldD 3 1 (S140.getD 3 .any))) fun d149 =>
  bi (wantF d146 true (loadG false 1 d149 h140)) fun d150 =>
  bi (wantF d146 true (lenD d150)) fun d151 =>
  bi (wantF d146 true (addK .i64 d148 d151)) fun d152 =>
  bi (wantF d146 true (leK .i64 d152 (I .i64 256))) fun d153 =>
  bi (wantF d141 false (pickD d146 d153 (Bo false))) fun d154 =>
  bi (pickD d141 (Bo true) d154) fun d155 =>
  some (d155, h140)) else (
  none))
  | .ret => (
  some ((S140.getD 4 .any), h140)))) (
  bi (loadG false 1 (.ptr (List.length H + 1) 1) h1) fun d156 =>
  bi (lenD d156) fun d157 =>
  bi (neK .i64 d157 (I .i64 0)) fun d158 =>
  bi (wantF d158 false (some (.ptr (List.length H + 1) 2))) fun d159 =>
  bi (wantF d158 false (loadG false 1 d159 h1)) fun d160 =>
  bi (wantF d158 false (lenD d160)) fun d161 =>
  bi (wantF d158 false (some (I .i64 0))) fun d162 =>
  bi (wantF d158 false (neK .i64 d161 d162)) fun d163 =>
  bi (pickD d158 (Bo true) d163) fun d164 =>
  bi (wantF d164 false (some (.ptr (List.length H + 1) 3))) fun d165 =>
  bi (wantF d164 false (loadG false 1 d165 h1)) fun d166 =>
  bi (wantF d164 false (lenD d166)) fun d167 =>
  bi (wantF d164 false (gtK .i64 d167 (I .i64 0))) fun d168 =>
  bi (wantF d164 false (some d18)) fun d169 =>
  bi (wantF d164 false (neB d168 d169)) fun d170 =>
  bi (pickD d164 (Bo true) d170) fun d171 =>
  condR d171 (
  some ((Bo false), h1)) (
  loopG [2, 3, 7, 8] [2, 3, 4, 7] 115 (s_triuneref07_Right_b0 n fl) n (s_triuneref07_Right_I0 (.ptr (List.length H) 0) (.ptr (List.length H + 1) 0) d18 (I .i64 0)) h1 fun x S172 h172 => match x with
  | .normal => none
  | .exit i172 => (
  if i172 = 0 then (
  bi (notD (S172.getD 7 .any)) fun d173 =>
  bi (wantF d173 false (fieldD 3 1 (S172.getD 3 .any))) fun d174 =>
  bi (wantF d173 false (loadG false 1 d174 h172)) fun d175 =>
  bi (wantF d173 false (cP n 74 false [d175])) fun d176 =>
  bi (wantF d173 false (leK .i64 d176 (I .i64 253))) fun d177 =>
  bi (wantF d173 false (some d177)) fun d178 =>
  bi (wantF d178 true (fieldD 1 1 (S172.getD 2 .any))) fun d179 =>
  bi (wantF d178 true (loadG false 1 d179 h172)) fun d180 =>
  bi (wantF d178 true (fieldD 3 1 (S172.getD 3 .any))) fun d181 =>
  bi (wantF d178 true (loadG false 1 d181 h172)) fun d182 =>
  bi (wantF d178 true (lenD d182)) fun d183 =>
  bi (wantF d178 true (addK .i64 d180 d183)) fun d184 =>
  bi (wantF d178 true (leK .i64 d184 (I .i64 256))) fun d185 =>
  bi (wantF d173 false (pickD d178 d185 (Bo false))) fun d186 =>
  bi (pickD d173 (Bo true) d186) fun d187 =>
  some (d187, h172)) else (
  none))
  | .ret => (
  some ((S172.getD 4 .any), h172))))))
theorem s_triuneref07_Right_eq (n : Nat) (H : Heap) (fl : Nat) (a0 a1 : DV) : callG Tryz.prog ENV (n + 1) 54 [a0, a1] H fl = s_triuneref07_Right n H fl a0 a1 := by kernel_rfl
end Go.Proofs.YtcpgmbpndpcmdaaGreat
namespace Go.Proofs.YtcpgmbpndpcmdaaGreat
open Go
set_option linter.unusedSimpArgs false
set_option linter.unusedVariables false
def shortT : List ByteArray → Bool
  | [] => true
  | s :: r => if 245 < s.size then false else shortT r
theorem shortT_iff : ∀ l : List ByteArray, shortT l = true ↔ ∀ s ∈ l, s.size ≤ 245
  | [] => by simp [shortT]
  | s :: l => by
    unfold shortT
    by_cases c : 245 < s.size
    · rw [if_pos c]
      constructor
      · intro h; cases h
      · intro h
        have := h s (by simp)
        omega
    · rw [if_neg c, shortT_iff l]
      constructor
      · intro h x hx
        rcases List.mem_cons.1 hx with rfl | hx
        · omega
        · exact h x hx
      · intro h x hx
        exact h x (by simp [hx])
theorem r7_L (n fl : Nat) (K : Ex → KF) (x2 x7 : DV) (b0 : DBlk) (e1 : TypeId) (d0 d1 d2 : DV) (l : List ByteArray) (t : Tag) (hl : l.length ≤ 300) (hs : ∀ s ∈ l, s.size ≤ 281474976710656) : ∀ (m i : Nat), l.length < m + i → i ≤ l.length →
    s_triuneref07_Right_L0 n fl K m x2 (.ptr 1 0) x7 (I .i64 i) [b0, .cells e1 [d0, d1, d2, LV 1 Sg l t]] = if shortT (l.drop i) = true then K (.exit 0) (s_triuneref07_Right_O0 x2 (.ptr 1 0) .any x7) [b0, .cells e1 [d0, d1, d2, LV 1 Sg l t]] else K .ret (s_triuneref07_Right_O0 x2 (.ptr 1 0) (Bo false) x7) [b0, .cells e1 [d0, d1, d2, LV 1 Sg l t]] := by
  intro m
  induction m with
  | zero => intro i h; omega
  | succ m ih =>
    intro i hm hi
    unfold s_triuneref07_Right_L0 s_triuneref07_Right_B0
    by_cases h : i < l.length
    · have hz := hs _ (List.getElem_mem h)
      have hls : lenStr (Sg l[i]) = some (I .i64 (l[i].size : Int)) := rfl
      rw [List.drop_eq_getElem_cons h]
      have hi2 : ((i + 1 : Nat) : Int) = (i : Int) + 1 := by omega
      have h3 : i < 300 := by omega
      by_cases c1 : 245 < l[i].size
      · have hf : shortT (l[i] :: l.drop (i + 1)) = false := by unfold shortT; rw [if_pos c1]
        simp only [hf, Bool.false_eq_true, if_false]
        simp -implicitDefEqProofs (disch := first | omega | (simp only [List.length_set, List.length_append, List.length_cons, List.length_nil, List.length_take, List.length_drop, List.length_map]; omega) | simp) [wrap_i64, wrap_u16_id, wrap_u8_id, tdiv_pos, tmod_pos, -getElem?_pos, -getElem?_neg, -List.length_eq_zero_iff, -List.getElem_cons_drop, h, h3, hls, c1]
      · have hf : shortT (l[i] :: l.drop (i + 1)) = shortT (l.drop (i + 1)) := by conv => lhs; unfold shortT; rw [if_neg c1]
        simp only [hf]
        have ih' := ih (i + 1) (by omega) (by omega)
        rw [hi2] at ih'
        simp -implicitDefEqProofs (disch := first | omega | (simp only [List.length_set, List.length_append, List.length_cons, List.length_nil, List.length_take, List.length_drop, List.length_map]; omega) | simp) [wrap_i64, wrap_u16_id, wrap_u8_id, tdiv_pos, tmod_pos, -getElem?_pos, -getElem?_neg, -List.length_eq_zero_iff, -List.getElem_cons_drop, h, h3, hls, c1, ih']
    · have : i = l.length := by omega
      subst this
      rw [List.drop_length]
      simp only [shortT, if_true]
      simp -implicitDefEqProofs (disch := first | omega | (simp only [List.length_set, List.length_append, List.length_cons, List.length_nil, List.length_take, List.length_drop, List.length_map]; omega) | simp) [wrap_i64, wrap_u16_id, wrap_u8_id, tdiv_pos, tmod_pos, -getElem?_pos, -getElem?_neg, -List.length_eq_zero_iff, -List.getElem_cons_drop]
end Go.Proofs.YtcpgmbpndpcmdaaGreat
namespace Go.Proofs.YtcpgmbpndpcmdaaGreat
open Go
set_option linter.unusedSimpArgs false
set_option linter.unusedVariables false
theorem fitT_eq (l : List ByteArray) : fitT 7 l = (shortT l && decide (longI 7 l ≤ 253)) := by
  rw [Bool.eq_iff_iff, fitT_iff l 7 (by omega)]
  simp [shortT_iff]
theorem ref07_Right_c (n : Nat) (hn : 1100 ≤ n) (a : Rq) (x : An) (hs : ∀ s ∈ x.texts, s.size ≤ 281474976710656) (hl : x.texts.length ≤ 300) (t1 t2 t3 t4 t5 : Tag) : cP n 54 false [rqE a t1 t2, anE x t3 t4 t5] = some (Bo (ansV a x)) := by
  obtain ⟨n, rfl⟩ : ∃ m, n = m + 1 := ⟨n - 1, by omega⟩
  have k1 := ref06_Right_c n (by omega) a .sh .sh
  have k2 := long_c n x.texts .sh hs (by omega) (by omega)
  have q := fun (x7 : DV) (K) => (s_triuneref07_Right_L0_eq n 0 K n (.ptr 0 0) (.ptr 1 0) x7 (I .i64 0) [.cells 58 [I .i64 a.code, I .i64 a.addr, I .i64 a.cnt, I .i64 a.to_, LV 1 (I .u16) a.words .sh, LV 1 Bo a.bits .sh, I .u16 a.and_, I .u16 a.or_], .cells 51 [I .i64 x.exc, LV 1 Bo x.bits .sh, LV 1 (I .u16) x.words .sh, LV 1 Sg x.texts .sh]]).trans (r7_L n 0 K (.ptr 0 0) x7 (.cells 58 [I .i64 a.code, I .i64 a.addr, I .i64 a.cnt, I .i64 a.to_, LV 1 (I .u16) a.words .sh, LV 1 Bo a.bits .sh, I .u16 a.and_, I .u16 a.or_]) 51 (I .i64 x.exc) (LV 1 Bo x.bits .sh) (LV 1 (I .u16) x.words .sh) x.texts .sh hl hs n 0 (by omega) (by omega))
  simp only [List.drop_zero] at q
  have go : ∀ r, ansV a x = r → (∃ H', s_triuneref07_Right n [] 0 (rqE a .sh .sh) (anE x .sh .sh .sh) = some (Bo r, H')) → cP (n + 1) 54 false [rqE a t1 t2, anE x t3 t4 t5] = some (Bo (ansV a x)) := by
    intro r h1 ⟨H', h⟩
    rw [h1]
    exact cP_of (r := Bo r) (args' := [rqE a .sh .sh, anE x .sh .sh .sh]) (by simp [argEl_eq, rqE, anE]) ((s_triuneref07_Right_eq _ _ _ _ _).trans h) (by simp)
  by_cases hr : RightP a
  case neg =>
    rw [decide_eq_false hr] at k1
    refine go false (by unfold ansV ansB; simp [hr]) ?_
    exact ⟨_, by unfold s_triuneref07_Right rqE anE at *; simp -implicitDefEqProofs (disch := first | omega | (simp only [List.length_set, List.length_append, List.length_cons, List.length_nil, List.length_take, List.length_drop, List.length_map]; omega) | simp) [wrap_i64, wrap_u16_id, wrap_u8_id, tdiv_pos, tmod_pos, -getElem?_pos, -getElem?_neg, -List.length_eq_zero_iff, -List.getElem_cons_drop, k1]; rfl⟩
  obtain ⟨_, _, b1, b2, _⟩ := formed_le a hr.1
  have hcode := of_decide_eq_true hr.1.1
  rw [decide_eq_true hr] at k1
  by_cases e0 : 0 ≤ x.exc
  case neg =>
    refine go false (by unfold ansV ansB; simp [e0]) ?_
    exact ⟨_, by unfold s_triuneref07_Right rqE anE at *; simp -implicitDefEqProofs (disch := first | omega | (simp only [List.length_set, List.length_append, List.length_cons, List.length_nil, List.length_take, List.length_drop, List.length_map]; omega) | simp) [wrap_i64, wrap_u16_id, wrap_u8_id, tdiv_pos, tmod_pos, -getElem?_pos, -getElem?_neg, -List.length_eq_zero_iff, -List.getElem_cons_drop, k1, e0]; rfl⟩
  by_cases e1 : x.exc ≤ 255
  case neg =>
    refine go false (by unfold ansV ansB; simp [e1]) ?_
    exact ⟨_, by unfold s_triuneref07_Right rqE anE at *; simp -implicitDefEqProofs (disch := first | omega | (simp only [List.length_set, List.length_append, List.length_cons, List.length_nil, List.length_take, List.length_drop, List.length_map]; omega) | simp) [wrap_i64, wrap_u16_id, wrap_u8_id, tdiv_pos, tmod_pos, -getElem?_pos, -getElem?_neg, -List.length_eq_zero_iff, -List.getElem_cons_drop, k1, e0, e1]; rfl⟩
  by_cases z : x.exc = 0
  case neg =>
    have av : ansV a x = (decide ((x.bits.length : Int) = 0) && decide ((x.words.length : Int) = 0) && decide ((x.texts.length : Int) = 0)) := by unfold ansV ansB; simp [hr, e0, e1, z]
    by_cases c1 : (x.bits.length : Int) = 0
    case neg =>
      have c1 : ¬ x.bits.length = 0 := by omega
      refine go false (by rw [av]; simp [c1]) ?_
      exact ⟨_, by unfold s_triuneref07_Right rqE anE at *; simp -implicitDefEqProofs (disch := first | omega | (simp only [List.length_set, List.length_append, List.length_cons, List.length_nil, List.length_take, List.length_drop, List.length_map]; omega) | simp) [wrap_i64, wrap_u16_id, wrap_u8_id, tdiv_pos, tmod_pos, -getElem?_pos, -getElem?_neg, -List.length_eq_zero_iff, -List.getElem_cons_drop, k1, q, s_triuneref07_Right_O0, z, e0, c1]; rfl⟩
    by_cases c2 : (x.words.length : Int) = 0
    case neg =>
      have c2 : ¬ x.words.length = 0 := by omega
      refine go false (by rw [av]; simp [c2]) ?_
      exact ⟨_, by unfold s_triuneref07_Right rqE anE at *; simp -implicitDefEqProofs (disch := first | omega | (simp only [List.length_set, List.length_append, List.length_cons, List.length_nil, List.length_take, List.length_drop, List.length_map]; omega) | simp) [wrap_i64, wrap_u16_id, wrap_u8_id, tdiv_pos, tmod_pos, -getElem?_pos, -getElem?_neg, -List.length_eq_zero_iff, -List.getElem_cons_drop, k1, q, s_triuneref07_Right_O0, z, e0, c1, c2]; rfl⟩
    by_cases c3 : x.texts.length = 0
    case neg =>
      refine go false (by rw [av]; simp [c3]) ?_
      exact ⟨_, by unfold s_triuneref07_Right rqE anE at *; simp -implicitDefEqProofs (disch := first | omega | (simp only [List.length_set, List.length_append, List.length_cons, List.length_nil, List.length_take, List.length_drop, List.length_map]; omega) | simp) [wrap_i64, wrap_u16_id, wrap_u8_id, tdiv_pos, tmod_pos, -getElem?_pos, -getElem?_neg, -List.length_eq_zero_iff, -List.getElem_cons_drop, k1, q, s_triuneref07_Right_O0, z, e0, c1, c2, c3]; rfl⟩
    have hT : shortT x.texts = true := by rw [List.eq_nil_of_length_eq_zero c3]; rfl
    rw [hT] at q
    refine go true (by rw [av]; simp [c1, c2, c3]) ?_
    exact ⟨_, by unfold s_triuneref07_Right rqE anE at *; simp -implicitDefEqProofs (disch := first | omega | (simp only [List.length_set, List.length_append, List.length_cons, List.length_nil, List.length_take, List.length_drop, List.length_map]; omega) | simp) [wrap_i64, wrap_u16_id, wrap_u8_id, tdiv_pos, tmod_pos, -getElem?_pos, -getElem?_neg, -List.length_eq_zero_iff, -List.getElem_cons_drop, k1, q, s_triuneref07_Right_O0, z, e0, c1, c2, c3]; rfl⟩
  rw [z] at q
  by_cases d1 : a.code ≤ 2
  · have hA : rdBits a.code = true := by unfold rdBits; exact decide_eq_true (by omega)
    have hB : rdWords a.code = false := by unfold rdWords; exact decide_eq_false (by omega)
    have hC : rdTexts a.code = false := by unfold rdTexts; exact decide_eq_false (by omega)
    have hD : decide (a.code = 43) = false := decide_eq_false (by omega)
    have av : ansV a x = (decide ((x.bits.length : Int) = a.cnt) && decide ((x.words.length : Int) = 0) && decide ((x.texts.length : Int) = 0)) := by unfold ansV ansB; simp [hr, z, hA, hB, hC]
    by_cases c1 : (x.bits.length : Int) = a.cnt
    case neg =>
      refine go false (by rw [av]; simp [c1]) ?_
      exact ⟨_, by unfold s_triuneref07_Right rqE anE at *; simp -implicitDefEqProofs (disch := first | omega | (simp only [List.length_set, List.length_append, List.length_cons, List.length_nil, List.length_take, List.length_drop, List.length_map]; omega) | simp) [wrap_i64, wrap_u16_id, wrap_u8_id, tdiv_pos, tmod_pos, -getElem?_pos, -getElem?_neg, -List.length_eq_zero_iff, -List.getElem_cons_drop, k1, q, s_triuneref07_Right_O0, z, d1, hD, c1]; rfl⟩
    by_cases c2 : (x.words.length : Int) = 0
    case neg =>
      have c2 : ¬ x.words.length = 0 := by omega
      refine go false (by rw [av]; simp [c2]) ?_
      exact ⟨_, by unfold s_triuneref07_Right rqE anE at *; simp -implicitDefEqProofs (disch := first | omega | (simp only [List.length_set, List.length_append, List.length_cons, List.length_nil, List.length_take, List.length_drop, List.length_map]; omega) | simp) [wrap_i64, wrap_u16_id, wrap_u8_id, tdiv_pos, tmod_pos, -getElem?_pos, -getElem?_neg, -List.length_eq_zero_iff, -List.getElem_cons_drop, k1, q, s_triuneref07_Right_O0, z, d1, hD, c1, c2]; rfl⟩
    by_cases c3 : x.texts.length = 0
    case neg =>
      refine go false (by rw [av]; simp [c3]) ?_
      exact ⟨_, by unfold s_triuneref07_Right rqE anE at *; simp -implicitDefEqProofs (disch := first | omega | (simp only [List.length_set, List.length_append, List.length_cons, List.length_nil, List.length_take, List.length_drop, List.length_map]; omega) | simp) [wrap_i64, wrap_u16_id, wrap_u8_id, tdiv_pos, tmod_pos, -getElem?_pos, -getElem?_neg, -List.length_eq_zero_iff, -List.getElem_cons_drop, k1, q, s_triuneref07_Right_O0, z, d1, hD, c1, c2, c3]; rfl⟩
    have hT : shortT x.texts = true := by rw [List.eq_nil_of_length_eq_zero c3]; rfl
    rw [hT] at q
    refine go true (by rw [av]; simp [c1, c2, c3]) ?_
    exact ⟨_, by unfold s_triuneref07_Right rqE anE at *; simp -implicitDefEqProofs (disch := first | omega | (simp only [List.length_set, List.length_append, List.length_cons, List.length_nil, List.length_take, List.length_drop, List.length_map]; omega) | simp) [wrap_i64, wrap_u16_id, wrap_u8_id, tdiv_pos, tmod_pos, -getElem?_pos, -getElem?_neg, -List.length_eq_zero_iff, -List.getElem_cons_drop, k1, q, s_triuneref07_Right_O0, z, d1, hD, c1, c2, c3]; rfl⟩
  by_cases d2 : a.code = 3 ∨ a.code = 4 ∨ a.code = 23
  · have hA : rdBits a.code = false := by unfold rdBits; exact decide_eq_false (by omega)
    have hB : rdWords a.code = true := by unfold rdWords; exact decide_eq_true (by omega)
    have hC : rdTexts a.code = false := by unfold rdTexts; exact decide_eq_false (by omega)
    have hD : decide (a.code = 43) = false := decide_eq_false (by omega)
    have av : ansV a x = (decide ((x.bits.length : Int) = 0) && decide ((x.words.length : Int) = a.cnt) && decide ((x.texts.length : Int) = 0)) := by unfold ansV ansB; simp [hr, z, hA, hB, hC]
    by_cases c1 : (x.bits.length : Int) = 0
    case neg =>
      have c1 : ¬ x.bits.length = 0 := by omega
      refine go false (by rw [av]; simp [c1]) ?_
      rcases d2 with d2 | d2 | d2
      · have u3 : decide (a.code = 3) = true := decide_eq_true (by omega)
        have u4 : decide (a.code = 4) = false := decide_eq_false (by omega)
        have u23 : decide (a.code = 23) = false := decide_eq_false (by omega)
        exact ⟨_, by unfold s_triuneref07_Right rqE anE at *; simp -implicitDefEqProofs (disch := first | omega | (simp only [List.length_set, List.length_append, List.length_cons, List.length_nil, List.length_take, List.length_drop, List.length_map]; omega) | simp) [wrap_i64, wrap_u16_id, wrap_u8_id, tdiv_pos, tmod_pos, -getElem?_pos, -getElem?_neg, -List.length_eq_zero_iff, -List.getElem_cons_drop, k1, q, s_triuneref07_Right_O0, z, u3, u4, u23, d1, hD, c1]; rfl⟩
      · have u3 : decide (a.code = 3) = false := decide_eq_false (by omega)
        have u4 : decide (a.code = 4) = true := decide_eq_true (by omega)
        have u23 : decide (a.code = 23) = false := decide_eq_false (by omega)
        exact ⟨_, by unfold s_triuneref07_Right rqE anE at *; simp -implicitDefEqProofs (disch := first | omega | (simp only [List.length_set, List.length_append, List.length_cons, List.length_nil, List.length_take, List.length_drop, List.length_map]; omega) | simp) [wrap_i64, wrap_u16_id, wrap_u8_id, tdiv_pos, tmod_pos, -getElem?_pos, -getElem?_neg, -List.length_eq_zero_iff, -List.getElem_cons_drop, k1, q, s_triuneref07_Right_O0, z, u3, u4, u23, d1, hD, c1]; rfl⟩
      · have u3 : decide (a.code = 3) = false := decide_eq_false (by omega)
        have u4 : decide (a.code = 4) = false := decide_eq_false (by omega)
        have u23 : decide (a.code = 23) = true := decide_eq_true (by omega)
        exact ⟨_, by unfold s_triuneref07_Right rqE anE at *; simp -implicitDefEqProofs (disch := first | omega | (simp only [List.length_set, List.length_append, List.length_cons, List.length_nil, List.length_take, List.length_drop, List.length_map]; omega) | simp) [wrap_i64, wrap_u16_id, wrap_u8_id, tdiv_pos, tmod_pos, -getElem?_pos, -getElem?_neg, -List.length_eq_zero_iff, -List.getElem_cons_drop, k1, q, s_triuneref07_Right_O0, z, u3, u4, u23, d1, hD, c1]; rfl⟩
    by_cases c2 : (x.words.length : Int) = a.cnt
    case neg =>
      refine go false (by rw [av]; simp [c2]) ?_
      rcases d2 with d2 | d2 | d2
      · have u3 : decide (a.code = 3) = true := decide_eq_true (by omega)
        have u4 : decide (a.code = 4) = false := decide_eq_false (by omega)
        have u23 : decide (a.code = 23) = false := decide_eq_false (by omega)
        exact ⟨_, by unfold s_triuneref07_Right rqE anE at *; simp -implicitDefEqProofs (disch := first | omega | (simp only [List.length_set, List.length_append, List.length_cons, List.length_nil, List.length_take, List.length_drop, List.length_map]; omega) | simp) [wrap_i64, wrap_u16_id, wrap_u8_id, tdiv_pos, tmod_pos, -getElem?_pos, -getElem?_neg, -List.length_eq_zero_iff, -List.getElem_cons_drop, k1, q, s_triuneref07_Right_O0, z, u3, u4, u23, d1, hD, c1, c2]; rfl⟩
      · have u3 : decide (a.code = 3) = false := decide_eq_false (by omega)
        have u4 : decide (a.code = 4) = true := decide_eq_true (by omega)
        have u23 : decide (a.code = 23) = false := decide_eq_false (by omega)
        exact ⟨_, by unfold s_triuneref07_Right rqE anE at *; simp -implicitDefEqProofs (disch := first | omega | (simp only [List.length_set, List.length_append, List.length_cons, List.length_nil, List.length_take, List.length_drop, List.length_map]; omega) | simp) [wrap_i64, wrap_u16_id, wrap_u8_id, tdiv_pos, tmod_pos, -getElem?_pos, -getElem?_neg, -List.length_eq_zero_iff, -List.getElem_cons_drop, k1, q, s_triuneref07_Right_O0, z, u3, u4, u23, d1, hD, c1, c2]; rfl⟩
      · have u3 : decide (a.code = 3) = false := decide_eq_false (by omega)
        have u4 : decide (a.code = 4) = false := decide_eq_false (by omega)
        have u23 : decide (a.code = 23) = true := decide_eq_true (by omega)
        exact ⟨_, by unfold s_triuneref07_Right rqE anE at *; simp -implicitDefEqProofs (disch := first | omega | (simp only [List.length_set, List.length_append, List.length_cons, List.length_nil, List.length_take, List.length_drop, List.length_map]; omega) | simp) [wrap_i64, wrap_u16_id, wrap_u8_id, tdiv_pos, tmod_pos, -getElem?_pos, -getElem?_neg, -List.length_eq_zero_iff, -List.getElem_cons_drop, k1, q, s_triuneref07_Right_O0, z, u3, u4, u23, d1, hD, c1, c2]; rfl⟩
    by_cases c3 : x.texts.length = 0
    case neg =>
      refine go false (by rw [av]; simp [c3]) ?_
      rcases d2 with d2 | d2 | d2
      · have u3 : decide (a.code = 3) = true := decide_eq_true (by omega)
        have u4 : decide (a.code = 4) = false := decide_eq_false (by omega)
        have u23 : decide (a.code = 23) = false := decide_eq_false (by omega)
        exact ⟨_, by unfold s_triuneref07_Right rqE anE at *; simp -implicitDefEqProofs (disch := first | omega | (simp only [List.length_set, List.length_append, List.length_cons, List.length_nil, List.length_take, List.length_drop, List.length_map]; omega) | simp) [wrap_i64, wrap_u16_id, wrap_u8_id, tdiv_pos, tmod_pos, -getElem?_pos, -getElem?_neg, -List.length_eq_zero_iff, -List.getElem_cons_drop, k1, q, s_triuneref07_Right_O0, z, u3, u4, u23, d1, hD, c1, c2, c3]; rfl⟩
      · have u3 : decide (a.code = 3) = false := decide_eq_false (by omega)
        have u4 : decide (a.code = 4) = true := decide_eq_true (by omega)
        have u23 : decide (a.code = 23) = false := decide_eq_false (by omega)
        exact ⟨_, by unfold s_triuneref07_Right rqE anE at *; simp -implicitDefEqProofs (disch := first | omega | (simp only [List.length_set, List.length_append, List.length_cons, List.length_nil, List.length_take, List.length_drop, List.length_map]; omega) | simp) [wrap_i64, wrap_u16_id, wrap_u8_id, tdiv_pos, tmod_pos, -getElem?_pos, -getElem?_neg, -List.length_eq_zero_iff, -List.getElem_cons_drop, k1, q, s_triuneref07_Right_O0, z, u3, u4, u23, d1, hD, c1, c2, c3]; rfl⟩
      · have u3 : decide (a.code = 3) = false := decide_eq_false (by omega)
        have u4 : decide (a.code = 4) = false := decide_eq_false (by omega)
        have u23 : decide (a.code = 23) = true := decide_eq_true (by omega)
        exact ⟨_, by unfold s_triuneref07_Right rqE anE at *; simp -implicitDefEqProofs (disch := first | omega | (simp only [List.length_set, List.length_append, List.length_cons, List.length_nil, List.length_take, List.length_drop, List.length_map]; omega) | simp) [wrap_i64, wrap_u16_id, wrap_u8_id, tdiv_pos, tmod_pos, -getElem?_pos, -getElem?_neg, -List.length_eq_zero_iff, -List.getElem_cons_drop, k1, q, s_triuneref07_Right_O0, z, u3, u4, u23, d1, hD, c1, c2, c3]; rfl⟩
    have hT : shortT x.texts = true := by rw [List.eq_nil_of_length_eq_zero c3]; rfl
    rw [hT] at q
    refine go true (by rw [av]; simp [c1, c2, c3]) ?_
    rcases d2 with d2 | d2 | d2
    · have u3 : decide (a.code = 3) = true := decide_eq_true (by omega)
      have u4 : decide (a.code = 4) = false := decide_eq_false (by omega)
      have u23 : decide (a.code = 23) = false := decide_eq_false (by omega)
      exact ⟨_, by unfold s_triuneref07_Right rqE anE at *; simp -implicitDefEqProofs (disch := first | omega | (simp only [List.length_set, List.length_append, List.length_cons, List.length_nil, List.length_take, List.length_drop, List.length_map]; omega) | simp) [wrap_i64, wrap_u16_id, wrap_u8_id, tdiv_pos, tmod_pos, -getElem?_pos, -getElem?_neg, -List.length_eq_zero_iff, -List.getElem_cons_drop, k1, q, s_triuneref07_Right_O0, z, u3, u4, u23, d1, hD, c1, c2, c3]; rfl⟩
    · have u3 : decide (a.code = 3) = false := decide_eq_false (by omega)
      have u4 : decide (a.code = 4) = true := decide_eq_true (by omega)
      have u23 : decide (a.code = 23) = false := decide_eq_false (by omega)
      exact ⟨_, by unfold s_triuneref07_Right rqE anE at *; simp -implicitDefEqProofs (disch := first | omega | (simp only [List.length_set, List.length_append, List.length_cons, List.length_nil, List.length_take, List.length_drop, List.length_map]; omega) | simp) [wrap_i64, wrap_u16_id, wrap_u8_id, tdiv_pos, tmod_pos, -getElem?_pos, -getElem?_neg, -List.length_eq_zero_iff, -List.getElem_cons_drop, k1, q, s_triuneref07_Right_O0, z, u3, u4, u23, d1, hD, c1, c2, c3]; rfl⟩
    · have u3 : decide (a.code = 3) = false := decide_eq_false (by omega)
      have u4 : decide (a.code = 4) = false := decide_eq_false (by omega)
      have u23 : decide (a.code = 23) = true := decide_eq_true (by omega)
      exact ⟨_, by unfold s_triuneref07_Right rqE anE at *; simp -implicitDefEqProofs (disch := first | omega | (simp only [List.length_set, List.length_append, List.length_cons, List.length_nil, List.length_take, List.length_drop, List.length_map]; omega) | simp) [wrap_i64, wrap_u16_id, wrap_u8_id, tdiv_pos, tmod_pos, -getElem?_pos, -getElem?_neg, -List.length_eq_zero_iff, -List.getElem_cons_drop, k1, q, s_triuneref07_Right_O0, z, u3, u4, u23, d1, hD, c1, c2, c3]; rfl⟩
  have d3 : a.code ≠ 3 := by omega
  have d4 : a.code ≠ 4 := by omega
  have d5 : a.code ≠ 23 := by omega
  have u3 : decide (a.code = 3) = false := decide_eq_false d3
  have u4 : decide (a.code = 4) = false := decide_eq_false d4
  have u23 : decide (a.code = 23) = false := decide_eq_false d5
  by_cases d6 : a.code = 43
  · have hA : rdBits a.code = false := by unfold rdBits; exact decide_eq_false (by omega)
    have hB : rdWords a.code = false := by unfold rdWords; exact decide_eq_false (by omega)
    have hC : rdTexts a.code = true := by unfold rdTexts; exact decide_eq_true (by omega)
    have hD : decide (a.code = 43) = true := decide_eq_true d6
    have av : ansV a x = (decide ((x.bits.length : Int) = 0) && decide ((x.words.length : Int) = 0) && fitA a.addr x.texts) := by unfold ansV ansB; simp [hr, z, hA, hB, hC]
    by_cases c1 : (x.bits.length : Int) = 0
    case neg =>
      have c1 : ¬ x.bits.length = 0 := by omega
      refine go false (by rw [av]; simp [c1]) ?_
      exact ⟨_, by unfold s_triuneref07_Right rqE anE at *; simp -implicitDefEqProofs (disch := first | omega | (simp only [List.length_set, List.length_append, List.length_cons, List.length_nil, List.length_take, List.length_drop, List.length_map]; omega) | simp) [wrap_i64, wrap_u16_id, wrap_u8_id, tdiv_pos, tmod_pos, -getElem?_pos, -getElem?_neg, -List.length_eq_zero_iff, -List.getElem_cons_drop, k1, q, s_triuneref07_Right_O0, z, d1, u3, u4, u23, hD, c1]; rfl⟩
    by_cases c2 : (x.words.length : Int) = 0
    case neg =>
      have c2 : ¬ x.words.length = 0 := by omega
      refine go false (by rw [av]; simp [c2]) ?_
      exact ⟨_, by unfold s_triuneref07_Right rqE anE at *; simp -implicitDefEqProofs (disch := first | omega | (simp only [List.length_set, List.length_append, List.length_cons, List.length_nil, List.length_take, List.length_drop, List.length_map]; omega) | simp) [wrap_i64, wrap_u16_id, wrap_u8_id, tdiv_pos, tmod_pos, -getElem?_pos, -getElem?_neg, -List.length_eq_zero_iff, -List.getElem_cons_drop, k1, q, s_triuneref07_Right_O0, z, d1, u3, u4, u23, hD, c1, c2]; rfl⟩
    by_cases c3 : 0 < x.texts.length
    case neg =>
      refine go false (by rw [av]; unfold fitA; simp [c3]) ?_
      exact ⟨_, by unfold s_triuneref07_Right rqE anE at *; simp -implicitDefEqProofs (disch := first | omega | (simp only [List.length_set, List.length_append, List.length_cons, List.length_nil, List.length_take, List.length_drop, List.length_map]; omega) | simp) [wrap_i64, wrap_u16_id, wrap_u8_id, tdiv_pos, tmod_pos, -getElem?_pos, -getElem?_neg, -List.length_eq_zero_iff, -List.getElem_cons_drop, k1, q, s_triuneref07_Right_O0, z, d1, u3, u4, u23, hD, c1, c2, c3]; rfl⟩
    cases hT : shortT x.texts with
    | false =>
      rw [hT] at q
      refine go false (by rw [av]; unfold fitA; rw [fitT_eq, hT]; simp) ?_
      exact ⟨_, by unfold s_triuneref07_Right rqE anE at *; simp -implicitDefEqProofs (disch := first | omega | (simp only [List.length_set, List.length_append, List.length_cons, List.length_nil, List.length_take, List.length_drop, List.length_map]; omega) | simp) [wrap_i64, wrap_u16_id, wrap_u8_id, tdiv_pos, tmod_pos, -getElem?_pos, -getElem?_neg, -List.length_eq_zero_iff, -List.getElem_cons_drop, k1, q, s_triuneref07_Right_O0, z, d1, u3, u4, u23, hD, c1, c2, c3]; rfl⟩
    | true =>
      rw [hT] at q
      by_cases c4 : longI 7 x.texts ≤ 253
      case neg =>
        refine go false (by rw [av]; unfold fitA; rw [fitT_eq, hT]; simp [c4]) ?_
        exact ⟨_, by unfold s_triuneref07_Right rqE anE at *; simp -implicitDefEqProofs (disch := first | omega | (simp only [List.length_set, List.length_append, List.length_cons, List.length_nil, List.length_take, List.length_drop, List.length_map]; omega) | simp) [wrap_i64, wrap_u16_id, wrap_u8_id, tdiv_pos, tmod_pos, -getElem?_pos, -getElem?_neg, -List.length_eq_zero_iff, -List.getElem_cons_drop, k1, q, s_triuneref07_Right_O0, z, d1, u3, u4, u23, hD, k2, c1, c2, c3, c4]; rfl⟩
      by_cases c5 : a.addr + x.texts.length ≤ 256
      case neg =>
        refine go false (by rw [av]; unfold fitA; simp [c5]) ?_
        exact ⟨_, by unfold s_triuneref07_Right rqE anE at *; simp -implicitDefEqProofs (disch := first | omega | (simp only [List.length_set, List.length_append, List.length_cons, List.length_nil, List.length_take, List.length_drop, List.length_map]; omega) | simp) [wrap_i64, wrap_u16_id, wrap_u8_id, tdiv_pos, tmod_pos, -getElem?_pos, -getElem?_neg, -List.length_eq_zero_iff, -List.getElem_cons_drop, k1, q, s_triuneref07_Right_O0, z, d1, u3, u4, u23, hD, k2, c1, c2, c3, c4, c5]; rfl⟩
      refine go true (by rw [av]; unfold fitA; rw [fitT_eq, hT]; simp [c1, c2, c3, c4, c5]) ?_
      exact ⟨_, by unfold s_triuneref07_Right rqE anE at *; simp -implicitDefEqProofs (disch := first | omega | (simp only [List.length_set, List.length_append, List.length_cons, List.length_nil, List.length_take, List.length_drop, List.length_map]; omega) | simp) [wrap_i64, wrap_u16_id, wrap_u8_id, tdiv_pos, tmod_pos, -getElem?_pos, -getElem?_neg, -List.length_eq_zero_iff, -List.getElem_cons_drop, k1, q, s_triuneref07_Right_O0, z, d1, u3, u4, u23, hD, k2, c1, c2, c3, c4, c5]; rfl⟩
  · have hA : rdBits a.code = false := by unfold rdBits; exact decide_eq_false (by omega)
    have hB : rdWords a.code = false := by unfold rdWords; exact decide_eq_false (by omega)
    have hC : rdTexts a.code = false := by unfold rdTexts; exact decide_eq_false (by omega)
    have hD : decide (a.code = 43) = false := decide_eq_false (by omega)
    have av : ansV a x = (decide ((x.bits.length : Int) = 0) && decide ((x.words.length : Int) = 0) && decide ((x.texts.length : Int) = 0)) := by unfold ansV ansB; simp [hr, z, hA, hB, hC]
    by_cases c1 : (x.bits.length : Int) = 0
    case neg =>
      have c1 : ¬ x.bits.length = 0 := by omega
      refine go false (by rw [av]; simp [c1]) ?_
      exact ⟨_, by unfold s_triuneref07_Right rqE anE at *; simp -implicitDefEqProofs (disch := first | omega | (simp only [List.length_set, List.length_append, List.length_cons, List.length_nil, List.length_take, List.length_drop, List.length_map]; omega) | simp) [wrap_i64, wrap_u16_id, wrap_u8_id, tdiv_pos, tmod_pos, -getElem?_pos, -getElem?_neg, -List.length_eq_zero_iff, -List.getElem_cons_drop, k1, q, s_triuneref07_Right_O0, z, d1, u3, u4, u23, hD, c1]; rfl⟩
    by_cases c2 : (x.words.length : Int) = 0
    case neg =>
      have c2 : ¬ x.words.length = 0 := by omega
      refine go false (by rw [av]; simp [c2]) ?_
      exact ⟨_, by unfold s_triuneref07_Right rqE anE at *; simp -implicitDefEqProofs (disch := first | omega | (simp only [List.length_set, List.length_append, List.length_cons, List.length_nil, List.length_take, List.length_drop, List.length_map]; omega) | simp) [wrap_i64, wrap_u16_id, wrap_u8_id, tdiv_pos, tmod_pos, -getElem?_pos, -getElem?_neg, -List.length_eq_zero_iff, -List.getElem_cons_drop, k1, q, s_triuneref07_Right_O0, z, d1, u3, u4, u23, hD, c1, c2]; rfl⟩
    by_cases c3 : x.texts.length = 0
    case neg =>
      refine go false (by rw [av]; simp [c3]) ?_
      exact ⟨_, by unfold s_triuneref07_Right rqE anE at *; simp -implicitDefEqProofs (disch := first | omega | (simp only [List.length_set, List.length_append, List.length_cons, List.length_nil, List.length_take, List.length_drop, List.length_map]; omega) | simp) [wrap_i64, wrap_u16_id, wrap_u8_id, tdiv_pos, tmod_pos, -getElem?_pos, -getElem?_neg, -List.length_eq_zero_iff, -List.getElem_cons_drop, k1, q, s_triuneref07_Right_O0, z, d1, u3, u4, u23, hD, c1, c2, c3]; rfl⟩
    have hT : shortT x.texts = true := by rw [List.eq_nil_of_length_eq_zero c3]; rfl
    rw [hT] at q
    refine go true (by rw [av]; simp [c1, c2, c3]) ?_
    exact ⟨_, by unfold s_triuneref07_Right rqE anE at *; simp -implicitDefEqProofs (disch := first | omega | (simp only [List.length_set, List.length_append, List.length_cons, List.length_nil, List.length_take, List.length_drop, List.length_map]; omega) | simp) [wrap_i64, wrap_u16_id, wrap_u8_id, tdiv_pos, tmod_pos, -getElem?_pos, -getElem?_neg, -List.length_eq_zero_iff, -List.getElem_cons_drop, k1, q, s_triuneref07_Right_O0, z, d1, u3, u4, u23, hD, c1, c2, c3]; rfl⟩
end Go.Proofs.YtcpgmbpndpcmdaaGreat
namespace Go.Proofs.YtcpgmbpndpcmdaaGreat
open Go
set_option linter.unusedSimpArgs false
set_option linter.unusedVariables false
set_option maxRecDepth 100000
theorem mapO_byteOf (l : List Int) (h : Bytes l) : mapO byteOf (l.map (I .u8)) = some (toB l) := by
  induction l with
  | nil => rfl
  | cons a l ih =>
    rw [List.map_cons, mapO_cons, ih (fun x hx => h x (by simp [hx]))]
    have : byteOf (I .u8 a) = some (lowB a) := by unfold byteOf; simp only; rw [if_pos (h a (by simp))]; rfl
    rw [this]
    rfl
theorem conv_bytes (l : List Int) (t : Tag) (h : Bytes l) : convD Tryz.prog 41 9 (LV 1 (I .u8) l t) = some (Sg (bA l)) := by
  obtain ⟨s, e, _⟩ := LV_list 1 (I .u8) l t
  rw [e]
  unfold convD strD
  simp only [Tryz.underlying9, Tryz.underlying41, Tryz.underlying5]
  rw [mapO_byteOf l h]
  rfl
def q0A (a : Rq) : DBlk := .cells 58 [I .i64 a.code, I .i64 a.addr, I .i64 a.cnt, I .i64 a.to_, LV 1 (I .u16) a.words .sh, LV 1 Bo a.bits .sh, I .u16 a.and_, I .u16 a.or_]
def z1A : DBlk := .cells 51 [I .i64 0, .list 0 [] .ti, .list 0 [] .ti, .list 0 [] .ti]
def b2A (bl tl : DV) : DBlk := .cells 51 [I .i64 0, bl, .list 0 [] .ti, tl]
theorem g7_L1 (n fl : Nat) (K : Ex → KF) (x2 x4 x5 x6 : DV) (i : Nat) (hi : i ≤ 1000000) (H : Heap) : ∀ (m k : Nat) (c : Int), 0 ≤ c → c < 256 → k ≤ i % 8 → i % 8 < m + k →
    s_triuneref07_guess_L1 n fl K m x2 x4 x5 x6 (I .i64 i) (I .i64 c) (I .i64 k) H = K (.exit 3) (s_triuneref07_guess_O1 x2 x4 x5 x6 (I .i64 i) (I .i64 (c / 2 ^ (i % 8 - k)))) H := by
  intro m
  induction m with
  | zero => intro k c h0 h1 h2 h3; omega
  | succ m ih =>
    intro k c h0 h1 h2 h3
    unfold s_triuneref07_guess_L1 s_triuneref07_guess_B1
    by_cases h : k < i % 8
    · have ih' := ih (k + 1) (c / 2) (by omega) (by omega) (by omega) (by omega)
      have hk : ((k + 1 : Nat) : Int) = (k : Int) + 1 := by omega
      have hp : c / 2 / 2 ^ (i % 8 - (k + 1)) = c / 2 ^ (i % 8 - k) := by
        have e : i % 8 - k = (i % 8 - (k + 1)) + 1 := by omega
        rw [e, Int.pow_succ, Int.mul_comm, ← Int.ediv_ediv_of_nonneg (by omega)]
      rw [hk, hp] at ih'
      have hd : decide ((k : Int) < (i : Int) % 8) = true := by simp; omega
      simp -implicitDefEqProofs (disch := first | omega | (simp only [List.length_set, List.length_append, List.length_cons, List.length_nil, List.length_take, List.length_drop, List.length_map]; omega) | simp) [wrap_i64, wrap_u16_id, wrap_u8_id, tdiv_pos, tmod_pos, -getElem?_pos, -getElem?_neg, -List.length_eq_zero_iff, -List.getElem_cons_drop, hd, ih']
    · have : k = i % 8 := by omega
      have hd : decide ((k : Int) < (i : Int) % 8) = false := by simp; omega
      have e : i % 8 - k = 0 := by omega
      rw [e]
      simp -implicitDefEqProofs (disch := first | omega | (simp only [List.length_set, List.length_append, List.length_cons, List.length_nil, List.length_take, List.length_drop, List.length_map]; omega) | simp) [wrap_i64, wrap_u16_id, wrap_u8_id, tdiv_pos, tmod_pos, -getElem?_pos, -getElem?_neg, -List.length_eq_zero_iff, -List.getElem_cons_drop, hd]
theorem app3B0 (x : Bool) (b0 b1 b2 : DBlk) : appG 4 false 1 1 (.list 0 [] .ti) (LV 1 Bo [x] .ti) [b0, b1, b2] 0 = some (LOb [x] 3, [b0, b1, b2, .token 4 1 1]) := rfl
theorem app3B1 (xs : List Bool) (x : Bool) (b0 b1 b2 : DBlk) (m : Nat) (hm : m = xs.length) (hl : m ≤ 1000000) : appG 4 false 1 1 (LOb xs 3) (LV 1 Bo [x] .ti) [b0, b1, b2, .token 4 1 m] 0 = some (LOb (xs ++ [x]) 3, [b0, b1, b2, .token 4 1 (m + 1)]) := by
  subst hm
  have hc : chunkOk false 1 0 = true := rfl
  have h3 : xs.length + 1 ≤ 140737488355328 := by omega
  show appG 4 false 1 1 (.list 1 (xs.map Bo) (.own 3)) (.list 1 [Bo x] .ti) _ 0 = _
  unfold appG appendD srcD LOb
  simp [effH, Eff.heap, hc, h3]
theorem g7_L0 (n : Nat) (hn : 20 ≤ n) (K : Ex → KF) (a : Rq) (h0 : 0 ≤ a.cnt) (hnn : a.cnt < 65536) (p : List Int) (hp : Bytes p) (hpl : p.length ≤ 10000) : ∀ (m i : Nat), min a.cnt.toNat (8 * p.length) < m + i → 1 ≤ i → i ≤ min a.cnt.toNat (8 * p.length) →
    s_triuneref07_guess_L0 n 0 K m (.ptr 0 0) (.ptr 1 0) (.ptr 2 0) (LV 1 (I .u8) p .sh) (I .i64 i) [q0A a, z1A, b2A (LOb ((List.range i).map (pbit p)) 3) (.list 0 [] .ti), .token 4 1 i] = K (.exit 1) (s_triuneref07_guess_O0 (.ptr 1 0) (.ptr 2 0)) [q0A a, z1A, b2A (LOb (gBits a.cnt p) 3) (.list 0 [] .ti), .token 4 1 (min a.cnt.toNat (8 * p.length))] := by
  intro m
  induction m with
  | zero => intro i h h1 h2; omega
  | succ m ih =>
    intro i hm h1 h2
    by_cases h : i < min a.cnt.toNat (8 * p.length)
    · obtain ⟨h', b0, b1, hb⟩ := round_ok p hp i (by omega)
      have q : ∀ K H, loopG [2, 4, 5, 6, 7, 8, 9] [2, 4, 5, 6, 7, 8] 135 (s_triuneref07_guess_b1 n 0) n (s_triuneref07_guess_I1 (.ptr 0 0) (.ptr 1 0) (.ptr 2 0) (LV 1 (I .u8) p .sh) (I .i64 i) (I .i64 p[i / 8]) (I .i64 0)) H K = _ := fun K H => (s_triuneref07_guess_L1_eq _ _ _ _ _ _ _ _ _ _ _ _).trans (g7_L1 n 0 K (.ptr 0 0) (.ptr 1 0) (.ptr 2 0) (LV 1 (I .u8) p .sh) i (by omega) H n 0 p[i / 8] b0 b1 (by omega) (by omega))
      have a1 := fun b0 b1 b2 => app3B1 ((List.range i).map (pbit p)) (decide (p[i / 8] / 2 ^ (i % 8) % 2 = 1)) b0 b1 b2 i (by simp) (by omega)
      rw [← hb, show (List.range i).map (pbit p) ++ [pbit p i] = (List.range (i + 1)).map (pbit p) by rw [List.range_succ, List.map_append]; rfl] at a1
      have ih' := ih (i + 1) (by omega) (by omega) (by omega)
      have hi2 : ((i + 1 : Nat) : Int) = (i : Int) + 1 := by omega
      rw [hi2] at ih'
      have e3 : ((i : Int) / 8).toNat = i / 8 := by omega
      have hpos : 0 ≤ p[i / 8] / 2 ^ (i % 8) := Int.ediv_nonneg b0 (by have := Int.pow_pos (n := 2) (m := i % 8) (by omega); omega)
      have v : buildL false 1 1 (Bo false) [(0, Bo (decide (p[i / 8] / 2 ^ (i % 8) % 2 = 1)))] = some (LV 1 Bo [pbit p i] .ti) := by rw [hb]; exact buildL_b1 _
      have g1 : (i : Int) < a.cnt := by omega
      have g2 : (i : Int) < 8 * p.length := by omega
      have g3 := Int.pow_pos (n := 2) (m := i % 8) (by omega)
      have g4 : p[i / 8] / 2 ^ (i % 8) ≤ p[i / 8] := Int.ediv_le_self _ b0
      unfold s_triuneref07_guess_L0 s_triuneref07_guess_B0
      unfold q0A z1A b2A at *
      simp -implicitDefEqProofs (disch := first | omega | (simp only [List.length_set, List.length_append, List.length_cons, List.length_nil, List.length_take, List.length_drop, List.length_map]; omega) | simp) [wrap_i64, wrap_u16_id, wrap_u8_id, tdiv_pos, tmod_pos, -getElem?_pos, -getElem?_neg, -List.length_eq_zero_iff, -List.getElem_cons_drop, g1, g2, e3, h', q, s_triuneref07_guess_O1, v, a1, LOb_leaf, LOb_cells, ih']
    · have hi : i = min a.cnt.toNat (8 * p.length) := by omega
      have e : (List.range i).map (pbit p) = gBits a.cnt p := by rw [hi]; rfl
      rw [e, ← hi]
      unfold s_triuneref07_guess_L0 s_triuneref07_guess_B0
      unfold q0A z1A b2A
      by_cases g1 : (i : Int) < a.cnt
      · have g2 : ¬ (i : Int) < 8 * p.length := by omega
        simp -implicitDefEqProofs (disch := first | omega | (simp only [List.length_set, List.length_append, List.length_cons, List.length_nil, List.length_take, List.length_drop, List.length_map]; omega) | simp) [wrap_i64, wrap_u16_id, wrap_u8_id, tdiv_pos, tmod_pos, -getElem?_pos, -getElem?_neg, -List.length_eq_zero_iff, -List.getElem_cons_drop, g1, g2]
      · simp -implicitDefEqProofs (disch := first | omega | (simp only [List.length_set, List.length_append, List.length_cons, List.length_nil, List.length_take, List.length_drop, List.length_map]; omega) | simp) [wrap_i64, wrap_u16_id, wrap_u8_id, tdiv_pos, tmod_pos, -getElem?_pos, -getElem?_neg, -List.length_eq_zero_iff, -List.getElem_cons_drop, g1]
theorem g7_bits (n : Nat) (hn : 31000 ≤ n) (a : Rq) (h0 : 0 ≤ a.cnt) (hnn : a.cnt < 65536) (p : List Int) (hp : Bytes p) (hpl : p.length ≤ 600) : ∃ bl H, (∀ H', outLeaf false H' bl = some (LV 1 Bo (gBits a.cnt p) .sh)) ∧ bl.leaf = true ∧ bl.cells = [bl] ∧
    ∀ K, loopG [2, 4, 5, 6, 7] [4, 5] 135 (s_triuneref07_guess_b0 n 0) n (s_triuneref07_guess_I0 (.ptr 0 0) (.ptr 1 0) (.ptr 2 0) (LV 1 (I .u8) p .sh) (I .i64 0)) [q0A a, z1A, z1A] K = K (.exit 1) (s_triuneref07_guess_O0 (.ptr 1 0) (.ptr 2 0)) (q0A a :: z1A :: b2A bl (.list 0 [] .ti) :: H) := by
  obtain ⟨m, rfl⟩ : ∃ m, n = m + 1 := ⟨n - 1, by omega⟩
  by_cases h : min a.cnt.toNat (8 * p.length) = 0
  · refine ⟨.list 0 [] .ti, [], fun H' => by rw [gBits_nil _ _ h]; rfl, rfl, rfl, fun K => ?_⟩
    rw [s_triuneref07_guess_L0_eq]
    unfold s_triuneref07_guess_L0 s_triuneref07_guess_B0
    unfold q0A z1A b2A
    by_cases g1 : (0 : Int) < a.cnt
    · have g2 : ¬ (0 : Int) < 8 * p.length := by omega
      simp -implicitDefEqProofs (disch := first | omega | (simp only [List.length_set, List.length_append, List.length_cons, List.length_nil, List.length_take, List.length_drop, List.length_map]; omega) | simp) [wrap_i64, wrap_u16_id, wrap_u8_id, tdiv_pos, tmod_pos, -getElem?_pos, -getElem?_neg, -List.length_eq_zero_iff, -List.getElem_cons_drop, g1, g2]
    · simp -implicitDefEqProofs (disch := first | omega | (simp only [List.length_set, List.length_append, List.length_cons, List.length_nil, List.length_take, List.length_drop, List.length_map]; omega) | simp) [wrap_i64, wrap_u16_id, wrap_u8_id, tdiv_pos, tmod_pos, -getElem?_pos, -getElem?_neg, -List.length_eq_zero_iff, -List.getElem_cons_drop, g1]
  · refine ⟨LOb (gBits a.cnt p) 3, [.token 4 1 (min a.cnt.toNat (8 * p.length))], fun H' => ?_, rfl, rfl, fun K => ?_⟩
    · have hl := gBits_len a.cnt p
      generalize gBits a.cnt p = g at hl
      cases g with
      | nil => exact absurd hl.symm h
      | cons x g => rfl
    · rw [s_triuneref07_guess_L0_eq]
      obtain ⟨h', b0, b1, hb⟩ := round_ok p hp 0 (by omega)
      have q : ∀ K H, loopG [2, 4, 5, 6, 7, 8, 9] [2, 4, 5, 6, 7, 8] 135 (s_triuneref07_guess_b1 (m + 1) 0) (m + 1) (s_triuneref07_guess_I1 (.ptr 0 0) (.ptr 1 0) (.ptr 2 0) (LV 1 (I .u8) p .sh) (I .i64 0) (I .i64 p[0 / 8]) (I .i64 0)) H K = _ := fun K H => (s_triuneref07_guess_L1_eq _ _ _ _ _ _ _ _ _ _ _ _).trans (g7_L1 (m + 1) 0 K (.ptr 0 0) (.ptr 1 0) (.ptr 2 0) (LV 1 (I .u8) p .sh) 0 (by omega) H (m + 1) 0 p[0 / 8] b0 b1 (by omega) (by omega))
      have a1 := fun b0 b1 b2 => app3B0 (pbit p 0) b0 b1 b2
      have ih' := g7_L0 (m + 1) (by omega) K a h0 hnn p hp (by omega) m 1 (by omega) (by omega) (by omega)
      have e5 : (List.range 1).map (pbit p) = [pbit p 0] := rfl
      rw [e5] at ih'
      have v : buildL false 1 1 (Bo false) [(0, Bo (decide (p[0 / 8] / 2 ^ (0 % 8) % 2 = 1)))] = some (LV 1 Bo [pbit p 0] .ti) := by rw [hb]; exact buildL_b1 _
      have g1 : (0 : Int) < a.cnt := by omega
      have g2 : (0 : Int) < 8 * p.length := by omega
      have g5 : 0 < p.length := by omega
      simp only [Nat.zero_div, Nat.zero_mod, Nat.pow_zero, Nat.sub_zero, Int.pow_zero, Int.ediv_one] at q v b0 b1
      unfold s_triuneref07_guess_L0 s_triuneref07_guess_B0
      unfold q0A z1A b2A at *
      simp -implicitDefEqProofs (disch := first | omega | (simp only [List.length_set, List.length_append, List.length_cons, List.length_nil, List.length_take, List.length_drop, List.length_map]; omega) | simp) [wrap_i64, wrap_u16_id, wrap_u8_id, tdiv_pos, tmod_pos, -getElem?_pos, -getElem?_neg, -List.length_eq_zero_iff, -List.getElem_cons_drop, g1, g2, g5, h', q, s_triuneref07_guess_O1, v, a1, LOb_leaf, LOb_cells]
      exact ih'
def LOs (xs : List ByteArray) (k : Nat) : DV := .list 1 (xs.map Sg) (.own k)
def tlD : List ByteArray → DV
  | [] => .list 0 [] .ti
  | x :: l => LOs (x :: l) 3
def tkH : List ByteArray → Heap
  | [] => []
  | x :: l => [.token 9 1 (l.length + 1)]
theorem tlD_leaf (l : List ByteArray) : (tlD l).leaf = true := by cases l <;> rfl
theorem tlD_cells (l : List ByteArray) : (tlD l).cells = [tlD l] := by cases l <;> rfl
theorem app3S (xs : List ByteArray) (x : ByteArray) (b0 b1 b2 : DBlk) (hl : xs.length ≤ 1000000) : appG 9 false 1 16 (tlD xs) (LV 1 Sg [x] .ti) (b0 :: b1 :: b2 :: tkH xs) 0 = some (tlD (xs ++ [x]), b0 :: b1 :: b2 :: tkH (xs ++ [x])) := by
  cases xs with
  | nil => rfl
  | cons y xs =>
    have hc : chunkOk false 1 0 = true := rfl
    simp only [List.length_cons] at hl
    have h3 : xs.length ≤ 140737488355326 := by omega
    have h4 : (xs.length + 1 + 1) * 16 ≤ 140737488355328 := by omega
    show appG 9 false 1 16 (.list 1 ((y :: xs).map Sg) (.own 3)) (.list 1 [Sg x] .ti) [b0, b1, b2, .token 9 1 (xs.length + 1)] 0 = some (.list 1 ((y :: (xs ++ [x])).map Sg) (.own 3), [b0, b1, b2, .token 9 1 ((xs ++ [x]).length + 1)])
    unfold appG appendD srcD
    simp [effH, Eff.heap, hc, h3, h4]
theorem buildL_s1 (x : ByteArray) : buildL false 1 1 (.flat (.string ⟨#[]⟩)) [(0, Sg x)] = some (LV 1 Sg [x] .ti) := rfl
theorem gTx_step (k : Nat) (c n : Int) (r : List Int) (h : n ≤ (r.length : Int)) : gTx (k + 1) (c :: n :: r) = bA (r.take n.toNat) :: gTx k (r.drop n.toNat) := by
  show (if n ≤ (r.length : Int) then _ else _) = _
  rw [if_pos h]
theorem gTx_stop (k : Nat) (c n : Int) (r : List Int) (h : ¬ n ≤ (r.length : Int)) : gTx k (c :: n :: r) = [] := by
  cases k with
  | zero => rfl
  | succ k =>
    show (if n ≤ (r.length : Int) then _ else _) = _
    rw [if_neg h]
theorem g7_L2 (n : Nat) (K : Ex → KF) (a : Rq) (b : List Int) (hb : Bytes b) (hbl : b.length ≤ 600) : ∀ (m i k : Nat) (acc : List ByteArray), b.length + 7 < m + i → i ≤ b.length + 7 → b.length ≤ k + i → acc.length + b.length ≤ 700 + i →
    ∃ H', H' = tkH (acc ++ gTx k (b.drop i)) ∧ s_triuneref07_guess_L2 n 0 K m (LV 1 (I .u8) b .sh) (.ptr 1 0) (.ptr 2 0) (I .i64 i) (q0A a :: z1A :: b2A (.list 0 [] .ti) (tlD acc) :: tkH acc) = K (.exit 5) (s_triuneref07_guess_O2 (.ptr 1 0) (.ptr 2 0)) (q0A a :: z1A :: b2A (.list 0 [] .ti) (tlD (acc ++ gTx k (b.drop i))) :: H') := by
  intro m
  induction m with
  | zero =>
    intro i k acc h1 hi7 h2 h3
    omega
  | succ m ih =>
    intro i k acc h1 hi7 h2 h3
    by_cases h : i + 1 < b.length
    · have hd : b.drop i = b[i] :: b[i + 1] :: b.drop (i + 2) := by rw [List.drop_eq_getElem_cons (by omega : i < b.length), List.drop_eq_getElem_cons h]
      have hn := hb _ (List.getElem_mem h)
      obtain ⟨nn, hnn⟩ : ∃ nn : Nat, b[i + 1] = (nn : Int) := ⟨b[i + 1].toNat, by omega⟩
      have g0 : (i : Int) + 1 < b.length := by omega
      have gi : ((i : Int) + 1).toNat = i + 1 := by omega
      by_cases h4 : i + 2 + nn ≤ b.length
      · obtain ⟨k, rfl⟩ : ∃ k', k = k' + 1 := ⟨k - 1, by omega⟩
        have e1 : gTx (k + 1) (b.drop i) = bA ((b.drop (i + 2)).take nn) :: gTx k (b.drop (i + 2 + nn)) := by
          rw [hd, hnn, gTx_step k b[i] nn _ (by rw [List.length_drop]; omega), Int.toNat_natCast, List.drop_drop]
        have e2 : (b.take (i + 2 + nn)).drop (i + 2) = (b.drop (i + 2)).take nn := by rw [List.drop_take]; congr 1; omega
        have hby : Bytes ((b.take (i + 2 + nn)).drop (i + 2)) := bytes_drop (fun x hx => hb x (List.mem_of_mem_take hx)) _
        have cv := fun t => conv_bytes ((b.take (i + 2 + nn)).drop (i + 2)) t hby
        rw [e2] at cv
        have ap := fun b0 b1 b2 => app3S acc (bA ((b.drop (i + 2)).take nn)) b0 b1 b2 (by omega)
        have bs := buildL_s1 (bA ((b.drop (i + 2)).take nn))
        obtain ⟨H', hH', ih'⟩ := ih (i + 2 + nn) k (acc ++ [bA ((b.drop (i + 2)).take nn)]) (by omega) (by omega) (by omega) (by simp; omega)
        rw [e1]
        refine ⟨H', by rw [hH']; simp, ?_⟩
        have hi2 : ((i + 2 + nn : Nat) : Int) = (i : Int) + 2 + (nn : Int) := by omega
        rw [hi2, List.append_assoc, List.cons_append, List.nil_append] at ih'
        have g1 : (i : Int) + 2 + (nn : Int) ≤ b.length := by omega
        have g2 : ((i : Int) + 2).toNat = i + 2 := by omega
        have g3 : ((i : Int) + 2 + (nn : Int)).toNat = i + 2 + nn := by omega
        have gn : nn < 256 := by omega
        unfold s_triuneref07_guess_L2 s_triuneref07_guess_B2
        unfold q0A z1A b2A at *
        simp -implicitDefEqProofs (disch := first | omega | (simp only [List.length_set, List.length_append, List.length_cons, List.length_nil, List.length_take, List.length_drop, List.length_map]; omega) | simp) [wrap_i64, wrap_u16_id, wrap_u8_id, tdiv_pos, tmod_pos, -getElem?_pos, -getElem?_neg, -List.length_eq_zero_iff, -List.getElem_cons_drop, g0, gi, hnn, g1, g2, g3, e2, cv, bs, ap, tlD_leaf, tlD_cells, ih']
      · have e1 : gTx k (b.drop i) = [] := by
          rw [hd, hnn]
          exact gTx_stop k b[i] nn _ (by rw [List.length_drop]; omega)
        rw [e1, List.append_nil]
        refine ⟨tkH acc, rfl, ?_⟩
        have g1 : ¬ (i : Int) + 2 + (nn : Int) ≤ b.length := by omega
        have gn : nn < 256 := by omega
        unfold s_triuneref07_guess_L2 s_triuneref07_guess_B2
        unfold q0A z1A b2A
        simp -implicitDefEqProofs (disch := first | omega | (simp only [List.length_set, List.length_append, List.length_cons, List.length_nil, List.length_take, List.length_drop, List.length_map]; omega) | simp) [wrap_i64, wrap_u16_id, wrap_u8_id, tdiv_pos, tmod_pos, -getElem?_pos, -getElem?_neg, -List.length_eq_zero_iff, -List.getElem_cons_drop, g0, gi, hnn, g1]
    · have e1 : gTx k (b.drop i) = [] := by
        have : (b.drop i).length ≤ 1 := by rw [List.length_drop]; omega
        cases k with
        | zero => rfl
        | succ k =>
          match hd : b.drop i with
          | [] => rfl
          | [_] => rfl
          | _ :: _ :: _ => rw [hd] at this; simp at this
      rw [e1, List.append_nil]
      refine ⟨tkH acc, rfl, ?_⟩
      have g0 : ¬ (i : Int) + 1 < b.length := by omega
      unfold s_triuneref07_guess_L2 s_triuneref07_guess_B2
      unfold q0A z1A b2A
      simp -implicitDefEqProofs (disch := first | omega | (simp only [List.length_set, List.length_append, List.length_cons, List.length_nil, List.length_take, List.length_drop, List.length_map]; omega) | simp) [wrap_i64, wrap_u16_id, wrap_u8_id, tdiv_pos, tmod_pos, -getElem?_pos, -getElem?_neg, -List.length_eq_zero_iff, -List.getElem_cons_drop, g0]
theorem g7_L2x (n : Nat) (K : Ex → KF) (a : Rq) (b : List Int) (hb : Bytes b) (hbl : b.length ≤ 600) (m i k : Nat) (acc : List ByteArray) (h1 : b.length + 7 < m + i) (h2 : i ≤ b.length + 7) (h3 : b.length ≤ k + i) (h4 : acc.length + b.length ≤ 700 + i) :
    s_triuneref07_guess_L2 n 0 K m (LV 1 (I .u8) b .sh) (.ptr 1 0) (.ptr 2 0) (I .i64 i) (q0A a :: z1A :: b2A (.list 0 [] .ti) (tlD acc) :: tkH acc) = K (.exit 5) (s_triuneref07_guess_O2 (.ptr 1 0) (.ptr 2 0)) (q0A a :: z1A :: b2A (.list 0 [] .ti) (tlD (acc ++ gTx k (b.drop i))) :: tkH (acc ++ gTx k (b.drop i))) := by
  obtain ⟨H', e, h⟩ := g7_L2 n K a b hb hbl m i k acc h1 h2 h3 h4
  rw [← e]
  exact h
theorem tlD_out (H : Heap) (l : List ByteArray) : outLeaf false H (tlD l) = some (LV 1 Sg l .sh) := by cases l <;> rfl
end Go.Proofs.YtcpgmbpndpcmdaaGreat
namespace Go.Proofs.YtcpgmbpndpcmdaaGreat
open Go
set_option linter.unusedSimpArgs false
set_option linter.unusedVariables false
set_option maxRecDepth 100000
theorem guess07_c (n : Nat) (hn : 32000 ≤ n) (a : Rq) (hr : RightP a) (b : List Int) (hb : Bytes b) (hbl : b.length ≤ 600) (t1 t2 t : Tag) : cP n 53 false [rqE a t1 t2, LV 1 (I .u8) b t] = some (anE (guessA a b) .sh .sh .sh) := by
  obtain ⟨n, rfl⟩ : ∃ m, n = m + 1 := ⟨n - 1, by omega⟩
  have hcode := code_le hr
  obtain ⟨l1, l2, l3, l4, _⟩ := formed_le a hr.1
  have hvc := of_decide_eq_true hr.1.1
  have fin : ∀ B, (∃ H', s_triuneref07_guess n [] 0 (rqE a .sh .sh) (LV 1 (I .u8) b .sh) = some (B, H')) → (∀ H', outD false H' B = some (anE (guessA a b) .sh .sh .sh)) → cP (n + 1) 53 false [rqE a t1 t2, LV 1 (I .u8) b t] = some (anE (guessA a b) .sh .sh .sh) := by
    rintro B ⟨H', h1⟩ h2
    exact cP_of (r := B) (args' := [rqE a .sh .sh, LV 1 (I .u8) b .sh]) (by simp [argEl_eq, rqE]) ((s_triuneref07_guess_eq _ _ _ _ _).trans h1) (h2 H')
  by_cases he : b.length = 2 ∧ b.getD 0 0 = 128 + a.code
  · have eg : guessA a b = ⟨b.getD 1 0, [], [], []⟩ := by unfold guessA; rw [if_pos he]
    obtain ⟨x, y, rfl⟩ : ∃ x y, b = [x, y] := by
      match b, he.1 with
      | [x, y], _ => exact ⟨x, y, rfl⟩
    have hx : x = 128 + a.code := he.2
    have hy := hb y (by simp)
    have h0 := hb x (by simp)
    have w1 : IntKind.wrap .i64 (128 + a.code) = 128 + a.code := by simp [IntKind.wrap, IntKind.bits, IntKind.signed]; omega
    have hxd : decide (x = 128 + a.code) = true := decide_eq_true hx
    refine fin (.agg [I .i64 y, .list 0 [] .ti, .list 0 [] .ti, .list 0 [] .ti]) ⟨_, by unfold s_triuneref07_guess rqE; simp -implicitDefEqProofs (disch := first | omega | (simp only [List.length_set, List.length_append, List.length_cons, List.length_nil, List.length_take, List.length_drop, List.length_map]; omega) | simp) [wrap_i64, wrap_u16_id, wrap_u8_id, tdiv_pos, tmod_pos, -getElem?_pos, -getElem?_neg, -List.length_eq_zero_iff, -List.getElem_cons_drop, w1, hxd]; rfl⟩ (fun H' => by rw [eg]; rfl)
  have eg : guessA a b = if rdBits a.code = true then ⟨0, gBits a.cnt (b.drop 2), [], []⟩ else if rdWords a.code = true then ⟨0, [], wdI (b.drop 2), []⟩ else if rdTexts a.code = true then ⟨0, [], [], gTx b.length (b.drop 7)⟩ else anZ := by unfold guessA; rw [if_neg he]
  have hp : Bytes (b.drop 2) := bytes_drop hb 2
  have hpl : (b.drop 2).length ≤ 600 := by rw [List.length_drop]; omega
  obtain ⟨k0, hk0, hk1, hk2⟩ : ∃ k0 : Nat, min (2 : Int) (b.length : Int) = (k0 : Int) ∧ k0 ≤ b.length ∧ b.drop k0 = b.drop 2 := by
    by_cases h : 2 ≤ b.length
    · exact ⟨2, by omega, h, rfl⟩
    · exact ⟨b.length, by omega, Nat.le_refl _, by rw [List.drop_length, List.drop_of_length_le (by omega)]⟩
  obtain ⟨bl, Hb, q1, q2, q3, q4⟩ := g7_bits n (by omega) a l1 (by omega) (b.drop 2) hp hpl
  have qw := ref02_Words_c n (b.drop 2) .sh (by omega) hp (by omega)
  have qt := fun K => g7_L2 n K a b hb hbl n 7 b.length [] (by omega) (by omega) (by omega) (by simp; omega)
  have q5 := fun K => (s_triuneref07_guess_L2_eq n 0 K n (LV 1 (I .u8) b .sh) (.ptr 1 0) (.ptr 2 0) (I .i64 7) [q0A a, z1A, z1A])
  have hout := fun H' => outD_agg false H' [I .i64 0, bl, .list 0 [] .ti, .list 0 [] .ti]
  have w1 : IntKind.wrap .i64 (128 + a.code) = 128 + a.code := by simp [IntKind.wrap, IntKind.bits, IntKind.signed]; omega
  have hc : (b.length = 2 → ∃ h : 0 < b.length, b[0] ≠ 128 + a.code) := by
    intro h2
    refine ⟨by omega, fun h3 => he ⟨h2, ?_⟩⟩
    rw [← h3]
    simp [h2]
  clear he
  by_cases c1 : rdBits a.code = true
  · rw [if_pos c1] at eg
    have c1 := of_decide_eq_true (by unfold rdBits at c1; exact c1)
    refine fin (.agg [I .i64 0, bl, .list 0 [] .ti, .list 0 [] .ti]) ⟨q0A a :: .cells 51 [I .i64 0, bl, .list 0 [] .ti, .list 0 [] .ti] :: b2A bl (.list 0 [] .ti) :: Hb, ?_⟩ (fun H' => by rw [eg]; simp [anE, q1]; exact ⟨rfl, rfl⟩)
    unfold s_triuneref07_guess rqE
    unfold q0A z1A b2A at *
    rcases c1 with c1 | c1
    · have u1 : decide (a.code = 1) = true := decide_eq_true c1
      by_cases c0 : b.length = 2
      · obtain ⟨hh, hx⟩ := hc c0
        have h0 := hb _ (List.getElem_mem hh)
        have hxd : decide (b[0] = 128 + a.code) = false := decide_eq_false hx
        have c0i : (b.length : Int) = 2 := by omega
        have k2 : k0 = 2 := by omega
        subst k2
        have mn : min (2 : Int) 2 = 2 := by decide
        clear hk0
        simp -implicitDefEqProofs (disch := first | omega | (simp only [List.length_set, List.length_append, List.length_cons, List.length_nil, List.length_take, List.length_drop, List.length_map]; omega) | simp) [wrap_i64, wrap_u16_id, wrap_u8_id, tdiv_pos, tmod_pos, -getElem?_pos, -getElem?_neg, -List.length_eq_zero_iff, -List.getElem_cons_drop, c0i, hh, hxd, w1, mn, u1, q2, q3, q4, s_triuneref07_guess_O0]
      · have c0d : decide ((b.length : Int) = 2) = false := decide_eq_false (by omega)
        simp -implicitDefEqProofs (disch := first | omega | (simp only [List.length_set, List.length_append, List.length_cons, List.length_nil, List.length_take, List.length_drop, List.length_map]; omega) | simp) [wrap_i64, wrap_u16_id, wrap_u8_id, tdiv_pos, tmod_pos, -getElem?_pos, -getElem?_neg, -List.length_eq_zero_iff, -List.getElem_cons_drop, c0d, w1, hk0, hk1, hk2, u1, q2, q3, q4, s_triuneref07_guess_O0]
    · have u1 : decide (a.code = 1) = false := decide_eq_false (by omega)
      have u2 : decide (a.code = 2) = true := decide_eq_true c1
      by_cases c0 : b.length = 2
      · obtain ⟨hh, hx⟩ := hc c0
        have h0 := hb _ (List.getElem_mem hh)
        have hxd : decide (b[0] = 128 + a.code) = false := decide_eq_false hx
        have c0i : (b.length : Int) = 2 := by omega
        have k2 : k0 = 2 := by omega
        subst k2
        have mn : min (2 : Int) 2 = 2 := by decide
        clear hk0
        simp -implicitDefEqProofs (disch := first | omega | (simp only [List.length_set, List.length_append, List.length_cons, List.length_nil, List.length_take, List.length_drop, List.length_map]; omega) | simp) [wrap_i64, wrap_u16_id, wrap_u8_id, tdiv_pos, tmod_pos, -getElem?_pos, -getElem?_neg, -List.length_eq_zero_iff, -List.getElem_cons_drop, c0i, hh, hxd, w1, mn, u1, u2, q2, q3, q4, s_triuneref07_guess_O0]
      · have c0d : decide ((b.length : Int) = 2) = false := decide_eq_false (by omega)
        simp -implicitDefEqProofs (disch := first | omega | (simp only [List.length_set, List.length_append, List.length_cons, List.length_nil, List.length_take, List.length_drop, List.length_map]; omega) | simp) [wrap_i64, wrap_u16_id, wrap_u8_id, tdiv_pos, tmod_pos, -getElem?_pos, -getElem?_neg, -List.length_eq_zero_iff, -List.getElem_cons_drop, c0d, w1, hk0, hk1, hk2, u1, u2, q2, q3, q4, s_triuneref07_guess_O0]
  rw [if_neg c1] at eg
  have d1 : a.code ≠ 1 ∧ a.code ≠ 2 := by unfold rdBits at c1; simp only [decide_eq_true_eq] at c1; omega
  have u1 : decide (a.code = 1) = false := decide_eq_false (by omega)
  have u2 : decide (a.code = 2) = false := decide_eq_false (by omega)
  by_cases c2 : rdWords a.code = true
  · rw [if_pos c2] at eg
    have c2 := of_decide_eq_true (by unfold rdWords at c2; exact c2)
    refine fin (.agg [I .i64 0, .list 0 [] .ti, LV 1 (I .u16) (wdI (b.drop 2)) .sh, .list 0 [] .ti]) ⟨[q0A a, .cells 51 [I .i64 0, .list 0 [] .ti, LV 1 (I .u16) (wdI (b.drop 2)) .sh, .list 0 [] .ti], .cells 51 [I .i64 0, .list 0 [] .ti, LV 1 (I .u16) (wdI (b.drop 2)) .sh, .list 0 [] .ti]], ?_⟩ (fun H' => by rw [eg]; simp [anE]; exact ⟨rfl, rfl⟩)
    unfold s_triuneref07_guess rqE
    unfold q0A
    rcases c2 with c2 | c2 | c2
    · have u3 : decide (a.code = 3) = true := decide_eq_true c2
      by_cases c0 : b.length = 2
      · obtain ⟨hh, hx⟩ := hc c0
        have h0 := hb _ (List.getElem_mem hh)
        have hxd : decide (b[0] = 128 + a.code) = false := decide_eq_false hx
        have c0i : (b.length : Int) = 2 := by omega
        have k2 : k0 = 2 := by omega
        subst k2
        have mn : min (2 : Int) 2 = 2 := by decide
        clear hk0
        simp -implicitDefEqProofs (disch := first | omega | (simp only [List.length_set, List.length_append, List.length_cons, List.length_nil, List.length_take, List.length_drop, List.length_map]; omega) | simp) [wrap_i64, wrap_u16_id, wrap_u8_id, tdiv_pos, tmod_pos, -getElem?_pos, -getElem?_neg, -List.length_eq_zero_iff, -List.getElem_cons_drop, c0i, hh, hxd, w1, mn, u1, u2, u3, qw]
      · have c0d : decide ((b.length : Int) = 2) = false := decide_eq_false (by omega)
        simp -implicitDefEqProofs (disch := first | omega | (simp only [List.length_set, List.length_append, List.length_cons, List.length_nil, List.length_take, List.length_drop, List.length_map]; omega) | simp) [wrap_i64, wrap_u16_id, wrap_u8_id, tdiv_pos, tmod_pos, -getElem?_pos, -getElem?_neg, -List.length_eq_zero_iff, -List.getElem_cons_drop, c0d, w1, hk0, hk1, hk2, u1, u2, u3, qw]
    · have u3 : decide (a.code = 3) = false := decide_eq_false (by omega)
      have u4 : decide (a.code = 4) = true := decide_eq_true c2
      by_cases c0 : b.length = 2
      · obtain ⟨hh, hx⟩ := hc c0
        have h0 := hb _ (List.getElem_mem hh)
        have hxd : decide (b[0] = 128 + a.code) = false := decide_eq_false hx
        have c0i : (b.length : Int) = 2 := by omega
        have k2 : k0 = 2 := by omega
        subst k2
        have mn : min (2 : Int) 2 = 2 := by decide
        clear hk0
        simp -implicitDefEqProofs (disch := first | omega | (simp only [List.length_set, List.length_append, List.length_cons, List.length_nil, List.length_take, List.length_drop, List.length_map]; omega) | simp) [wrap_i64, wrap_u16_id, wrap_u8_id, tdiv_pos, tmod_pos, -getElem?_pos, -getElem?_neg, -List.length_eq_zero_iff, -List.getElem_cons_drop, c0i, hh, hxd, w1, mn, u1, u2, u3, u4, qw]
      · have c0d : decide ((b.length : Int) = 2) = false := decide_eq_false (by omega)
        simp -implicitDefEqProofs (disch := first | omega | (simp only [List.length_set, List.length_append, List.length_cons, List.length_nil, List.length_take, List.length_drop, List.length_map]; omega) | simp) [wrap_i64, wrap_u16_id, wrap_u8_id, tdiv_pos, tmod_pos, -getElem?_pos, -getElem?_neg, -List.length_eq_zero_iff, -List.getElem_cons_drop, c0d, w1, hk0, hk1, hk2, u1, u2, u3, u4, qw]
    · have u3 : decide (a.code = 3) = false := decide_eq_false (by omega)
      have u4 : decide (a.code = 4) = false := decide_eq_false (by omega)
      have u5 : decide (a.code = 23) = true := decide_eq_true c2
      by_cases c0 : b.length = 2
      · obtain ⟨hh, hx⟩ := hc c0
        have h0 := hb _ (List.getElem_mem hh)
        have hxd : decide (b[0] = 128 + a.code) = false := decide_eq_false hx
        have c0i : (b.length : Int) = 2 := by omega
        have k2 : k0 = 2 := by omega
        subst k2
        have mn : min (2 : Int) 2 = 2 := by decide
        clear hk0
        simp -implicitDefEqProofs (disch := first | omega | (simp only [List.length_set, List.length_append, List.length_cons, List.length_nil, List.length_take, List.length_drop, List.length_map]; omega) | simp) [wrap_i64, wrap_u16_id, wrap_u8_id, tdiv_pos, tmod_pos, -getElem?_pos, -getElem?_neg, -List.length_eq_zero_iff, -List.getElem_cons_drop, c0i, hh, hxd, w1, mn, u1, u2, u3, u4, u5, qw]
      · have c0d : decide ((b.length : Int) = 2) = false := decide_eq_false (by omega)
        simp -implicitDefEqProofs (disch := first | omega | (simp only [List.length_set, List.length_append, List.length_cons, List.length_nil, List.length_take, List.length_drop, List.length_map]; omega) | simp) [wrap_i64, wrap_u16_id, wrap_u8_id, tdiv_pos, tmod_pos, -getElem?_pos, -getElem?_neg, -List.length_eq_zero_iff, -List.getElem_cons_drop, c0d, w1, hk0, hk1, hk2, u1, u2, u3, u4, u5, qw]
  rw [if_neg c2] at eg
  have d2 : a.code ≠ 3 ∧ a.code ≠ 4 ∧ a.code ≠ 23 := by unfold rdWords at c2; simp only [decide_eq_true_eq] at c2; omega
  have u3 : decide (a.code = 3) = false := decide_eq_false (by omega)
  have u4 : decide (a.code = 4) = false := decide_eq_false (by omega)
  have u23 : decide (a.code = 23) = false := decide_eq_false (by omega)
  by_cases c3 : rdTexts a.code = true
  · rw [if_pos c3] at eg
    have c3 := of_decide_eq_true (by unfold rdTexts at c3; exact c3)
    obtain ⟨H3, hK⟩ : ∃ H3, ∀ K, loopG [1, 4, 5, 10] [4, 5] 135 (s_triuneref07_guess_b2 n 0) n (s_triuneref07_guess_I2 (LV 1 (I .u8) b .sh) (.ptr 1 0) (.ptr 2 0) (I .i64 7)) [q0A a, z1A, z1A] K = K (.exit 5) (s_triuneref07_guess_O2 (.ptr 1 0) (.ptr 2 0)) (q0A a :: z1A :: b2A (.list 0 [] .ti) (tlD (gTx b.length (b.drop 7))) :: H3) := by
      refine ⟨tkH (gTx b.length (b.drop 7)), fun K => ?_⟩
      rw [q5 K]
      exact g7_L2x n K a b hb hbl n 7 b.length [] (by omega) (by omega) (by omega) (by simp; omega)
    have tl := tlD_leaf (gTx b.length (b.drop 7))
    have tc := tlD_cells (gTx b.length (b.drop 7))
    refine fin (.agg [I .i64 0, .list 0 [] .ti, .list 0 [] .ti, tlD (gTx b.length (b.drop 7))]) ⟨q0A a :: .cells 51 [I .i64 0, .list 0 [] .ti, .list 0 [] .ti, tlD (gTx b.length (b.drop 7))] :: b2A (.list 0 [] .ti) (tlD (gTx b.length (b.drop 7))) :: H3, ?_⟩ (fun H' => by rw [eg]; simp [anE, tlD_out]; exact ⟨rfl, rfl⟩)
    unfold s_triuneref07_guess rqE
    generalize gTx b.length (b.drop 7) = G at *
    unfold q0A z1A b2A at *
    have u43 : decide (a.code = 43) = true := decide_eq_true c3
    by_cases c0 : b.length = 2
    · obtain ⟨hh, hx⟩ := hc c0
      have h0 := hb _ (List.getElem_mem hh)
      have hxd : decide (b[0] = 128 + a.code) = false := decide_eq_false hx
      have c0i : (b.length : Int) = 2 := by omega
      have k2 : k0 = 2 := by omega
      subst k2
      have mn : min (2 : Int) 2 = 2 := by decide
      clear hk0
      simp -implicitDefEqProofs (disch := first | omega | (simp only [List.length_set, List.length_append, List.length_cons, List.length_nil, List.length_take, List.length_drop, List.length_map]; omega) | simp) [wrap_i64, wrap_u16_id, wrap_u8_id, tdiv_pos, tmod_pos, -getElem?_pos, -getElem?_neg, -List.length_eq_zero_iff, -List.getElem_cons_drop, c0i, hh, hxd, w1, mn, u1, u2, u3, u4, u23, u43, hK, s_triuneref07_guess_O2, tl, tc]
    · have c0d : decide ((b.length : Int) = 2) = false := decide_eq_false (by omega)
      simp -implicitDefEqProofs (disch := first | omega | (simp only [List.length_set, List.length_append, List.length_cons, List.length_nil, List.length_take, List.length_drop, List.length_map]; omega) | simp) [wrap_i64, wrap_u16_id, wrap_u8_id, tdiv_pos, tmod_pos, -getElem?_pos, -getElem?_neg, -List.length_eq_zero_iff, -List.getElem_cons_drop, c0d, w1, hk0, hk1, hk2, u1, u2, u3, u4, u23, u43, hK, s_triuneref07_guess_O2, tl, tc]
  rw [if_neg c3] at eg
  have u43 : decide (a.code = 43) = false := by unfold rdTexts at c3; simpa using c3
  refine fin (.agg [I .i64 0, .list 0 [] .ti, .list 0 [] .ti, .list 0 [] .ti]) ⟨[q0A a, z1A, z1A], ?_⟩ (fun H' => by rw [eg]; rfl)
  unfold s_triuneref07_guess rqE
  unfold q0A z1A
  by_cases c0 : b.length = 2
  · obtain ⟨hh, hx⟩ := hc c0
    have h0 := hb _ (List.getElem_mem hh)
    have hxd : decide (b[0] = 128 + a.code) = false := decide_eq_false hx
    have c0i : (b.length : Int) = 2 := by omega
    have k2 : k0 = 2 := by omega
    subst k2
    have mn : min (2 : Int) 2 = 2 := by decide
    clear hk0
    simp -implicitDefEqProofs (disch := first | omega | (simp only [List.length_set, List.length_append, List.length_cons, List.length_nil, List.length_take, List.length_drop, List.length_map]; omega) | simp) [wrap_i64, wrap_u16_id, wrap_u8_id, tdiv_pos, tmod_pos, -getElem?_pos, -getElem?_neg, -List.length_eq_zero_iff, -List.getElem_cons_drop, c0i, hh, hxd, w1, mn, u1, u2, u3, u4, u23, u43]
  · have c0d : decide ((b.length : Int) = 2) = false := decide_eq_false (by omega)
    simp -implicitDefEqProofs (disch := first | omega | (simp only [List.length_set, List.length_append, List.length_cons, List.length_nil, List.length_take, List.length_drop, List.length_map]; omega) | simp) [wrap_i64, wrap_u16_id, wrap_u8_id, tdiv_pos, tmod_pos, -getElem?_pos, -getElem?_neg, -List.length_eq_zero_iff, -List.getElem_cons_drop, c0d, w1, hk0, hk1, hk2, u1, u2, u3, u4, u23, u43]
end Go.Proofs.YtcpgmbpndpcmdaaGreat
