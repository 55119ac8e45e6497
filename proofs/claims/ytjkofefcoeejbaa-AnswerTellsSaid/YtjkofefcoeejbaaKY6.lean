/- Texts of mine, laid together: KY6. -/
import Derived.Test.YtjkofefcoeejbaaKY5
/- Texts of mine, laid together: FAskA, GAskP, FPut, GPut, FBytes, GBytes, Sym, GAskA, GAskB, GAskR, GAskT, GAskU, GAns. -/
/- Go functions as Lean functions on deep values; printed by a program of mine. -/
namespace Go.Proofs.Ytjkofefcoeejbaa
open Go
set_option maxRecDepth 100000
set_option linter.unusedVariables false
/-! triune/ask.two -/
noncomputable def s_ask_two (n : Nat) (H : Heap) (fl : Nat) (a0 : DV) : R :=
  bi (cvK .u16 a0) fun d0 =>
  bi (cP n 95 false [d0]) fun d1 =>
  bi (allocG 138 (.agg [(I .u8 0), (I .u8 0)]) (List.length H) (H ++ [.hole])) fun h2 =>
  bi (storeG 2 (.ptr (List.length H) 0) d1 h2 fl) fun h3 =>
  bi (saX false 2 1 (.ptr (List.length H) 0) none none none) fun d4 =>
  some (d4, h3)
theorem s_ask_two_eq (n : Nat) (H : Heap) (fl : Nat) (a0 : DV) : callG Try.prog ENV (n + 1) 80 [a0] H fl = s_ask_two n H fl a0 := by kernel_rfl

/-! triune/ask.at -/
/-! triune/ask.from -/
/-! triune/ask.counted -/
noncomputable def s_ask_counted (n : Nat) (H : Heap) (fl : Nat) (a0 a1 : DV) : R :=
  bi (cP n 80 false [a0]) fun d0 =>
  bi (lenD a1) fun d1 =>
  bi (cvK .u8 d1) fun d2 =>
  bi (buildL false 1 1 (I .u8 0) [(0, d2)]) fun d3 =>
  bi (buildL false 1 3 (.list 0 [] .ti) [(0, d0), (1, d3), (2, a1)]) fun d4 =>
  bi (cP n 79 false [d4]) fun d5 =>
  some (d5, H)
theorem s_ask_counted_eq (n : Nat) (H : Heap) (fl : Nat) (a0 a1 : DV) : callG Try.prog ENV (n + 1) 125 [a0, a1] H fl = s_ask_counted n H fl a0 a1 := by kernel_rfl

/-! triune/ask.layCount -/
noncomputable def s_ask_layCount (n : Nat) (H : Heap) (fl : Nat) (a0 : DV) : R :=
  bi (allocG 26 a0 (List.length H) (H ++ [.hole])) fun h0 =>
  bi (loadG false 1 (.ptr (List.length H) 2) h0) fun d1 =>
  bi (cP n 80 false [d1]) fun d2 =>
  some (d2, h0)
theorem s_ask_layCount_eq (n : Nat) (H : Heap) (fl : Nat) (a0 : DV) : callG Try.prog ENV (n + 1) 106 [a0] H fl = s_ask_layCount n H fl a0 := by kernel_rfl

/-! triune/ask.readCount -/
/-! triune/ask.layBit -/
noncomputable def s_ask_layBit (n : Nat) (H : Heap) (fl : Nat) (a0 : DV) : R :=
  bi (allocG 26 a0 (List.length H) (H ++ [.hole])) fun h0 =>
  bi (loadG false 1 (.ptr (List.length H) 5) h0) fun d1 =>
  bi (idxSl 1 d1 (I .i64 0)) fun d2 =>
  bi (loadG false 1 d2 h0) fun d3 =>
  condR d3 (
   bi (cP n 80 false [(I .i64 65280)]) fun d4 =>
  some (d4, h0)) (
  bi (cP n 80 false [(I .i64 0)]) fun d5 =>
  some (d5, h0))
theorem s_ask_layBit_eq (n : Nat) (H : Heap) (fl : Nat) (a0 : DV) : callG Try.prog ENV (n + 1) 108 [a0] H fl = s_ask_layBit n H fl a0 := by kernel_rfl

/-! triune/ask.readBit -/
/-! triune/ask.layWord -/
noncomputable def s_ask_layWord (n : Nat) (H : Heap) (fl : Nat) (a0 : DV) : R :=
  bi (allocG 26 a0 (List.length H) (H ++ [.hole])) fun h0 =>
  bi (loadG false 1 (.ptr (List.length H) 4) h0) fun d1 =>
  bi (cP n 64 false [d1]) fun d2 =>
  some (d2, h0)
theorem s_ask_layWord_eq (n : Nat) (H : Heap) (fl : Nat) (a0 : DV) : callG Try.prog ENV (n + 1) 110 [a0] H fl = s_ask_layWord n H fl a0 := by kernel_rfl

/-! triune/ask.readWord -/
/-! triune/ask.layBits -/
noncomputable def s_ask_layBits (n : Nat) (H : Heap) (fl : Nat) (a0 : DV) : R :=
  bi (allocG 26 a0 (List.length H) (H ++ [.hole])) fun h0 =>
  bi (loadG false 1 (.ptr (List.length H) 5) h0) fun d1 =>
  bi (lenD d1) fun d2 =>
  bi (loadG false 1 (.ptr (List.length H) 5) h0) fun d3 =>
  bi (cP n 63 false [d3]) fun d4 =>
  bi (cP n 125 false [d2, d4]) fun d5 =>
  some (d5, h0)
theorem s_ask_layBits_eq (n : Nat) (H : Heap) (fl : Nat) (a0 : DV) : callG Try.prog ENV (n + 1) 112 [a0] H fl = s_ask_layBits n H fl a0 := by kernel_rfl

/-! triune/ask.readBits -/
/-! triune/ask.layWords -/
noncomputable def s_ask_layWords (n : Nat) (H : Heap) (fl : Nat) (a0 : DV) : R :=
  bi (allocG 26 a0 (List.length H) (H ++ [.hole])) fun h0 =>
  bi (loadG false 1 (.ptr (List.length H) 4) h0) fun d1 =>
  bi (lenD d1) fun d2 =>
  bi (loadG false 1 (.ptr (List.length H) 4) h0) fun d3 =>
  bi (cP n 64 false [d3]) fun d4 =>
  bi (cP n 125 false [d2, d4]) fun d5 =>
  some (d5, h0)
theorem s_ask_layWords_eq (n : Nat) (H : Heap) (fl : Nat) (a0 : DV) : callG Try.prog ENV (n + 1) 114 [a0] H fl = s_ask_layWords n H fl a0 := by kernel_rfl

/-! triune/ask.readWords -/
/-! triune/ask.layMasks -/
noncomputable def s_ask_layMasks (n : Nat) (H : Heap) (fl : Nat) (a0 : DV) : R :=
  bi (allocG 26 a0 (List.length H) (H ++ [.hole])) fun h0 =>
  bi (loadG false 1 (.ptr (List.length H) 6) h0) fun d1 =>
  bi (loadG false 1 (.ptr (List.length H) 7) h0) fun d2 =>
  bi (buildL false 1 2 (I .u16 0) [(0, d1), (1, d2)]) fun d3 =>
  bi (cP n 64 false [d3]) fun d4 =>
  some (d4, h0)
theorem s_ask_layMasks_eq (n : Nat) (H : Heap) (fl : Nat) (a0 : DV) : callG Try.prog ENV (n + 1) 116 [a0] H fl = s_ask_layMasks n H fl a0 := by kernel_rfl

/-! triune/ask.readMasks -/
/-! triune/ask.layBoth -/
noncomputable def s_ask_layBoth (n : Nat) (H : Heap) (fl : Nat) (a0 : DV) : R :=
  bi (allocG 26 a0 (List.length H) (H ++ [.hole])) fun h0 =>
  bi (loadG true 8 (.ptr (List.length H) 0) h0) fun d1 =>
  bi (cP n 106 false [d1]) fun d2 =>
  bi (loadG false 1 (.ptr (List.length H) 3) h0) fun d3 =>
  bi (cP n 80 false [d3]) fun d4 =>
  bi (loadG true 8 (.ptr (List.length H) 0) h0) fun d5 =>
  bi (cP n 114 false [d5]) fun d6 =>
  bi (buildL false 1 3 (.list 0 [] .ti) [(0, d2), (1, d4), (2, d6)]) fun d7 =>
  bi (cP n 79 false [d7]) fun d8 =>
  some (d8, h0)
theorem s_ask_layBoth_eq (n : Nat) (H : Heap) (fl : Nat) (a0 : DV) : callG Try.prog ENV (n + 1) 118 [a0] H fl = s_ask_layBoth n H fl a0 := by kernel_rfl

/-! triune/ask.readBoth -/
/-! triune/ask.formOf -/
noncomputable def s_ask_formOf (n : Nat) (H : Heap) (fl : Nat) (a0 : DV) : R :=
  bi (allocG 124 (.agg [(I .i64 0), (I .i64 0), (I .i64 0), (.flat .nilFunc), (.flat .nilFunc)]) (List.length H) (H ++ [.hole])) fun h0 =>
  bi (buildS (.agg [(I .i64 0), (I .i64 0), (I .i64 0), (.flat .nilFunc), (.flat .nilFunc)]) [(0, 1), (1, 1), (2, 1), (3, 1), (4, 1)] [(3, (.flat (.func (.func 106) #[] #[]))), (4, (.flat (.func (.func 107) #[] #[])))]) fun d1 =>
  bi (allocG 124 (.agg [(I .i64 0), (I .i64 0), (I .i64 0), (.flat .nilFunc), (.flat .nilFunc)]) (List.length h0) (h0 ++ [.hole])) fun h2 =>
  bi (storeG 5 (.ptr (List.length h0) 0) d1 h2 fl) fun h3 =>
  bi (eqK .i64 a0 (I .i64 1)) fun d4 =>
  condR d4 (
  condR d4 (
   bi (storeG 1 (.ptr (List.length h0) 0) (I .i64 2000) h3 fl) fun h5 =>
  bi (loadG true 5 (.ptr (List.length h0) 0) h5) fun d6 =>
  bi (storeG 5 (.ptr (List.length H) 0) d6 h5 fl) fun h7 =>
  bi (cellR true 5 (.ptr (List.length H) 0) h7) fun r0 =>
  some ((.tup [r0, (Bo true)]), h7)) (
   bi (eqK .i64 a0 (I .i64 3)) fun d8 =>
   condR d8 (
   condR d8 (
    bi (storeG 1 (.ptr (List.length h0) 0) (I .i64 125) h3 fl) fun h9 =>
  bi (loadG true 5 (.ptr (List.length h0) 0) h9) fun d10 =>
  bi (storeG 5 (.ptr (List.length H) 0) d10 h9 fl) fun h11 =>
  bi (cellR true 5 (.ptr (List.length H) 0) h11) fun r0 =>
  some ((.tup [r0, (Bo true)]), h11)) (
    bi (eqK .i64 a0 (I .i64 5)) fun d12 =>
    condR d12 (
     bi (buildS (.agg [(I .i64 0), (I .i64 0), (I .i64 0), (.flat .nilFunc), (.flat .nilFunc)]) [(0, 1), (1, 1), (2, 1), (3, 1), (4, 1)] [(2, (I .i64 1)), (3, (.flat (.func (.func 108) #[] #[]))), (4, (.flat (.func (.func 109) #[] #[])))]) fun d13 =>
     bi (storeG 5 (.ptr (List.length h0) 0) d13 h3 fl) fun h14 =>
  bi (loadG true 5 (.ptr (List.length h0) 0) h14) fun d15 =>
  bi (storeG 5 (.ptr (List.length H) 0) d15 h14 fl) fun h16 =>
  bi (cellR true 5 (.ptr (List.length H) 0) h16) fun r0 =>
  some ((.tup [r0, (Bo true)]), h16)) (
     bi (eqK .i64 a0 (I .i64 6)) fun d17 =>
     condR d17 (
      bi (buildS (.agg [(I .i64 0), (I .i64 0), (I .i64 0), (.flat .nilFunc), (.flat .nilFunc)]) [(0, 1), (1, 1), (2, 1), (3, 1), (4, 1)] [(1, (I .i64 1)), (3, (.flat (.func (.func 110) #[] #[]))), (4, (.flat (.func (.func 111) #[] #[])))]) fun d18 =>
      bi (storeG 5 (.ptr (List.length h0) 0) d18 h3 fl) fun h19 =>
  bi (loadG true 5 (.ptr (List.length h0) 0) h19) fun d20 =>
  bi (storeG 5 (.ptr (List.length H) 0) d20 h19 fl) fun h21 =>
  bi (cellR true 5 (.ptr (List.length H) 0) h21) fun r0 =>
  some ((.tup [r0, (Bo true)]), h21)) (
      bi (eqK .i64 a0 (I .i64 15)) fun d22 =>
      condR d22 (
       bi (buildS (.agg [(I .i64 0), (I .i64 0), (I .i64 0), (.flat .nilFunc), (.flat .nilFunc)]) [(0, 1), (1, 1), (2, 1), (3, 1), (4, 1)] [(2, (I .i64 1968)), (3, (.flat (.func (.func 112) #[] #[]))), (4, (.flat (.func (.func 113) #[] #[])))]) fun d23 =>
       bi (storeG 5 (.ptr (List.length h0) 0) d23 h3 fl) fun h24 =>
  bi (loadG true 5 (.ptr (List.length h0) 0) h24) fun d25 =>
  bi (storeG 5 (.ptr (List.length H) 0) d25 h24 fl) fun h26 =>
  bi (cellR true 5 (.ptr (List.length H) 0) h26) fun r0 =>
  some ((.tup [r0, (Bo true)]), h26)) (
       bi (eqK .i64 a0 (I .i64 16)) fun d27 =>
       condR d27 (
        bi (buildS (.agg [(I .i64 0), (I .i64 0), (I .i64 0), (.flat .nilFunc), (.flat .nilFunc)]) [(0, 1), (1, 1), (2, 1), (3, 1), (4, 1)] [(1, (I .i64 123)), (3, (.flat (.func (.func 114) #[] #[]))), (4, (.flat (.func (.func 115) #[] #[])))]) fun d28 =>
        bi (storeG 5 (.ptr (List.length h0) 0) d28 h3 fl) fun h29 =>
  bi (loadG true 5 (.ptr (List.length h0) 0) h29) fun d30 =>
  bi (storeG 5 (.ptr (List.length H) 0) d30 h29 fl) fun h31 =>
  bi (cellR true 5 (.ptr (List.length H) 0) h31) fun r0 =>
  some ((.tup [r0, (Bo true)]), h31)) (
        bi (eqK .i64 a0 (I .i64 22)) fun d32 =>
        condR d32 (
         bi (buildS (.agg [(I .i64 0), (I .i64 0), (I .i64 0), (.flat .nilFunc), (.flat .nilFunc)]) [(0, 1), (1, 1), (2, 1), (3, 1), (4, 1)] [(3, (.flat (.func (.func 116) #[] #[]))), (4, (.flat (.func (.func 117) #[] #[])))]) fun d33 =>
         bi (storeG 5 (.ptr (List.length h0) 0) d33 h3 fl) fun h34 =>
  bi (loadG true 5 (.ptr (List.length h0) 0) h34) fun d35 =>
  bi (storeG 5 (.ptr (List.length H) 0) d35 h34 fl) fun h36 =>
  bi (cellR true 5 (.ptr (List.length H) 0) h36) fun r0 =>
  some ((.tup [r0, (Bo true)]), h36)) (
         bi (eqK .i64 a0 (I .i64 23)) fun d37 =>
         condR d37 (
          bi (buildS (.agg [(I .i64 0), (I .i64 0), (I .i64 0), (.flat .nilFunc), (.flat .nilFunc)]) [(0, 1), (1, 1), (2, 1), (3, 1), (4, 1)] [(0, (I .i64 125)), (1, (I .i64 121)), (3, (.flat (.func (.func 118) #[] #[]))), (4, (.flat (.func (.func 119) #[] #[])))]) fun d38 =>
          bi (storeG 5 (.ptr (List.length h0) 0) d38 h3 fl) fun h39 =>
  bi (loadG true 5 (.ptr (List.length h0) 0) h39) fun d40 =>
  bi (storeG 5 (.ptr (List.length H) 0) d40 h39 fl) fun h41 =>
  bi (cellR true 5 (.ptr (List.length H) 0) h41) fun r0 =>
  some ((.tup [r0, (Bo true)]), h41)) (
          bi (eqK .i64 a0 (I .i64 43)) fun d42 =>
          condR d42 (
           bi (storeG 1 (.ptr (List.length h0) 0) (I .i64 4) h3 fl) fun h43 =>
  bi (loadG true 5 (.ptr (List.length h0) 0) h43) fun d44 =>
  bi (storeG 5 (.ptr (List.length H) 0) d44 h43 fl) fun h45 =>
  bi (cellR true 5 (.ptr (List.length H) 0) h45) fun r0 =>
  some ((.tup [r0, (Bo true)]), h45)) (
           bi (buildS (.agg [(I .i64 0), (I .i64 0), (I .i64 0), (.flat .nilFunc), (.flat .nilFunc)]) [(0, 1), (1, 1), (2, 1), (3, 1), (4, 1)] []) fun d46 =>
           bi (storeG 5 (.ptr (List.length H) 0) d46 h3 fl) fun h47 =>
  bi (cellR true 5 (.ptr (List.length H) 0) h47) fun r0 =>
  some ((.tup [r0, (Bo false)]), h47)))))))))) (
    bi (eqK .i64 a0 (I .i64 4)) fun d48 =>
   condR d48 (
    bi (storeG 1 (.ptr (List.length h0) 0) (I .i64 125) h3 fl) fun h49 =>
  bi (loadG true 5 (.ptr (List.length h0) 0) h49) fun d50 =>
  bi (storeG 5 (.ptr (List.length H) 0) d50 h49 fl) fun h51 =>
  bi (cellR true 5 (.ptr (List.length H) 0) h51) fun r0 =>
  some ((.tup [r0, (Bo true)]), h51)) (
    bi (eqK .i64 a0 (I .i64 5)) fun d52 =>
    condR d52 (
     bi (buildS (.agg [(I .i64 0), (I .i64 0), (I .i64 0), (.flat .nilFunc), (.flat .nilFunc)]) [(0, 1), (1, 1), (2, 1), (3, 1), (4, 1)] [(2, (I .i64 1)), (3, (.flat (.func (.func 108) #[] #[]))), (4, (.flat (.func (.func 109) #[] #[])))]) fun d53 =>
     bi (storeG 5 (.ptr (List.length h0) 0) d53 h3 fl) fun h54 =>
  bi (loadG true 5 (.ptr (List.length h0) 0) h54) fun d55 =>
  bi (storeG 5 (.ptr (List.length H) 0) d55 h54 fl) fun h56 =>
  bi (cellR true 5 (.ptr (List.length H) 0) h56) fun r0 =>
  some ((.tup [r0, (Bo true)]), h56)) (
     bi (eqK .i64 a0 (I .i64 6)) fun d57 =>
     condR d57 (
      bi (buildS (.agg [(I .i64 0), (I .i64 0), (I .i64 0), (.flat .nilFunc), (.flat .nilFunc)]) [(0, 1), (1, 1), (2, 1), (3, 1), (4, 1)] [(1, (I .i64 1)), (3, (.flat (.func (.func 110) #[] #[]))), (4, (.flat (.func (.func 111) #[] #[])))]) fun d58 =>
      bi (storeG 5 (.ptr (List.length h0) 0) d58 h3 fl) fun h59 =>
  bi (loadG true 5 (.ptr (List.length h0) 0) h59) fun d60 =>
  bi (storeG 5 (.ptr (List.length H) 0) d60 h59 fl) fun h61 =>
  bi (cellR true 5 (.ptr (List.length H) 0) h61) fun r0 =>
  some ((.tup [r0, (Bo true)]), h61)) (
      bi (eqK .i64 a0 (I .i64 15)) fun d62 =>
      condR d62 (
       bi (buildS (.agg [(I .i64 0), (I .i64 0), (I .i64 0), (.flat .nilFunc), (.flat .nilFunc)]) [(0, 1), (1, 1), (2, 1), (3, 1), (4, 1)] [(2, (I .i64 1968)), (3, (.flat (.func (.func 112) #[] #[]))), (4, (.flat (.func (.func 113) #[] #[])))]) fun d63 =>
       bi (storeG 5 (.ptr (List.length h0) 0) d63 h3 fl) fun h64 =>
  bi (loadG true 5 (.ptr (List.length h0) 0) h64) fun d65 =>
  bi (storeG 5 (.ptr (List.length H) 0) d65 h64 fl) fun h66 =>
  bi (cellR true 5 (.ptr (List.length H) 0) h66) fun r0 =>
  some ((.tup [r0, (Bo true)]), h66)) (
       bi (eqK .i64 a0 (I .i64 16)) fun d67 =>
       condR d67 (
        bi (buildS (.agg [(I .i64 0), (I .i64 0), (I .i64 0), (.flat .nilFunc), (.flat .nilFunc)]) [(0, 1), (1, 1), (2, 1), (3, 1), (4, 1)] [(1, (I .i64 123)), (3, (.flat (.func (.func 114) #[] #[]))), (4, (.flat (.func (.func 115) #[] #[])))]) fun d68 =>
        bi (storeG 5 (.ptr (List.length h0) 0) d68 h3 fl) fun h69 =>
  bi (loadG true 5 (.ptr (List.length h0) 0) h69) fun d70 =>
  bi (storeG 5 (.ptr (List.length H) 0) d70 h69 fl) fun h71 =>
  bi (cellR true 5 (.ptr (List.length H) 0) h71) fun r0 =>
  some ((.tup [r0, (Bo true)]), h71)) (
        bi (eqK .i64 a0 (I .i64 22)) fun d72 =>
        condR d72 (
         bi (buildS (.agg [(I .i64 0), (I .i64 0), (I .i64 0), (.flat .nilFunc), (.flat .nilFunc)]) [(0, 1), (1, 1), (2, 1), (3, 1), (4, 1)] [(3, (.flat (.func (.func 116) #[] #[]))), (4, (.flat (.func (.func 117) #[] #[])))]) fun d73 =>
         bi (storeG 5 (.ptr (List.length h0) 0) d73 h3 fl) fun h74 =>
  bi (loadG true 5 (.ptr (List.length h0) 0) h74) fun d75 =>
  bi (storeG 5 (.ptr (List.length H) 0) d75 h74 fl) fun h76 =>
  bi (cellR true 5 (.ptr (List.length H) 0) h76) fun r0 =>
  some ((.tup [r0, (Bo true)]), h76)) (
         bi (eqK .i64 a0 (I .i64 23)) fun d77 =>
         condR d77 (
          bi (buildS (.agg [(I .i64 0), (I .i64 0), (I .i64 0), (.flat .nilFunc), (.flat .nilFunc)]) [(0, 1), (1, 1), (2, 1), (3, 1), (4, 1)] [(0, (I .i64 125)), (1, (I .i64 121)), (3, (.flat (.func (.func 118) #[] #[]))), (4, (.flat (.func (.func 119) #[] #[])))]) fun d78 =>
          bi (storeG 5 (.ptr (List.length h0) 0) d78 h3 fl) fun h79 =>
  bi (loadG true 5 (.ptr (List.length h0) 0) h79) fun d80 =>
  bi (storeG 5 (.ptr (List.length H) 0) d80 h79 fl) fun h81 =>
  bi (cellR true 5 (.ptr (List.length H) 0) h81) fun r0 =>
  some ((.tup [r0, (Bo true)]), h81)) (
          bi (eqK .i64 a0 (I .i64 43)) fun d82 =>
          condR d82 (
           bi (storeG 1 (.ptr (List.length h0) 0) (I .i64 4) h3 fl) fun h83 =>
  bi (loadG true 5 (.ptr (List.length h0) 0) h83) fun d84 =>
  bi (storeG 5 (.ptr (List.length H) 0) d84 h83 fl) fun h85 =>
  bi (cellR true 5 (.ptr (List.length H) 0) h85) fun r0 =>
  some ((.tup [r0, (Bo true)]), h85)) (
           bi (buildS (.agg [(I .i64 0), (I .i64 0), (I .i64 0), (.flat .nilFunc), (.flat .nilFunc)]) [(0, 1), (1, 1), (2, 1), (3, 1), (4, 1)] []) fun d86 =>
           bi (storeG 5 (.ptr (List.length H) 0) d86 h3 fl) fun h87 =>
  bi (cellR true 5 (.ptr (List.length H) 0) h87) fun r0 =>
  some ((.tup [r0, (Bo false)]), h87)))))))))))) (
   bi (eqK .i64 a0 (I .i64 2)) fun d88 =>
  condR d88 (
   bi (storeG 1 (.ptr (List.length h0) 0) (I .i64 2000) h3 fl) fun h89 =>
  bi (loadG true 5 (.ptr (List.length h0) 0) h89) fun d90 =>
  bi (storeG 5 (.ptr (List.length H) 0) d90 h89 fl) fun h91 =>
  bi (cellR true 5 (.ptr (List.length H) 0) h91) fun r0 =>
  some ((.tup [r0, (Bo true)]), h91)) (
   bi (eqK .i64 a0 (I .i64 3)) fun d92 =>
   condR d92 (
   condR d92 (
    bi (storeG 1 (.ptr (List.length h0) 0) (I .i64 125) h3 fl) fun h93 =>
  bi (loadG true 5 (.ptr (List.length h0) 0) h93) fun d94 =>
  bi (storeG 5 (.ptr (List.length H) 0) d94 h93 fl) fun h95 =>
  bi (cellR true 5 (.ptr (List.length H) 0) h95) fun r0 =>
  some ((.tup [r0, (Bo true)]), h95)) (
    bi (eqK .i64 a0 (I .i64 5)) fun d96 =>
    condR d96 (
     bi (buildS (.agg [(I .i64 0), (I .i64 0), (I .i64 0), (.flat .nilFunc), (.flat .nilFunc)]) [(0, 1), (1, 1), (2, 1), (3, 1), (4, 1)] [(2, (I .i64 1)), (3, (.flat (.func (.func 108) #[] #[]))), (4, (.flat (.func (.func 109) #[] #[])))]) fun d97 =>
     bi (storeG 5 (.ptr (List.length h0) 0) d97 h3 fl) fun h98 =>
  bi (loadG true 5 (.ptr (List.length h0) 0) h98) fun d99 =>
  bi (storeG 5 (.ptr (List.length H) 0) d99 h98 fl) fun h100 =>
  bi (cellR true 5 (.ptr (List.length H) 0) h100) fun r0 =>
  some ((.tup [r0, (Bo true)]), h100)) (
     bi (eqK .i64 a0 (I .i64 6)) fun d101 =>
     condR d101 (
      bi (buildS (.agg [(I .i64 0), (I .i64 0), (I .i64 0), (.flat .nilFunc), (.flat .nilFunc)]) [(0, 1), (1, 1), (2, 1), (3, 1), (4, 1)] [(1, (I .i64 1)), (3, (.flat (.func (.func 110) #[] #[]))), (4, (.flat (.func (.func 111) #[] #[])))]) fun d102 =>
      bi (storeG 5 (.ptr (List.length h0) 0) d102 h3 fl) fun h103 =>
  bi (loadG true 5 (.ptr (List.length h0) 0) h103) fun d104 =>
  bi (storeG 5 (.ptr (List.length H) 0) d104 h103 fl) fun h105 =>
  bi (cellR true 5 (.ptr (List.length H) 0) h105) fun r0 =>
  some ((.tup [r0, (Bo true)]), h105)) (
      bi (eqK .i64 a0 (I .i64 15)) fun d106 =>
      condR d106 (
       bi (buildS (.agg [(I .i64 0), (I .i64 0), (I .i64 0), (.flat .nilFunc), (.flat .nilFunc)]) [(0, 1), (1, 1), (2, 1), (3, 1), (4, 1)] [(2, (I .i64 1968)), (3, (.flat (.func (.func 112) #[] #[]))), (4, (.flat (.func (.func 113) #[] #[])))]) fun d107 =>
       bi (storeG 5 (.ptr (List.length h0) 0) d107 h3 fl) fun h108 =>
  bi (loadG true 5 (.ptr (List.length h0) 0) h108) fun d109 =>
  bi (storeG 5 (.ptr (List.length H) 0) d109 h108 fl) fun h110 =>
  bi (cellR true 5 (.ptr (List.length H) 0) h110) fun r0 =>
  some ((.tup [r0, (Bo true)]), h110)) (
       bi (eqK .i64 a0 (I .i64 16)) fun d111 =>
       condR d111 (
        bi (buildS (.agg [(I .i64 0), (I .i64 0), (I .i64 0), (.flat .nilFunc), (.flat .nilFunc)]) [(0, 1), (1, 1), (2, 1), (3, 1), (4, 1)] [(1, (I .i64 123)), (3, (.flat (.func (.func 114) #[] #[]))), (4, (.flat (.func (.func 115) #[] #[])))]) fun d112 =>
        bi (storeG 5 (.ptr (List.length h0) 0) d112 h3 fl) fun h113 =>
  bi (loadG true 5 (.ptr (List.length h0) 0) h113) fun d114 =>
  bi (storeG 5 (.ptr (List.length H) 0) d114 h113 fl) fun h115 =>
  bi (cellR true 5 (.ptr (List.length H) 0) h115) fun r0 =>
  some ((.tup [r0, (Bo true)]), h115)) (
        bi (eqK .i64 a0 (I .i64 22)) fun d116 =>
        condR d116 (
         bi (buildS (.agg [(I .i64 0), (I .i64 0), (I .i64 0), (.flat .nilFunc), (.flat .nilFunc)]) [(0, 1), (1, 1), (2, 1), (3, 1), (4, 1)] [(3, (.flat (.func (.func 116) #[] #[]))), (4, (.flat (.func (.func 117) #[] #[])))]) fun d117 =>
         bi (storeG 5 (.ptr (List.length h0) 0) d117 h3 fl) fun h118 =>
  bi (loadG true 5 (.ptr (List.length h0) 0) h118) fun d119 =>
  bi (storeG 5 (.ptr (List.length H) 0) d119 h118 fl) fun h120 =>
  bi (cellR true 5 (.ptr (List.length H) 0) h120) fun r0 =>
  some ((.tup [r0, (Bo true)]), h120)) (
         bi (eqK .i64 a0 (I .i64 23)) fun d121 =>
         condR d121 (
          bi (buildS (.agg [(I .i64 0), (I .i64 0), (I .i64 0), (.flat .nilFunc), (.flat .nilFunc)]) [(0, 1), (1, 1), (2, 1), (3, 1), (4, 1)] [(0, (I .i64 125)), (1, (I .i64 121)), (3, (.flat (.func (.func 118) #[] #[]))), (4, (.flat (.func (.func 119) #[] #[])))]) fun d122 =>
          bi (storeG 5 (.ptr (List.length h0) 0) d122 h3 fl) fun h123 =>
  bi (loadG true 5 (.ptr (List.length h0) 0) h123) fun d124 =>
  bi (storeG 5 (.ptr (List.length H) 0) d124 h123 fl) fun h125 =>
  bi (cellR true 5 (.ptr (List.length H) 0) h125) fun r0 =>
  some ((.tup [r0, (Bo true)]), h125)) (
          bi (eqK .i64 a0 (I .i64 43)) fun d126 =>
          condR d126 (
           bi (storeG 1 (.ptr (List.length h0) 0) (I .i64 4) h3 fl) fun h127 =>
  bi (loadG true 5 (.ptr (List.length h0) 0) h127) fun d128 =>
  bi (storeG 5 (.ptr (List.length H) 0) d128 h127 fl) fun h129 =>
  bi (cellR true 5 (.ptr (List.length H) 0) h129) fun r0 =>
  some ((.tup [r0, (Bo true)]), h129)) (
           bi (buildS (.agg [(I .i64 0), (I .i64 0), (I .i64 0), (.flat .nilFunc), (.flat .nilFunc)]) [(0, 1), (1, 1), (2, 1), (3, 1), (4, 1)] []) fun d130 =>
           bi (storeG 5 (.ptr (List.length H) 0) d130 h3 fl) fun h131 =>
  bi (cellR true 5 (.ptr (List.length H) 0) h131) fun r0 =>
  some ((.tup [r0, (Bo false)]), h131)))))))))) (
    bi (eqK .i64 a0 (I .i64 4)) fun d132 =>
   condR d132 (
    bi (storeG 1 (.ptr (List.length h0) 0) (I .i64 125) h3 fl) fun h133 =>
  bi (loadG true 5 (.ptr (List.length h0) 0) h133) fun d134 =>
  bi (storeG 5 (.ptr (List.length H) 0) d134 h133 fl) fun h135 =>
  bi (cellR true 5 (.ptr (List.length H) 0) h135) fun r0 =>
  some ((.tup [r0, (Bo true)]), h135)) (
    bi (eqK .i64 a0 (I .i64 5)) fun d136 =>
    condR d136 (
     bi (buildS (.agg [(I .i64 0), (I .i64 0), (I .i64 0), (.flat .nilFunc), (.flat .nilFunc)]) [(0, 1), (1, 1), (2, 1), (3, 1), (4, 1)] [(2, (I .i64 1)), (3, (.flat (.func (.func 108) #[] #[]))), (4, (.flat (.func (.func 109) #[] #[])))]) fun d137 =>
     bi (storeG 5 (.ptr (List.length h0) 0) d137 h3 fl) fun h138 =>
  bi (loadG true 5 (.ptr (List.length h0) 0) h138) fun d139 =>
  bi (storeG 5 (.ptr (List.length H) 0) d139 h138 fl) fun h140 =>
  bi (cellR true 5 (.ptr (List.length H) 0) h140) fun r0 =>
  some ((.tup [r0, (Bo true)]), h140)) (
     bi (eqK .i64 a0 (I .i64 6)) fun d141 =>
     condR d141 (
      bi (buildS (.agg [(I .i64 0), (I .i64 0), (I .i64 0), (.flat .nilFunc), (.flat .nilFunc)]) [(0, 1), (1, 1), (2, 1), (3, 1), (4, 1)] [(1, (I .i64 1)), (3, (.flat (.func (.func 110) #[] #[]))), (4, (.flat (.func (.func 111) #[] #[])))]) fun d142 =>
      bi (storeG 5 (.ptr (List.length h0) 0) d142 h3 fl) fun h143 =>
  bi (loadG true 5 (.ptr (List.length h0) 0) h143) fun d144 =>
  bi (storeG 5 (.ptr (List.length H) 0) d144 h143 fl) fun h145 =>
  bi (cellR true 5 (.ptr (List.length H) 0) h145) fun r0 =>
  some ((.tup [r0, (Bo true)]), h145)) (
      bi (eqK .i64 a0 (I .i64 15)) fun d146 =>
      condR d146 (
       bi (buildS (.agg [(I .i64 0), (I .i64 0), (I .i64 0), (.flat .nilFunc), (.flat .nilFunc)]) [(0, 1), (1, 1), (2, 1), (3, 1), (4, 1)] [(2, (I .i64 1968)), (3, (.flat (.func (.func 112) #[] #[]))), (4, (.flat (.func (.func 113) #[] #[])))]) fun d147 =>
       bi (storeG 5 (.ptr (List.length h0) 0) d147 h3 fl) fun h148 =>
  bi (loadG true 5 (.ptr (List.length h0) 0) h148) fun d149 =>
  bi (storeG 5 (.ptr (List.length H) 0) d149 h148 fl) fun h150 =>
  bi (cellR true 5 (.ptr (List.length H) 0) h150) fun r0 =>
  some ((.tup [r0, (Bo true)]), h150)) (
       bi (eqK .i64 a0 (I .i64 16)) fun d151 =>
       condR d151 (
        bi (buildS (.agg [(I .i64 0), (I .i64 0), (I .i64 0), (.flat .nilFunc), (.flat .nilFunc)]) [(0, 1), (1, 1), (2, 1), (3, 1), (4, 1)] [(1, (I .i64 123)), (3, (.flat (.func (.func 114) #[] #[]))), (4, (.flat (.func (.func 115) #[] #[])))]) fun d152 =>
        bi (storeG 5 (.ptr (List.length h0) 0) d152 h3 fl) fun h153 =>
  bi (loadG true 5 (.ptr (List.length h0) 0) h153) fun d154 =>
  bi (storeG 5 (.ptr (List.length H) 0) d154 h153 fl) fun h155 =>
  bi (cellR true 5 (.ptr (List.length H) 0) h155) fun r0 =>
  some ((.tup [r0, (Bo true)]), h155)) (
        bi (eqK .i64 a0 (I .i64 22)) fun d156 =>
        condR d156 (
         bi (buildS (.agg [(I .i64 0), (I .i64 0), (I .i64 0), (.flat .nilFunc), (.flat .nilFunc)]) [(0, 1), (1, 1), (2, 1), (3, 1), (4, 1)] [(3, (.flat (.func (.func 116) #[] #[]))), (4, (.flat (.func (.func 117) #[] #[])))]) fun d157 =>
         bi (storeG 5 (.ptr (List.length h0) 0) d157 h3 fl) fun h158 =>
  bi (loadG true 5 (.ptr (List.length h0) 0) h158) fun d159 =>
  bi (storeG 5 (.ptr (List.length H) 0) d159 h158 fl) fun h160 =>
  bi (cellR true 5 (.ptr (List.length H) 0) h160) fun r0 =>
  some ((.tup [r0, (Bo true)]), h160)) (
         bi (eqK .i64 a0 (I .i64 23)) fun d161 =>
         condR d161 (
          bi (buildS (.agg [(I .i64 0), (I .i64 0), (I .i64 0), (.flat .nilFunc), (.flat .nilFunc)]) [(0, 1), (1, 1), (2, 1), (3, 1), (4, 1)] [(0, (I .i64 125)), (1, (I .i64 121)), (3, (.flat (.func (.func 118) #[] #[]))), (4, (.flat (.func (.func 119) #[] #[])))]) fun d162 =>
          bi (storeG 5 (.ptr (List.length h0) 0) d162 h3 fl) fun h163 =>
  bi (loadG true 5 (.ptr (List.length h0) 0) h163) fun d164 =>
  bi (storeG 5 (.ptr (List.length H) 0) d164 h163 fl) fun h165 =>
  bi (cellR true 5 (.ptr (List.length H) 0) h165) fun r0 =>
  some ((.tup [r0, (Bo true)]), h165)) (
          bi (eqK .i64 a0 (I .i64 43)) fun d166 =>
          condR d166 (
           bi (storeG 1 (.ptr (List.length h0) 0) (I .i64 4) h3 fl) fun h167 =>
  bi (loadG true 5 (.ptr (List.length h0) 0) h167) fun d168 =>
  bi (storeG 5 (.ptr (List.length H) 0) d168 h167 fl) fun h169 =>
  bi (cellR true 5 (.ptr (List.length H) 0) h169) fun r0 =>
  some ((.tup [r0, (Bo true)]), h169)) (
           bi (buildS (.agg [(I .i64 0), (I .i64 0), (I .i64 0), (.flat .nilFunc), (.flat .nilFunc)]) [(0, 1), (1, 1), (2, 1), (3, 1), (4, 1)] []) fun d170 =>
           bi (storeG 5 (.ptr (List.length H) 0) d170 h3 fl) fun h171 =>
  bi (cellR true 5 (.ptr (List.length H) 0) h171) fun r0 =>
  some ((.tup [r0, (Bo false)]), h171))))))))))))
theorem s_ask_formOf_eq (n : Nat) (H : Heap) (fl : Nat) (a0 : DV) : callG Try.prog ENV (n + 1) 78 [a0] H fl = s_ask_formOf n H fl a0 := by kernel_rfl

/-! triune/ask.fits -/
noncomputable def s_ask_fits (n : Nat) (H : Heap) (fl : Nat) (a0 a1 : DV) : R :=
  bi (leK .i64 a0 a1) fun d0 =>
  bi (wantF d0 true (some a0)) fun d1 =>
  bi (wantF d0 true (gtK .i64 d1 (I .i64 0))) fun d2 =>
  bi (wantF d0 true (some a1)) fun d3 =>
  bi (wantF d0 true (gtK .i64 d3 (I .i64 0))) fun d4 =>
  bi (wantF d0 true (eqB d2 d4)) fun d5 =>
  bi (pickD d0 d5 (Bo false)) fun d6 =>
  some (d6, H)
theorem s_ask_fits_eq (n : Nat) (H : Heap) (fl : Nat) (a0 a1 : DV) : callG Try.prog ENV (n + 1) 86 [a0, a1] H fl = s_ask_fits n H fl a0 a1 := by kernel_rfl

/-! (triune/ask.Ask).formed -/
noncomputable def s__ask_Ask__formed (n : Nat) (H : Heap) (fl : Nat) (a0 : DV) : R :=
  bi (allocG 26 a0 (List.length H) (H ++ [.hole])) fun h0 =>
  bi (loadG false 1 (.ptr (List.length H) 0) (h0 ++ [.hole])) fun d1 =>
  bi (cP n 78 false [d1]) fun d2 =>
  bi (extD 0 d2) fun d3 =>
  bi (extD 1 d2) fun d4 =>
  bi (allocG 124 (.agg [(I .i64 0), (I .i64 0), (I .i64 0), (.flat .nilFunc), (.flat .nilFunc)]) (List.length h0) (h0 ++ [.hole])) fun h5 =>
  bi (storeG 5 (.ptr (List.length h0) 0) d3 h5 fl) fun h6 =>
  bi (loadG false 1 (.ptr (List.length H) 0) h6) fun d7 =>
  bi (eqK .i64 d7 (I .i64 22)) fun d8 =>
  bi (wantF d8 false (some (.ptr (List.length H) 6))) fun d9 =>
  bi (wantF d8 false (loadG false 1 d9 h6)) fun d10 =>
  bi (wantF d8 false (eqK .u16 d10 (I .u16 0))) fun d11 =>
  bi (wantF d8 false (some d11)) fun d12 =>
  bi (wantF d12 true (some (.ptr (List.length H) 7))) fun d13 =>
  bi (wantF d12 true (loadG false 1 d13 h6)) fun d14 =>
  bi (wantF d12 true (eqK .u16 d14 (I .u16 0))) fun d15 =>
  bi (wantF d8 false (pickD d12 d15 (Bo false))) fun d16 =>
  bi (pickD d8 (Bo true) d16) fun d17 =>
  bi (loadG false 1 (.ptr (List.length H) 0) h6) fun d18 =>
  bi (eqK .i64 d18 (I .i64 23)) fun d19 =>
  bi (wantF d19 false (some (.ptr (List.length H) 3))) fun d20 =>
  bi (wantF d19 false (loadG false 1 d20 h6)) fun d21 =>
  bi (wantF d19 false (eqK .i64 d21 (I .i64 0))) fun d22 =>
  bi (pickD d19 (Bo true) d22) fun d23 =>
  bi (loadG false 1 (.ptr (List.length H) 0) h6) fun d24 =>
  bi (eqK .i64 d24 (I .i64 43)) fun d25 =>
  condR d25 (
  bi (wantF d4 true (some (.ptr (List.length H) 2))) fun d26 =>
  bi (wantF d4 true (loadG false 1 d26 h6)) fun d27 =>
  bi (wantF d4 true (maxI d27 (I .i64 0))) fun d28 =>
  bi (wantF d4 true (some (.ptr (List.length h0) 0))) fun d29 =>
  bi (wantF d4 true (loadG false 1 d29 h6)) fun d30 =>
  bi (wantF d4 true (cP n 86 false [d28, d30])) fun d31 =>
  bi (pickD d4 d31 (Bo false)) fun d32 =>
  bi (wantF d32 true (some (.ptr (List.length H) 2))) fun d33 =>
  bi (wantF d32 true (loadG false 1 d33 h6)) fun d34 =>
  bi (wantF d32 true (geK .i64 d34 (I .i64 0))) fun d35 =>
  bi (pickD d32 d35 (Bo false)) fun d36 =>
  bi (wantF d36 true (some (.ptr (List.length H) 4))) fun d37 =>
  bi (wantF d36 true (loadG false 1 d37 h6)) fun d38 =>
  bi (wantF d36 true (lenD d38)) fun d39 =>
  bi (wantF d36 true (some (.ptr (List.length h0) 1))) fun d40 =>
  bi (wantF d36 true (loadG false 1 d40 h6)) fun d41 =>
  bi (wantF d36 true (cP n 86 false [d39, d41])) fun d42 =>
  bi (pickD d36 d42 (Bo false)) fun d43 =>
  bi (wantF d43 true (some (.ptr (List.length H) 5))) fun d44 =>
  bi (wantF d43 true (loadG false 1 d44 h6)) fun d45 =>
  bi (wantF d43 true (lenD d45)) fun d46 =>
  bi (wantF d43 true (some (.ptr (List.length h0) 2))) fun d47 =>
  bi (wantF d43 true (loadG false 1 d47 h6)) fun d48 =>
  bi (wantF d43 true (cP n 86 false [d46, d48])) fun d49 =>
  bi (pickD d43 d49 (Bo false)) fun d50 =>
  bi (wantF d50 true (some d17)) fun d51 =>
  bi (pickD d50 d51 (Bo false)) fun d52 =>
  bi (wantF d52 true (some d23)) fun d53 =>
  bi (pickD d52 d53 (Bo false)) fun d54 =>
  bi (wantF d54 true (some (.ptr (List.length H) 1))) fun d55 =>
  bi (wantF d54 true (loadG false 1 d55 h6)) fun d56 =>
  bi (wantF d54 true (geK .i64 d56 (I .i64 0))) fun d57 =>
  bi (pickD d54 d57 (Bo false)) fun d58 =>
  bi (wantF d58 true (some (.ptr (List.length H) 1))) fun d59 =>
  bi (wantF d58 true (loadG false 1 d59 h6)) fun d60 =>
  bi (wantF d58 true (some (I .i64 255))) fun d61 =>
  bi (wantF d58 true (leK .i64 d60 d61)) fun d62 =>
  bi (pickD d58 d62 (Bo false)) fun d63 =>
  bi (wantF d63 true (some (.ptr (List.length H) 3))) fun d64 =>
  bi (wantF d63 true (loadG false 1 d64 h6)) fun d65 =>
  bi (wantF d63 true (geK .i64 d65 (I .i64 0))) fun d66 =>
  bi (pickD d63 d66 (Bo false)) fun d67 =>
  bi (wantF d67 true (some (.ptr (List.length H) 3))) fun d68 =>
  bi (wantF d67 true (loadG false 1 d68 h6)) fun d69 =>
  bi (wantF d67 true (ltK .i64 d69 (I .i64 65536))) fun d70 =>
  bi (pickD d67 d70 (Bo false)) fun d71 =>
  some (d71, h6)) (
  bi (wantF d4 true (some (.ptr (List.length H) 2))) fun d72 =>
  bi (wantF d4 true (loadG false 1 d72 h6)) fun d73 =>
  bi (wantF d4 true (maxI d73 (I .i64 0))) fun d74 =>
  bi (wantF d4 true (some (.ptr (List.length h0) 0))) fun d75 =>
  bi (wantF d4 true (loadG false 1 d75 h6)) fun d76 =>
  bi (wantF d4 true (cP n 86 false [d74, d76])) fun d77 =>
  bi (pickD d4 d77 (Bo false)) fun d78 =>
  bi (wantF d78 true (some (.ptr (List.length H) 2))) fun d79 =>
  bi (wantF d78 true (loadG false 1 d79 h6)) fun d80 =>
  bi (wantF d78 true (geK .i64 d80 (I .i64 0))) fun d81 =>
  bi (pickD d78 d81 (Bo false)) fun d82 =>
  bi (wantF d82 true (some (.ptr (List.length H) 4))) fun d83 =>
  bi (wantF d82 true (loadG false 1 d83 h6)) fun d84 =>
  bi (wantF d82 true (lenD d84)) fun d85 =>
  bi (wantF d82 true (some (.ptr (List.length h0) 1))) fun d86 =>
  bi (wantF d82 true (loadG false 1 d86 h6)) fun d87 =>
  bi (wantF d82 true (cP n 86 false [d85, d87])) fun d88 =>
  bi (pickD d82 d88 (Bo false)) fun d89 =>
  bi (wantF d89 true (some (.ptr (List.length H) 5))) fun d90 =>
  bi (wantF d89 true (loadG false 1 d90 h6)) fun d91 =>
  bi (wantF d89 true (lenD d91)) fun d92 =>
  bi (wantF d89 true (some (.ptr (List.length h0) 2))) fun d93 =>
  bi (wantF d89 true (loadG false 1 d93 h6)) fun d94 =>
  bi (wantF d89 true (cP n 86 false [d92, d94])) fun d95 =>
  bi (pickD d89 d95 (Bo false)) fun d96 =>
  bi (wantF d96 true (some d17)) fun d97 =>
  bi (pickD d96 d97 (Bo false)) fun d98 =>
  bi (wantF d98 true (some d23)) fun d99 =>
  bi (pickD d98 d99 (Bo false)) fun d100 =>
  bi (wantF d100 true (some (.ptr (List.length H) 1))) fun d101 =>
  bi (wantF d100 true (loadG false 1 d101 h6)) fun d102 =>
  bi (wantF d100 true (geK .i64 d102 (I .i64 0))) fun d103 =>
  bi (pickD d100 d103 (Bo false)) fun d104 =>
  bi (wantF d104 true (some (.ptr (List.length H) 1))) fun d105 =>
  bi (wantF d104 true (loadG false 1 d105 h6)) fun d106 =>
  bi (wantF d104 true (some (I .i64 65535))) fun d107 =>
  bi (wantF d104 true (leK .i64 d106 d107)) fun d108 =>
  bi (pickD d104 d108 (Bo false)) fun d109 =>
  bi (wantF d109 true (some (.ptr (List.length H) 3))) fun d110 =>
  bi (wantF d109 true (loadG false 1 d110 h6)) fun d111 =>
  bi (wantF d109 true (geK .i64 d111 (I .i64 0))) fun d112 =>
  bi (pickD d109 d112 (Bo false)) fun d113 =>
  bi (wantF d113 true (some (.ptr (List.length H) 3))) fun d114 =>
  bi (wantF d113 true (loadG false 1 d114 h6)) fun d115 =>
  bi (wantF d113 true (ltK .i64 d115 (I .i64 65536))) fun d116 =>
  bi (pickD d113 d116 (Bo false)) fun d117 =>
  some (d117, h6))
theorem s__ask_Ask__formed_eq (n : Nat) (H : Heap) (fl : Nat) (a0 : DV) : callG Try.prog ENV (n + 1) 48 [a0] H fl = s__ask_Ask__formed n H fl a0 := by kernel_rfl

/-! (triune/ask.Ask).placed -/
noncomputable def s__ask_Ask__placed (n : Nat) (H : Heap) (fl : Nat) (a0 : DV) : R :=
  bi (allocG 26 a0 (List.length H) (H ++ [.hole])) fun h0 =>
  bi (loadG false 1 (.ptr (List.length H) 0) h0) fun d1 =>
  bi (eqK .i64 d1 (I .i64 43)) fun d2 =>
  condR d2 (
  some ((Bo true), h0)) (
  bi (eqK .i64 d1 (I .i64 23)) fun d3 =>
  condR d3 (
  bi (loadG false 1 (.ptr (List.length H) 3) h0) fun d4 =>
  bi (loadG false 1 (.ptr (List.length H) 4) h0) fun d5 =>
  bi (lenD d5) fun d6 =>
  bi (addK .i64 d4 d6) fun d7 =>
  bi (gtK .i64 d7 (I .i64 65536)) fun d8 =>
  condR d8 (
  some ((Bo false), h0)) (
  bi (loadG false 1 (.ptr (List.length H) 2) h0) fun d9 =>
  bi (loadG false 1 (.ptr (List.length H) 1) h0) fun d10 =>
  bi (addK .i64 d10 d9) fun d11 =>
  bi (leK .i64 d11 (I .i64 65536)) fun d12 =>
  some (d12, h0))) (
  bi (eqK .i64 d1 (I .i64 1)) fun d13 =>
  condR d13 (
  condR d13 (
  bi (loadG false 1 (.ptr (List.length H) 2) h0) fun d14 =>
  bi (loadG false 1 (.ptr (List.length H) 1) h0) fun d15 =>
  bi (addK .i64 d15 d14) fun d16 =>
  bi (leK .i64 d16 (I .i64 65536)) fun d17 =>
  some (d17, h0)) (
  bi (eqK .i64 d1 (I .i64 15)) fun d18 =>
  condR d18 (
  bi (loadG false 1 (.ptr (List.length H) 5) h0) fun d19 =>
  bi (lenD d19) fun d20 =>
  bi (loadG false 1 (.ptr (List.length H) 1) h0) fun d21 =>
  bi (addK .i64 d21 d20) fun d22 =>
  bi (leK .i64 d22 (I .i64 65536)) fun d23 =>
  some (d23, h0)) (
  bi (eqK .i64 d1 (I .i64 16)) fun d24 =>
  condR d24 (
  bi (loadG false 1 (.ptr (List.length H) 4) h0) fun d25 =>
  bi (lenD d25) fun d26 =>
  bi (loadG false 1 (.ptr (List.length H) 1) h0) fun d27 =>
  bi (addK .i64 d27 d26) fun d28 =>
  bi (leK .i64 d28 (I .i64 65536)) fun d29 =>
  some (d29, h0)) (
  bi (loadG false 1 (.ptr (List.length H) 1) h0) fun d30 =>
  bi (addK .i64 d30 (I .i64 1)) fun d31 =>
  bi (leK .i64 d31 (I .i64 65536)) fun d32 =>
  some (d32, h0))))) (
   bi (eqK .i64 d1 (I .i64 2)) fun d33 =>
   condR d33 (
  condR d33 (
  bi (loadG false 1 (.ptr (List.length H) 2) h0) fun d34 =>
  bi (loadG false 1 (.ptr (List.length H) 1) h0) fun d35 =>
  bi (addK .i64 d35 d34) fun d36 =>
  bi (leK .i64 d36 (I .i64 65536)) fun d37 =>
  some (d37, h0)) (
  bi (eqK .i64 d1 (I .i64 15)) fun d38 =>
  condR d38 (
  bi (loadG false 1 (.ptr (List.length H) 5) h0) fun d39 =>
  bi (lenD d39) fun d40 =>
  bi (loadG false 1 (.ptr (List.length H) 1) h0) fun d41 =>
  bi (addK .i64 d41 d40) fun d42 =>
  bi (leK .i64 d42 (I .i64 65536)) fun d43 =>
  some (d43, h0)) (
  bi (eqK .i64 d1 (I .i64 16)) fun d44 =>
  condR d44 (
  bi (loadG false 1 (.ptr (List.length H) 4) h0) fun d45 =>
  bi (lenD d45) fun d46 =>
  bi (loadG false 1 (.ptr (List.length H) 1) h0) fun d47 =>
  bi (addK .i64 d47 d46) fun d48 =>
  bi (leK .i64 d48 (I .i64 65536)) fun d49 =>
  some (d49, h0)) (
  bi (loadG false 1 (.ptr (List.length H) 1) h0) fun d50 =>
  bi (addK .i64 d50 (I .i64 1)) fun d51 =>
  bi (leK .i64 d51 (I .i64 65536)) fun d52 =>
  some (d52, h0))))) (
    bi (eqK .i64 d1 (I .i64 3)) fun d53 =>
    condR d53 (
  condR d53 (
  bi (loadG false 1 (.ptr (List.length H) 2) h0) fun d54 =>
  bi (loadG false 1 (.ptr (List.length H) 1) h0) fun d55 =>
  bi (addK .i64 d55 d54) fun d56 =>
  bi (leK .i64 d56 (I .i64 65536)) fun d57 =>
  some (d57, h0)) (
  bi (eqK .i64 d1 (I .i64 15)) fun d58 =>
  condR d58 (
  bi (loadG false 1 (.ptr (List.length H) 5) h0) fun d59 =>
  bi (lenD d59) fun d60 =>
  bi (loadG false 1 (.ptr (List.length H) 1) h0) fun d61 =>
  bi (addK .i64 d61 d60) fun d62 =>
  bi (leK .i64 d62 (I .i64 65536)) fun d63 =>
  some (d63, h0)) (
  bi (eqK .i64 d1 (I .i64 16)) fun d64 =>
  condR d64 (
  bi (loadG false 1 (.ptr (List.length H) 4) h0) fun d65 =>
  bi (lenD d65) fun d66 =>
  bi (loadG false 1 (.ptr (List.length H) 1) h0) fun d67 =>
  bi (addK .i64 d67 d66) fun d68 =>
  bi (leK .i64 d68 (I .i64 65536)) fun d69 =>
  some (d69, h0)) (
  bi (loadG false 1 (.ptr (List.length H) 1) h0) fun d70 =>
  bi (addK .i64 d70 (I .i64 1)) fun d71 =>
  bi (leK .i64 d71 (I .i64 65536)) fun d72 =>
  some (d72, h0))))) (
     bi (eqK .i64 d1 (I .i64 4)) fun d73 =>
  condR d73 (
  bi (loadG false 1 (.ptr (List.length H) 2) h0) fun d74 =>
  bi (loadG false 1 (.ptr (List.length H) 1) h0) fun d75 =>
  bi (addK .i64 d75 d74) fun d76 =>
  bi (leK .i64 d76 (I .i64 65536)) fun d77 =>
  some (d77, h0)) (
  bi (eqK .i64 d1 (I .i64 15)) fun d78 =>
  condR d78 (
  bi (loadG false 1 (.ptr (List.length H) 5) h0) fun d79 =>
  bi (lenD d79) fun d80 =>
  bi (loadG false 1 (.ptr (List.length H) 1) h0) fun d81 =>
  bi (addK .i64 d81 d80) fun d82 =>
  bi (leK .i64 d82 (I .i64 65536)) fun d83 =>
  some (d83, h0)) (
  bi (eqK .i64 d1 (I .i64 16)) fun d84 =>
  condR d84 (
  bi (loadG false 1 (.ptr (List.length H) 4) h0) fun d85 =>
  bi (lenD d85) fun d86 =>
  bi (loadG false 1 (.ptr (List.length H) 1) h0) fun d87 =>
  bi (addK .i64 d87 d86) fun d88 =>
  bi (leK .i64 d88 (I .i64 65536)) fun d89 =>
  some (d89, h0)) (
  bi (loadG false 1 (.ptr (List.length H) 1) h0) fun d90 =>
  bi (addK .i64 d90 (I .i64 1)) fun d91 =>
  bi (leK .i64 d91 (I .i64 65536)) fun d92 =>
  some (d92, h0)))))))))
theorem s__ask_Ask__placed_eq (n : Nat) (H : Heap) (fl : Nat) (a0 : DV) : callG Try.prog ENV (n + 1) 50 [a0] H fl = s__ask_Ask__placed n H fl a0 := by kernel_rfl

/-! triune/ask.Right -/
noncomputable def s_ask_Right (n : Nat) (H : Heap) (fl : Nat) (a0 : DV) : R :=
  bi (allocG 26 a0 (List.length H) (H ++ [.hole])) fun h0 =>
  bi (loadG true 8 (.ptr (List.length H) 0) h0) fun d1 =>
  bi (cP n 48 false [d1]) fun d2 =>
  bi (wantF d2 true (loadG true 8 (.ptr (List.length H) 0) h0)) fun d3 =>
  bi (wantF d2 true (cP n 50 false [d3])) fun d4 =>
  bi (pickD d2 d4 (Bo false)) fun d5 =>
  some (d5, h0)
theorem s_ask_Right_eq (n : Nat) (H : Heap) (fl : Nat) (a0 : DV) : callG Try.prog ENV (n + 1) 20 [a0] H fl = s_ask_Right n H fl a0 := by kernel_rfl

/-! (triune/ask.Ask).text -/
noncomputable def s__ask_Ask__text (n : Nat) (H : Heap) (fl : Nat) (a0 : DV) : R :=
  bi (allocG 26 a0 (List.length H) (H ++ [.hole])) fun h0 =>
  bi (loadG false 1 (.ptr (List.length H) 0) h0) fun d1 =>
  bi (eqK .i64 d1 (I .i64 43)) fun d2 =>
  condR d2 (
   bi (loadG false 1 (.ptr (List.length H) 0) h0) fun d3 =>
   bi (cvK .u8 d3) fun d4 =>
   bi (loadG false 1 (.ptr (List.length H) 2) h0) fun d5 =>
   bi (cvK .u8 d5) fun d6 =>
   bi (loadG false 1 (.ptr (List.length H) 1) h0) fun d7 =>
   bi (cvK .u8 d7) fun d8 =>
   bi (buildL false 1 4 (I .u8 0) [(0, d4), (1, (I .u8 14)), (2, d6), (3, d8)]) fun d9 =>
  some (d9, h0)) (
  bi (loadG false 1 (.ptr (List.length H) 0) (h0 ++ [.hole])) fun d10 =>
  bi (cP n 78 false [d10]) fun d11 =>
  bi (extD 0 d11) fun d12 =>
  bi (extD 1 d11) fun d13 =>
  bi (allocG 124 (.agg [(I .i64 0), (I .i64 0), (I .i64 0), (.flat .nilFunc), (.flat .nilFunc)]) (List.length h0) (h0 ++ [.hole])) fun h14 =>
  bi (storeG 5 (.ptr (List.length h0) 0) d12 h14 fl) fun h15 =>
  bi (loadG false 1 (.ptr (List.length H) 0) h15) fun d16 =>
  bi (cvK .u8 d16) fun d17 =>
  bi (buildL false 1 1 (I .u8 0) [(0, d17)]) fun d18 =>
  bi (loadG false 1 (.ptr (List.length H) 1) h15) fun d19 =>
  bi (cP n 80 false [d19]) fun d20 =>
  bi (loadG false 1 (.ptr (List.length h0) 3) h15) fun d21 =>
  bi (loadG true 8 (.ptr (List.length H) 0) h15) fun d22 =>
  bi (cVP n d21 [d22]) fun d23 =>
  bi (buildL false 1 3 (.list 0 [] .ti) [(0, d18), (1, d20), (2, d23)]) fun d24 =>
  bi (cP n 79 false [d24]) fun d25 =>
  some (d25, h15))
theorem s__ask_Ask__text_eq (n : Nat) (H : Heap) (fl : Nat) (a0 : DV) : callG Try.prog ENV (n + 1) 45 [a0] H fl = s__ask_Ask__text n H fl a0 := by kernel_rfl

/-! triune/ask.Bytes -/
noncomputable def s_ask_Bytes (n : Nat) (H : Heap) (fl : Nat) (a0 : DV) : R :=
  bi (allocG 26 a0 (List.length H) (H ++ [.hole])) fun h0 =>
  bi (loadG true 8 (.ptr (List.length H) 0) h0) fun d1 =>
  bi (cP n 20 false [d1]) fun d2 =>
  bi (notD d2) fun d3 =>
  condR d3 (
  some ((.tup [(.list 0 [] .ti), (I .i64 2)]), h0)) (
  bi (loadG true 8 (.ptr (List.length H) 0) h0) fun d4 =>
  bi (cP n 45 false [d4]) fun d5 =>
  some ((.tup [d5, (I .i64 0)]), h0))
theorem s_ask_Bytes_eq (n : Nat) (H : Heap) (fl : Nat) (a0 : DV) : callG Try.prog ENV (n + 1) 14 [a0] H fl = s_ask_Bytes n H fl a0 := by kernel_rfl

/-! triune/ask.read -/
/-! triune/ask.Parse -/
/-! triune/ask.Writes -/
/-! slices.Contains[[]int,int] -/
/-! slices.Index[[]int,int] -/
end Go.Proofs.Ytjkofefcoeejbaa

/- Requests: what they are, in plain words. -/
namespace Go.Proofs.Ytjkofefcoeejbaa
open Go
set_option linter.unusedSimpArgs false
set_option linter.unusedVariables false
def cntV (c : Int) : Int := if c = 1 ∨ c = 2 then 2000 else if c = 3 ∨ c = 4 ∨ c = 23 then 125 else if c = 43 then 4 else 0
def wrdV (c : Int) : Int := if c = 6 then 1 else if c = 16 then 123 else if c = 23 then 121 else 0
def bitV (c : Int) : Int := if c = 5 then 1 else if c = 15 then 1968 else 0
def isV (c : Int) : Bool := decide (c = 1 ∨ c = 2 ∨ c = 3 ∨ c = 4 ∨ c = 5 ∨ c = 6 ∨ c = 15 ∨ c = 16 ∨ c = 22 ∨ c = 23 ∨ c = 43)
def fitV (n m : Int) : Bool := decide (n = 0 ∧ m = 0 ∨ 1 ≤ n ∧ n ≤ m)
theorem code_cases (c : Int) : c = 1 ∨ c = 2 ∨ c = 3 ∨ c = 4 ∨ c = 5 ∨ c = 6 ∨ c = 15 ∨ c = 16 ∨ c = 22 ∨ c = 23 ∨ c = 43 ∨ (c ≠ 1 ∧ c ≠ 2 ∧ c ≠ 3 ∧ c ≠ 4 ∧ c ≠ 5 ∧ c ≠ 6 ∧ c ≠ 15 ∧ c ≠ 16 ∧ c ≠ 22 ∧ c ≠ 23 ∧ c ≠ 43) := by omega
theorem cntV_le (c : Int) : 0 ≤ cntV c ∧ cntV c ≤ 2000 := by unfold cntV; repeat' split <;> omega
theorem wrdV_le (c : Int) : 0 ≤ wrdV c ∧ wrdV c ≤ 123 := by unfold wrdV; repeat' split <;> omega
theorem bitV_le (c : Int) : 0 ≤ bitV c ∧ bitV c ≤ 1968 := by unfold bitV; repeat' split <;> omega
/-- may a request be, but for its places? -/
def FormedP (a : Rq) : Prop := isV a.code = true ∧ fitV a.cnt (cntV a.code) = true ∧ fitV a.words.length (wrdV a.code) = true ∧ fitV a.bits.length (bitV a.code) = true ∧ (a.code = 22 ∨ a.and_ = 0 ∧ a.or_ = 0) ∧ (a.code = 23 ∨ a.to_ = 0) ∧ 0 ≤ a.addr ∧ a.addr ≤ 65535 ∧ (a.code = 43 → a.addr ≤ 255) ∧ 0 ≤ a.to_ ∧ a.to_ ≤ 65535
instance (a : Rq) : Decidable (FormedP a) := by unfold FormedP; infer_instance
/-- how many places -/
def placesV (a : Rq) : Int := if a.code = 1 ∨ a.code = 2 ∨ a.code = 3 ∨ a.code = 4 ∨ a.code = 23 then a.cnt else if a.code = 15 then a.bits.length else if a.code = 16 then a.words.length else 1
def PlacedP (a : Rq) : Prop := a.code = 43 ∨ (a.code = 23 → a.to_ + a.words.length ≤ 65536) ∧ a.addr + placesV a ≤ 65536
instance (a : Rq) : Decidable (PlacedP a) := by unfold PlacedP; infer_instance
def twoV (n : Int) : List Int := [n / 256 % 256, n % 256]
def wtV (a : Rq) : List Int := twoV a.words.length ++ ((wbI a.words).length : Int) % 256 :: wbI a.words
def btV (a : Rq) : List Int := twoV a.bits.length ++ ((pkI a.bits).length : Int) % 256 :: pkI a.bits
/-- what stands behind code and address -/
def tailV (a : Rq) : List Int :=
  if a.code = 5 then (if a.bits.head? = some true then [255, 0] else [0, 0])
  else if a.code = 6 then wbI a.words
  else if a.code = 15 then btV a
  else if a.code = 16 then wtV a
  else if a.code = 22 then twoV a.and_ ++ twoV a.or_
  else if a.code = 23 then twoV a.cnt ++ twoV a.to_ ++ wtV a
  else twoV a.cnt
def textV (a : Rq) : List Int := if a.code = 43 then [43, 14, a.cnt % 256, a.addr % 256] else a.code % 256 :: twoV a.addr ++ tailV a
/-- the number at a place -/
def numV (l : List Int) (i : Nat) : Int := if i + 2 ≤ l.length then 256 * l.getD i 0 + l.getD (i + 1) 0 else 0
theorem fit_pos {n m : Int} (h : fitV n m = true) (hm : 0 ≤ m) : 0 ≤ n ∧ n ≤ m ∧ (m = 0 → n = 0) ∧ (1 ≤ m → 1 ≤ n) := by
  unfold fitV at h
  have := of_decide_eq_true h
  omega
/-! numbers of the texts -/
theorem numV_0 (a b : Int) (l : List Int) : numV (a :: b :: l) 0 = 256 * a + b := by simp [numV]
theorem numV_c (a : Int) (l : List Int) (i : Nat) : numV (a :: l) (i + 1) = numV l i := by
  unfold numV
  simp only [List.length_cons, List.getD_cons_succ]
  by_cases h : i + 2 ≤ l.length
  · rw [if_pos h, if_pos (by omega)]
  · rw [if_neg h, if_neg (by omega)]
theorem numV_two (n : Int) (l : List Int) (h0 : 0 ≤ n) (h1 : n < 65536) : numV (twoV n ++ l) 0 = n := by
  show numV (n / 256 % 256 :: n % 256 :: l) 0 = n
  rw [numV_0]
  omega
end Go.Proofs.Ytjkofefcoeejbaa

/- Go functions as Lean functions on deep values; printed by a program of mine. -/
namespace Go.Proofs.Ytjkofefcoeejbaa
open Go
set_option maxRecDepth 100000
set_option linter.unusedVariables false
/-! triune/word.Put -/
noncomputable def s_word_Put (n : Nat) (H : Heap) (fl : Nat) (a0 : DV) : R :=
  bi (allocG 138 (.agg [(I .u8 0), (I .u8 0)]) (List.length H) (H ++ [.hole])) fun h0 =>
  bi (shrK .u16 a0 (I .u64 8)) fun d1 =>
  bi (cvK .u8 d1) fun d2 =>
  bi (cvK .u8 a0) fun d3 =>
  bi (buildA (.agg [(I .u8 0), (I .u8 0)]) 1 [(0, d2), (1, d3)]) fun d4 =>
  bi (storeG 2 (.ptr (List.length H) 0) d4 h0 fl) fun h5 =>
  bi (cellR true 2 (.ptr (List.length H) 0) h5) fun r0 =>
  some (r0, h5)
theorem s_word_Put_eq (n : Nat) (H : Heap) (fl : Nat) (a0 : DV) : callG Try.prog ENV (n + 1) 95 [a0] H fl = s_word_Put n H fl a0 := by kernel_rfl

end Go.Proofs.Ytjkofefcoeejbaa

/- A word as two bytes. -/
namespace Go.Proofs.Ytjkofefcoeejbaa
open Go
set_option linter.unusedSimpArgs false
theorem word_Put_c (n : Nat) (hn : 1 ≤ n) (x : Int) (h0 : 0 ≤ x) (h1 : x < 65536) : cP n 95 false [I .u16 x] = some (.agg [I .u8 (x / 256), I .u8 (x % 256)]) := by
  obtain ⟨n, rfl⟩ : ∃ m, n = m + 1 := ⟨n - 1, by omega⟩
  refine cP_of rfl ((s_word_Put_eq _ _ _ _).trans (by unfold s_word_Put; simp -implicitDefEqProofs (disch := first | omega | (simp only [List.length_set, List.length_append, List.length_cons, List.length_nil, List.length_take, List.length_drop, List.length_map]; omega) | simp) [wrap_i64, wrap_u16_id, wrap_u8_id, tdiv_pos, tmod_pos, -getElem?_pos, -getElem?_neg, -List.length_eq_zero_iff, -List.getElem_cons_drop]; first | exact rfl | exact ⟨rfl, rfl⟩)) ?_
  have : x / 256 % 256 = x / 256 := by omega
  simp [shrI_w8, wrap_u8, this]
end Go.Proofs.Ytjkofefcoeejbaa

/- Go functions as Lean functions on deep values; printed by a program of mine. -/
namespace Go.Proofs.Ytjkofefcoeejbaa
open Go
set_option maxRecDepth 100000
set_option linter.unusedVariables false
/-! bytes.Equal -/
end Go.Proofs.Ytjkofefcoeejbaa

/- bytes.Clone and bytes.Equal. -/
namespace Go.Proofs.Ytjkofefcoeejbaa
open Go
set_option linter.unusedSimpArgs false
end Go.Proofs.Ytjkofefcoeejbaa

/- Choices by a Bool that is not known: one path for both. -/
namespace Go.Proofs.Ytjkofefcoeejbaa
open Go
set_option linter.unusedSimpArgs false
/-- a value that is there only if b -/
def gd (b : Bool) (v : DV) : DV := if b then v else .flat undef
def gO (b : Bool) (x : Option DV) : Option DV := if b then x else some (.flat undef)
theorem wantF_sy (b : Bool) (x : Option DV) : wantF (.flat (.bool b)) true x = gO b x := by cases b <;> rfl
theorem wantF_sn (b : Bool) (x : Option DV) : wantF (.flat (.bool b)) false x = gO (!b) x := by cases b <;> rfl
theorem gO_some (b : Bool) (v : DV) : gO b (some v) = some (gd b v) := by cases b <;> rfl
theorem gO_loadG (b : Bool) (ag : Bool) (sz : Nat) (v : DV) (H : Heap) : gO b (loadG ag sz (gd b v) H) = gO b (loadG ag sz v H) := by cases b <;> rfl
theorem gO_lenD (b : Bool) (v : DV) : gO b (lenD (gd b v)) = gO b (lenD v) := by cases b <;> rfl
theorem gO_notD (b : Bool) (v : DV) : gO b (notD (gd b v)) = gO b (notD v) := by cases b <;> rfl
theorem gO_eqK1 (b : Bool) (k : IntKind) (v w : DV) : gO b (eqK k (gd b v) w) = gO b (eqK k v w) := by cases b <;> rfl
theorem gO_neK1 (b : Bool) (k : IntKind) (v w : DV) : gO b (neK k (gd b v) w) = gO b (neK k v w) := by cases b <;> rfl
theorem gO_ltK1 (b : Bool) (k : IntKind) (v w : DV) : gO b (ltK k (gd b v) w) = gO b (ltK k v w) := by cases b <;> rfl
theorem gO_leK1 (b : Bool) (k : IntKind) (v w : DV) : gO b (leK k (gd b v) w) = gO b (leK k v w) := by cases b <;> rfl
theorem gO_gtK1 (b : Bool) (k : IntKind) (v w : DV) : gO b (gtK k (gd b v) w) = gO b (gtK k v w) := by cases b <;> rfl
theorem gO_geK1 (b : Bool) (k : IntKind) (v w : DV) : gO b (geK k (gd b v) w) = gO b (geK k v w) := by cases b <;> rfl
theorem gO_max1 (b : Bool) (v w : DV) : gO b (maxI (gd b v) w) = gO b (maxI v w) := by cases b <;> rfl
theorem gO_max2 (b : Bool) (v w : DV) : gO b (maxI v (gd b w)) = gO b (maxI v w) := by cases b <;> rfl
theorem gO_addK1 (b : Bool) (k : IntKind) (v w : DV) : gO b (addK k (gd b v) w) = gO b (addK k v w) := by cases b <;> rfl
theorem gO_addK2 (b : Bool) (k : IntKind) (v w : DV) : gO b (addK k v (gd b w)) = gO b (addK k v w) := by cases b <;> rfl
theorem gO_mulK1 (b : Bool) (k : IntKind) (v w : DV) : gO b (mulK k v (gd b w)) = gO b (mulK k v w) := by cases b <;> rfl
theorem gO_ltK2 (b : Bool) (k : IntKind) (v w : DV) : gO b (ltK k v (gd b w)) = gO b (ltK k v w) := by cases b <;> rfl
theorem gO_leK2 (b : Bool) (k : IntKind) (v w : DV) : gO b (leK k v (gd b w)) = gO b (leK k v w) := by cases b <;> rfl
theorem gO_cvK (b : Bool) (k : IntKind) (v : DV) : gO b (cvK k (gd b v)) = gO b (cvK k v) := by cases b <;> rfl
theorem gO_idx (b : Bool) (sz : Nat) (v w : DV) : gO b (idxSl sz (gd b v) w) = gO b (idxSl sz v w) := by cases b <;> rfl
theorem gO_eqB (b : Bool) (v w : DV) : gO b (eqB (gd b v) (gd b w)) = gO b (eqB v w) := by cases b <;> rfl
theorem gO_pick (b : Bool) (c v w : DV) : gO b (pickD (gd b c) v w) = gO b (pickD c v w) := by cases b <;> rfl
theorem gO_pick2 (b : Bool) (c v w : DV) : gO b (pickD c (gd b v) w) = gO b (pickD c v w) := by cases b <;> rfl
theorem gO_cP1 (b : Bool) (n f : Nat) (t : Bool) (v : DV) : gO b (cP n f t [gd b v]) = gO b (cP n f t [v]) := by cases b <;> rfl
theorem gO_cP1b (b : Bool) (n f : Nat) (t : Bool) (v w : DV) : gO b (cP n f t [gd b v, w]) = gO b (cP n f t [v, w]) := by cases b <;> rfl
theorem gO_cP2 (b : Bool) (n f : Nat) (t : Bool) (v w : DV) : gO b (cP n f t [gd b v, gd b w]) = gO b (cP n f t [v, w]) := by cases b <;> rfl
theorem gO_cP2a (b : Bool) (n f : Nat) (t : Bool) (v w : DV) : gO b (cP n f t [v, gd b w]) = gO b (cP n f t [v, w]) := by cases b <;> rfl
theorem pick_t (b c : Bool) : pickD (.flat (.bool b)) (.flat (.bool true)) (gd (!b) (.flat (.bool c))) = some (.flat (.bool (b || c))) := by cases b <;> rfl
theorem pick_t2 (b c : Bool) : pickD (.flat (.bool (!b))) (.flat (.bool true)) (gd b (.flat (.bool c))) = some (.flat (.bool (!b || c))) := by cases b <;> rfl
theorem pick_f (b c : Bool) : pickD (.flat (.bool b)) (gd b (.flat (.bool c))) (.flat (.bool false)) = some (.flat (.bool (b && c))) := by cases b <;> rfl
theorem pick_f2 (b c d : Bool) : pickD (.flat (.bool b)) (gd b (.flat (.bool c))) (.flat (.bool d)) = some (.flat (.bool (if b then c else d))) := by cases b <;> rfl
theorem gd_gd (b : Bool) (v : DV) : gd b (gd b v) = gd b v := by cases b <;> rfl
theorem wantF_gt (b c : Bool) (x : Option DV) : wantF (gd b (.flat (.bool c))) true x = gO (b && c) x := by cases b <;> cases c <;> rfl
theorem wantF_gf (b c : Bool) (x : Option DV) : wantF (gd b (.flat (.bool c))) false x = gO (b && !c) x := by cases b <;> cases c <;> rfl
theorem gO_pkf (b c e : Bool) : gO b (pickD (.flat (.bool c)) (gd (b && c) (.flat (.bool e))) (.flat (.bool false))) = gO b (some (.flat (.bool (c && e)))) := by cases b <;> cases c <;> rfl
theorem gO_pkt (b c e : Bool) : gO b (pickD (.flat (.bool c)) (.flat (.bool true)) (gd (b && !c) (.flat (.bool e)))) = gO b (some (.flat (.bool (c || e)))) := by cases b <;> cases c <;> rfl
theorem gO_pktn (b c e : Bool) : gO b (pickD (.flat (.bool (!c))) (.flat (.bool true)) (gd (b && c) (.flat (.bool e)))) = gO b (some (.flat (.bool (!c || e)))) := by cases b <;> cases c <;> rfl
theorem gO_eqK2 (b : Bool) (k : IntKind) (v w : DV) : gO b (eqK k v (gd b w)) = gO b (eqK k v w) := by cases b <;> rfl
theorem gO_neK2 (b : Bool) (k : IntKind) (v w : DV) : gO b (neK k v (gd b w)) = gO b (neK k v w) := by cases b <;> rfl
theorem gO_gtK2 (b : Bool) (k : IntKind) (v w : DV) : gO b (gtK k v (gd b w)) = gO b (gtK k v w) := by cases b <;> rfl
theorem gO_geK2 (b : Bool) (k : IntKind) (v w : DV) : gO b (geK k v (gd b w)) = gO b (geK k v w) := by cases b <;> rfl
theorem gO_subK2 (b : Bool) (k : IntKind) (v w : DV) : gO b (subK k v (gd b w)) = gO b (subK k v w) := by cases b <;> rfl
theorem gO_subK1 (b : Bool) (k : IntKind) (v w : DV) : gO b (subK k (gd b v) w) = gO b (subK k v w) := by cases b <;> rfl
theorem gO_min1 (b : Bool) (v w : DV) : gO b (minI (gd b v) w) = gO b (minI v w) := by cases b <;> rfl
theorem gO_min2 (b : Bool) (v w : DV) : gO b (minI v (gd b w)) = gO b (minI v w) := by cases b <;> rfl
theorem gO_remK1 (b : Bool) (k : IntKind) (v w : DV) : gO b (remK k (gd b v) w) = gO b (remK k v w) := by cases b <;> rfl
theorem gO_cP3 (b : Bool) (n f : Nat) (t : Bool) (v w x : DV) : gO b (cP n f t [gd b v, gd b w, gd b x]) = gO b (cP n f t [v, w, x]) := by cases b <;> rfl
theorem gO_nilD (b : Bool) (v : DV) : gO b (nilD (gd b v)) = gO b (nilD v) := by cases b <;> rfl
theorem gO_fieldD (b : Bool) (f s : Nat) (v : DV) : gO b (fieldD f s (gd b v)) = gO b (fieldD f s v) := by cases b <;> rfl
theorem gO_idxArr1 (b : Bool) (l s : Nat) (v w : DV) : gO b (idxArr l s v (gd b w)) = gO b (idxArr l s v w) := by cases b <;> rfl
theorem gO_idxArr2 (b : Bool) (l s : Nat) (v w : DV) : gO b (idxArr l s (gd b v) w) = gO b (idxArr l s v w) := by cases b <;> rfl
theorem gO_idx2 (b : Bool) (sz : Nat) (v w : DV) : gO b (idxSl sz v (gd b w)) = gO b (idxSl sz v w) := by cases b <;> rfl
theorem gO_extD (b : Bool) (i : Nat) (v : DV) : gO b (extD i (gd b v)) = gO b (extD i v) := by cases b <;> rfl
end Go.Proofs.Ytjkofefcoeejbaa

/- Requests: their parts. -/
namespace Go.Proofs.Ytjkofefcoeejbaa
open Go
set_option linter.unusedSimpArgs false
set_option linter.unusedVariables false
set_option maxRecDepth 100000
def plT (t : Tag) : Tag := match t with | .ti => .ti | .sh => .sh | .own _ => .sh
theorem buildL_bt3 (a b c : List Int) (t1 t2 t3 : Tag) : buildL false 1 3 (.list 0 [] .ti) [(0, LV 1 (I .u8) a t1), (1, LV 1 (I .u8) b t2), (2, LV 1 (I .u8) c t3)] = some (LV 1 btE [(a, plT t1), (b, plT t2), (c, plT t3)] .ti) := by
  cases t1 <;> cases t2 <;> cases t3 <;> cases a <;> cases b <;> cases c <;> kernel_rfl
theorem buildL_u4 (a b c d : Int) : buildL false 1 4 (I .u8 0) [(0, I .u8 a), (1, I .u8 b), (2, I .u8 c), (3, I .u8 d)] = some (LV 1 (I .u8) [a, b, c, d] .ti) := by kernel_rfl
theorem buildL_w2 (a b : Int) : buildL false 1 2 (I .u16 0) [(0, I .u16 a), (1, I .u16 b)] = some (LV 1 (I .u16) [a, b] .ti) := rfl
theorem buildL_b1 (a : Bool) : buildL false 1 1 (Bo false) [(0, Bo a)] = some (LV 1 Bo [a] .ti) := rfl
theorem two_eq (n : Int) : n % 65536 / 256 = n / 256 % 256 ∧ n % 65536 % 256 = n % 256 := by omega
theorem ask_two_c (n : Nat) (hn : 2 ≤ n) (x : Int) : cP n 80 false [I .i64 x] = some (LV 1 (I .u8) (twoV x) .sh) := by
  obtain ⟨n, rfl⟩ : ∃ m, n = m + 1 := ⟨n - 1, by omega⟩
  have e := word_Put_c n (by omega) (x % 65536) (by omega) (by omega)
  rw [(two_eq x).1, (two_eq x).2] at e
  refine cP_of rfl ((s_ask_two_eq _ _ _ _).trans (by unfold s_ask_two; simp -implicitDefEqProofs (disch := first | omega | (simp only [List.length_set, List.length_append, List.length_cons, List.length_nil, List.length_take, List.length_drop, List.length_map]; omega) | simp) [wrap_i64, wrap_u16_id, wrap_u8_id, tdiv_pos, tmod_pos, -getElem?_pos, -getElem?_neg, -List.length_eq_zero_iff, -List.getElem_cons_drop, wrap_u16, e]; first | exact rfl | exact ⟨rfl, rfl⟩)) ?_
  rfl
theorem ask_counted_c (n : Nat) (hn : 10 ≤ n) (x : Int) (l : List Int) (t : Tag) (hl : l.length ≤ 100000) : cP n 125 false [I .i64 x, LV 1 (I .u8) l t] = some (LV 1 (I .u8) (twoV x ++ ((l.length : Int) % 256) :: l) .sh) := by
  obtain ⟨n, rfl⟩ : ∃ m, n = m + 1 := ⟨n - 1, by omega⟩
  have e1 := ask_two_c n (by omega) x
  have e2 := buildL_bt3 (twoV x) [(l.length : Int) % 256] l .sh .ti .sh
  simp only [plT] at e2
  have hc : catB [(twoV x, Tag.sh), ([(l.length : Int) % 256], Tag.ti), (l, Tag.sh)] = twoV x ++ ((l.length : Int) % 256) :: l := by simp [catB]
  have e3 := concat_c n [(twoV x, .sh), ([(l.length : Int) % 256], .ti), (l, .sh)] .ti (by rw [hc]; simp [twoV]; omega) (by simp) (by simp; omega)
  rw [hc] at e3
  exact cP_of (r := LV 1 (I .u8) (twoV x ++ ((l.length : Int) % 256) :: l) .sh) (args' := [I .i64 x, LV 1 (I .u8) l .sh]) (by simp [argEl_eq]) ((s_ask_counted_eq _ _ _ _ _).trans (by unfold s_ask_counted; simp -implicitDefEqProofs (disch := first | omega | (simp only [List.length_set, List.length_append, List.length_cons, List.length_nil, List.length_take, List.length_drop, List.length_map]; omega) | simp) [wrap_i64, wrap_u16_id, wrap_u8_id, tdiv_pos, tmod_pos, -getElem?_pos, -getElem?_neg, -List.length_eq_zero_iff, -List.getElem_cons_drop, wrap_u8, e1, e2, e3]; first | exact rfl | exact ⟨rfl, rfl⟩)) (by simp)
theorem arg_rq (a : Rq) (t1 t2 : Tag) : argEl (rqE a t1 t2) = some (rqE a .sh .sh) := by simp [argEl_eq, rqE]
theorem wb_len (a : Rq) (h : RqOk a) : (wbI a.words).length ≤ 6000 := by rw [wbI_length]; have := h.lw; omega
theorem pkl_le (a : Rq) (h : RqOk a) : (pkI a.bits).length ≤ 6000 := by rw [pkI_length]; have := h.lb; omega
theorem layCount_c (n : Nat) (hn : 3 ≤ n) (a : Rq) (t1 t2 : Tag) : cP n 106 false [rqE a t1 t2] = some (LV 1 (I .u8) (twoV a.cnt) .sh) := by
  obtain ⟨n, rfl⟩ : ∃ m, n = m + 1 := ⟨n - 1, by omega⟩
  have e1 := ask_two_c n (by omega) a.cnt
  exact cP_of (r := LV 1 (I .u8) (twoV a.cnt) .sh) (by simp [arg_rq]; rfl) ((s_ask_layCount_eq _ _ _ _).trans (by unfold s_ask_layCount rqE; simp -implicitDefEqProofs (disch := first | omega | (simp only [List.length_set, List.length_append, List.length_cons, List.length_nil, List.length_take, List.length_drop, List.length_map]; omega) | simp) [wrap_i64, wrap_u16_id, wrap_u8_id, tdiv_pos, tmod_pos, -getElem?_pos, -getElem?_neg, -List.length_eq_zero_iff, -List.getElem_cons_drop, e1]; first | exact rfl | exact ⟨rfl, rfl⟩)) (by simp)
theorem layBit_c (n : Nat) (hn : 3 ≤ n) (a : Rq) (t1 t2 : Tag) (h0 : a.bits ≠ []) : cP n 108 false [rqE a t1 t2] = some (LV 1 (I .u8) (if a.bits.head? = some true then [255, 0] else [0, 0]) .sh) := by
  obtain ⟨n, rfl⟩ : ∃ m, n = m + 1 := ⟨n - 1, by omega⟩
  obtain ⟨c, ad, k, t, w, b, an, o⟩ := a
  have e1 := ask_two_c n (by omega) 65280
  have e2 := ask_two_c n (by omega) 0
  have f1 : twoV 65280 = [255, 0] := rfl
  have f2 : twoV 0 = [0, 0] := rfl
  rw [f1] at e1
  rw [f2] at e2
  cases b with
  | nil => exact absurd rfl h0
  | cons x b =>
    cases x
    · exact cP_of (r := LV 1 (I .u8) [0, 0] .sh) (by simp [arg_rq]; rfl) ((s_ask_layBit_eq _ _ _ _).trans (by unfold s_ask_layBit rqE; simp -implicitDefEqProofs (disch := first | omega | (simp only [List.length_set, List.length_append, List.length_cons, List.length_nil, List.length_take, List.length_drop, List.length_map]; omega) | simp) [wrap_i64, wrap_u16_id, wrap_u8_id, tdiv_pos, tmod_pos, -getElem?_pos, -getElem?_neg, -List.length_eq_zero_iff, -List.getElem_cons_drop, e2]; first | exact rfl | exact ⟨rfl, rfl⟩)) (by simp)
    · exact cP_of (r := LV 1 (I .u8) [255, 0] .sh) (by simp [arg_rq]; rfl) ((s_ask_layBit_eq _ _ _ _).trans (by unfold s_ask_layBit rqE; simp -implicitDefEqProofs (disch := first | omega | (simp only [List.length_set, List.length_append, List.length_cons, List.length_nil, List.length_take, List.length_drop, List.length_map]; omega) | simp) [wrap_i64, wrap_u16_id, wrap_u8_id, tdiv_pos, tmod_pos, -getElem?_pos, -getElem?_neg, -List.length_eq_zero_iff, -List.getElem_cons_drop, e1]; first | exact rfl | exact ⟨rfl, rfl⟩)) (by simp)
theorem layWord_c (n : Nat) (hn : 3 ≤ n) (a : Rq) (h : RqOk a) (t1 t2 : Tag) : cP n 110 false [rqE a t1 t2] = some (LV 1 (I .u8) (wbI a.words) .sh) := by
  obtain ⟨n, rfl⟩ : ∃ m, n = m + 1 := ⟨n - 1, by omega⟩
  have e1 := word_Bytes_c n a.words .sh (by omega) h.w (by have := h.lw; omega)
  exact cP_of (r := LV 1 (I .u8) (wbI a.words) .sh) (by simp [arg_rq]; rfl) ((s_ask_layWord_eq _ _ _ _).trans (by unfold s_ask_layWord rqE; simp -implicitDefEqProofs (disch := first | omega | (simp only [List.length_set, List.length_append, List.length_cons, List.length_nil, List.length_take, List.length_drop, List.length_map]; omega) | simp) [wrap_i64, wrap_u16_id, wrap_u8_id, tdiv_pos, tmod_pos, -getElem?_pos, -getElem?_neg, -List.length_eq_zero_iff, -List.getElem_cons_drop, e1]; first | exact rfl | exact ⟨rfl, rfl⟩)) (by simp)
theorem layBits_c (n : Nat) (hn : 20 ≤ n) (a : Rq) (h : RqOk a) (t1 t2 : Tag) : cP n 112 false [rqE a t1 t2] = some (LV 1 (I .u8) (btV a) .sh) := by
  obtain ⟨n, rfl⟩ : ∃ m, n = m + 1 := ⟨n - 1, by omega⟩
  have e1 := word_Pack_c n a.bits .sh (by omega) (by have := h.lb; omega)
  have e2 := ask_counted_c n (by omega) a.bits.length (pkI a.bits) .sh (by have := pkl_le a h; omega)
  exact cP_of (r := LV 1 (I .u8) (btV a) .sh) (by simp [arg_rq]; rfl) ((s_ask_layBits_eq _ _ _ _).trans (by unfold s_ask_layBits rqE; simp -implicitDefEqProofs (disch := first | omega | (simp only [List.length_set, List.length_append, List.length_cons, List.length_nil, List.length_take, List.length_drop, List.length_map]; omega) | simp) [wrap_i64, wrap_u16_id, wrap_u8_id, tdiv_pos, tmod_pos, -getElem?_pos, -getElem?_neg, -List.length_eq_zero_iff, -List.getElem_cons_drop, e1, e2]; first | exact rfl | exact ⟨rfl, rfl⟩)) (by simp)
theorem layWords_c (n : Nat) (hn : 20 ≤ n) (a : Rq) (h : RqOk a) (t1 t2 : Tag) : cP n 114 false [rqE a t1 t2] = some (LV 1 (I .u8) (wtV a) .sh) := by
  obtain ⟨n, rfl⟩ : ∃ m, n = m + 1 := ⟨n - 1, by omega⟩
  have e1 := word_Bytes_c n a.words .sh (by omega) h.w (by have := h.lw; omega)
  have e2 := ask_counted_c n (by omega) a.words.length (wbI a.words) .sh (by have := wb_len a h; omega)
  exact cP_of (r := LV 1 (I .u8) (wtV a) .sh) (by simp [arg_rq]; rfl) ((s_ask_layWords_eq _ _ _ _).trans (by unfold s_ask_layWords rqE; simp -implicitDefEqProofs (disch := first | omega | (simp only [List.length_set, List.length_append, List.length_cons, List.length_nil, List.length_take, List.length_drop, List.length_map]; omega) | simp) [wrap_i64, wrap_u16_id, wrap_u8_id, tdiv_pos, tmod_pos, -getElem?_pos, -getElem?_neg, -List.length_eq_zero_iff, -List.getElem_cons_drop, e1, e2]; first | exact rfl | exact ⟨rfl, rfl⟩)) (by simp)
theorem layMasks_c (n : Nat) (hn : 3 ≤ n) (a : Rq) (h : RqOk a) (t1 t2 : Tag) : cP n 116 false [rqE a t1 t2] = some (LV 1 (I .u8) (twoV a.and_ ++ twoV a.or_) .sh) := by
  obtain ⟨n, rfl⟩ : ∃ m, n = m + 1 := ⟨n - 1, by omega⟩
  have e1 := word_Bytes_c n [a.and_, a.or_] .ti (by omega) (by intro x hx; simp at hx; rcases hx with rfl | rfl; exact h.a; exact h.o) (by simp)
  have e2 : wbI [a.and_, a.or_] = twoV a.and_ ++ twoV a.or_ := by
    have := h.a
    have := h.o
    rw [wbI_cons _ _ (by omega), wbI_cons _ _ (by omega), wbI_nil]
    unfold twoV
    rw [show a.and_ / 256 % 256 = a.and_ / 256 by omega, show a.or_ / 256 % 256 = a.or_ / 256 by omega]
    rfl
  rw [e2] at e1
  have e3 := buildL_w2 a.and_ a.or_
  exact cP_of (r := LV 1 (I .u8) (twoV a.and_ ++ twoV a.or_) .sh) (by simp [arg_rq]; rfl) ((s_ask_layMasks_eq _ _ _ _).trans (by unfold s_ask_layMasks rqE; simp -implicitDefEqProofs (disch := first | omega | (simp only [List.length_set, List.length_append, List.length_cons, List.length_nil, List.length_take, List.length_drop, List.length_map]; omega) | simp) [wrap_i64, wrap_u16_id, wrap_u8_id, tdiv_pos, tmod_pos, -getElem?_pos, -getElem?_neg, -List.length_eq_zero_iff, -List.getElem_cons_drop, e1, e3]; first | exact rfl | exact ⟨rfl, rfl⟩)) (by simp)
theorem layBoth_c (n : Nat) (hn : 30 ≤ n) (a : Rq) (h : RqOk a) (t1 t2 : Tag) : cP n 118 false [rqE a t1 t2] = some (LV 1 (I .u8) (twoV a.cnt ++ twoV a.to_ ++ wtV a) .sh) := by
  obtain ⟨n, rfl⟩ : ∃ m, n = m + 1 := ⟨n - 1, by omega⟩
  have e1 := layCount_c n (by omega) a .sh .sh
  have e2 := ask_two_c n (by omega) a.to_
  have e3 := layWords_c n (by omega) a h .sh .sh
  have e4 := buildL_bt3 (twoV a.cnt) (twoV a.to_) (wtV a) .sh .sh .sh
  simp only [plT] at e4
  have hc : catB [(twoV a.cnt, Tag.sh), (twoV a.to_, Tag.sh), (wtV a, Tag.sh)] = twoV a.cnt ++ twoV a.to_ ++ wtV a := by simp [catB]
  have e5 := concat_c n [(twoV a.cnt, .sh), (twoV a.to_, .sh), (wtV a, .sh)] .ti (by rw [hc]; have := wb_len a h; simp [twoV, wtV]; omega) (by simp) (by simp; omega)
  rw [hc] at e5
  unfold rqE at e1 e3
  exact cP_of (r := LV 1 (I .u8) (twoV a.cnt ++ twoV a.to_ ++ wtV a) .sh) (by simp [arg_rq]; rfl) ((s_ask_layBoth_eq _ _ _ _).trans (by unfold s_ask_layBoth rqE; simp -implicitDefEqProofs (disch := first | omega | (simp only [List.length_set, List.length_append, List.length_cons, List.length_nil, List.length_take, List.length_drop, List.length_map]; omega) | simp) [wrap_i64, wrap_u16_id, wrap_u8_id, tdiv_pos, tmod_pos, -getElem?_pos, -getElem?_neg, -List.length_eq_zero_iff, -List.getElem_cons_drop, e1, e2, e3, e4, e5]; first | exact rfl | exact ⟨rfl, rfl⟩)) (by simp)
def fnD (i : Nat) : DV := .flat (.func (.func i) #[] #[])
def layD (c : Int) : DV := if c = 5 then fnD 108 else if c = 6 then fnD 110 else if c = 15 then fnD 112 else if c = 16 then fnD 114 else if c = 22 then fnD 116 else if c = 23 then fnD 118 else if isV c = true then fnD 106 else .flat .nilFunc
def rdD (c : Int) : DV := if c = 5 then fnD 109 else if c = 6 then fnD 111 else if c = 15 then fnD 113 else if c = 16 then fnD 115 else if c = 22 then fnD 117 else if c = 23 then fnD 119 else if isV c = true then fnD 107 else .flat .nilFunc
def formD (c : Int) : DV := .agg [I .i64 (cntV c), I .i64 (wrdV c), I .i64 (bitV c), layD c, rdD c]
@[simp] theorem leaf_fn (i : Nat) : (DV.flat (.func (.func i) #[] #[])).leaf = true := rfl
@[simp] theorem leaf_nilfn : (DV.flat .nilFunc).leaf = true := rfl
theorem layD_leaf (c : Int) : (layD c).leaf = true ∧ (layD c).cells = [layD c] := by unfold layD fnD; (repeat' split) <;> exact ⟨rfl, rfl⟩
theorem rdD_leaf (c : Int) : (rdD c).leaf = true ∧ (rdD c).cells = [rdD c] := by unfold rdD fnD; (repeat' split) <;> exact ⟨rfl, rfl⟩
theorem formOf_c (n : Nat) (hn : 1 ≤ n) (c : Int) : cP n 78 false [I .i64 c] = some (.tup [formD c, Bo (isV c)]) := by
  obtain ⟨n, rfl⟩ : ∃ m, n = m + 1 := ⟨n - 1, by omega⟩
  have go : ∀ r, (∃ H', s_ask_formOf n [] 0 (I .i64 c) = some (r, H')) → (∀ H', outD false H' r = some r) → r = .tup [formD c, Bo (isV c)] → cP (n + 1) 78 false [I .i64 c] = some (.tup [formD c, Bo (isV c)]) := by
    intro r ⟨H', h⟩ h1 h2
    rw [← h2]
    exact cP_of rfl ((s_ask_formOf_eq _ _ _ _).trans h) (h1 H')
  rcases code_cases c with rfl | rfl | rfl | rfl | rfl | rfl | rfl | rfl | rfl | rfl | rfl | h
  all_goals first
    | (refine go _ ⟨_, rfl⟩ (fun H' => rfl) rfl)
    | (refine go (.tup [.agg [I .i64 0, I .i64 0, I .i64 0, .flat .nilFunc, .flat .nilFunc], Bo false]) ⟨_, by unfold s_ask_formOf; simp -implicitDefEqProofs (disch := first | omega | (simp only [List.length_set, List.length_append, List.length_cons, List.length_nil, List.length_take, List.length_drop, List.length_map]; omega) | simp) [wrap_i64, wrap_u16_id, wrap_u8_id, tdiv_pos, tmod_pos, -getElem?_pos, -getElem?_neg, -List.length_eq_zero_iff, -List.getElem_cons_drop, h]; first | done | rfl | exact ⟨rfl, rfl⟩⟩ (fun H' => rfl) ?_
       have : isV c = false := by unfold isV; simp [h]
       unfold formD cntV wrdV bitV layD rdD
       simp [h, this])
end Go.Proofs.Ytjkofefcoeejbaa

/- Requests: which may be; their text. -/
namespace Go.Proofs.Ytjkofefcoeejbaa
open Go
set_option linter.unusedSimpArgs false
set_option linter.unusedVariables false
set_option maxRecDepth 100000
theorem fits_c (n : Nat) (hn : 1 ≤ n) (x m : Int) (hx : 0 ≤ x) (hm : 0 ≤ m) : cP n 86 false [I .i64 x, I .i64 m] = some (Bo (fitV x m)) := by
  obtain ⟨n, rfl⟩ : ∃ m, n = m + 1 := ⟨n - 1, by omega⟩
  refine cP_of (r := Bo (decide (x ≤ m) && (decide (0 < x) == decide (0 < m)))) (args' := [I .i64 x, I .i64 m]) (by simp [argEl_eq]) ((s_ask_fits_eq _ _ _ _ _).trans (by unfold s_ask_fits; simp -implicitDefEqProofs (disch := first | omega | (simp only [List.length_set, List.length_append, List.length_cons, List.length_nil, List.length_take, List.length_drop, List.length_map]; omega) | simp) [wrap_i64, wrap_u16_id, wrap_u8_id, tdiv_pos, tmod_pos, -getElem?_pos, -getElem?_neg, -List.length_eq_zero_iff, -List.getElem_cons_drop, -Bool.not_and, -Bool.not_or, -wantF_n, wantF_sy, wantF_sn, gO_some, gO_loadG, gO_lenD, gO_notD, gO_eqK1, gO_neK1, gO_ltK1, gO_leK1, gO_gtK1, gO_geK1, gO_max1, gO_addK1, gO_mulK1, gO_addK2, gO_ltK2, gO_leK2, gO_max2, gO_cvK, gO_idx, gO_pick, gO_pick2, gO_cP1, gO_cP1b, gO_cP2, gO_cP2a, gO_eqB, pick_t, pick_t2, pick_f, pick_f2, gd_gd, wantF_gt, wantF_gf, gO_pkf, gO_pkt, gO_pktn, gO_eqK2, gO_neK2, gO_gtK2, gO_geK2, gO_subK1, gO_subK2, gO_min1, gO_min2, gO_remK1, gO_cP3, gO_nilD, gO_fieldD, gO_idxArr1, gO_idxArr2, gO_idx2, gO_extD]; first | done | rfl)) ?_
  simp only [outD_flat, Option.some.injEq, DV.flat.injEq, Value.bool.injEq]
  unfold fitV
  rw [Bool.eq_iff_iff]
  simp
  omega
theorem formed_c (n : Nat) (hn : 3 ≤ n) (a : Rq) (t1 t2 : Tag) : cP n 48 false [rqE a t1 t2] = some (Bo (decide (FormedP a))) := by
  obtain ⟨n, rfl⟩ : ∃ m, n = m + 1 := ⟨n - 1, by omega⟩
  obtain ⟨c, ad, k, t, w, b, an, o⟩ := a
  have e1 := formOf_c n (by omega) c
  have f1 := fits_c n (by omega) (max k 0) (cntV c) (by omega) (cntV_le c).1
  have f2 := fits_c n (by omega) w.length (wrdV c) (by omega) (wrdV_le c).1
  have f3 := fits_c n (by omega) b.length (bitV c) (by omega) (bitV_le c).1
  unfold formD at e1
  have l1 := (layD_leaf c).1
  have l2 := (rdD_leaf c).1
  have fin : ∀ B, (∃ H', s__ask_Ask__formed n [] 0 (rqE ⟨c, ad, k, t, w, b, an, o⟩ .sh .sh) = some (Bo B, H')) → B = decide (FormedP ⟨c, ad, k, t, w, b, an, o⟩) → cP (n + 1) 48 false [rqE ⟨c, ad, k, t, w, b, an, o⟩ t1 t2] = some (Bo (decide (FormedP ⟨c, ad, k, t, w, b, an, o⟩))) := by
    rintro B ⟨H', h1⟩ h2
    rw [← h2]
    exact cP_of (r := Bo B) (args' := [rqE ⟨c, ad, k, t, w, b, an, o⟩ .sh .sh]) (by simp [arg_rq]) ((s__ask_Ask__formed_eq _ _ _ _).trans h1) (by simp)
  by_cases h : c = 43
  · have hd : decide (c = 43) = true := by simp [h]
    refine fin _ ⟨_, by unfold s__ask_Ask__formed rqE; simp -implicitDefEqProofs (disch := first | omega | (simp only [List.length_set, List.length_append, List.length_cons, List.length_nil, List.length_take, List.length_drop, List.length_map]; omega) | simp) [wrap_i64, wrap_u16_id, wrap_u8_id, tdiv_pos, tmod_pos, -getElem?_pos, -getElem?_neg, -List.length_eq_zero_iff, -List.getElem_cons_drop, -Bool.not_and, -Bool.not_or, -wantF_n, wantF_sy, wantF_sn, gO_some, gO_loadG, gO_lenD, gO_notD, gO_eqK1, gO_neK1, gO_ltK1, gO_leK1, gO_gtK1, gO_geK1, gO_max1, gO_addK1, gO_mulK1, gO_addK2, gO_ltK2, gO_leK2, gO_max2, gO_cvK, gO_idx, gO_pick, gO_pick2, gO_cP1, gO_cP1b, gO_cP2, gO_cP2a, gO_eqB, pick_t, pick_t2, pick_f, pick_f2, gd_gd, wantF_gt, wantF_gf, gO_pkf, gO_pkt, gO_pktn, gO_eqK2, gO_neK2, gO_gtK2, gO_geK2, gO_subK1, gO_subK2, gO_min1, gO_min2, gO_remK1, gO_cP3, gO_nilD, gO_fieldD, gO_idxArr1, gO_idxArr2, gO_idx2, gO_extD, e1, l1, l2, f1, f2, f3, hd]; first | done | exact ⟨rfl, rfl⟩⟩ ?_
    clear e1 f1 f2 f3
    rw [Bool.eq_iff_iff]
    by_cases hk : 0 ≤ k
    · rw [show max k 0 = k by omega]
      simp only [FormedP, Bool.and_eq_true, Bool.or_eq_true, decide_eq_true_eq]
      grind
    · simp [FormedP, fitV, hk]
      omega
  · refine fin _ ⟨_, by unfold s__ask_Ask__formed rqE; simp -implicitDefEqProofs (disch := first | omega | (simp only [List.length_set, List.length_append, List.length_cons, List.length_nil, List.length_take, List.length_drop, List.length_map]; omega) | simp) [wrap_i64, wrap_u16_id, wrap_u8_id, tdiv_pos, tmod_pos, -getElem?_pos, -getElem?_neg, -List.length_eq_zero_iff, -List.getElem_cons_drop, -Bool.not_and, -Bool.not_or, -wantF_n, wantF_sy, wantF_sn, gO_some, gO_loadG, gO_lenD, gO_notD, gO_eqK1, gO_neK1, gO_ltK1, gO_leK1, gO_gtK1, gO_geK1, gO_max1, gO_addK1, gO_mulK1, gO_addK2, gO_ltK2, gO_leK2, gO_max2, gO_cvK, gO_idx, gO_pick, gO_pick2, gO_cP1, gO_cP1b, gO_cP2, gO_cP2a, gO_eqB, pick_t, pick_t2, pick_f, pick_f2, gd_gd, wantF_gt, wantF_gf, gO_pkf, gO_pkt, gO_pktn, gO_eqK2, gO_neK2, gO_gtK2, gO_geK2, gO_subK1, gO_subK2, gO_min1, gO_min2, gO_remK1, gO_cP3, gO_nilD, gO_fieldD, gO_idxArr1, gO_idxArr2, gO_idx2, gO_extD, e1, l1, l2, f1, f2, f3, h]; first | done | exact ⟨rfl, rfl⟩ | trace_state⟩ ?_
    clear e1 f1 f2 f3
    rw [Bool.eq_iff_iff]
    by_cases hk : 0 ≤ k
    · rw [show max k 0 = k by omega]
      simp only [FormedP, Bool.and_eq_true, Bool.or_eq_true, decide_eq_true_eq]
      grind
    · simp [FormedP, fitV, hk]
      omega
theorem formed_le (a : Rq) (h : FormedP a) : 0 ≤ a.cnt ∧ a.cnt ≤ 2000 ∧ 0 ≤ a.addr ∧ a.addr ≤ 65535 ∧ 0 ≤ a.to_ ∧ a.to_ ≤ 65535 ∧ a.words.length ≤ 123 ∧ a.bits.length ≤ 1968 := by
  obtain ⟨_, h2, h3, h4, _, _, h7, h8, _, h10, h11⟩ := h
  have := fit_pos h2 (cntV_le _).1
  have := fit_pos h3 (wrdV_le _).1
  have := fit_pos h4 (bitV_le _).1
  have := cntV_le a.code
  have := wrdV_le a.code
  have := bitV_le a.code
  omega
theorem placed_c (n : Nat) (hn : 3 ≤ n) (a : Rq) (t1 t2 : Tag) (h : FormedP a) : cP n 50 false [rqE a t1 t2] = some (Bo (decide (PlacedP a))) := by
  obtain ⟨n, rfl⟩ : ∃ m, n = m + 1 := ⟨n - 1, by omega⟩
  obtain ⟨h1, h2, h3, h4, h5, h6, h7, h8⟩ := formed_le a h
  have hc : isV a.code = true := h.1
  obtain ⟨c, ad, k, t, w, b, an, o⟩ := a
  simp only at h1 h2 h3 h4 h5 h6 h7 h8 hc
  clear h
  have fin : ∀ B, (∃ H', s__ask_Ask__placed n [] 0 (rqE ⟨c, ad, k, t, w, b, an, o⟩ .sh .sh) = some (Bo B, H')) → B = decide (PlacedP ⟨c, ad, k, t, w, b, an, o⟩) → cP (n + 1) 50 false [rqE ⟨c, ad, k, t, w, b, an, o⟩ t1 t2] = some (Bo (decide (PlacedP ⟨c, ad, k, t, w, b, an, o⟩))) := by
    rintro B ⟨H', h1⟩ h2
    rw [← h2]
    exact cP_of (r := Bo B) (args' := [rqE ⟨c, ad, k, t, w, b, an, o⟩ .sh .sh]) (by simp [arg_rq]) ((s__ask_Ask__placed_eq _ _ _ _).trans h1) (by simp)
  rcases code_cases c with rfl | rfl | rfl | rfl | rfl | rfl | rfl | rfl | rfl | rfl | rfl | h
  case inr.inr.inr.inr.inr.inr.inr.inr.inr.inl =>
    by_cases hp : t + w.length ≤ 65536
    · exact fin _ ⟨_, by unfold s__ask_Ask__placed rqE; simp -implicitDefEqProofs (disch := first | omega | (simp only [List.length_set, List.length_append, List.length_cons, List.length_nil, List.length_take, List.length_drop, List.length_map]; omega) | simp) [wrap_i64, wrap_u16_id, wrap_u8_id, tdiv_pos, tmod_pos, -getElem?_pos, -getElem?_neg, -List.length_eq_zero_iff, -List.getElem_cons_drop]; first | done | exact ⟨rfl, rfl⟩⟩ (by rw [Bool.eq_iff_iff]; simp [PlacedP, placesV, hp])
    · exact fin _ ⟨_, by unfold s__ask_Ask__placed rqE; simp -implicitDefEqProofs (disch := first | omega | (simp only [List.length_set, List.length_append, List.length_cons, List.length_nil, List.length_take, List.length_drop, List.length_map]; omega) | simp) [wrap_i64, wrap_u16_id, wrap_u8_id, tdiv_pos, tmod_pos, -getElem?_pos, -getElem?_neg, -List.length_eq_zero_iff, -List.getElem_cons_drop]; first | done | exact ⟨rfl, rfl⟩⟩ (by rw [Bool.eq_iff_iff]; simp [PlacedP, placesV, hp])
  case inr.inr.inr.inr.inr.inr.inr.inr.inr.inr.inr => exact absurd hc (by unfold isV; simp [h])
  all_goals exact fin _ ⟨_, by unfold s__ask_Ask__placed rqE; simp -implicitDefEqProofs (disch := first | omega | (simp only [List.length_set, List.length_append, List.length_cons, List.length_nil, List.length_take, List.length_drop, List.length_map]; omega) | simp) [wrap_i64, wrap_u16_id, wrap_u8_id, tdiv_pos, tmod_pos, -getElem?_pos, -getElem?_neg, -List.length_eq_zero_iff, -List.getElem_cons_drop]; first | done | exact ⟨rfl, rfl⟩⟩ (by rw [Bool.eq_iff_iff]; simp [PlacedP, placesV])
/-- may a request be? -/
def RightP (a : Rq) : Prop := FormedP a ∧ PlacedP a
instance (a : Rq) : Decidable (RightP a) := by unfold RightP; infer_instance
theorem Right_c (n : Nat) (hn : 5 ≤ n) (a : Rq) (t1 t2 : Tag) : cP n 20 false [rqE a t1 t2] = some (Bo (decide (RightP a))) := by
  obtain ⟨n, rfl⟩ : ∃ m, n = m + 1 := ⟨n - 1, by omega⟩
  have e1 := formed_c n (by omega) a .sh .sh
  by_cases h : FormedP a
  · have e2 := placed_c n (by omega) a .sh .sh h
    have hr : decide (RightP a) = decide (PlacedP a) := by simp [RightP, h]
    rw [hr]
    unfold rqE at e1 e2
    rw [decide_eq_true h] at e1
    exact cP_of (r := Bo (decide (PlacedP a))) (args' := [rqE a .sh .sh]) (by simp [arg_rq]) ((s_ask_Right_eq _ _ _ _).trans (by unfold s_ask_Right rqE; simp -implicitDefEqProofs (disch := first | omega | (simp only [List.length_set, List.length_append, List.length_cons, List.length_nil, List.length_take, List.length_drop, List.length_map]; omega) | simp) [wrap_i64, wrap_u16_id, wrap_u8_id, tdiv_pos, tmod_pos, -getElem?_pos, -getElem?_neg, -List.length_eq_zero_iff, -List.getElem_cons_drop, e1, e2]; first | exact rfl | exact ⟨rfl, rfl⟩)) (by simp)
  · have hr : decide (RightP a) = false := by simp [RightP, h]
    rw [hr]
    unfold rqE at e1
    rw [decide_eq_false h] at e1
    exact cP_of (r := Bo false) (args' := [rqE a .sh .sh]) (by simp [arg_rq]) ((s_ask_Right_eq _ _ _ _).trans (by unfold s_ask_Right rqE; simp -implicitDefEqProofs (disch := first | omega | (simp only [List.length_set, List.length_append, List.length_cons, List.length_nil, List.length_take, List.length_drop, List.length_map]; omega) | simp) [wrap_i64, wrap_u16_id, wrap_u8_id, tdiv_pos, tmod_pos, -getElem?_pos, -getElem?_neg, -List.length_eq_zero_iff, -List.getElem_cons_drop, e1]; first | exact rfl | exact ⟨rfl, rfl⟩)) (by simp)
theorem cVP_fn (n i : Nat) (args : List DV) (h : ENV.md i = .pure false) : cVP n (fnD i) args = cP n i false args := by
  unfold cVP callVP
  have : fnOf (fnD i) = some (i, []) := rfl
  rw [this]
  simp only [h, List.append_nil]
  rfl
theorem lay_c (n : Nat) (hn : 30 ≤ n) (a : Rq) (h : FormedP a) (ho : RqOk a) (h43 : a.code ≠ 43) : cVP n (layD a.code) [rqE a .sh .sh] = some (LV 1 (I .u8) (tailV a) .sh) := by
  have hc : isV a.code = true := h.1
  rcases code_cases a.code with e | e | e | e | e | e | e | e | e | e | e | e
  case inr.inr.inr.inr.inr.inr.inr.inr.inr.inr.inl => exact absurd e h43
  case inr.inr.inr.inr.inr.inr.inr.inr.inr.inr.inr => exact absurd hc (by unfold isV; simp [e])
  case inr.inr.inr.inr.inl =>
    have hb : a.bits ≠ [] := by
      have := fit_pos h.2.2.2.1 (bitV_le _).1
      rw [e] at this
      intro hx
      rw [hx] at this
      have e2 : bitV 5 = 1 := rfl
      rw [e2] at this
      simp at this
    have : layD a.code = fnD 108 := by rw [e]; rfl
    rw [this, cVP_fn _ _ _ (by kernel_rfl), layBit_c n (by omega) a .sh .sh hb]
    simp [tailV, e]
  case inr.inr.inr.inr.inr.inl =>
    have : layD a.code = fnD 110 := by rw [e]; rfl
    rw [this, cVP_fn _ _ _ (by kernel_rfl), layWord_c n (by omega) a ho .sh .sh]
    simp [tailV, e]
  case inr.inr.inr.inr.inr.inr.inl =>
    have : layD a.code = fnD 112 := by rw [e]; rfl
    rw [this, cVP_fn _ _ _ (by kernel_rfl), layBits_c n (by omega) a ho .sh .sh]
    simp [tailV, e]
  case inr.inr.inr.inr.inr.inr.inr.inl =>
    have : layD a.code = fnD 114 := by rw [e]; rfl
    rw [this, cVP_fn _ _ _ (by kernel_rfl), layWords_c n (by omega) a ho .sh .sh]
    simp [tailV, e]
  case inr.inr.inr.inr.inr.inr.inr.inr.inl =>
    have : layD a.code = fnD 116 := by rw [e]; rfl
    rw [this, cVP_fn _ _ _ (by kernel_rfl), layMasks_c n (by omega) a ho .sh .sh]
    simp [tailV, e]
  case inr.inr.inr.inr.inr.inr.inr.inr.inr.inl =>
    have : layD a.code = fnD 118 := by rw [e]; rfl
    rw [this, cVP_fn _ _ _ (by kernel_rfl), layBoth_c n (by omega) a ho .sh .sh]
    simp [tailV, e]
  all_goals
    have : layD a.code = fnD 106 := by rw [e]; rfl
    rw [this, cVP_fn _ _ _ (by kernel_rfl), layCount_c n (by omega) a .sh .sh]
    simp [tailV, e]
theorem tail_len (a : Rq) (ho : RqOk a) : (tailV a).length ≤ 7000 := by
  have h1 := wb_len a ho
  have h2 := pkl_le a ho
  unfold tailV btV wtV twoV
  repeat' split
  all_goals simp
  all_goals omega
theorem text_c (n : Nat) (hn : 40 ≤ n) (a : Rq) (h : FormedP a) (ho : RqOk a) (t1 t2 : Tag) : cP n 45 false [rqE a t1 t2] = some (LV 1 (I .u8) (textV a) .sh) := by
  obtain ⟨n, rfl⟩ : ∃ m, n = m + 1 := ⟨n - 1, by omega⟩
  by_cases h43 : a.code = 43
  · have ht : textV a = [43, 14, a.cnt % 256, a.addr % 256] := by simp [textV, h43]
    rw [ht]
    have e1 := buildL_u4 a.code 14 (a.cnt % 256) (a.addr % 256)
    have hd : decide (a.code = 43) = true := by simp [h43]
    exact cP_of (r := LV 1 (I .u8) [a.code, 14, a.cnt % 256, a.addr % 256] .ti) (args' := [rqE a .sh .sh]) (by simp [arg_rq]) ((s__ask_Ask__text_eq _ _ _ _).trans (by unfold s__ask_Ask__text rqE; simp -implicitDefEqProofs (disch := first | omega | (simp only [List.length_set, List.length_append, List.length_cons, List.length_nil, List.length_take, List.length_drop, List.length_map]; omega) | simp) [wrap_i64, wrap_u16_id, wrap_u8_id, tdiv_pos, tmod_pos, -getElem?_pos, -getElem?_neg, -List.length_eq_zero_iff, -List.getElem_cons_drop, hd, wrap_u8, e1]; first | exact rfl | exact ⟨rfl, rfl⟩)) (by simp [h43])
  · have e1 := formOf_c n (by omega) a.code
    have e2 := ask_two_c n (by omega) a.addr
    have e3 := lay_c n (by omega) a h ho h43
    have e4 := buildL_bt3 [a.code % 256] (twoV a.addr) (tailV a) .ti .sh .sh
    simp only [plT] at e4
    have ht : textV a = a.code % 256 :: twoV a.addr ++ tailV a := by simp [textV, h43]
    have hc : catB [([a.code % 256], Tag.ti), (twoV a.addr, Tag.sh), (tailV a, Tag.sh)] = textV a := by rw [ht]; simp [catB]
    have e5 := concat_c n [([a.code % 256], .ti), (twoV a.addr, .sh), (tailV a, .sh)] .ti (by rw [hc, ht]; have := tail_len a ho; simp [twoV]; omega) (by simp) (by simp; omega)
    rw [hc] at e5
    unfold formD at e1
    unfold rqE at e3
    have l1 := (layD_leaf a.code).1
    have l2 := (rdD_leaf a.code).1
    exact cP_of (r := LV 1 (I .u8) (textV a) .sh) (args' := [rqE a .sh .sh]) (by simp [arg_rq]) ((s__ask_Ask__text_eq _ _ _ _).trans (by unfold s__ask_Ask__text rqE; simp -implicitDefEqProofs (disch := first | omega | (simp only [List.length_set, List.length_append, List.length_cons, List.length_nil, List.length_take, List.length_drop, List.length_map]; omega) | simp) [wrap_i64, wrap_u16_id, wrap_u8_id, tdiv_pos, tmod_pos, -getElem?_pos, -getElem?_neg, -List.length_eq_zero_iff, -List.getElem_cons_drop, h43, wrap_u8, e1, e2, e3, e4, e5, l1, l2]; first | exact rfl | exact ⟨rfl, rfl⟩)) (by simp)
theorem Bytes_c (n : Nat) (hn : 50 ≤ n) (a : Rq) (ho : RqOk a) (t1 t2 : Tag) : cP n 14 false [rqE a t1 t2] = some (if RightP a then .tup [LV 1 (I .u8) (textV a) .sh, I .i64 0] else .tup [LV 1 (I .u8) [] .sh, I .i64 2]) := by
  obtain ⟨n, rfl⟩ : ∃ m, n = m + 1 := ⟨n - 1, by omega⟩
  have e1 := Right_c n (by omega) a .sh .sh
  by_cases h : RightP a
  · rw [if_pos h]
    rw [decide_eq_true h] at e1
    have e2 := text_c n (by omega) a h.1 ho .sh .sh
    unfold rqE at e1 e2
    exact cP_of (r := .tup [LV 1 (I .u8) (textV a) .sh, I .i64 0]) (args' := [rqE a .sh .sh]) (by simp [arg_rq]) ((s_ask_Bytes_eq _ _ _ _).trans (by unfold s_ask_Bytes rqE; simp -implicitDefEqProofs (disch := first | omega | (simp only [List.length_set, List.length_append, List.length_cons, List.length_nil, List.length_take, List.length_drop, List.length_map]; omega) | simp) [wrap_i64, wrap_u16_id, wrap_u8_id, tdiv_pos, tmod_pos, -getElem?_pos, -getElem?_neg, -List.length_eq_zero_iff, -List.getElem_cons_drop, e1, e2]; first | exact rfl | exact ⟨rfl, rfl⟩)) (by simp)
  · rw [if_neg h]
    rw [decide_eq_false h] at e1
    unfold rqE at e1
    exact cP_of (r := .tup [LV 1 (I .u8) [] .ti, I .i64 2]) (args' := [rqE a .sh .sh]) (by simp [arg_rq]) ((s_ask_Bytes_eq _ _ _ _).trans (by unfold s_ask_Bytes rqE; simp -implicitDefEqProofs (disch := first | omega | (simp only [List.length_set, List.length_append, List.length_cons, List.length_nil, List.length_take, List.length_drop, List.length_map]; omega) | simp) [wrap_i64, wrap_u16_id, wrap_u8_id, tdiv_pos, tmod_pos, -getElem?_pos, -getElem?_neg, -List.length_eq_zero_iff, -List.getElem_cons_drop, e1, LV_nil 1 (I .u8)]; first | exact rfl | exact ⟨rfl, rfl⟩)) (by simp)
end Go.Proofs.Ytjkofefcoeejbaa

/- Requests: read out of bytes. -/
namespace Go.Proofs.Ytjkofefcoeejbaa
open Go
set_option linter.unusedSimpArgs false
set_option linter.unusedVariables false
set_option maxRecDepth 100000
set_option linter.unusedSectionVars false
def Pl2 (t : Tag) : Prop := t = .sh ∨ t = .ti
theorem bytes_drop {l : List Int} (h : Bytes l) (i : Nat) : Bytes (l.drop i) := fun x hx => h x (List.mem_of_mem_drop hx)
section
variable (n : Nat) (hn : 5 ≤ n) (l : List Int) (h : Bytes l) (hl : l.length ≤ 10000) (c : Int) (a : Rq)
include hn h hl
end
section
variable (n : Nat) (hn : 10 ≤ n) (l : List Int) (h : Bytes l) (hl : l.length ≤ 10000) (c : Int) (a : Rq) (t1 t2 : Tag) (p1 : Pl2 t1) (p2 : Pl2 t2)
include hn h hl p1 p2
end
end Go.Proofs.Ytjkofefcoeejbaa

/- Requests: read, Parse, Writes. -/
namespace Go.Proofs.Ytjkofefcoeejbaa
open Go
set_option linter.unusedSimpArgs false
set_option linter.unusedVariables false
set_option maxRecDepth 100000
set_option linter.unusedSectionVars false
end Go.Proofs.Ytjkofefcoeejbaa

/- Requests: Parse, Writes. -/
namespace Go.Proofs.Ytjkofefcoeejbaa
open Go
set_option linter.unusedSimpArgs false
set_option linter.unusedVariables false
set_option maxRecDepth 100000
theorem wdI_len (l : List Int) : (wdI l).length ≤ l.length := by
  unfold wdI ofW
  rw [List.length_map]
  unfold wordsTell
  split
  · simp
  · simp only
    rw [wWords_len]
    simp [toB]
    omega
theorem two_bytes (n : Int) : Bytes (twoV n) := by
  intro x hx
  simp [twoV] at hx
  omega
theorem cons_bytes {x : Int} {l : List Int} (hx : 0 ≤ x ∧ x < 256) (hl : Bytes l) : Bytes (x :: l) := by
  intro y hy
  rcases List.mem_cons.1 hy with rfl | hy
  · exact hx
  · exact hl y hy
theorem wb_bytes (l : List Int) : Bytes (wbI l) := ofB_bytes _
theorem pk_bytes (l : List Bool) : Bytes (pkI l) := ofB_bytes _
theorem bt_bytes (a : Rq) : Bytes (btV a) := bytes_app (two_bytes _) (cons_bytes (by omega) (pk_bytes _))
theorem wt_bytes (a : Rq) : Bytes (wtV a) := bytes_app (two_bytes _) (cons_bytes (by omega) (wb_bytes _))
theorem nil_bytes : Bytes [] := fun x hx => by simp at hx
theorem text_bytes (a : Rq) : Bytes (textV a) := by
  unfold textV
  split
  · exact cons_bytes (by omega) (cons_bytes (by omega) (cons_bytes (by omega) (cons_bytes (by omega) nil_bytes)))
  · refine bytes_app (cons_bytes (by omega) (two_bytes _)) ?_
    unfold tailV
    split
    · split
      · exact cons_bytes (by omega) (cons_bytes (by omega) nil_bytes)
      · exact cons_bytes (by omega) (cons_bytes (by omega) nil_bytes)
    · split
      · exact wb_bytes _
      · split
        · exact bt_bytes a
        · split
          · exact wt_bytes a
          · split
            · exact bytes_app (two_bytes _) (two_bytes _)
            · split
              · exact bytes_app (bytes_app (two_bytes _) (two_bytes _)) (wt_bytes a)
              · exact two_bytes _
end Go.Proofs.Ytjkofefcoeejbaa

/- Answers: reads, many, textsFit, Right of the program. -/
namespace Go.Proofs.Ytjkofefcoeejbaa
open Go
set_option linter.unusedSimpArgs false
set_option linter.unusedVariables false
def Sg (s : ByteArray) : DV := .flat (.string s)
@[simp] theorem cells_Sg (s : ByteArray) : (Sg s).cells = [Sg s] := rfl
@[simp] theorem leaf_Sg (s : ByteArray) : (Sg s).leaf = true := rfl
structure An where
  exc : Int
  bits : List Bool
  words : List Int
  texts : List ByteArray
def anE (x : An) (t t2 t3 : Tag) : DV := .agg [I .i64 x.exc, LV 1 Bo x.bits t, LV 1 (I .u16) x.words t2, LV 1 Sg x.texts t3]
def rdBits (c : Int) : Bool := decide (c = 1 ∨ c = 2)
def rdWords (c : Int) : Bool := decide (c = 3 ∨ c = 4 ∨ c = 23)
def rdTexts (c : Int) : Bool := decide (c = 43)
theorem reads_c (n : Nat) (hn : 1 ≤ n) (c : Int) : cP n 61 false [I .i64 c] = some (.tup [Bo (rdBits c), Bo (rdWords c), Bo (rdTexts c)]) := by
  obtain ⟨n, rfl⟩ : ∃ m, n = m + 1 := ⟨n - 1, by omega⟩
  have go : ∀ r, .tup [Bo (rdBits c), Bo (rdWords c), Bo (rdTexts c)] = r → (∀ H', outD false H' r = some r) → (∃ H', s_answer_reads n [] 0 (I .i64 c) = some (r, H')) → cP (n + 1) 61 false [I .i64 c] = some (.tup [Bo (rdBits c), Bo (rdWords c), Bo (rdTexts c)]) := by
    intro r h1 h2 ⟨H', h⟩
    rw [h1]
    exact cP_of (args' := [I .i64 c]) (by simp [argEl_eq]) ((s_answer_reads_eq _ _ _ _).trans h) (h2 H')
  unfold rdBits rdWords rdTexts at *
  by_cases c1 : c = 1 ∨ c = 2
  · refine go (.tup [Bo true, Bo false, Bo false]) (by simp; omega) (fun H' => by simp) ?_
    rcases c1 with rfl | rfl <;> exact ⟨_, by unfold s_answer_reads; simp -implicitDefEqProofs (disch := first | omega | (simp only [List.length_set, List.length_append, List.length_cons, List.length_nil, List.length_take, List.length_drop, List.length_map]; omega) | simp) [wrap_i64, wrap_u16_id, wrap_u8_id, tdiv_pos, tmod_pos, -getElem?_pos, -getElem?_neg, -List.length_eq_zero_iff, -List.getElem_cons_drop]; rfl⟩
  by_cases c2 : c = 3 ∨ c = 4 ∨ c = 23
  · refine go (.tup [Bo false, Bo true, Bo false]) (by simp; omega) (fun H' => by simp) ?_
    rcases c2 with rfl | rfl | rfl <;> exact ⟨_, by unfold s_answer_reads; simp -implicitDefEqProofs (disch := first | omega | (simp only [List.length_set, List.length_append, List.length_cons, List.length_nil, List.length_take, List.length_drop, List.length_map]; omega) | simp) [wrap_i64, wrap_u16_id, wrap_u8_id, tdiv_pos, tmod_pos, -getElem?_pos, -getElem?_neg, -List.length_eq_zero_iff, -List.getElem_cons_drop]; rfl⟩
  have d1 : c ≠ 1 := by omega
  have d2 : c ≠ 2 := by omega
  have d3 : c ≠ 3 := by omega
  have d4 : c ≠ 4 := by omega
  have d5 : c ≠ 23 := by omega
  refine go (.tup [Bo false, Bo false, Bo (decide (c = 43))]) (by simp [d1, d2, d3, d4, d5]) (fun H' => by simp) ?_
  exact ⟨_, by unfold s_answer_reads; simp -implicitDefEqProofs (disch := first | omega | (simp only [List.length_set, List.length_append, List.length_cons, List.length_nil, List.length_take, List.length_drop, List.length_map]; omega) | simp) [wrap_i64, wrap_u16_id, wrap_u8_id, tdiv_pos, tmod_pos, -getElem?_pos, -getElem?_neg, -List.length_eq_zero_iff, -List.getElem_cons_drop, d1, d2, d3, d4, d5]; rfl⟩
theorem many_c (n : Nat) (hn : 1 ≤ n) (b : Bool) (x : Int) : cP n 66 false [Bo b, I .i64 x] = some (I .i64 (if b then x else 0)) := by
  obtain ⟨n, rfl⟩ : ∃ m, n = m + 1 := ⟨n - 1, by omega⟩
  cases b
  · exact cP_of (r := I .i64 0) (args' := [Bo false, I .i64 x]) (by simp [argEl_eq]) ((s_answer_many_eq _ _ _ _ _).trans (by unfold s_answer_many; simp -implicitDefEqProofs (disch := first | omega | (simp only [List.length_set, List.length_append, List.length_cons, List.length_nil, List.length_take, List.length_drop, List.length_map]; omega) | simp) [wrap_i64, wrap_u16_id, wrap_u8_id, tdiv_pos, tmod_pos, -getElem?_pos, -getElem?_neg, -List.length_eq_zero_iff, -List.getElem_cons_drop]; first | exact rfl | exact ⟨rfl, rfl⟩)) (by simp)
  · exact cP_of (r := I .i64 x) (args' := [Bo true, I .i64 x]) (by simp [argEl_eq]) ((s_answer_many_eq _ _ _ _ _).trans (by unfold s_answer_many; simp -implicitDefEqProofs (disch := first | omega | (simp only [List.length_set, List.length_append, List.length_cons, List.length_nil, List.length_take, List.length_drop, List.length_map]; omega) | simp) [wrap_i64, wrap_u16_id, wrap_u8_id, tdiv_pos, tmod_pos, -getElem?_pos, -getElem?_neg, -List.length_eq_zero_iff, -List.getElem_cons_drop]; first | exact rfl | exact ⟨rfl, rfl⟩)) (by simp)
/-- have texts room, behind so many bytes? -/
def fitT : Int → List ByteArray → Bool
  | _, [] => true
  | n, s :: r => if 245 < s.size ∨ 253 < n + (2 + (s.size : Int)) then false else fitT (n + (2 + (s.size : Int))) r
theorem txf_L (n fl : Nat) (K : Ex → KF) (x1 x2 : DV) (l : List ByteArray) (t : Tag) (hs : ∀ s ∈ l, s.size ≤ 1000000) (hl : l.length ≤ 1000) : ∀ (m i : Nat) (acc : Int) (H : Heap), l.length < m + i → i ≤ l.length → 0 ≤ acc → acc ≤ 253 →
    s_answer_textsFit_L0 n fl K m x1 x2 (I .i64 acc) (LV 1 Sg l t) (I .i64 l.length) (I .i64 i) H = if fitT acc (l.drop i) = true then K (.exit 0) (s_answer_textsFit_O0 x1 x2 .any) H else K .ret (s_answer_textsFit_O0 x1 x2 (Bo false)) H := by
  intro m
  induction m with
  | zero => intro i acc H h; omega
  | succ m ih =>
    intro i acc H hm hi h0 h1
    unfold s_answer_textsFit_L0 s_answer_textsFit_B0
    by_cases h : i < l.length
    · have hz := hs _ (List.getElem_mem h)
      have hls : lenStr (Sg l[i]) = some (I .i64 (l[i].size : Int)) := rfl
      rw [List.drop_eq_getElem_cons h]
      have hi2 : ((i + 1 : Nat) : Int) = (i : Int) + 1 := by omega
      by_cases c1 : 245 < l[i].size
      · have hf : fitT acc (l[i] :: l.drop (i + 1)) = false := by unfold fitT; rw [if_pos (.inl c1)]
        simp only [hf, Bool.false_eq_true, if_false]
        simp -implicitDefEqProofs (disch := first | omega | (simp only [List.length_set, List.length_append, List.length_cons, List.length_nil, List.length_take, List.length_drop, List.length_map]; omega) | simp) [wrap_i64, wrap_u16_id, wrap_u8_id, tdiv_pos, tmod_pos, -getElem?_pos, -getElem?_neg, -List.length_eq_zero_iff, -List.getElem_cons_drop, h, hls, c1]
      · by_cases c2 : 253 < acc + (2 + (l[i].size : Int))
        · have hf : fitT acc (l[i] :: l.drop (i + 1)) = false := by unfold fitT; rw [if_pos (.inr c2)]
          simp only [hf, Bool.false_eq_true, if_false]
          simp -implicitDefEqProofs (disch := first | omega | (simp only [List.length_set, List.length_append, List.length_cons, List.length_nil, List.length_take, List.length_drop, List.length_map]; omega) | simp) [wrap_i64, wrap_u16_id, wrap_u8_id, tdiv_pos, tmod_pos, -getElem?_pos, -getElem?_neg, -List.length_eq_zero_iff, -List.getElem_cons_drop, h, hls, c1, c2]
        · have hf : fitT acc (l[i] :: l.drop (i + 1)) = fitT (acc + (2 + (l[i].size : Int))) (l.drop (i + 1)) := by conv => lhs; unfold fitT; rw [if_neg (by omega)]
          simp only [hf]
          have ih' := ih (i + 1) (acc + (2 + (l[i].size : Int))) H (by omega) (by omega) (by omega) (by omega)
          rw [hi2] at ih'
          simp -implicitDefEqProofs (disch := first | omega | (simp only [List.length_set, List.length_append, List.length_cons, List.length_nil, List.length_take, List.length_drop, List.length_map]; omega) | simp) [wrap_i64, wrap_u16_id, wrap_u8_id, tdiv_pos, tmod_pos, -getElem?_pos, -getElem?_neg, -List.length_eq_zero_iff, -List.getElem_cons_drop, h, hls, c1, c2, ih']
    · have : i = l.length := by omega
      subst this
      rw [List.drop_length]
      simp only [fitT, if_true]
      simp -implicitDefEqProofs (disch := first | omega | (simp only [List.length_set, List.length_append, List.length_cons, List.length_nil, List.length_take, List.length_drop, List.length_map]; omega) | simp) [wrap_i64, wrap_u16_id, wrap_u8_id, tdiv_pos, tmod_pos, -getElem?_pos, -getElem?_neg, -List.length_eq_zero_iff, -List.getElem_cons_drop]
def fitA (addr : Int) (l : List ByteArray) : Bool := fitT 7 l && decide (0 < l.length) && decide (addr + l.length ≤ 256)
theorem textsFit_c (n : Nat) (a : Rq) (t1 t2 t : Tag) (l : List ByteArray) (ha : 0 ≤ a.addr ∧ a.addr ≤ 65535) (hs : ∀ s ∈ l, s.size ≤ 1000000) (hl : l.length ≤ 1000) (hn : l.length + 4 ≤ n) : cP n 72 false [rqE a t1 t2, LV 1 Sg l t] = some (Bo (fitA a.addr l)) := by
  obtain ⟨n, rfl⟩ : ∃ m, n = m + 1 := ⟨n - 1, by omega⟩
  have q : ∀ K H, loopG [1, 2, 5, 8, 9, 10] [1, 2, 4] 38 (s_answer_textsFit_b0 n 0) n (s_answer_textsFit_I0 (LV 1 Sg l .sh) (.ptr 0 0) (I .i64 7) (LV 1 Sg l .sh) (I .i64 l.length) (I .i64 0)) H K = _ := fun K H => (s_answer_textsFit_L0_eq _ _ _ _ _ _ _ _ _ _ _).trans (txf_L n 0 K (LV 1 Sg l .sh) (.ptr 0 0) l .sh hs hl n 0 7 H (by omega) (by omega) (by omega) (by omega))
  rw [List.drop_zero] at q
  unfold fitA
  have go : ∀ r, (∃ H', s_answer_textsFit n [] 0 (rqE a .sh .sh) (LV 1 Sg l .sh) = some (Bo r, H')) → cP (n + 1) 72 false [rqE a t1 t2, LV 1 Sg l t] = some (Bo r) := by
    intro r ⟨H', h⟩
    exact cP_of (r := Bo r) (args' := [rqE a .sh .sh, LV 1 Sg l .sh]) (by simp [argEl_eq, rqE]) ((s_answer_textsFit_eq _ _ _ _ _).trans h) (by simp)
  obtain ⟨ha0, ha1⟩ := ha
  cases hf : fitT 7 l with
  | false =>
    rw [hf] at q
    refine go false ?_
    exact ⟨_, by unfold s_answer_textsFit rqE; simp -implicitDefEqProofs (disch := first | omega | (simp only [List.length_set, List.length_append, List.length_cons, List.length_nil, List.length_take, List.length_drop, List.length_map]; omega) | simp) [wrap_i64, wrap_u16_id, wrap_u8_id, tdiv_pos, tmod_pos, -getElem?_pos, -getElem?_neg, -List.length_eq_zero_iff, -List.getElem_cons_drop, q, s_answer_textsFit_O0]; rfl⟩
  | true =>
    rw [hf] at q
    by_cases c1 : 0 < l.length
    · by_cases c2 : a.addr + l.length ≤ 256
      · rw [decide_eq_true c1, decide_eq_true c2]
        refine go true ?_
        exact ⟨_, by unfold s_answer_textsFit rqE; simp -implicitDefEqProofs (disch := first | omega | (simp only [List.length_set, List.length_append, List.length_cons, List.length_nil, List.length_take, List.length_drop, List.length_map]; omega) | simp) [wrap_i64, wrap_u16_id, wrap_u8_id, tdiv_pos, tmod_pos, -getElem?_pos, -getElem?_neg, -List.length_eq_zero_iff, -List.getElem_cons_drop, q, s_answer_textsFit_O0, c1, c2]; rfl⟩
      · rw [decide_eq_true c1, decide_eq_false c2]
        refine go false ?_
        exact ⟨_, by unfold s_answer_textsFit rqE; simp -implicitDefEqProofs (disch := first | omega | (simp only [List.length_set, List.length_append, List.length_cons, List.length_nil, List.length_take, List.length_drop, List.length_map]; omega) | simp) [wrap_i64, wrap_u16_id, wrap_u8_id, tdiv_pos, tmod_pos, -getElem?_pos, -getElem?_neg, -List.length_eq_zero_iff, -List.getElem_cons_drop, q, s_answer_textsFit_O0, c1, c2]; rfl⟩
    · rw [decide_eq_false c1]
      refine go false ?_
      exact ⟨_, by unfold s_answer_textsFit rqE; simp -implicitDefEqProofs (disch := first | omega | (simp only [List.length_set, List.length_append, List.length_cons, List.length_nil, List.length_take, List.length_drop, List.length_map]; omega) | simp) [wrap_i64, wrap_u16_id, wrap_u8_id, tdiv_pos, tmod_pos, -getElem?_pos, -getElem?_neg, -List.length_eq_zero_iff, -List.getElem_cons_drop, q, s_answer_textsFit_O0, c1]; rfl⟩
structure AnOk (x : An) : Prop where
  w : Words x.words
  t : ∀ s ∈ x.texts, s.size ≤ 1000000
  l : x.texts.length ≤ 1000
/-- may an answer come of a request? by what its code reads -/
def ansB (rp b1 b2 b3 : Bool) (a : Rq) (x : An) : Bool :=
  rp && decide (0 ≤ x.exc) && decide (x.exc ≤ 255) && decide ((x.bits.length : Int) = if b1 && decide (x.exc = 0) then a.cnt else 0) && decide ((x.words.length : Int) = if b2 && decide (x.exc = 0) then a.cnt else 0) &&
    (if b3 && decide (x.exc = 0) then fitA a.addr x.texts else decide ((x.texts.length : Int) = 0))
def ansV (a : Rq) (x : An) : Bool := ansB (decide (RightP a)) (rdBits a.code) (rdWords a.code) (rdTexts a.code) a x
theorem ansRight_c (n : Nat) (hn : 1100 ≤ n) (a : Rq) (x : An) (ok : AnOk x) (t1 t2 t3 t4 t5 : Tag) : cP n 32 false [rqE a t1 t2, anE x t3 t4 t5] = some (Bo (ansV a x)) := by
  obtain ⟨n, rfl⟩ : ∃ m, n = m + 1 := ⟨n - 1, by omega⟩
  have k1 := Right_c n (by omega) a .sh .sh
  have k2 := reads_c n (by omega) a.code
  have k3 := fun b x => many_c n (by omega) b x
  have hl := ok.l
  obtain ⟨V, hV⟩ : ∃ V, V = ansV a x := ⟨_, rfl⟩
  rw [← hV]
  have go : ∀ r, ansV a x = r → (∃ H', s_answer_Right n [] 0 (rqE a .sh .sh) (anE x .sh .sh .sh) = some (Bo r, H')) → cP (n + 1) 32 false [rqE a t1 t2, anE x t3 t4 t5] = some (Bo V) := by
    intro r h1 ⟨H', h⟩
    rw [hV, h1]
    exact cP_of (r := Bo r) (args' := [rqE a .sh .sh, anE x .sh .sh .sh]) (by simp [argEl_eq, rqE, anE]) ((s_answer_Right_eq _ _ _ _ _).trans h) (by simp)
  clear hV
  unfold ansV ansB at go
  by_cases hr : RightP a
  · obtain ⟨_, _, b1, b2, _⟩ := formed_le a hr.1
    have k4 := textsFit_c n a .sh .sh .sh x.texts ⟨b1, b2⟩ ok.t ok.l (by omega)
    rw [decide_eq_true hr] at k1 go
    by_cases e0 : 0 ≤ x.exc
    · by_cases e1 : x.exc ≤ 255
      · generalize rdBits a.code = r1 at *
        generalize rdWords a.code = r2 at *
        generalize rdTexts a.code = r3 at *
        rw [decide_eq_true e0, decide_eq_true e1] at go
        by_cases z : x.exc = 0
        · rw [decide_eq_true z] at go
          simp only [Bool.and_true, Bool.true_and] at go
          by_cases c1 : (x.bits.length : Int) = if r1 = true then a.cnt else 0
          · by_cases c2 : (x.words.length : Int) = if r2 = true then a.cnt else 0
            · rw [decide_eq_true c1, decide_eq_true c2] at go
              simp only [Bool.true_and] at go
              refine go _ rfl ?_
              cases r3 <;> cases r1 <;> cases r2 <;> simp only [if_true, if_false, Bool.false_eq_true] at c1 c2 ⊢ <;> exact ⟨_, by unfold s_answer_Right rqE anE at *; simp -implicitDefEqProofs (disch := first | omega | (simp only [List.length_set, List.length_append, List.length_cons, List.length_nil, List.length_take, List.length_drop, List.length_map]; omega) | simp) [wrap_i64, wrap_u16_id, wrap_u8_id, tdiv_pos, tmod_pos, -getElem?_pos, -getElem?_neg, -List.length_eq_zero_iff, -List.getElem_cons_drop, k1, k2, k3, k4, z, c1, c2]; rfl⟩
            · rw [decide_eq_true c1, decide_eq_false c2] at go
              simp only [Bool.true_and, Bool.false_and] at go
              refine go false rfl ?_
              cases r1 <;> cases r2 <;> simp only [if_true, if_false, Bool.false_eq_true] at c1 c2 <;> exact ⟨_, by unfold s_answer_Right rqE anE at *; simp -implicitDefEqProofs (disch := first | omega | (simp only [List.length_set, List.length_append, List.length_cons, List.length_nil, List.length_take, List.length_drop, List.length_map]; omega) | simp) [wrap_i64, wrap_u16_id, wrap_u8_id, tdiv_pos, tmod_pos, -getElem?_pos, -getElem?_neg, -List.length_eq_zero_iff, -List.getElem_cons_drop, k1, k2, k3, z, c1, c2]; rfl⟩
          · rw [decide_eq_false c1] at go
            simp only [Bool.false_and] at go
            refine go false rfl ?_
            cases r1
            · simp only [if_false, Bool.false_eq_true] at c1
              have d1 : ¬ x.bits.length = 0 := by omega
              exact ⟨_, by unfold s_answer_Right rqE anE at *; simp -implicitDefEqProofs (disch := first | omega | (simp only [List.length_set, List.length_append, List.length_cons, List.length_nil, List.length_take, List.length_drop, List.length_map]; omega) | simp) [wrap_i64, wrap_u16_id, wrap_u8_id, tdiv_pos, tmod_pos, -getElem?_pos, -getElem?_neg, -List.length_eq_zero_iff, -List.getElem_cons_drop, k1, k2, k3, z, d1]; rfl⟩
            · simp only [if_true] at c1
              exact ⟨_, by unfold s_answer_Right rqE anE at *; simp -implicitDefEqProofs (disch := first | omega | (simp only [List.length_set, List.length_append, List.length_cons, List.length_nil, List.length_take, List.length_drop, List.length_map]; omega) | simp) [wrap_i64, wrap_u16_id, wrap_u8_id, tdiv_pos, tmod_pos, -getElem?_pos, -getElem?_neg, -List.length_eq_zero_iff, -List.getElem_cons_drop, k1, k2, k3, z, c1]; rfl⟩
        · rw [decide_eq_false z] at go
          simp only [Bool.and_false, Bool.true_and, Bool.false_eq_true, if_false] at go
          by_cases c1 : (x.bits.length : Int) = 0
          · by_cases c2 : (x.words.length : Int) = 0
            · rw [decide_eq_true c1, decide_eq_true c2] at go
              simp only [Bool.true_and] at go
              refine go _ rfl ?_
              cases r3 <;> cases r1 <;> cases r2 <;> exact ⟨_, by unfold s_answer_Right rqE anE at *; simp -implicitDefEqProofs (disch := first | omega | (simp only [List.length_set, List.length_append, List.length_cons, List.length_nil, List.length_take, List.length_drop, List.length_map]; omega) | simp) [wrap_i64, wrap_u16_id, wrap_u8_id, tdiv_pos, tmod_pos, -getElem?_pos, -getElem?_neg, -List.length_eq_zero_iff, -List.getElem_cons_drop, k1, k2, k3, z, c1, c2]; rfl⟩
            · rw [decide_eq_true c1, decide_eq_false c2] at go
              simp only [Bool.true_and, Bool.false_and] at go
              refine go false rfl ?_
              cases r1 <;> cases r2 <;> exact ⟨_, by unfold s_answer_Right rqE anE at *; simp -implicitDefEqProofs (disch := first | omega | (simp only [List.length_set, List.length_append, List.length_cons, List.length_nil, List.length_take, List.length_drop, List.length_map]; omega) | simp) [wrap_i64, wrap_u16_id, wrap_u8_id, tdiv_pos, tmod_pos, -getElem?_pos, -getElem?_neg, -List.length_eq_zero_iff, -List.getElem_cons_drop, k1, k2, k3, z, c1, c2]; rfl⟩
          · rw [decide_eq_false c1] at go
            simp only [Bool.false_and] at go
            refine go false rfl ?_
            have d1 : ¬ x.bits.length = 0 := by omega
            cases r1 <;> exact ⟨_, by unfold s_answer_Right rqE anE at *; simp -implicitDefEqProofs (disch := first | omega | (simp only [List.length_set, List.length_append, List.length_cons, List.length_nil, List.length_take, List.length_drop, List.length_map]; omega) | simp) [wrap_i64, wrap_u16_id, wrap_u8_id, tdiv_pos, tmod_pos, -getElem?_pos, -getElem?_neg, -List.length_eq_zero_iff, -List.getElem_cons_drop, k1, k2, k3, z, d1]; rfl⟩
      · rw [decide_eq_true e0, decide_eq_false e1] at go
        simp only [Bool.true_and, Bool.and_false, Bool.false_and] at go
        refine go false rfl ?_
        exact ⟨_, by unfold s_answer_Right rqE anE at *; simp -implicitDefEqProofs (disch := first | omega | (simp only [List.length_set, List.length_append, List.length_cons, List.length_nil, List.length_take, List.length_drop, List.length_map]; omega) | simp) [wrap_i64, wrap_u16_id, wrap_u8_id, tdiv_pos, tmod_pos, -getElem?_pos, -getElem?_neg, -List.length_eq_zero_iff, -List.getElem_cons_drop, k1, e0, e1]; rfl⟩
    · rw [decide_eq_false e0] at go
      simp only [Bool.true_and, Bool.and_false, Bool.false_and] at go
      refine go false rfl ?_
      exact ⟨_, by unfold s_answer_Right rqE anE at *; simp -implicitDefEqProofs (disch := first | omega | (simp only [List.length_set, List.length_append, List.length_cons, List.length_nil, List.length_take, List.length_drop, List.length_map]; omega) | simp) [wrap_i64, wrap_u16_id, wrap_u8_id, tdiv_pos, tmod_pos, -getElem?_pos, -getElem?_neg, -List.length_eq_zero_iff, -List.getElem_cons_drop, k1, e0]; rfl⟩
  · rw [decide_eq_false hr] at k1 go
    simp only [Bool.false_and] at go
    refine go false rfl ?_
    exact ⟨_, by unfold s_answer_Right rqE anE at *; simp -implicitDefEqProofs (disch := first | omega | (simp only [List.length_set, List.length_append, List.length_cons, List.length_nil, List.length_take, List.length_drop, List.length_map]; omega) | simp) [wrap_i64, wrap_u16_id, wrap_u8_id, tdiv_pos, tmod_pos, -getElem?_pos, -getElem?_neg, -List.length_eq_zero_iff, -List.getElem_cons_drop, k1]; rfl⟩
end Go.Proofs.Ytjkofefcoeejbaa
