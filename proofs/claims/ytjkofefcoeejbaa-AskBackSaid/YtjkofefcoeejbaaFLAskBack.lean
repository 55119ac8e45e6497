/- Go functions as Lean functions on deep values; printed by a program of mine. -/
import Derived.Test.YtjkofefcoeejbaaKA7
namespace Go.Proofs.Ytjkofefcoeejbaa
open Go
set_option maxRecDepth 100000
set_option linter.unusedVariables false
/-! triune/triunelaw06.AskBack -/
noncomputable def s_triunelaw06_AskBack (n : Nat) (H : Heap) (fl : Nat) (a0 a1 a2 : DV) : R :=
  bi (allocG 26 a0 (List.length H) (H ++ [.hole])) fun h0 =>
  bi (cP n 12 false []) fun d1 =>
  bi (loadG true 8 (.ptr (List.length H) 0) h0) fun d2 =>
  bi (cP n 13 false [d2]) fun d3 =>
  bi (wantF d3 false (some a1)) fun d4 =>
  bi (wantF d3 false (lenD d4)) fun d5 =>
  bi (wantF d3 false (gtK .i64 d5 (I .i64 600))) fun d6 =>
  bi (pickD d3 (Bo true) d6) fun d7 =>
  condR d7 (
  some (d1, h0)) (
  bi (loadG true 8 (.ptr (List.length H) 0) h0) fun d8 =>
  bi (cP n 14 false [d8]) fun d9 =>
  bi (extD 0 d9) fun d10 =>
  bi (extD 1 d9) fun d11 =>
  bi (eqK .i64 d11 (I .i64 0)) fun d12 =>
  bi (loadG true 8 (.ptr (List.length H) 0) h0) fun d13 =>
  bi (cP n 20 false [d13]) fun d14 =>
  bi (neB d12 d14) fun d15 =>
  condR d15 (
  some ((Bo false), h0)) (
  bi (eqK .i64 d11 (I .i64 0)) fun d16 =>
  condR d16 (
   bi (cP n 16 false [d10]) fun d17 =>
   bi (extD 0 d17) fun d18 =>
   bi (extD 1 d17) fun d19 =>
   bi (allocG 26 (.agg [(I .i64 0), (I .i64 0), (I .i64 0), (I .i64 0), (.list 0 [] .ti), (.list 0 [] .ti), (I .u16 0), (I .u16 0)]) (List.length h0) (h0 ++ [.hole])) fun h20 =>
   bi (storeG 8 (.ptr (List.length h0) 0) d18 h20 fl) fun h21 =>
   bi (neK .i64 d19 (I .i64 0)) fun d22 =>
   bi (wantF d22 false (loadG true 8 (.ptr (List.length h0) 0) h21)) fun d23 =>
   bi (wantF d22 false (loadG true 8 (.ptr (List.length H) 0) h21)) fun d24 =>
   bi (wantF d22 false (cP n 24 false [d23, d24])) fun d25 =>
   bi (wantF d22 false (notD d25)) fun d26 =>
   bi (pickD d22 (Bo true) d26) fun d27 =>
   bi (wantF d27 false (some d10)) fun d28 =>
   bi (wantF d27 false (lenD d28)) fun d29 =>
   bi (wantF d27 false (gtK .i64 d29 (I .i64 253))) fun d30 =>
   bi (pickD d27 (Bo true) d30) fun d31 =>
   condR d31 (
  some ((Bo false), h21)) (
   bi (geK .i64 a2 (I .i64 1)) fun d32 =>
   bi (wantF d32 true (some a2)) fun d33 =>
   bi (wantF d32 true (some d10)) fun d34 =>
   bi (wantF d32 true (lenD d34)) fun d35 =>
   bi (wantF d32 true (ltK .i64 d33 d35)) fun d36 =>
   bi (pickD d32 d36 (Bo false)) fun d37 =>
   condR d37 (
    bi (slX 1 d10 none (some a2) none) fun d38 =>
    bi (cP n 16 false [d38]) fun d39 =>
    bi (extD 0 d39) fun d40 =>
    bi (extD 1 d39) fun d41 =>
    bi (allocG 26 (.agg [(I .i64 0), (I .i64 0), (I .i64 0), (I .i64 0), (.list 0 [] .ti), (.list 0 [] .ti), (I .u16 0), (I .u16 0)]) (List.length h21) (h21 ++ [.hole])) fun h42 =>
    bi (storeG 8 (.ptr (List.length h21) 0) d40 h42 fl) fun h43 =>
    bi (neK .i64 d41 (I .i64 3)) fun d44 =>
    condR d44 (
  some ((Bo false), h43)) (
  bi (cP n 16 false [a1]) fun d45 =>
  bi (extD 0 d45) fun d46 =>
  bi (extD 1 d45) fun d47 =>
  bi (allocG 26 (.agg [(I .i64 0), (I .i64 0), (I .i64 0), (I .i64 0), (.list 0 [] .ti), (.list 0 [] .ti), (I .u16 0), (I .u16 0)]) (List.length h43) (h43 ++ [.hole])) fun h48 =>
  bi (storeG 8 (.ptr (List.length h43) 0) d46 h48 fl) fun h49 =>
  bi (neK .i64 d47 (I .i64 0)) fun d50 =>
  condR d50 (
   bi (wantF d1 true (some (.ptr (List.length h43) 0))) fun d51 =>
   bi (wantF d1 true (loadG false 1 d51 h49)) fun d52 =>
   bi (wantF d1 true (eqK .i64 d52 (I .i64 0))) fun d53 =>
   bi (pickD d1 d53 (Bo false)) fun d54 =>
  some (d54, h49)) (
  bi (loadG true 8 (.ptr (List.length h43) 0) h49) fun d55 =>
  bi (cP n 14 false [d55]) fun d56 =>
  bi (extD 0 d56) fun d57 =>
  bi (extD 1 d56) fun d58 =>
  bi (cP n 18 false [d57, a1]) fun d59 =>
  bi (wantF d1 true (some d58)) fun d60 =>
  bi (wantF d1 true (eqK .i64 d60 (I .i64 0))) fun d61 =>
  bi (pickD d1 d61 (Bo false)) fun d62 =>
  bi (wantF d62 true (some d59)) fun d63 =>
  bi (pickD d62 d63 (Bo false)) fun d64 =>
  some (d64, h49)))) (
  bi (cP n 16 false [a1]) fun d65 =>
  bi (extD 0 d65) fun d66 =>
  bi (extD 1 d65) fun d67 =>
  bi (allocG 26 (.agg [(I .i64 0), (I .i64 0), (I .i64 0), (I .i64 0), (.list 0 [] .ti), (.list 0 [] .ti), (I .u16 0), (I .u16 0)]) (List.length h21) (h21 ++ [.hole])) fun h68 =>
  bi (storeG 8 (.ptr (List.length h21) 0) d66 h68 fl) fun h69 =>
  bi (neK .i64 d67 (I .i64 0)) fun d70 =>
  condR d70 (
   bi (wantF d1 true (some (.ptr (List.length h21) 0))) fun d71 =>
   bi (wantF d1 true (loadG false 1 d71 h69)) fun d72 =>
   bi (wantF d1 true (eqK .i64 d72 (I .i64 0))) fun d73 =>
   bi (pickD d1 d73 (Bo false)) fun d74 =>
  some (d74, h69)) (
  bi (loadG true 8 (.ptr (List.length h21) 0) h69) fun d75 =>
  bi (cP n 14 false [d75]) fun d76 =>
  bi (extD 0 d76) fun d77 =>
  bi (extD 1 d76) fun d78 =>
  bi (cP n 18 false [d77, a1]) fun d79 =>
  bi (wantF d1 true (some d78)) fun d80 =>
  bi (wantF d1 true (eqK .i64 d80 (I .i64 0))) fun d81 =>
  bi (pickD d1 d81 (Bo false)) fun d82 =>
  bi (wantF d82 true (some d79)) fun d83 =>
  bi (pickD d82 d83 (Bo false)) fun d84 =>
  some (d84, h69))))) (
  bi (cP n 16 false [a1]) fun d85 =>
  bi (extD 0 d85) fun d86 =>
  bi (extD 1 d85) fun d87 =>
  bi (allocG 26 (.agg [(I .i64 0), (I .i64 0), (I .i64 0), (I .i64 0), (.list 0 [] .ti), (.list 0 [] .ti), (I .u16 0), (I .u16 0)]) (List.length h0) (h0 ++ [.hole])) fun h88 =>
  bi (storeG 8 (.ptr (List.length h0) 0) d86 h88 fl) fun h89 =>
  bi (neK .i64 d87 (I .i64 0)) fun d90 =>
  condR d90 (
   bi (wantF d1 true (some (.ptr (List.length h0) 0))) fun d91 =>
   bi (wantF d1 true (loadG false 1 d91 h89)) fun d92 =>
   bi (wantF d1 true (eqK .i64 d92 (I .i64 0))) fun d93 =>
   bi (pickD d1 d93 (Bo false)) fun d94 =>
  some (d94, h89)) (
  bi (loadG true 8 (.ptr (List.length h0) 0) h89) fun d95 =>
  bi (cP n 14 false [d95]) fun d96 =>
  bi (extD 0 d96) fun d97 =>
  bi (extD 1 d96) fun d98 =>
  bi (cP n 18 false [d97, a1]) fun d99 =>
  bi (wantF d1 true (some d98)) fun d100 =>
  bi (wantF d1 true (eqK .i64 d100 (I .i64 0))) fun d101 =>
  bi (pickD d1 d101 (Bo false)) fun d102 =>
  bi (wantF d102 true (some d99)) fun d103 =>
  bi (pickD d102 d103 (Bo false)) fun d104 =>
  some (d104, h89)))))
theorem s_triunelaw06_AskBack_eq (n : Nat) (H : Heap) (fl : Nat) (a0 a1 a2 : DV) : callG Try.prog ENV (n + 1) 4 [a0, a1, a2] H fl = s_triunelaw06_AskBack n H fl a0 a1 a2 := by kernel_rfl

end Go.Proofs.Ytjkofefcoeejbaa
