/- Go functions as Lean functions on deep values; printed by a program of mine. -/
import Derived.Test.YtigfninpflemnabEnv
namespace Go.Proofs.Ytigfninpflemnab
open Go
set_option maxRecDepth 100000
set_option linter.unusedVariables false
/-! triune/triunelaw14.ModesDo -/
def s_triunelaw14_ModesDo_I0 (x1 x5 x6 x8 x10 : DV) : List DV := [.any, x1, .any, .any, .any, x5, x6, .any, x8, .any, x10, .any, .any, .any, .any, .any, .any, .any, .any, .any, .any, .any, .any, .any, .any, .any, .any, .any, .any, .any, .any, .any, .any, .any, .any, .any, .any, .any, .any, .any, .any, .any, .any, .any, .any, .any, .any, .any, .any, .any, .any, .any, .any, .any, .any, .any, .any, .any, .any, .any, .any, .any, .any, .any, .any, .any, .any, .any, .any, .any, .any, .any, .any, .any, .any, .any, .any, .any, .any, .any, .any, .any, .any, .any, .any, .any, .any, .any, .any, .any, .any, .any, .any, .any, .any, .any, .any, .any, .any, .any, .any, .any, .any, .any, .any, .any, .any]
def s_triunelaw14_ModesDo_O0 (x4 x5 : DV) : List DV := [.any, .any, .any, .any, x4, x5, .any, .any, .any, .any, .any, .any, .any, .any, .any, .any, .any, .any, .any, .any, .any, .any, .any, .any, .any, .any, .any, .any, .any, .any, .any, .any, .any, .any, .any, .any, .any, .any, .any, .any, .any, .any, .any, .any, .any, .any, .any, .any, .any, .any, .any, .any, .any, .any, .any, .any, .any, .any, .any, .any, .any, .any, .any, .any, .any, .any, .any, .any, .any, .any, .any, .any, .any, .any, .any, .any, .any, .any, .any, .any, .any, .any, .any, .any, .any, .any, .any, .any, .any, .any, .any, .any, .any, .any, .any, .any, .any, .any, .any, .any, .any, .any, .any, .any, .any, .any, .any]
noncomputable abbrev s_triunelaw14_ModesDo_b0 (n fl : Nat) : List DV → Heap → (Ex → KF) → R := execG ⟨Try.prog, callG Try.prog ENV n, ENV.md, fl, 107⟩ n (loopAt (bodyOf Try.f5) 0) []
noncomputable def s_triunelaw14_ModesDo_B0 (n fl : Nat) (rec : DV → DV → DV → DV → DV → Heap → R) (k : Ex → KF) (x1 x5 x6 x8 x10 : DV) (H : Heap) : R :=
  bi (lenD x1) fun d0 =>
  bi (ltK .i64 x10 d0) fun d1 =>
  condR d1 (
  bi (idxSl 9 x1 x10) fun d2 =>
  bi (loadG true 9 d2 (H ++ [.hole])) fun d3 =>
  bi (allocG 64 (.agg [(I .i64 0), (I .i64 0), (Bo false), (Bo false), (Bo false), (Bo false), (Bo false), (Bo false), (Bo false)]) (List.length H) (H ++ [.hole])) fun h4 =>
  bi (storeG 9 (.ptr (List.length H) 0) d3 h4 fl) fun h5 =>
  bi (loadG true 9 (.ptr (List.length H) 0) h5) fun d6 =>
  bi (cW n 26 [x6, d6] h5 fl) fun p7 =>
  bi (loadG false 1 (.ptr (List.length H) 0) p7.2) fun d8 =>
  bi (eqK .i64 d8 (I .i64 0)) fun d9 =>
  condR d9 (
   bi (loadG true 3 (.ptr (List.length H) 2) p7.2) fun d10 =>
   bi (loadG false 1 (.ptr (List.length H) 5) p7.2) fun d11 =>
   bi (cW n 27 [x8, d10, d11] p7.2 fl) fun p12 =>
  bi (neK .i64 p7.1 (I .i64 0)) fun d13 =>
  bi (wantF d13 false (some x6)) fun d14 =>
  bi (wantF d13 false (cO n 31 [d14] p12.2)) fun d15 =>
  bi (wantF d13 false (some x8)) fun d16 =>
  bi (wantF d13 false (nilD d16)) fun d17 =>
  bi (wantF d13 false (fieldD 1 12 d17)) fun d18 =>
  bi (wantF d13 false (loadG true 12 d18 p12.2)) fun d19 =>
  bi (wantF d13 false (binD Try.prog .neq 71 (.tmp 88) (.tmp 92) d15 d19)) fun d20 =>
  bi (pickD d13 (Bo true) d20) fun d21 =>
  bi (wantF d21 false (some x6)) fun d22 =>
  bi (wantF d21 false (cO n 31 [d22] p12.2)) fun d23 =>
  bi (wantF d21 false (cP n 32 false [d23])) fun d24 =>
  bi (wantF d21 false (some x8)) fun d25 =>
  bi (wantF d21 false (nilD d25)) fun d26 =>
  bi (wantF d21 false (fieldD 1 12 d26)) fun d27 =>
  bi (wantF d21 false (loadG true 12 d27 p12.2)) fun d28 =>
  bi (wantF d21 false (cP n 33 false [d28])) fun d29 =>
  bi (wantF d21 false (neK .i64 d24 d29)) fun d30 =>
  bi (pickD d21 (Bo true) d30) fun d31 =>
  condR d31 (
  k .ret (s_triunelaw14_ModesDo_O0 (Bo false) x5) p12.2) (
  bi (addK .i64 x10 (I .i64 1)) fun d32 =>
  rec x1 x5 x6 x8 d32 p12.2)) (
   bi (eqK .i64 d8 (I .i64 1)) fun d33 =>
   condR d33 (
    bi (loadG false 1 (.ptr (List.length H) 1) p7.2) fun d34 =>
    bi (cW n 28 [x8, d34] p7.2 fl) fun p35 =>
  bi (neK .i64 p7.1 p35.1) fun d36 =>
  bi (wantF d36 false (some x6)) fun d37 =>
  bi (wantF d36 false (cO n 31 [d37] p35.2)) fun d38 =>
  bi (wantF d36 false (some x8)) fun d39 =>
  bi (wantF d36 false (nilD d39)) fun d40 =>
  bi (wantF d36 false (fieldD 1 12 d40)) fun d41 =>
  bi (wantF d36 false (loadG true 12 d41 p35.2)) fun d42 =>
  bi (wantF d36 false (binD Try.prog .neq 71 (.tmp 88) (.tmp 92) d38 d42)) fun d43 =>
  bi (pickD d36 (Bo true) d43) fun d44 =>
  bi (wantF d44 false (some x6)) fun d45 =>
  bi (wantF d44 false (cO n 31 [d45] p35.2)) fun d46 =>
  bi (wantF d44 false (cP n 32 false [d46])) fun d47 =>
  bi (wantF d44 false (some x8)) fun d48 =>
  bi (wantF d44 false (nilD d48)) fun d49 =>
  bi (wantF d44 false (fieldD 1 12 d49)) fun d50 =>
  bi (wantF d44 false (loadG true 12 d50 p35.2)) fun d51 =>
  bi (wantF d44 false (cP n 33 false [d51])) fun d52 =>
  bi (wantF d44 false (neK .i64 d47 d52)) fun d53 =>
  bi (pickD d44 (Bo true) d53) fun d54 =>
  condR d54 (
  k .ret (s_triunelaw14_ModesDo_O0 (Bo false) x5) p35.2) (
  bi (addK .i64 x10 (I .i64 1)) fun d55 =>
  rec x1 x5 x6 x8 d55 p35.2)) (
    bi (eqK .i64 d8 (I .i64 2)) fun d56 =>
    condR d56 (
     bi (loadG true 3 (.ptr (List.length H) 6) p7.2) fun d57 =>
     bi (cW n 29 [x8, d57] p7.2 fl) fun p58 =>
  bi (neK .i64 p7.1 p58.1) fun d59 =>
  bi (wantF d59 false (some x6)) fun d60 =>
  bi (wantF d59 false (cO n 31 [d60] p58.2)) fun d61 =>
  bi (wantF d59 false (some x8)) fun d62 =>
  bi (wantF d59 false (nilD d62)) fun d63 =>
  bi (wantF d59 false (fieldD 1 12 d63)) fun d64 =>
  bi (wantF d59 false (loadG true 12 d64 p58.2)) fun d65 =>
  bi (wantF d59 false (binD Try.prog .neq 71 (.tmp 88) (.tmp 92) d61 d65)) fun d66 =>
  bi (pickD d59 (Bo true) d66) fun d67 =>
  bi (wantF d67 false (some x6)) fun d68 =>
  bi (wantF d67 false (cO n 31 [d68] p58.2)) fun d69 =>
  bi (wantF d67 false (cP n 32 false [d69])) fun d70 =>
  bi (wantF d67 false (some x8)) fun d71 =>
  bi (wantF d67 false (nilD d71)) fun d72 =>
  bi (wantF d67 false (fieldD 1 12 d72)) fun d73 =>
  bi (wantF d67 false (loadG true 12 d73 p58.2)) fun d74 =>
  bi (wantF d67 false (cP n 33 false [d74])) fun d75 =>
  bi (wantF d67 false (neK .i64 d70 d75)) fun d76 =>
  bi (pickD d67 (Bo true) d76) fun d77 =>
  condR d77 (
  k .ret (s_triunelaw14_ModesDo_O0 (Bo false) x5) p58.2) (
  bi (addK .i64 x10 (I .i64 1)) fun d78 =>
  rec x1 x5 x6 x8 d78 p58.2)) (
     bi (loadG false 1 (.ptr (List.length H) 1) p7.2) fun d79 =>
     bi (cW n 30 [x8, d79] p7.2 fl) fun p80 =>
  bi (neK .i64 p7.1 p80.1) fun d81 =>
  bi (wantF d81 false (some x6)) fun d82 =>
  bi (wantF d81 false (cO n 31 [d82] p80.2)) fun d83 =>
  bi (wantF d81 false (some x8)) fun d84 =>
  bi (wantF d81 false (nilD d84)) fun d85 =>
  bi (wantF d81 false (fieldD 1 12 d85)) fun d86 =>
  bi (wantF d81 false (loadG true 12 d86 p80.2)) fun d87 =>
  bi (wantF d81 false (binD Try.prog .neq 71 (.tmp 88) (.tmp 92) d83 d87)) fun d88 =>
  bi (pickD d81 (Bo true) d88) fun d89 =>
  bi (wantF d89 false (some x6)) fun d90 =>
  bi (wantF d89 false (cO n 31 [d90] p80.2)) fun d91 =>
  bi (wantF d89 false (cP n 32 false [d91])) fun d92 =>
  bi (wantF d89 false (some x8)) fun d93 =>
  bi (wantF d89 false (nilD d93)) fun d94 =>
  bi (wantF d89 false (fieldD 1 12 d94)) fun d95 =>
  bi (wantF d89 false (loadG true 12 d95 p80.2)) fun d96 =>
  bi (wantF d89 false (cP n 33 false [d96])) fun d97 =>
  bi (wantF d89 false (neK .i64 d92 d97)) fun d98 =>
  bi (pickD d89 (Bo true) d98) fun d99 =>
  condR d99 (
  k .ret (s_triunelaw14_ModesDo_O0 (Bo false) x5) p80.2) (
  bi (addK .i64 x10 (I .i64 1)) fun d100 =>
  rec x1 x5 x6 x8 d100 p80.2))))) (
  k (.exit 0) (s_triunelaw14_ModesDo_O0 .any x5) H)
noncomputable def s_triunelaw14_ModesDo_L0 (n fl : Nat) (k : Ex → KF) : Nat → DV → DV → DV → DV → DV → Heap → R
  | 0, _, _, _, _, _, _ => none
  | m + 1, x1, x5, x6, x8, x10, H => s_triunelaw14_ModesDo_B0 n fl (s_triunelaw14_ModesDo_L0 n fl k m) k x1 x5 x6 x8 x10 H
theorem s_triunelaw14_ModesDo_S0 (n fl m : Nat) (k : Ex → KF) (x1 x5 x6 x8 x10 : DV) (H : Heap) : loopG [1, 5, 6, 8, 10] [4, 5] 107 (s_triunelaw14_ModesDo_b0 n fl) (m + 1) (s_triunelaw14_ModesDo_I0 x1 x5 x6 x8 x10) H k = s_triunelaw14_ModesDo_B0 n fl (fun x1 x5 x6 x8 x10 H => loopG [1, 5, 6, 8, 10] [4, 5] 107 (s_triunelaw14_ModesDo_b0 n fl) m (s_triunelaw14_ModesDo_I0 x1 x5 x6 x8 x10) H k) k x1 x5 x6 x8 x10 H := by kernel_rfl
theorem s_triunelaw14_ModesDo_L0_eq (n fl : Nat) (k : Ex → KF) : ∀ (m : Nat) (x1 x5 x6 x8 x10 : DV) (H : Heap), loopG [1, 5, 6, 8, 10] [4, 5] 107 (s_triunelaw14_ModesDo_b0 n fl) m (s_triunelaw14_ModesDo_I0 x1 x5 x6 x8 x10) H k = s_triunelaw14_ModesDo_L0 n fl k m x1 x5 x6 x8 x10 H := by
  intro m
  induction m with
  | zero => intros; rfl
  | succ m ih =>
    intro x1 x5 x6 x8 x10 H
    rw [s_triunelaw14_ModesDo_S0, show (fun x1 x5 x6 x8 x10 H => loopG [1, 5, 6, 8, 10] [4, 5] 107 (s_triunelaw14_ModesDo_b0 n fl) m (s_triunelaw14_ModesDo_I0 x1 x5 x6 x8 x10) H k) = s_triunelaw14_ModesDo_L0 n fl k m from by funext x1 x5 x6 x8 x10 H; exact ih _ _ _ _ _ _]
    rw [s_triunelaw14_ModesDo_L0]
noncomputable def s_triunelaw14_ModesDo (n : Nat) (H : Heap) (fl : Nat) (a0 a1 : DV) : R :=
  bi (cP n 23 false []) fun d0 =>
  bi (lenD a1) fun d1 =>
  bi (gtK .i64 d1 (I .i64 200)) fun d2 =>
  condR d2 (
  some (d0, H)) (
  bi (cK n 24 [a0] H fl) fun p3 =>
  bi (extD 0 p3.1) fun d4 =>
  bi (extD 1 p3.1) fun d5 =>
  bi (cK n 25 [a0] p3.2 fl) fun p6 =>
  bi (extD 0 p6.1) fun d7 =>
  bi (extD 1 p6.1) fun d8 =>
  bi (neK .i64 d5 d8) fun d9 =>
  bi (wantF d9 false (some d4)) fun d10 =>
  bi (wantF d9 false (binD Try.prog .eql 53 (.tmp 33) (.const (.pointer none)) d10 (.flat (.pointer none)))) fun d11 =>
  bi (wantF d9 false (some d7)) fun d12 =>
  bi (wantF d9 false (binD Try.prog .eql 57 (.tmp 35) (.const (.pointer none)) d12 (.flat (.pointer none)))) fun d13 =>
  bi (wantF d9 false (neB d11 d13)) fun d14 =>
  bi (pickD d9 (Bo true) d14) fun d15 =>
  condR d15 (
  some ((Bo false), p6.2)) (
  bi (binD Try.prog .eql 53 (.tmp 39) (.const (.pointer none)) d4 (.flat (.pointer none))) fun d16 =>
  condR d16 (
  some (d0, p6.2)) (
  loopG [1, 5, 6, 8, 10] [4, 5] 107 (s_triunelaw14_ModesDo_b0 n fl) n (s_triunelaw14_ModesDo_I0 a1 d0 d4 d7 (I .i64 0)) p6.2 fun x S17 h17 => match x with
  | .normal => none
  | .exit i17 => (
  if i17 = 0 then (
  some ((S17.getD 5 .any), h17)) else (
  none))
  | .ret => (
  some ((S17.getD 4 .any), h17)))))
theorem s_triunelaw14_ModesDo_eq (n : Nat) (H : Heap) (fl : Nat) (a0 a1 : DV) : callG Try.prog ENV (n + 1) 5 [a0, a1] H fl = s_triunelaw14_ModesDo n H fl a0 a1 := by kernel_rfl

end Go.Proofs.Ytigfninpflemnab
