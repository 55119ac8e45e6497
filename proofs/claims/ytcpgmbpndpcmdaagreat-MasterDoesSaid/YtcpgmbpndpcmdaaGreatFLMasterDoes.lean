/- Go functions as Lean functions on deep values; printed by a program of mine. -/
import Derived.Test.YtcpgmbpndpcmdaaGreatKD10
namespace Go.Proofs.YtcpgmbpndpcmdaaGreat
open Go
set_option maxRecDepth 100000
set_option linter.unusedVariables false
/-! triune/triunelaw08.MasterDoes -/
def s_triunelaw08_MasterDoes_I0 (x1 x5 x7 x9 x11 : DV) : List DV := [.any, x1, .any, .any, .any, x5, .any, x7, .any, x9, .any, x11, .any, .any, .any, .any, .any, .any, .any, .any, .any, .any, .any, .any, .any, .any, .any, .any, .any, .any, .any, .any, .any, .any, .any, .any, .any, .any, .any, .any, .any, .any, .any, .any, .any, .any, .any, .any, .any, .any, .any, .any, .any, .any, .any, .any, .any, .any, .any, .any, .any, .any, .any, .any, .any, .any, .any, .any, .any, .any, .any, .any, .any, .any, .any, .any, .any, .any, .any, .any, .any, .any, .any, .any, .any, .any, .any, .any, .any, .any, .any, .any, .any, .any, .any, .any, .any, .any, .any, .any, .any, .any, .any, .any, .any, .any, .any, .any, .any, .any, .any, .any, .any, .any, .any, .any, .any, .any, .any, .any, .any, .any, .any, .any, .any, .any, .any, .any, .any, .any, .any, .any, .any, .any, .any, .any, .any, .any, .any, .any, .any, .any, .any, .any, .any, .any, .any, .any, .any, .any, .any, .any]
def s_triunelaw08_MasterDoes_O0 (x4 x5 : DV) : List DV := [.any, .any, .any, .any, x4, x5, .any, .any, .any, .any, .any, .any, .any, .any, .any, .any, .any, .any, .any, .any, .any, .any, .any, .any, .any, .any, .any, .any, .any, .any, .any, .any, .any, .any, .any, .any, .any, .any, .any, .any, .any, .any, .any, .any, .any, .any, .any, .any, .any, .any, .any, .any, .any, .any, .any, .any, .any, .any, .any, .any, .any, .any, .any, .any, .any, .any, .any, .any, .any, .any, .any, .any, .any, .any, .any, .any, .any, .any, .any, .any, .any, .any, .any, .any, .any, .any, .any, .any, .any, .any, .any, .any, .any, .any, .any, .any, .any, .any, .any, .any, .any, .any, .any, .any, .any, .any, .any, .any, .any, .any, .any, .any, .any, .any, .any, .any, .any, .any, .any, .any, .any, .any, .any, .any, .any, .any, .any, .any, .any, .any, .any, .any, .any, .any, .any, .any, .any, .any, .any, .any, .any, .any, .any, .any, .any, .any, .any, .any, .any, .any, .any, .any]
noncomputable abbrev s_triunelaw08_MasterDoes_b0 (n fl : Nat) : List DV → Heap → (Ex → KF) → R := execG ⟨Tryz.prog, callG Tryz.prog ENV2 n, ENV2.md, fl, 152⟩ n (loopAt (bodyOf Tryz.f3) 0) []
noncomputable def s_triunelaw08_MasterDoes_B0 (n fl : Nat) (rec : DV → DV → DV → DV → DV → Heap → R) (k : Ex → KF) (x1 x5 x7 x9 x11 : DV) (H : Heap) : R :=
  bi (lenD x1) fun d0 =>
  bi (ltK .i64 x11 d0) fun d1 =>
  condR d1 (
  bi (idxSl 10 x1 x11) fun d2 =>
  bi (fieldD 0 1 d2) fun d3 =>
  bi (loadG false 1 d3 H) fun d4 =>
  bi (eqK .i64 d4 (I .i64 0)) fun d5 =>
  condR d5 (
   bi (cW2 n 10 [x7] (H ++ [.hole]) fl) fun p6 =>
   bi (extD 0 p6.1) fun d7 =>
   bi (extD 1 p6.1) fun d8 =>
   bi (allocG 48 (.agg [(I .i64 0), (I .i64 0), (.list 0 [] .ti), (.list 0 [] .ti), (.list 0 [] .ti)]) (List.length H) p6.2) fun h9 =>
   bi (storeG 5 (.ptr (List.length H) 0) d8 h9 fl) fun h10 =>
   bi (cW2 n 11 [x9] (h10 ++ [.hole]) fl) fun p11 =>
   bi (extD 0 p11.1) fun d12 =>
   bi (extD 1 p11.1) fun d13 =>
   bi (extD 2 p11.1) fun d14 =>
   bi (allocG 51 (.agg [(I .i64 0), (.list 0 [] .ti), (.list 0 [] .ti), (.list 0 [] .ti)]) (List.length h10) p11.2) fun h15 =>
   bi (storeG 4 (.ptr (List.length h10) 0) d14 h15 fl) fun h16 =>
   bi (cP2 n 12 false [d7, d12]) fun d17 =>
   bi (loadG true 4 (.ptr (List.length H) 1) h16) fun d18 =>
   bi (loadG true 4 (.ptr (List.length h10) 0) h16) fun d19 =>
   bi (cP2 n 13 false [d18, d19]) fun d20 =>
   bi (notD d17) fun d21 =>
   bi (wantF d21 false (some (.ptr (List.length H) 0))) fun d22 =>
   bi (wantF d21 false (loadG false 1 d22 h16)) fun d23 =>
   bi (wantF d21 false (some d13)) fun d24 =>
   bi (wantF d21 false (neK .i64 d23 d24)) fun d25 =>
   bi (pickD d21 (Bo true) d25) fun d26 =>
   bi (wantF d26 false (some d20)) fun d27 =>
   bi (wantF d26 false (notD d27)) fun d28 =>
   bi (pickD d26 (Bo true) d28) fun d29 =>
   condR d29 (
  k .ret (s_triunelaw08_MasterDoes_O0 (Bo false) x5) h16) (
  bi (cO2 n 18 [x7] h16) fun d30 =>
  bi (nilD x9) fun d31 =>
  bi (fieldD 4 1 d31) fun d32 =>
  bi (loadG false 1 d32 h16) fun d33 =>
  bi (neK .i64 d33 (I .i64 0)) fun d34 =>
  bi (neB d30 d34) fun d35 =>
  condR d35 (
  k .ret (s_triunelaw08_MasterDoes_O0 (Bo false) x5) h16) (
  bi (addK .i64 x11 (I .i64 1)) fun d36 =>
  rec x1 x5 x7 x9 d36 h16))) (
   bi (eqK .i64 d4 (I .i64 1)) fun d37 =>
   condR d37 (
    bi (idxSl 10 x1 x11) fun d38 =>
    bi (fieldD 1 8 d38) fun d39 =>
    bi (loadE true 8 d39) fun d40 =>
    bi (cW2 n 14 [x7, d40] H fl) fun p41 =>
    bi (idxSl 10 x1 x11) fun d42 =>
    bi (fieldD 1 8 d42) fun d43 =>
    bi (loadE true 8 d43) fun d44 =>
    bi (cW2 n 15 [x9, d44] p41.2 fl) fun p45 =>
    bi (neK .i64 p41.1 p45.1) fun d46 =>
    condR d46 (
  k .ret (s_triunelaw08_MasterDoes_O0 (Bo false) x5) p45.2) (
  bi (cO2 n 18 [x7] p45.2) fun d47 =>
  bi (nilD x9) fun d48 =>
  bi (fieldD 4 1 d48) fun d49 =>
  bi (loadG false 1 d49 p45.2) fun d50 =>
  bi (neK .i64 d50 (I .i64 0)) fun d51 =>
  bi (neB d47 d51) fun d52 =>
  condR d52 (
  k .ret (s_triunelaw08_MasterDoes_O0 (Bo false) x5) p45.2) (
  bi (addK .i64 x11 (I .i64 1)) fun d53 =>
  rec x1 x5 x7 x9 d53 p45.2))) (
    bi (idxSl 10 x1 x11) fun d54 =>
    bi (fieldD 9 1 d54) fun d55 =>
    bi (loadG false 1 d55 H) fun d56 =>
    bi (cK2 n 16 [x7, d56] H fl) fun p57 =>
    bi (idxSl 10 x1 x11) fun d58 =>
    bi (fieldD 9 1 d58) fun d59 =>
    bi (loadG false 1 d59 p57.2) fun d60 =>
    bi (cW2 n 17 [x9, d60] p57.2 fl) fun p61 =>
  bi (cO2 n 18 [x7] p61.2) fun d62 =>
  bi (nilD x9) fun d63 =>
  bi (fieldD 4 1 d63) fun d64 =>
  bi (loadG false 1 d64 p61.2) fun d65 =>
  bi (neK .i64 d65 (I .i64 0)) fun d66 =>
  bi (neB d62 d66) fun d67 =>
  condR d67 (
  k .ret (s_triunelaw08_MasterDoes_O0 (Bo false) x5) p61.2) (
  bi (addK .i64 x11 (I .i64 1)) fun d68 =>
  rec x1 x5 x7 x9 d68 p61.2)))) (
  k (.exit 0) (s_triunelaw08_MasterDoes_O0 .any x5) H)
noncomputable def s_triunelaw08_MasterDoes_L0 (n fl : Nat) (k : Ex → KF) : Nat → DV → DV → DV → DV → DV → Heap → R
  | 0, _, _, _, _, _, _ => none
  | m + 1, x1, x5, x7, x9, x11, H => s_triunelaw08_MasterDoes_B0 n fl (s_triunelaw08_MasterDoes_L0 n fl k m) k x1 x5 x7 x9 x11 H
theorem s_triunelaw08_MasterDoes_S0 (n fl m : Nat) (k : Ex → KF) (x1 x5 x7 x9 x11 : DV) (H : Heap) : loopG [1, 5, 7, 9, 11] [4, 5] 152 (s_triunelaw08_MasterDoes_b0 n fl) (m + 1) (s_triunelaw08_MasterDoes_I0 x1 x5 x7 x9 x11) H k = s_triunelaw08_MasterDoes_B0 n fl (fun x1 x5 x7 x9 x11 H => loopG [1, 5, 7, 9, 11] [4, 5] 152 (s_triunelaw08_MasterDoes_b0 n fl) m (s_triunelaw08_MasterDoes_I0 x1 x5 x7 x9 x11) H k) k x1 x5 x7 x9 x11 H := by kernel_rfl
theorem s_triunelaw08_MasterDoes_L0_eq (n fl : Nat) (k : Ex → KF) : ∀ (m : Nat) (x1 x5 x7 x9 x11 : DV) (H : Heap), loopG [1, 5, 7, 9, 11] [4, 5] 152 (s_triunelaw08_MasterDoes_b0 n fl) m (s_triunelaw08_MasterDoes_I0 x1 x5 x7 x9 x11) H k = s_triunelaw08_MasterDoes_L0 n fl k m x1 x5 x7 x9 x11 H := by
  intro m
  induction m with
  | zero => intros; rfl
  | succ m ih =>
    intro x1 x5 x7 x9 x11 H
    rw [s_triunelaw08_MasterDoes_S0, show (fun x1 x5 x7 x9 x11 H => loopG [1, 5, 7, 9, 11] [4, 5] 152 (s_triunelaw08_MasterDoes_b0 n fl) m (s_triunelaw08_MasterDoes_I0 x1 x5 x7 x9 x11) H k) = s_triunelaw08_MasterDoes_L0 n fl k m from by funext x1 x5 x7 x9 x11 H; exact ih _ _ _ _ _ _]
    rw [s_triunelaw08_MasterDoes_L0]
noncomputable def s_triunelaw08_MasterDoes (n : Nat) (H : Heap) (fl : Nat) (a0 a1 : DV) : R :=
  bi (allocG 23 a0 (List.length H) (H ++ [.hole])) fun h0 =>
  bi (cP2 n 4 false []) fun d1 =>
  bi (cP2 n 5 false [a1]) fun d2 =>
  bi (notD d2) fun d3 =>
  condR d3 (
  some (d1, h0)) (
  bi (loadG true 4 (.ptr (List.length H) 0) h0) fun d4 =>
  bi (cK2 n 6 [d4] h0 fl) fun p5 =>
  bi (extD 0 p5.1) fun d6 =>
  bi (extD 1 p5.1) fun d7 =>
  bi (loadG false 1 (.ptr (List.length H) 0) p5.2) fun d8 =>
  bi (loadG false 1 (.ptr (List.length H) 1) p5.2) fun d9 =>
  bi (loadG false 1 (.ptr (List.length H) 2) p5.2) fun d10 =>
  bi (loadG false 1 (.ptr (List.length H) 3) p5.2) fun d11 =>
  bi (cK2 n 7 [d8, d9, d10, d11] p5.2 fl) fun p12 =>
  bi (extD 0 p12.1) fun d13 =>
  bi (extD 1 p12.1) fun d14 =>
  bi (neK .i64 d7 d14) fun d15 =>
  bi (wantF d15 false (some d6)) fun d16 =>
  bi (wantF d15 false (binD Tryz.prog .eql 27 (.tmp 46) (.const (.pointer none)) d16 (.flat (.pointer none)))) fun d17 =>
  bi (wantF d15 false (some d13)) fun d18 =>
  bi (wantF d15 false (binD Tryz.prog .eql 31 (.tmp 48) (.const (.pointer none)) d18 (.flat (.pointer none)))) fun d19 =>
  bi (wantF d15 false (neB d17 d19)) fun d20 =>
  bi (pickD d15 (Bo true) d20) fun d21 =>
  bi (wantF d21 false (loadG true 4 (.ptr (List.length H) 0) p12.2)) fun d22 =>
  bi (wantF d21 false (cP2 n 8 false [d22])) fun d23 =>
  bi (wantF d21 false (some (.ptr (List.length H) 0))) fun d24 =>
  bi (wantF d21 false (loadG false 1 d24 p12.2)) fun d25 =>
  bi (wantF d21 false (some (.ptr (List.length H) 1))) fun d26 =>
  bi (wantF d21 false (loadG false 1 d26 p12.2)) fun d27 =>
  bi (wantF d21 false (some (.ptr (List.length H) 2))) fun d28 =>
  bi (wantF d21 false (loadG false 1 d28 p12.2)) fun d29 =>
  bi (wantF d21 false (some (.ptr (List.length H) 3))) fun d30 =>
  bi (wantF d21 false (loadG false 1 d30 p12.2)) fun d31 =>
  bi (wantF d21 false (cP2 n 9 false [d25, d27, d29, d31])) fun d32 =>
  bi (wantF d21 false (neB d23 d32)) fun d33 =>
  bi (pickD d21 (Bo true) d33) fun d34 =>
  condR d34 (
  some ((Bo false), p12.2)) (
  bi (binD Tryz.prog .eql 27 (.tmp 66) (.const (.pointer none)) d6 (.flat (.pointer none))) fun d35 =>
  condR d35 (
  some (d1, p12.2)) (
  loopG [1, 5, 7, 9, 11] [4, 5] 152 (s_triunelaw08_MasterDoes_b0 n fl) n (s_triunelaw08_MasterDoes_I0 a1 d1 d6 d13 (I .i64 0)) p12.2 fun x S36 h36 => match x with
  | .normal => none
  | .exit i36 => (
  if i36 = 0 then (
  some ((S36.getD 5 .any), h36)) else (
  none))
  | .ret => (
  some ((S36.getD 4 .any), h36)))))
theorem s_triunelaw08_MasterDoes_eq (n : Nat) (H : Heap) (fl : Nat) (a0 a1 : DV) : callG Tryz.prog ENV2 (n + 1) 3 [a0, a1] H fl = s_triunelaw08_MasterDoes n H fl a0 a1 := by kernel_rfl

/-! triune/triunelaw08.small -/
def s_triunelaw08_small_I0 (x0 x3 x4 : DV) : List DV := [x0, .any, .any, x3, x4, .any, .any, .any, .any, .any, .any, .any, .any, .any, .any, .any, .any, .any, .any, .any, .any, .any, .any, .any, .any, .any, .any, .any, .any, .any, .any, .any, .any, .any, .any, .any, .any, .any, .any, .any, .any, .any, .any, .any, .any, .any]
def s_triunelaw08_small_O0 (x0 x3 : DV) : List DV := [x0, .any, .any, x3, .any, .any, .any, .any, .any, .any, .any, .any, .any, .any, .any, .any, .any, .any, .any, .any, .any, .any, .any, .any, .any, .any, .any, .any, .any, .any, .any, .any, .any, .any, .any, .any, .any, .any, .any, .any, .any, .any, .any, .any, .any, .any]
noncomputable abbrev s_triunelaw08_small_b0 (n fl : Nat) : List DV → Heap → (Ex → KF) → R := execG ⟨Tryz.prog, callG Tryz.prog ENV2 n, ENV2.md, fl, 46⟩ n (loopAt (bodyOf Tryz.f5) 0) []
noncomputable def s_triunelaw08_small_B0 (n fl : Nat) (rec : DV → DV → DV → Heap → R) (k : Ex → KF) (x0 x3 x4 : DV) (H : Heap) : R :=
  bi (lenD x0) fun d0 =>
  bi (ltK .i64 x4 d0) fun d1 =>
  bi (wantF d1 true (some x3)) fun d2 =>
  bi (wantF d1 true (ltK .i64 d2 (I .i64 100000))) fun d3 =>
  bi (pickD d1 d3 (Bo false)) fun d4 =>
  condR d4 (
  bi (idxSl 10 x0 x4) fun d5 =>
  bi (fieldD 9 1 d5) fun d6 =>
  bi (loadG false 1 d6 H) fun d7 =>
  bi (lenD d7) fun d8 =>
  bi (addK .i64 x3 d8) fun d9 =>
  bi (idxSl 10 x0 x4) fun d10 =>
  bi (fieldD 1 8 d10) fun d11 =>
  bi (fieldD 4 1 d11) fun d12 =>
  bi (loadG false 1 d12 H) fun d13 =>
  bi (lenD d13) fun d14 =>
  bi (addK .i64 d9 d14) fun d15 =>
  bi (idxSl 10 x0 x4) fun d16 =>
  bi (fieldD 1 8 d16) fun d17 =>
  bi (fieldD 5 1 d17) fun d18 =>
  bi (loadG false 1 d18 H) fun d19 =>
  bi (lenD d19) fun d20 =>
  bi (addK .i64 d15 d20) fun d21 =>
  bi (addK .i64 x4 (I .i64 1)) fun d22 =>
  rec x0 d21 d22 H) (
  k (.exit 0) (s_triunelaw08_small_O0 x0 x3) H)
noncomputable def s_triunelaw08_small_L0 (n fl : Nat) (k : Ex → KF) : Nat → DV → DV → DV → Heap → R
  | 0, _, _, _, _ => none
  | m + 1, x0, x3, x4, H => s_triunelaw08_small_B0 n fl (s_triunelaw08_small_L0 n fl k m) k x0 x3 x4 H
theorem s_triunelaw08_small_S0 (n fl m : Nat) (k : Ex → KF) (x0 x3 x4 : DV) (H : Heap) : loopG [0, 3, 4] [0, 3] 46 (s_triunelaw08_small_b0 n fl) (m + 1) (s_triunelaw08_small_I0 x0 x3 x4) H k = s_triunelaw08_small_B0 n fl (fun x0 x3 x4 H => loopG [0, 3, 4] [0, 3] 46 (s_triunelaw08_small_b0 n fl) m (s_triunelaw08_small_I0 x0 x3 x4) H k) k x0 x3 x4 H := by kernel_rfl
theorem s_triunelaw08_small_L0_eq (n fl : Nat) (k : Ex → KF) : ∀ (m : Nat) (x0 x3 x4 : DV) (H : Heap), loopG [0, 3, 4] [0, 3] 46 (s_triunelaw08_small_b0 n fl) m (s_triunelaw08_small_I0 x0 x3 x4) H k = s_triunelaw08_small_L0 n fl k m x0 x3 x4 H := by
  intro m
  induction m with
  | zero => intros; rfl
  | succ m ih =>
    intro x0 x3 x4 H
    rw [s_triunelaw08_small_S0, show (fun x0 x3 x4 H => loopG [0, 3, 4] [0, 3] 46 (s_triunelaw08_small_b0 n fl) m (s_triunelaw08_small_I0 x0 x3 x4) H k) = s_triunelaw08_small_L0 n fl k m from by funext x0 x3 x4 H; exact ih _ _ _ _]
    rw [s_triunelaw08_small_L0]
noncomputable def s_triunelaw08_small (n : Nat) (H : Heap) (fl : Nat) (a0 : DV) : R :=
  loopG [0, 3, 4] [0, 3] 46 (s_triunelaw08_small_b0 n fl) n (s_triunelaw08_small_I0 a0 (I .i64 0) (I .i64 0)) H fun x S0 h0 => match x with
  | .normal => none
  | .exit i0 => (
  if i0 = 0 then (
  bi (ltK .i64 (S0.getD 3 .any) (I .i64 10000)) fun d1 =>
  bi (wantF d1 true (some (S0.getD 0 .any))) fun d2 =>
  bi (wantF d1 true (lenD d2)) fun d3 =>
  bi (wantF d1 true (leK .i64 d3 (I .i64 200))) fun d4 =>
  bi (pickD d1 d4 (Bo false)) fun d5 =>
  some (d5, h0)) else (
  none))
  | .ret => (
  some (.any, h0))
theorem s_triunelaw08_small_eq (n : Nat) (H : Heap) (fl : Nat) (a0 : DV) : callG Tryz.prog ENV2 (n + 1) 5 [a0] H fl = s_triunelaw08_small n H fl a0 := by kernel_rfl

end Go.Proofs.YtcpgmbpndpcmdaaGreat
