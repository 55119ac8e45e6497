/- Go functions as Lean functions on deep values; printed by a program of mine. -/
import Derived.Test.YtigfninpflemnabEnv
namespace Go.Proofs.Ytigfninpflemnab
open Go
set_option maxRecDepth 100000
set_option linter.unusedVariables false
/-! triune/triunelaw14.ModesStrikes -/
def s_triunelaw14_ModesStrikes_I1 (x0 x1 x7 x8 x10 x12 : DV) : List DV := [x0, x1, .any, .any, .any, .any, .any, x7, x8, .any, x10, .any, x12, .any, .any, .any, .any, .any, .any, .any, .any, .any, .any, .any, .any, .any, .any, .any, .any, .any, .any, .any, .any, .any, .any, .any, .any, .any, .any, .any, .any, .any, .any, .any, .any, .any, .any, .any, .any, .any, .any, .any, .any, .any, .any, .any, .any, .any, .any, .any, .any, .any, .any, .any, .any, .any, .any, .any, .any, .any, .any, .any, .any, .any, .any, .any, .any, .any, .any, .any, .any, .any, .any, .any, .any, .any, .any, .any, .any, .any, .any, .any, .any, .any, .any, .any, .any, .any, .any, .any, .any, .any, .any, .any, .any, .any, .any, .any, .any]
def s_triunelaw14_ModesStrikes_O1 (x1 x6 x7 x8 : DV) : List DV := [.any, x1, .any, .any, .any, .any, x6, x7, x8, .any, .any, .any, .any, .any, .any, .any, .any, .any, .any, .any, .any, .any, .any, .any, .any, .any, .any, .any, .any, .any, .any, .any, .any, .any, .any, .any, .any, .any, .any, .any, .any, .any, .any, .any, .any, .any, .any, .any, .any, .any, .any, .any, .any, .any, .any, .any, .any, .any, .any, .any, .any, .any, .any, .any, .any, .any, .any, .any, .any, .any, .any, .any, .any, .any, .any, .any, .any, .any, .any, .any, .any, .any, .any, .any, .any, .any, .any, .any, .any, .any, .any, .any, .any, .any, .any, .any, .any, .any, .any, .any, .any, .any, .any, .any, .any, .any, .any, .any, .any]
noncomputable abbrev s_triunelaw14_ModesStrikes_b1 (n fl : Nat) : List DV → Heap → (Ex → KF) → R := execG ⟨Try.prog, callG Try.prog ENV n, ENV.md, fl, 109⟩ n (loopAt (bodyOf Try.f7) 1) []
noncomputable def s_triunelaw14_ModesStrikes_B1 (n fl : Nat) (rec : DV → DV → DV → DV → DV → DV → Heap → R) (k : Ex → KF) (x0 x1 x7 x8 x10 x12 : DV) (H : Heap) : R :=
  bi (ltK .i64 x12 x0) fun d0 =>
  condR d0 (
  bi (cO n 31 [x8] (H ++ [.hole])) fun d1 =>
  bi (allocG 72 (.agg [(Bo false), (Bo false), (Bo false), (I .i64 0), (I .i64 0), (I .i64 0), (I .i64 0), (I .i64 0), (I .i64 0), (I .i64 0), (I .i64 0), (Bo false)]) (List.length H) (H ++ [.hole])) fun h2 =>
  bi (storeG 12 (.ptr (List.length H) 0) d1 h2 fl) fun h3 =>
  bi (idxArr 3 1 (.ptr (List.length H) 0) x1) fun d4 =>
  bi (loadG false 1 d4 h3) fun d5 =>
  bi (notD d5) fun d6 =>
  bi (wantF d6 false (some x1)) fun d7 =>
  bi (wantF d6 false (some (.ptr (List.length H) 3))) fun d8 =>
  bi (wantF d6 false (idxArr 3 1 d8 d7)) fun d9 =>
  bi (wantF d6 false (loadG false 1 d9 h3)) fun d10 =>
  bi (wantF d6 false (some x12)) fun d11 =>
  bi (wantF d6 false (neK .i64 d10 d11)) fun d12 =>
  bi (pickD d6 (Bo true) d12) fun d13 =>
  bi (wantF d13 false (loadG true 12 (.ptr (List.length H) 0) h3)) fun d14 =>
  bi (wantF d13 false (cP n 32 false [d14])) fun d15 =>
  bi (wantF d13 false (neK .i64 d15 (I .i64 2))) fun d16 =>
  bi (pickD d13 (Bo true) d16) fun d17 =>
  condR d17 (
  k .ret (s_triunelaw14_ModesStrikes_O1 x1 (Bo false) x7 x8) h3) (
  bi (loadG true 4 x10 h3) fun d18 =>
  bi (cW n 34 [x8, d18] h3 fl) fun p19 =>
  bi (addK .i64 x12 (I .i64 1)) fun d20 =>
  rec x0 x1 x7 x8 x10 d20 p19.2)) (
  k (.exit 2) (s_triunelaw14_ModesStrikes_O1 x1 .any x7 x8) H)
noncomputable def s_triunelaw14_ModesStrikes_L1 (n fl : Nat) (k : Ex → KF) : Nat → DV → DV → DV → DV → DV → DV → Heap → R
  | 0, _, _, _, _, _, _, _ => none
  | m + 1, x0, x1, x7, x8, x10, x12, H => s_triunelaw14_ModesStrikes_B1 n fl (s_triunelaw14_ModesStrikes_L1 n fl k m) k x0 x1 x7 x8 x10 x12 H
theorem s_triunelaw14_ModesStrikes_S1 (n fl m : Nat) (k : Ex → KF) (x0 x1 x7 x8 x10 x12 : DV) (H : Heap) : loopG [0, 1, 7, 8, 10, 12] [1, 6, 7, 8] 109 (s_triunelaw14_ModesStrikes_b1 n fl) (m + 1) (s_triunelaw14_ModesStrikes_I1 x0 x1 x7 x8 x10 x12) H k = s_triunelaw14_ModesStrikes_B1 n fl (fun x0 x1 x7 x8 x10 x12 H => loopG [0, 1, 7, 8, 10, 12] [1, 6, 7, 8] 109 (s_triunelaw14_ModesStrikes_b1 n fl) m (s_triunelaw14_ModesStrikes_I1 x0 x1 x7 x8 x10 x12) H k) k x0 x1 x7 x8 x10 x12 H := by kernel_rfl
theorem s_triunelaw14_ModesStrikes_L1_eq (n fl : Nat) (k : Ex → KF) : ∀ (m : Nat) (x0 x1 x7 x8 x10 x12 : DV) (H : Heap), loopG [0, 1, 7, 8, 10, 12] [1, 6, 7, 8] 109 (s_triunelaw14_ModesStrikes_b1 n fl) m (s_triunelaw14_ModesStrikes_I1 x0 x1 x7 x8 x10 x12) H k = s_triunelaw14_ModesStrikes_L1 n fl k m x0 x1 x7 x8 x10 x12 H := by
  intro m
  induction m with
  | zero => intros; rfl
  | succ m ih =>
    intro x0 x1 x7 x8 x10 x12 H
    rw [s_triunelaw14_ModesStrikes_S1, show (fun x0 x1 x7 x8 x10 x12 H => loopG [0, 1, 7, 8, 10, 12] [1, 6, 7, 8] 109 (s_triunelaw14_ModesStrikes_b1 n fl) m (s_triunelaw14_ModesStrikes_I1 x0 x1 x7 x8 x10 x12) H k) = s_triunelaw14_ModesStrikes_L1 n fl k m from by funext x0 x1 x7 x8 x10 x12 H; exact ih _ _ _ _ _ _ _]
    rw [s_triunelaw14_ModesStrikes_L1]
def s_triunelaw14_ModesStrikes_I0 (x0 x1 x2 x7 x8 x10 x11 : DV) : List DV := [x0, x1, x2, .any, .any, .any, .any, x7, x8, .any, x10, x11, .any, .any, .any, .any, .any, .any, .any, .any, .any, .any, .any, .any, .any, .any, .any, .any, .any, .any, .any, .any, .any, .any, .any, .any, .any, .any, .any, .any, .any, .any, .any, .any, .any, .any, .any, .any, .any, .any, .any, .any, .any, .any, .any, .any, .any, .any, .any, .any, .any, .any, .any, .any, .any, .any, .any, .any, .any, .any, .any, .any, .any, .any, .any, .any, .any, .any, .any, .any, .any, .any, .any, .any, .any, .any, .any, .any, .any, .any, .any, .any, .any, .any, .any, .any, .any, .any, .any, .any, .any, .any, .any, .any, .any, .any, .any, .any, .any]
def s_triunelaw14_ModesStrikes_O0 (x0 x1 x7 x8 x10 : DV) : List DV := [x0, x1, .any, .any, .any, .any, .any, x7, x8, .any, x10, .any, .any, .any, .any, .any, .any, .any, .any, .any, .any, .any, .any, .any, .any, .any, .any, .any, .any, .any, .any, .any, .any, .any, .any, .any, .any, .any, .any, .any, .any, .any, .any, .any, .any, .any, .any, .any, .any, .any, .any, .any, .any, .any, .any, .any, .any, .any, .any, .any, .any, .any, .any, .any, .any, .any, .any, .any, .any, .any, .any, .any, .any, .any, .any, .any, .any, .any, .any, .any, .any, .any, .any, .any, .any, .any, .any, .any, .any, .any, .any, .any, .any, .any, .any, .any, .any, .any, .any, .any, .any, .any, .any, .any, .any, .any, .any, .any, .any]
noncomputable abbrev s_triunelaw14_ModesStrikes_b0 (n fl : Nat) : List DV → Heap → (Ex → KF) → R := execG ⟨Try.prog, callG Try.prog ENV n, ENV.md, fl, 109⟩ n (loopAt (bodyOf Try.f7) 0) []
noncomputable def s_triunelaw14_ModesStrikes_B0 (n fl : Nat) (rec : DV → DV → DV → DV → DV → DV → DV → Heap → R) (k : Ex → KF) (x0 x1 x2 x7 x8 x10 x11 : DV) (H : Heap) : R :=
  bi (ltK .i64 x11 x2) fun d0 =>
  condR d0 (
  bi (loadG true 4 x10 H) fun d1 =>
  bi (cW n 34 [x8, d1] H fl) fun p2 =>
  bi (addK .i64 x11 (I .i64 1)) fun d3 =>
  rec x0 x1 x2 x7 x8 x10 d3 p2.2) (
  k (.exit 0) (s_triunelaw14_ModesStrikes_O0 x0 x1 x7 x8 x10) H)
noncomputable def s_triunelaw14_ModesStrikes_L0 (n fl : Nat) (k : Ex → KF) : Nat → DV → DV → DV → DV → DV → DV → DV → Heap → R
  | 0, _, _, _, _, _, _, _, _ => none
  | m + 1, x0, x1, x2, x7, x8, x10, x11, H => s_triunelaw14_ModesStrikes_B0 n fl (s_triunelaw14_ModesStrikes_L0 n fl k m) k x0 x1 x2 x7 x8 x10 x11 H
theorem s_triunelaw14_ModesStrikes_S0 (n fl m : Nat) (k : Ex → KF) (x0 x1 x2 x7 x8 x10 x11 : DV) (H : Heap) : loopG [0, 1, 2, 7, 8, 10, 11] [0, 1, 7, 8, 10] 109 (s_triunelaw14_ModesStrikes_b0 n fl) (m + 1) (s_triunelaw14_ModesStrikes_I0 x0 x1 x2 x7 x8 x10 x11) H k = s_triunelaw14_ModesStrikes_B0 n fl (fun x0 x1 x2 x7 x8 x10 x11 H => loopG [0, 1, 2, 7, 8, 10, 11] [0, 1, 7, 8, 10] 109 (s_triunelaw14_ModesStrikes_b0 n fl) m (s_triunelaw14_ModesStrikes_I0 x0 x1 x2 x7 x8 x10 x11) H k) k x0 x1 x2 x7 x8 x10 x11 H := by kernel_rfl
theorem s_triunelaw14_ModesStrikes_L0_eq (n fl : Nat) (k : Ex → KF) : ∀ (m : Nat) (x0 x1 x2 x7 x8 x10 x11 : DV) (H : Heap), loopG [0, 1, 2, 7, 8, 10, 11] [0, 1, 7, 8, 10] 109 (s_triunelaw14_ModesStrikes_b0 n fl) m (s_triunelaw14_ModesStrikes_I0 x0 x1 x2 x7 x8 x10 x11) H k = s_triunelaw14_ModesStrikes_L0 n fl k m x0 x1 x2 x7 x8 x10 x11 H := by
  intro m
  induction m with
  | zero => intros; rfl
  | succ m ih =>
    intro x0 x1 x2 x7 x8 x10 x11 H
    rw [s_triunelaw14_ModesStrikes_S0, show (fun x0 x1 x2 x7 x8 x10 x11 H => loopG [0, 1, 2, 7, 8, 10, 11] [0, 1, 7, 8, 10] 109 (s_triunelaw14_ModesStrikes_b0 n fl) m (s_triunelaw14_ModesStrikes_I0 x0 x1 x2 x7 x8 x10 x11) H k) = s_triunelaw14_ModesStrikes_L0 n fl k m from by funext x0 x1 x2 x7 x8 x10 x11 H; exact ih _ _ _ _ _ _ _ _]
    rw [s_triunelaw14_ModesStrikes_L0]
noncomputable def s_triunelaw14_ModesStrikes (n : Nat) (H : Heap) (fl : Nat) (a0 a1 a2 : DV) : R :=
  bi (cP n 23 false []) fun d0 =>
  bi (cK n 24 [a0] H fl) fun p1 =>
  bi (extD 0 p1.1) fun d2 =>
  bi (extD 1 p1.1) fun d3 =>
  bi (binD Try.prog .eql 53 (.tmp 21) (.const (.pointer none)) d2 (.flat (.pointer none))) fun d4 =>
  bi (wantF d4 false (some a1)) fun d5 =>
  bi (wantF d4 false (ltK .i64 d5 (I .i64 0))) fun d6 =>
  bi (pickD d4 (Bo true) d6) fun d7 =>
  bi (wantF d7 false (some a1)) fun d8 =>
  bi (wantF d7 false (gtK .i64 d8 (I .i64 2))) fun d9 =>
  bi (pickD d7 (Bo true) d9) fun d10 =>
  condR d10 (
  some (d0, p1.2)) (
  bi (buildS (.agg [(Bo false), (Bo false), (Bo false), (Bo false)]) [(0, 3), (3, 1)] []) fun d11 =>
  bi (allocG 62 (.agg [(Bo false), (Bo false), (Bo false), (Bo false)]) (List.length p1.2) (p1.2 ++ [.hole])) fun h12 =>
  bi (storeG 4 (.ptr (List.length p1.2) 0) d11 h12 fl) fun h13 =>
  bi (idxArr 3 1 (.ptr (List.length p1.2) 0) a1) fun d14 =>
  bi (storeG 1 d14 (Bo true) h13 fl) fun h15 =>
  bi (geK .i64 a2 (I .i64 0)) fun d16 =>
  bi (wantF d16 true (some a2)) fun d17 =>
  bi (wantF d16 true (some a0)) fun d18 =>
  bi (wantF d16 true (ltK .i64 d17 d18)) fun d19 =>
  bi (pickD d16 d19 (Bo false)) fun d20 =>
  condR d20 (
   loopG [0, 1, 2, 7, 8, 10, 11] [0, 1, 7, 8, 10] 109 (s_triunelaw14_ModesStrikes_b0 n fl) n (s_triunelaw14_ModesStrikes_I0 a0 a1 a2 d0 d2 (.ptr (List.length p1.2) 0) (I .i64 0)) h15 fun x S21 h21 => match x with
   | .normal => none
   | .exit i21 => (
   if i21 = 0 then (
   bi (buildS (.agg [(Bo false), (Bo false), (Bo false), (Bo false)]) [(0, 3), (3, 1)] []) fun d22 =>
   bi (cW n 34 [(S21.getD 8 .any), d22] h21 fl) fun p23 =>
  loopG [0, 1, 7, 8, 10, 12] [1, 6, 7, 8] 109 (s_triunelaw14_ModesStrikes_b1 n fl) n (s_triunelaw14_ModesStrikes_I1 (S21.getD 0 .any) (S21.getD 1 .any) (S21.getD 7 .any) (S21.getD 8 .any) (S21.getD 10 .any) (I .i64 0)) p23.2 fun x S24 h24 => match x with
  | .normal => none
  | .exit i24 => (
  if i24 = 2 then (
  bi (cO n 31 [(S24.getD 8 .any)] (h24 ++ [.hole])) fun d25 =>
  bi (allocG 72 (.agg [(Bo false), (Bo false), (Bo false), (I .i64 0), (I .i64 0), (I .i64 0), (I .i64 0), (I .i64 0), (I .i64 0), (I .i64 0), (I .i64 0), (Bo false)]) (List.length h24) (h24 ++ [.hole])) fun h26 =>
  bi (storeG 12 (.ptr (List.length h24) 0) d25 h26 fl) fun h27 =>
  bi (wantF (S24.getD 7 .any) true (some (S24.getD 1 .any))) fun d28 =>
  bi (wantF (S24.getD 7 .any) true (some (.ptr (List.length h24) 0))) fun d29 =>
  bi (wantF (S24.getD 7 .any) true (idxArr 3 1 d29 d28)) fun d30 =>
  bi (wantF (S24.getD 7 .any) true (loadG false 1 d30 h27)) fun d31 =>
  bi (wantF (S24.getD 7 .any) true (notD d31)) fun d32 =>
  bi (pickD (S24.getD 7 .any) d32 (Bo false)) fun d33 =>
  bi (wantF d33 true (some (S24.getD 1 .any))) fun d34 =>
  bi (wantF d33 true (some (.ptr (List.length h24) 6))) fun d35 =>
  bi (wantF d33 true (idxArr 3 1 d35 d34)) fun d36 =>
  bi (wantF d33 true (loadG false 1 d36 h27)) fun d37 =>
  bi (wantF d33 true (eqK .i64 d37 (I .i64 1))) fun d38 =>
  bi (pickD d33 d38 (Bo false)) fun d39 =>
  bi (wantF d39 true (loadG true 12 (.ptr (List.length h24) 0) h27)) fun d40 =>
  bi (wantF d39 true (cP n 32 false [d40])) fun d41 =>
  bi (wantF d39 true (eqK .i64 d41 (I .i64 1))) fun d42 =>
  bi (pickD d39 d42 (Bo false)) fun d43 =>
  bi (wantF d43 true (some (.ptr (List.length h24) 11))) fun d44 =>
  bi (wantF d43 true (loadG false 1 d44 h27)) fun d45 =>
  bi (wantF d43 true (notD d45)) fun d46 =>
  bi (pickD d43 d46 (Bo false)) fun d47 =>
  some (d47, h27)) else (
  none))
  | .ret => (
  some ((S24.getD 6 .any), h24))) else (
  none))
   | .ret => (
  some (.any, h21))) (
  loopG [0, 1, 7, 8, 10, 12] [1, 6, 7, 8] 109 (s_triunelaw14_ModesStrikes_b1 n fl) n (s_triunelaw14_ModesStrikes_I1 a0 a1 d0 d2 (.ptr (List.length p1.2) 0) (I .i64 0)) h15 fun x S48 h48 => match x with
  | .normal => none
  | .exit i48 => (
  if i48 = 2 then (
  bi (cO n 31 [(S48.getD 8 .any)] (h48 ++ [.hole])) fun d49 =>
  bi (allocG 72 (.agg [(Bo false), (Bo false), (Bo false), (I .i64 0), (I .i64 0), (I .i64 0), (I .i64 0), (I .i64 0), (I .i64 0), (I .i64 0), (I .i64 0), (Bo false)]) (List.length h48) (h48 ++ [.hole])) fun h50 =>
  bi (storeG 12 (.ptr (List.length h48) 0) d49 h50 fl) fun h51 =>
  bi (wantF (S48.getD 7 .any) true (some (S48.getD 1 .any))) fun d52 =>
  bi (wantF (S48.getD 7 .any) true (some (.ptr (List.length h48) 0))) fun d53 =>
  bi (wantF (S48.getD 7 .any) true (idxArr 3 1 d53 d52)) fun d54 =>
  bi (wantF (S48.getD 7 .any) true (loadG false 1 d54 h51)) fun d55 =>
  bi (wantF (S48.getD 7 .any) true (notD d55)) fun d56 =>
  bi (pickD (S48.getD 7 .any) d56 (Bo false)) fun d57 =>
  bi (wantF d57 true (some (S48.getD 1 .any))) fun d58 =>
  bi (wantF d57 true (some (.ptr (List.length h48) 6))) fun d59 =>
  bi (wantF d57 true (idxArr 3 1 d59 d58)) fun d60 =>
  bi (wantF d57 true (loadG false 1 d60 h51)) fun d61 =>
  bi (wantF d57 true (eqK .i64 d61 (I .i64 1))) fun d62 =>
  bi (pickD d57 d62 (Bo false)) fun d63 =>
  bi (wantF d63 true (loadG true 12 (.ptr (List.length h48) 0) h51)) fun d64 =>
  bi (wantF d63 true (cP n 32 false [d64])) fun d65 =>
  bi (wantF d63 true (eqK .i64 d65 (I .i64 1))) fun d66 =>
  bi (pickD d63 d66 (Bo false)) fun d67 =>
  bi (wantF d67 true (some (.ptr (List.length h48) 11))) fun d68 =>
  bi (wantF d67 true (loadG false 1 d68 h51)) fun d69 =>
  bi (wantF d67 true (notD d69)) fun d70 =>
  bi (pickD d67 d70 (Bo false)) fun d71 =>
  some (d71, h51)) else (
  none))
  | .ret => (
  some ((S48.getD 6 .any), h48))))
theorem s_triunelaw14_ModesStrikes_eq (n : Nat) (H : Heap) (fl : Nat) (a0 a1 a2 : DV) : callG Try.prog ENV (n + 1) 7 [a0, a1, a2] H fl = s_triunelaw14_ModesStrikes n H fl a0 a1 a2 := by kernel_rfl

end Go.Proofs.Ytigfninpflemnab
