/- Go functions as Lean functions on deep values; printed by a program of mine. -/
import Derived.Test.YtigfninpflemnabEnv
namespace Go.Proofs.Ytigfninpflemnab
open Go
set_option maxRecDepth 100000
set_option linter.unusedVariables false
/-! triune/triuneref09.in -/
noncomputable def s_triuneref09_in (n : Nat) (H : Heap) (fl : Nat) (a0 a1 a2 : DV) : R :=
  bi (geK .i64 a0 a1) fun d0 =>
  bi (wantF d0 true (some a0)) fun d1 =>
  bi (wantF d0 true (some a2)) fun d2 =>
  bi (wantF d0 true (leK .i64 d1 d2)) fun d3 =>
  bi (pickD d0 d3 (Bo false)) fun d4 =>
  some (d4, H)
theorem s_triuneref09_in_eq (n : Nat) (H : Heap) (fl : Nat) (a0 a1 a2 : DV) : callG Try.prog ENV (n + 1) 85 [a0, a1, a2] H fl = s_triuneref09_in n H fl a0 a1 a2 := by kernel_rfl

/-! triune/triuneref09.may -/
noncomputable def s_triuneref09_may (n : Nat) (H : Heap) (fl : Nat) (a0 : DV) : R :=
  bi (allocG 48 a0 (List.length H) (H ++ [.hole])) fun h0 =>
  bi (loadG false 1 (.ptr (List.length H) 0) h0) fun d1 =>
  bi (cP n 85 false [d1, (I .i64 0), (I .i64 3)]) fun d2 =>
  bi (notD d2) fun d3 =>
  bi (wantF d3 false (some (.ptr (List.length H) 1))) fun d4 =>
  bi (wantF d3 false (loadG false 1 d4 h0)) fun d5 =>
  bi (wantF d3 false (cP n 85 false [d5, (I .i64 0), (I .i64 65535)])) fun d6 =>
  bi (wantF d3 false (notD d6)) fun d7 =>
  bi (pickD d3 (Bo true) d7) fun d8 =>
  bi (wantF d8 false (some (.ptr (List.length H) 2))) fun d9 =>
  bi (wantF d8 false (loadG false 1 d9 h0)) fun d10 =>
  bi (wantF d8 false (cP n 85 false [d10, (I .i64 0), (I .i64 899)])) fun d11 =>
  bi (wantF d8 false (notD d11)) fun d12 =>
  bi (pickD d8 (Bo true) d12) fun d13 =>
  condR d13 (
  some ((Bo false), h0)) (
  bi (loadG false 1 (.ptr (List.length H) 0) h0) fun d14 =>
  bi (leK .i64 d14 (I .i64 1)) fun d15 =>
  condR d15 (
   bi (loadG false 1 (.ptr (List.length H) 3) h0) fun d16 =>
   bi (cP n 85 false [d16, (I .i64 0), (I .i64 65535)]) fun d17 =>
   bi (wantF d17 true (some (.ptr (List.length H) 4))) fun d18 =>
   bi (wantF d17 true (loadG false 1 d18 h0)) fun d19 =>
   bi (wantF d17 true (cP n 85 false [d19, (I .i64 0), (I .i64 65535)])) fun d20 =>
   bi (pickD d17 d20 (Bo false)) fun d21 =>
  some (d21, h0)) (
  bi (loadG false 1 (.ptr (List.length H) 3) h0) fun d22 =>
  bi (eqK .i64 d22 (I .i64 0)) fun d23 =>
  bi (wantF d23 true (some (.ptr (List.length H) 4))) fun d24 =>
  bi (wantF d23 true (loadG false 1 d24 h0)) fun d25 =>
  bi (wantF d23 true (cP n 85 false [d25, (I .i64 0), (I .i64 1)])) fun d26 =>
  bi (pickD d23 d26 (Bo false)) fun d27 =>
  some (d27, h0)))
theorem s_triuneref09_may_eq (n : Nat) (H : Heap) (fl : Nat) (a0 : DV) : callG Try.prog ENV (n + 1) 86 [a0] H fl = s_triuneref09_may n H fl a0 := by kernel_rfl

/-! triune/triuneref09.Check -/
def s_triuneref09_Check_I3 (x1 x5 x6 : DV) : List DV := [.any, x1, .any, .any, .any, x5, x6, .any, .any, .any, .any, .any, .any, .any, .any, .any, .any, .any, .any, .any, .any, .any, .any, .any, .any, .any, .any, .any, .any, .any, .any, .any, .any, .any, .any, .any, .any, .any, .any, .any, .any, .any, .any, .any, .any, .any, .any, .any, .any, .any, .any, .any, .any, .any, .any, .any, .any, .any, .any, .any, .any, .any, .any, .any, .any, .any, .any, .any, .any, .any, .any, .any, .any, .any, .any, .any, .any, .any, .any, .any, .any, .any, .any, .any, .any, .any, .any, .any, .any, .any, .any, .any, .any, .any, .any, .any, .any, .any, .any, .any, .any, .any, .any, .any, .any, .any, .any, .any, .any, .any, .any, .any, .any, .any]
def s_triuneref09_Check_O3 (x1 x2 x5 : DV) : List DV := [.any, x1, x2, .any, .any, x5, .any, .any, .any, .any, .any, .any, .any, .any, .any, .any, .any, .any, .any, .any, .any, .any, .any, .any, .any, .any, .any, .any, .any, .any, .any, .any, .any, .any, .any, .any, .any, .any, .any, .any, .any, .any, .any, .any, .any, .any, .any, .any, .any, .any, .any, .any, .any, .any, .any, .any, .any, .any, .any, .any, .any, .any, .any, .any, .any, .any, .any, .any, .any, .any, .any, .any, .any, .any, .any, .any, .any, .any, .any, .any, .any, .any, .any, .any, .any, .any, .any, .any, .any, .any, .any, .any, .any, .any, .any, .any, .any, .any, .any, .any, .any, .any, .any, .any, .any, .any, .any, .any, .any, .any, .any, .any, .any, .any]
noncomputable abbrev s_triuneref09_Check_b3 (n fl : Nat) : List DV → Heap → (Ex → KF) → R := execG ⟨Try.prog, callG Try.prog ENV n, ENV.md, fl, 114⟩ n (loopAt (bodyOf Try.f75) 3) []
noncomputable def s_triuneref09_Check_B3 (n fl : Nat) (rec : DV → DV → DV → Heap → R) (k : Ex → KF) (x1 x5 x6 : DV) (H : Heap) : R :=
  bi (ltK .i64 x6 x5) fun d0 =>
  condR d0 (
  bi (fieldD 10 1 x1) fun d1 =>
  bi (loadG false 1 d1 (H ++ [.hole])) fun d2 =>
  bi (idxSl 5 d2 x5) fun d3 =>
  bi (loadG true 5 d3 (H ++ [.hole])) fun d4 =>
  bi (allocG 48 (.agg [(I .i64 0), (I .i64 0), (I .i64 0), (I .i64 0), (I .i64 0)]) (List.length H) (H ++ [.hole])) fun h5 =>
  bi (storeG 5 (.ptr (List.length H) 0) d4 h5 fl) fun h6 =>
  bi (fieldD 10 1 x1) fun d7 =>
  bi (loadG false 1 d7 (h6 ++ [.hole])) fun d8 =>
  bi (idxSl 5 d8 x6) fun d9 =>
  bi (loadG true 5 d9 (h6 ++ [.hole])) fun d10 =>
  bi (allocG 48 (.agg [(I .i64 0), (I .i64 0), (I .i64 0), (I .i64 0), (I .i64 0)]) (List.length h6) (h6 ++ [.hole])) fun h11 =>
  bi (storeG 5 (.ptr (List.length h6) 0) d10 h11 fl) fun h12 =>
  bi (loadG false 1 (.ptr (List.length H) 0) h12) fun d13 =>
  bi (loadG false 1 (.ptr (List.length h6) 0) h12) fun d14 =>
  bi (eqK .i64 d13 d14) fun d15 =>
  bi (wantF d15 true (some (.ptr (List.length H) 1))) fun d16 =>
  bi (wantF d15 true (loadG false 1 d16 h12)) fun d17 =>
  bi (wantF d15 true (some (.ptr (List.length h6) 1))) fun d18 =>
  bi (wantF d15 true (loadG false 1 d18 h12)) fun d19 =>
  bi (wantF d15 true (eqK .i64 d17 d19)) fun d20 =>
  bi (wantF d15 true (some d20)) fun d21 =>
  bi (wantF d21 false (some (.ptr (List.length H) 2))) fun d22 =>
  bi (wantF d21 false (loadG false 1 d22 h12)) fun d23 =>
  bi (wantF d21 false (some (.ptr (List.length h6) 2))) fun d24 =>
  bi (wantF d21 false (loadG false 1 d24 h12)) fun d25 =>
  bi (wantF d21 false (eqK .i64 d23 d25)) fun d26 =>
  bi (wantF d15 true (pickD d21 (Bo true) d26)) fun d27 =>
  bi (pickD d15 d27 (Bo false)) fun d28 =>
  condR d28 (
  k .ret (s_triuneref09_Check_O3 x1 (I .i64 9) x5) h12) (
  bi (addK .i64 x6 (I .i64 1)) fun d29 =>
  rec x1 x5 d29 h12)) (
  k (.exit 6) (s_triuneref09_Check_O3 x1 .any x5) H)
noncomputable def s_triuneref09_Check_L3 (n fl : Nat) (k : Ex → KF) : Nat → DV → DV → DV → Heap → R
  | 0, _, _, _, _ => none
  | m + 1, x1, x5, x6, H => s_triuneref09_Check_B3 n fl (s_triuneref09_Check_L3 n fl k m) k x1 x5 x6 H
theorem s_triuneref09_Check_S3 (n fl m : Nat) (k : Ex → KF) (x1 x5 x6 : DV) (H : Heap) : loopG [1, 5, 6] [1, 2, 5] 114 (s_triuneref09_Check_b3 n fl) (m + 1) (s_triuneref09_Check_I3 x1 x5 x6) H k = s_triuneref09_Check_B3 n fl (fun x1 x5 x6 H => loopG [1, 5, 6] [1, 2, 5] 114 (s_triuneref09_Check_b3 n fl) m (s_triuneref09_Check_I3 x1 x5 x6) H k) k x1 x5 x6 H := by kernel_rfl
theorem s_triuneref09_Check_L3_eq (n fl : Nat) (k : Ex → KF) : ∀ (m : Nat) (x1 x5 x6 : DV) (H : Heap), loopG [1, 5, 6] [1, 2, 5] 114 (s_triuneref09_Check_b3 n fl) m (s_triuneref09_Check_I3 x1 x5 x6) H k = s_triuneref09_Check_L3 n fl k m x1 x5 x6 H := by
  intro m
  induction m with
  | zero => intros; rfl
  | succ m ih =>
    intro x1 x5 x6 H
    rw [s_triuneref09_Check_S3, show (fun x1 x5 x6 H => loopG [1, 5, 6] [1, 2, 5] 114 (s_triuneref09_Check_b3 n fl) m (s_triuneref09_Check_I3 x1 x5 x6) H k) = s_triuneref09_Check_L3 n fl k m from by funext x1 x5 x6 H; exact ih _ _ _ _]
    rw [s_triuneref09_Check_L3]
def s_triuneref09_Check_I2 (x1 x5 : DV) : List DV := [.any, x1, .any, .any, .any, x5, .any, .any, .any, .any, .any, .any, .any, .any, .any, .any, .any, .any, .any, .any, .any, .any, .any, .any, .any, .any, .any, .any, .any, .any, .any, .any, .any, .any, .any, .any, .any, .any, .any, .any, .any, .any, .any, .any, .any, .any, .any, .any, .any, .any, .any, .any, .any, .any, .any, .any, .any, .any, .any, .any, .any, .any, .any, .any, .any, .any, .any, .any, .any, .any, .any, .any, .any, .any, .any, .any, .any, .any, .any, .any, .any, .any, .any, .any, .any, .any, .any, .any, .any, .any, .any, .any, .any, .any, .any, .any, .any, .any, .any, .any, .any, .any, .any, .any, .any, .any, .any, .any, .any, .any, .any, .any, .any, .any]
def s_triuneref09_Check_O2 (x2 : DV) : List DV := [.any, .any, x2, .any, .any, .any, .any, .any, .any, .any, .any, .any, .any, .any, .any, .any, .any, .any, .any, .any, .any, .any, .any, .any, .any, .any, .any, .any, .any, .any, .any, .any, .any, .any, .any, .any, .any, .any, .any, .any, .any, .any, .any, .any, .any, .any, .any, .any, .any, .any, .any, .any, .any, .any, .any, .any, .any, .any, .any, .any, .any, .any, .any, .any, .any, .any, .any, .any, .any, .any, .any, .any, .any, .any, .any, .any, .any, .any, .any, .any, .any, .any, .any, .any, .any, .any, .any, .any, .any, .any, .any, .any, .any, .any, .any, .any, .any, .any, .any, .any, .any, .any, .any, .any, .any, .any, .any, .any, .any, .any, .any, .any, .any, .any]
noncomputable abbrev s_triuneref09_Check_b2 (n fl : Nat) : List DV → Heap → (Ex → KF) → R := execG ⟨Try.prog, callG Try.prog ENV n, ENV.md, fl, 114⟩ n (loopAt (bodyOf Try.f75) 2) [([1, 5, 6], [1, 2, 5])]
noncomputable def s_triuneref09_Check_B2 (n fl : Nat) (rec : DV → DV → Heap → R) (k : Ex → KF) (x1 x5 : DV) (H : Heap) : R :=
  bi (fieldD 10 1 x1) fun d0 =>
  bi (loadG false 1 d0 H) fun d1 =>
  bi (lenD d1) fun d2 =>
  bi (ltK .i64 x5 d2) fun d3 =>
  condR d3 (
  loopG [1, 5, 6] [1, 2, 5] 114 (s_triuneref09_Check_b3 n fl) n (s_triuneref09_Check_I3 x1 x5 (I .i64 0)) H fun x S4 h4 => match x with
  | .normal => none
  | .exit i4 => (
  if i4 = 6 then (
  bi (addK .i64 (S4.getD 5 .any) (I .i64 1)) fun d5 =>
  rec (S4.getD 1 .any) d5 h4) else (
  if i4 = 5 then (
  bi (addK .i64 (S4.getD 5 .any) (I .i64 1)) fun d6 =>
  rec (S4.getD 1 .any) d6 h4) else (
  k (.exit i4) (s_triuneref09_Check_O2 (S4.getD 2 .any)) h4)))
  | .ret => (
  k .ret (s_triuneref09_Check_O2 (S4.getD 2 .any)) h4)) (
  k (.exit 4) (s_triuneref09_Check_O2 .any) H)
noncomputable def s_triuneref09_Check_L2 (n fl : Nat) (k : Ex → KF) : Nat → DV → DV → Heap → R
  | 0, _, _, _ => none
  | m + 1, x1, x5, H => s_triuneref09_Check_B2 n fl (s_triuneref09_Check_L2 n fl k m) k x1 x5 H
theorem s_triuneref09_Check_S2 (n fl m : Nat) (k : Ex → KF) (x1 x5 : DV) (H : Heap) : loopG [1, 5] [2] 114 (s_triuneref09_Check_b2 n fl) (m + 1) (s_triuneref09_Check_I2 x1 x5) H k = s_triuneref09_Check_B2 n fl (fun x1 x5 H => loopG [1, 5] [2] 114 (s_triuneref09_Check_b2 n fl) m (s_triuneref09_Check_I2 x1 x5) H k) k x1 x5 H := by kernel_rfl
theorem s_triuneref09_Check_L2_eq (n fl : Nat) (k : Ex → KF) : ∀ (m : Nat) (x1 x5 : DV) (H : Heap), loopG [1, 5] [2] 114 (s_triuneref09_Check_b2 n fl) m (s_triuneref09_Check_I2 x1 x5) H k = s_triuneref09_Check_L2 n fl k m x1 x5 H := by
  intro m
  induction m with
  | zero => intros; rfl
  | succ m ih =>
    intro x1 x5 H
    rw [s_triuneref09_Check_S2, show (fun x1 x5 H => loopG [1, 5] [2] 114 (s_triuneref09_Check_b2 n fl) m (s_triuneref09_Check_I2 x1 x5) H k) = s_triuneref09_Check_L2 n fl k m from by funext x1 x5 H; exact ih _ _ _]
    rw [s_triuneref09_Check_L2]
def s_triuneref09_Check_I1 (x1 x4 : DV) : List DV := [.any, x1, .any, .any, x4, .any, .any, .any, .any, .any, .any, .any, .any, .any, .any, .any, .any, .any, .any, .any, .any, .any, .any, .any, .any, .any, .any, .any, .any, .any, .any, .any, .any, .any, .any, .any, .any, .any, .any, .any, .any, .any, .any, .any, .any, .any, .any, .any, .any, .any, .any, .any, .any, .any, .any, .any, .any, .any, .any, .any, .any, .any, .any, .any, .any, .any, .any, .any, .any, .any, .any, .any, .any, .any, .any, .any, .any, .any, .any, .any, .any, .any, .any, .any, .any, .any, .any, .any, .any, .any, .any, .any, .any, .any, .any, .any, .any, .any, .any, .any, .any, .any, .any, .any, .any, .any, .any, .any, .any, .any, .any, .any, .any, .any]
def s_triuneref09_Check_O1 (x1 x2 : DV) : List DV := [.any, x1, x2, .any, .any, .any, .any, .any, .any, .any, .any, .any, .any, .any, .any, .any, .any, .any, .any, .any, .any, .any, .any, .any, .any, .any, .any, .any, .any, .any, .any, .any, .any, .any, .any, .any, .any, .any, .any, .any, .any, .any, .any, .any, .any, .any, .any, .any, .any, .any, .any, .any, .any, .any, .any, .any, .any, .any, .any, .any, .any, .any, .any, .any, .any, .any, .any, .any, .any, .any, .any, .any, .any, .any, .any, .any, .any, .any, .any, .any, .any, .any, .any, .any, .any, .any, .any, .any, .any, .any, .any, .any, .any, .any, .any, .any, .any, .any, .any, .any, .any, .any, .any, .any, .any, .any, .any, .any, .any, .any, .any, .any, .any, .any]
noncomputable abbrev s_triuneref09_Check_b1 (n fl : Nat) : List DV → Heap → (Ex → KF) → R := execG ⟨Try.prog, callG Try.prog ENV n, ENV.md, fl, 114⟩ n (loopAt (bodyOf Try.f75) 1) []
noncomputable def s_triuneref09_Check_B1 (n fl : Nat) (rec : DV → DV → Heap → R) (k : Ex → KF) (x1 x4 : DV) (H : Heap) : R :=
  bi (fieldD 10 1 x1) fun d0 =>
  bi (loadG false 1 d0 H) fun d1 =>
  bi (lenD d1) fun d2 =>
  bi (ltK .i64 x4 d2) fun d3 =>
  condR d3 (
  bi (fieldD 10 1 x1) fun d4 =>
  bi (loadG false 1 d4 H) fun d5 =>
  bi (idxSl 5 d5 x4) fun d6 =>
  bi (loadG true 5 d6 H) fun d7 =>
  bi (cP n 86 false [d7]) fun d8 =>
  bi (notD d8) fun d9 =>
  condR d9 (
  k .ret (s_triuneref09_Check_O1 x1 (I .i64 1)) H) (
  bi (addK .i64 x4 (I .i64 1)) fun d10 =>
  rec x1 d10 H)) (
  k (.exit 2) (s_triuneref09_Check_O1 x1 .any) H)
noncomputable def s_triuneref09_Check_L1 (n fl : Nat) (k : Ex → KF) : Nat → DV → DV → Heap → R
  | 0, _, _, _ => none
  | m + 1, x1, x4, H => s_triuneref09_Check_B1 n fl (s_triuneref09_Check_L1 n fl k m) k x1 x4 H
theorem s_triuneref09_Check_S1 (n fl m : Nat) (k : Ex → KF) (x1 x4 : DV) (H : Heap) : loopG [1, 4] [1, 2] 114 (s_triuneref09_Check_b1 n fl) (m + 1) (s_triuneref09_Check_I1 x1 x4) H k = s_triuneref09_Check_B1 n fl (fun x1 x4 H => loopG [1, 4] [1, 2] 114 (s_triuneref09_Check_b1 n fl) m (s_triuneref09_Check_I1 x1 x4) H k) k x1 x4 H := by kernel_rfl
theorem s_triuneref09_Check_L1_eq (n fl : Nat) (k : Ex → KF) : ∀ (m : Nat) (x1 x4 : DV) (H : Heap), loopG [1, 4] [1, 2] 114 (s_triuneref09_Check_b1 n fl) m (s_triuneref09_Check_I1 x1 x4) H k = s_triuneref09_Check_L1 n fl k m x1 x4 H := by
  intro m
  induction m with
  | zero => intros; rfl
  | succ m ih =>
    intro x1 x4 H
    rw [s_triuneref09_Check_S1, show (fun x1 x4 H => loopG [1, 4] [1, 2] 114 (s_triuneref09_Check_b1 n fl) m (s_triuneref09_Check_I1 x1 x4) H k) = s_triuneref09_Check_L1 n fl k m from by funext x1 x4 H; exact ih _ _ _]
    rw [s_triuneref09_Check_L1]
def s_triuneref09_Check_I0 (x1 x3 : DV) : List DV := [.any, x1, .any, x3, .any, .any, .any, .any, .any, .any, .any, .any, .any, .any, .any, .any, .any, .any, .any, .any, .any, .any, .any, .any, .any, .any, .any, .any, .any, .any, .any, .any, .any, .any, .any, .any, .any, .any, .any, .any, .any, .any, .any, .any, .any, .any, .any, .any, .any, .any, .any, .any, .any, .any, .any, .any, .any, .any, .any, .any, .any, .any, .any, .any, .any, .any, .any, .any, .any, .any, .any, .any, .any, .any, .any, .any, .any, .any, .any, .any, .any, .any, .any, .any, .any, .any, .any, .any, .any, .any, .any, .any, .any, .any, .any, .any, .any, .any, .any, .any, .any, .any, .any, .any, .any, .any, .any, .any, .any, .any, .any, .any, .any, .any]
def s_triuneref09_Check_O0 (x1 x2 : DV) : List DV := [.any, x1, x2, .any, .any, .any, .any, .any, .any, .any, .any, .any, .any, .any, .any, .any, .any, .any, .any, .any, .any, .any, .any, .any, .any, .any, .any, .any, .any, .any, .any, .any, .any, .any, .any, .any, .any, .any, .any, .any, .any, .any, .any, .any, .any, .any, .any, .any, .any, .any, .any, .any, .any, .any, .any, .any, .any, .any, .any, .any, .any, .any, .any, .any, .any, .any, .any, .any, .any, .any, .any, .any, .any, .any, .any, .any, .any, .any, .any, .any, .any, .any, .any, .any, .any, .any, .any, .any, .any, .any, .any, .any, .any, .any, .any, .any, .any, .any, .any, .any, .any, .any, .any, .any, .any, .any, .any, .any, .any, .any, .any, .any, .any, .any]
noncomputable abbrev s_triuneref09_Check_b0 (n fl : Nat) : List DV → Heap → (Ex → KF) → R := execG ⟨Try.prog, callG Try.prog ENV n, ENV.md, fl, 114⟩ n (loopAt (bodyOf Try.f75) 0) []
noncomputable def s_triuneref09_Check_B0 (n fl : Nat) (rec : DV → DV → Heap → R) (k : Ex → KF) (x1 x3 : DV) (H : Heap) : R :=
  bi (ltK .i64 x3 (I .i64 3)) fun d0 =>
  condR d0 (
  bi (fieldD 0 3 x1) fun d1 =>
  bi (idxArr 3 1 d1 x3) fun d2 =>
  bi (loadG false 1 d2 H) fun d3 =>
  bi (cvK .i64 d3) fun d4 =>
  bi (cP n 85 false [d4, (I .i64 1), (I .i64 247)]) fun d5 =>
  bi (notD d5) fun d6 =>
  condR d6 (
  k .ret (s_triuneref09_Check_O0 x1 (I .i64 1)) H) (
  bi (addK .i64 x3 (I .i64 1)) fun d7 =>
  rec x1 d7 H)) (
  k (.exit 0) (s_triuneref09_Check_O0 x1 .any) H)
noncomputable def s_triuneref09_Check_L0 (n fl : Nat) (k : Ex → KF) : Nat → DV → DV → Heap → R
  | 0, _, _, _ => none
  | m + 1, x1, x3, H => s_triuneref09_Check_B0 n fl (s_triuneref09_Check_L0 n fl k m) k x1 x3 H
theorem s_triuneref09_Check_S0 (n fl m : Nat) (k : Ex → KF) (x1 x3 : DV) (H : Heap) : loopG [1, 3] [1, 2] 114 (s_triuneref09_Check_b0 n fl) (m + 1) (s_triuneref09_Check_I0 x1 x3) H k = s_triuneref09_Check_B0 n fl (fun x1 x3 H => loopG [1, 3] [1, 2] 114 (s_triuneref09_Check_b0 n fl) m (s_triuneref09_Check_I0 x1 x3) H k) k x1 x3 H := by kernel_rfl
theorem s_triuneref09_Check_L0_eq (n fl : Nat) (k : Ex → KF) : ∀ (m : Nat) (x1 x3 : DV) (H : Heap), loopG [1, 3] [1, 2] 114 (s_triuneref09_Check_b0 n fl) m (s_triuneref09_Check_I0 x1 x3) H k = s_triuneref09_Check_L0 n fl k m x1 x3 H := by
  intro m
  induction m with
  | zero => intros; rfl
  | succ m ih =>
    intro x1 x3 H
    rw [s_triuneref09_Check_S0, show (fun x1 x3 H => loopG [1, 3] [1, 2] 114 (s_triuneref09_Check_b0 n fl) m (s_triuneref09_Check_I0 x1 x3) H k) = s_triuneref09_Check_L0 n fl k m from by funext x1 x3 H; exact ih _ _ _]
    rw [s_triuneref09_Check_L0]
noncomputable def s_triuneref09_Check (n : Nat) (H : Heap) (fl : Nat) (a0 : DV) : R :=
  bi (allocG 143 a0 (List.length H) (H ++ [.hole])) fun h0 =>
  bi (loadG false 1 (.ptr (List.length H) 10) h0) fun d1 =>
  bi (lenD d1) fun d2 =>
  bi (cP n 85 false [d2, (I .i64 1), (I .i64 48)]) fun d3 =>
  bi (notD d3) fun d4 =>
  condR d4 (
  some ((I .i64 4), h0)) (
  loopG [1, 3] [1, 2] 114 (s_triuneref09_Check_b0 n fl) n (s_triuneref09_Check_I0 (.ptr (List.length H) 0) (I .i64 0)) h0 fun x S5 h5 => match x with
  | .normal => none
  | .exit i5 => (
  if i5 = 0 then (
  bi (fieldD 3 1 (S5.getD 1 .any)) fun d6 =>
  bi (loadG false 1 d6 h5) fun d7 =>
  bi (cP n 85 false [d7, (I .i64 1), (I .i64 20)]) fun d8 =>
  bi (notD d8) fun d9 =>
  bi (wantF d9 false (fieldD 4 1 (S5.getD 1 .any))) fun d10 =>
  bi (wantF d9 false (loadG false 1 d10 h5)) fun d11 =>
  bi (wantF d9 false (cP n 85 false [d11, (I .i64 1), (I .i64 1000)])) fun d12 =>
  bi (wantF d9 false (notD d12)) fun d13 =>
  bi (pickD d9 (Bo true) d13) fun d14 =>
  bi (wantF d14 false (fieldD 5 1 (S5.getD 1 .any))) fun d15 =>
  bi (wantF d14 false (loadG false 1 d15 h5)) fun d16 =>
  bi (wantF d14 false (cP n 85 false [d16, (I .i64 1), (I .i64 5)])) fun d17 =>
  bi (wantF d14 false (notD d17)) fun d18 =>
  bi (pickD d14 (Bo true) d18) fun d19 =>
  bi (wantF d19 false (fieldD 6 1 (S5.getD 1 .any))) fun d20 =>
  bi (wantF d19 false (loadG false 1 d20 h5)) fun d21 =>
  bi (wantF d19 false (cP n 85 false [d21, (I .i64 1), (I .i64 20)])) fun d22 =>
  bi (wantF d19 false (notD d22)) fun d23 =>
  bi (pickD d19 (Bo true) d23) fun d24 =>
  bi (wantF d24 false (fieldD 7 1 (S5.getD 1 .any))) fun d25 =>
  bi (wantF d24 false (loadG false 1 d25 h5)) fun d26 =>
  bi (wantF d24 false (cP n 85 false [d26, (I .i64 1), (I .i64 8)])) fun d27 =>
  bi (wantF d24 false (notD d27)) fun d28 =>
  bi (pickD d24 (Bo true) d28) fun d29 =>
  bi (wantF d29 false (fieldD 8 1 (S5.getD 1 .any))) fun d30 =>
  bi (wantF d29 false (loadG false 1 d30 h5)) fun d31 =>
  bi (wantF d29 false (cP n 85 false [d31, (I .i64 1), (I .i64 65535)])) fun d32 =>
  bi (wantF d29 false (notD d32)) fun d33 =>
  bi (pickD d29 (Bo true) d33) fun d34 =>
  condR d34 (
  some ((I .i64 1), h5)) (
  loopG [1, 4] [1, 2] 114 (s_triuneref09_Check_b1 n fl) n (s_triuneref09_Check_I1 (S5.getD 1 .any) (I .i64 0)) h5 fun x S35 h35 => match x with
  | .normal => none
  | .exit i35 => (
  if i35 = 2 then (
  loopG [1, 5] [2] 114 (s_triuneref09_Check_b2 n fl) n (s_triuneref09_Check_I2 (S35.getD 1 .any) (I .i64 0)) h35 fun x S36 h36 => match x with
  | .normal => none
  | .exit i36 => (
  if i36 = 4 then (
  some ((I .i64 0), h36)) else (
  none))
  | .ret => (
  some ((S36.getD 2 .any), h36))) else (
  none))
  | .ret => (
  some ((S35.getD 2 .any), h35)))) else (
  none))
  | .ret => (
  some ((S5.getD 2 .any), h5)))
theorem s_triuneref09_Check_eq (n : Nat) (H : Heap) (fl : Nat) (a0 : DV) : callG Try.prog ENV (n + 1) 75 [a0] H fl = s_triuneref09_Check n H fl a0 := by kernel_rfl

/-! triune/triunelaw10.May -/
noncomputable def s_triunelaw10_May (n : Nat) (H : Heap) (fl : Nat) (a0 : DV) : R :=
  bi (lenD a0) fun d0 =>
  bi (leK .i64 d0 (I .i64 48)) fun d1 =>
  bi (wantF d1 true (buildA (.agg [(I .u8 0), (I .u8 0), (I .u8 0)]) 1 [(0, (I .u8 1)), (1, (I .u8 1)), (2, (I .u8 1))])) fun d2 =>
  bi (wantF d1 true (some a0)) fun d3 =>
  bi (wantF d1 true (buildS (.agg [(I .u8 0), (I .u8 0), (I .u8 0), (I .i64 0), (I .i64 0), (I .i64 0), (I .i64 0), (I .i64 0), (I .i64 0), (I .u16 0), (.list 0 [] .ti)]) [(0, 3), (3, 1), (4, 1), (5, 1), (6, 1), (7, 1), (8, 1), (9, 1), (10, 1)] [(0, d2), (1, (I .i64 1)), (2, (I .i64 1)), (3, (I .i64 1)), (4, (I .i64 1)), (5, (I .i64 1)), (6, (I .i64 1)), (8, d3)])) fun d4 =>
  bi (wantF d1 true (cP n 75 false [d4])) fun d5 =>
  bi (wantF d1 true (eqK .i64 d5 (I .i64 0))) fun d6 =>
  bi (pickD d1 d6 (Bo false)) fun d7 =>
  some (d7, H)
theorem s_triunelaw10_May_eq (n : Nat) (H : Heap) (fl : Nat) (a0 : DV) : callG Try.prog ENV (n + 1) 50 [a0] H fl = s_triunelaw10_May n H fl a0 := by kernel_rfl

end Go.Proofs.Ytigfninpflemnab
