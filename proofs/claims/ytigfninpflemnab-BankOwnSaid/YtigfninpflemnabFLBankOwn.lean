/- Go functions as Lean functions on deep values; printed by a program of mine. -/
import Derived.Test.YtigfninpflemnabEnv
namespace Go.Proofs.Ytigfninpflemnab
open Go
set_option maxRecDepth 100000
set_option linter.unusedVariables false
/-! triune/triunelaw15.BankOwn -/
def s_triunelaw15_BankOwn_I2 (x1 x2 x3 x7 x9 x10 x18 x19 x20 : DV) : List DV := [.any, x1, x2, x3, .any, .any, .any, x7, .any, x9, x10, .any, .any, .any, .any, .any, .any, .any, x18, x19, x20, .any, .any, .any, .any, .any, .any, .any, .any, .any, .any, .any, .any, .any, .any, .any, .any, .any, .any, .any, .any, .any, .any, .any, .any, .any, .any, .any, .any, .any, .any, .any, .any, .any, .any, .any, .any, .any, .any, .any, .any, .any, .any, .any, .any, .any, .any, .any, .any, .any, .any, .any, .any, .any, .any, .any, .any, .any, .any, .any, .any, .any, .any, .any, .any, .any, .any, .any, .any, .any, .any, .any, .any, .any, .any, .any, .any, .any, .any, .any, .any, .any, .any, .any, .any, .any, .any, .any, .any, .any, .any, .any, .any, .any, .any, .any, .any, .any, .any, .any, .any, .any, .any, .any, .any, .any, .any, .any, .any, .any, .any, .any, .any, .any, .any, .any, .any, .any, .any, .any, .any, .any, .any, .any, .any, .any, .any, .any, .any, .any, .any, .any, .any, .any, .any, .any, .any, .any, .any, .any, .any, .any, .any, .any, .any, .any, .any, .any, .any, .any, .any, .any, .any, .any, .any, .any, .any, .any, .any, .any, .any, .any, .any, .any, .any, .any, .any, .any, .any, .any, .any, .any, .any, .any, .any, .any, .any, .any, .any, .any, .any, .any, .any, .any, .any, .any, .any, .any, .any, .any, .any, .any, .any, .any, .any, .any, .any, .any, .any, .any, .any, .any, .any, .any, .any, .any, .any, .any]
def s_triunelaw15_BankOwn_O2 (x1 x2 x3 x6 x7 x9 : DV) : List DV := [.any, x1, x2, x3, .any, .any, x6, x7, .any, x9, .any, .any, .any, .any, .any, .any, .any, .any, .any, .any, .any, .any, .any, .any, .any, .any, .any, .any, .any, .any, .any, .any, .any, .any, .any, .any, .any, .any, .any, .any, .any, .any, .any, .any, .any, .any, .any, .any, .any, .any, .any, .any, .any, .any, .any, .any, .any, .any, .any, .any, .any, .any, .any, .any, .any, .any, .any, .any, .any, .any, .any, .any, .any, .any, .any, .any, .any, .any, .any, .any, .any, .any, .any, .any, .any, .any, .any, .any, .any, .any, .any, .any, .any, .any, .any, .any, .any, .any, .any, .any, .any, .any, .any, .any, .any, .any, .any, .any, .any, .any, .any, .any, .any, .any, .any, .any, .any, .any, .any, .any, .any, .any, .any, .any, .any, .any, .any, .any, .any, .any, .any, .any, .any, .any, .any, .any, .any, .any, .any, .any, .any, .any, .any, .any, .any, .any, .any, .any, .any, .any, .any, .any, .any, .any, .any, .any, .any, .any, .any, .any, .any, .any, .any, .any, .any, .any, .any, .any, .any, .any, .any, .any, .any, .any, .any, .any, .any, .any, .any, .any, .any, .any, .any, .any, .any, .any, .any, .any, .any, .any, .any, .any, .any, .any, .any, .any, .any, .any, .any, .any, .any, .any, .any, .any, .any, .any, .any, .any, .any, .any, .any, .any, .any, .any, .any, .any, .any, .any, .any, .any, .any, .any, .any, .any, .any, .any, .any, .any]
noncomputable abbrev s_triunelaw15_BankOwn_b2 (n fl : Nat) : List DV → Heap → (Ex → KF) → R := execG ⟨Try.prog, callG Try.prog ENV n, ENV.md, fl, 228⟩ n (loopAt (bodyOf Try.f4) 2) []
noncomputable def s_triunelaw15_BankOwn_B2 (n fl : Nat) (rec : DV → DV → DV → DV → DV → DV → DV → DV → DV → Heap → R) (k : Ex → KF) (x1 x2 x3 x7 x9 x10 x18 x19 x20 : DV) (H : Heap) : R :=
  bi (lenD x18) fun d0 =>
  bi (ltK .i64 x20 d0) fun d1 =>
  condR d1 (
  bi (notD x19) fun d2 =>
  bi (wantF d2 false (some x18)) fun d3 =>
  bi (wantF d2 false (some x20)) fun d4 =>
  bi (wantF d2 false (idxSl 2 d3 d4)) fun d5 =>
  bi (wantF d2 false (fieldD 0 1 d5)) fun d6 =>
  bi (wantF d2 false (loadG false 1 d6 H)) fun d7 =>
  bi (wantF d2 false (ltK .i64 d7 (I .i64 0))) fun d8 =>
  bi (pickD d2 (Bo true) d8) fun d9 =>
  bi (wantF d9 false (some x18)) fun d10 =>
  bi (wantF d9 false (some x20)) fun d11 =>
  bi (wantF d9 false (idxSl 2 d10 d11)) fun d12 =>
  bi (wantF d9 false (fieldD 0 1 d12)) fun d13 =>
  bi (wantF d9 false (loadG false 1 d13 H)) fun d14 =>
  bi (wantF d9 false (fieldD 0 1 x3)) fun d15 =>
  bi (wantF d9 false (loadG false 1 d15 H)) fun d16 =>
  bi (wantF d9 false (lenD d16)) fun d17 =>
  bi (wantF d9 false (geK .i64 d14 d17)) fun d18 =>
  bi (pickD d9 (Bo true) d18) fun d19 =>
  bi (wantF d19 false (fieldD 0 1 x3)) fun d20 =>
  bi (wantF d19 false (loadG false 1 d20 H)) fun d21 =>
  bi (wantF d19 false (some x18)) fun d22 =>
  bi (wantF d19 false (some x20)) fun d23 =>
  bi (wantF d19 false (idxSl 2 d22 d23)) fun d24 =>
  bi (wantF d19 false (fieldD 0 1 d24)) fun d25 =>
  bi (wantF d19 false (loadG false 1 d25 H)) fun d26 =>
  bi (wantF d19 false (idxSl 5 d21 d26)) fun d27 =>
  bi (wantF d19 false (fieldD 2 1 d27)) fun d28 =>
  bi (wantF d19 false (loadG false 1 d28 H)) fun d29 =>
  bi (wantF d19 false (some x1)) fun d30 =>
  bi (wantF d19 false (neK .i64 d29 d30)) fun d31 =>
  bi (pickD d19 (Bo true) d31) fun d32 =>
  bi (wantF d32 false (fieldD 0 1 x3)) fun d33 =>
  bi (wantF d32 false (loadG false 1 d33 H)) fun d34 =>
  bi (wantF d32 false (some x18)) fun d35 =>
  bi (wantF d32 false (some x20)) fun d36 =>
  bi (wantF d32 false (idxSl 2 d35 d36)) fun d37 =>
  bi (wantF d32 false (fieldD 0 1 d37)) fun d38 =>
  bi (wantF d32 false (loadG false 1 d38 H)) fun d39 =>
  bi (wantF d32 false (idxSl 5 d34 d39)) fun d40 =>
  bi (wantF d32 false (fieldD 0 1 d40)) fun d41 =>
  bi (wantF d32 false (loadG false 1 d41 H)) fun d42 =>
  bi (wantF d32 false (fieldD 0 1 x10)) fun d43 =>
  bi (wantF d32 false (loadG false 1 d43 H)) fun d44 =>
  bi (wantF d32 false (neK .i64 d42 d44)) fun d45 =>
  bi (pickD d32 (Bo true) d45) fun d46 =>
  condR d46 (
  k .ret (s_triunelaw15_BankOwn_O2 x1 x2 x3 (Bo false) x7 x9) H) (
  bi (addK .i64 x20 (I .i64 1)) fun d47 =>
  rec x1 x2 x3 x7 x9 x10 x18 x19 d47 H)) (
  k (.exit 4) (s_triunelaw15_BankOwn_O2 x1 x2 x3 .any x7 x9) H)
noncomputable def s_triunelaw15_BankOwn_L2 (n fl : Nat) (k : Ex → KF) : Nat → DV → DV → DV → DV → DV → DV → DV → DV → DV → Heap → R
  | 0, _, _, _, _, _, _, _, _, _, _ => none
  | m + 1, x1, x2, x3, x7, x9, x10, x18, x19, x20, H => s_triunelaw15_BankOwn_B2 n fl (s_triunelaw15_BankOwn_L2 n fl k m) k x1 x2 x3 x7 x9 x10 x18 x19 x20 H
theorem s_triunelaw15_BankOwn_S2 (n fl m : Nat) (k : Ex → KF) (x1 x2 x3 x7 x9 x10 x18 x19 x20 : DV) (H : Heap) : loopG [1, 2, 3, 7, 9, 10, 18, 19, 20] [1, 2, 3, 6, 7, 9] 228 (s_triunelaw15_BankOwn_b2 n fl) (m + 1) (s_triunelaw15_BankOwn_I2 x1 x2 x3 x7 x9 x10 x18 x19 x20) H k = s_triunelaw15_BankOwn_B2 n fl (fun x1 x2 x3 x7 x9 x10 x18 x19 x20 H => loopG [1, 2, 3, 7, 9, 10, 18, 19, 20] [1, 2, 3, 6, 7, 9] 228 (s_triunelaw15_BankOwn_b2 n fl) m (s_triunelaw15_BankOwn_I2 x1 x2 x3 x7 x9 x10 x18 x19 x20) H k) k x1 x2 x3 x7 x9 x10 x18 x19 x20 H := by kernel_rfl
theorem s_triunelaw15_BankOwn_L2_eq (n fl : Nat) (k : Ex → KF) : ∀ (m : Nat) (x1 x2 x3 x7 x9 x10 x18 x19 x20 : DV) (H : Heap), loopG [1, 2, 3, 7, 9, 10, 18, 19, 20] [1, 2, 3, 6, 7, 9] 228 (s_triunelaw15_BankOwn_b2 n fl) m (s_triunelaw15_BankOwn_I2 x1 x2 x3 x7 x9 x10 x18 x19 x20) H k = s_triunelaw15_BankOwn_L2 n fl k m x1 x2 x3 x7 x9 x10 x18 x19 x20 H := by
  intro m
  induction m with
  | zero => intros; rfl
  | succ m ih =>
    intro x1 x2 x3 x7 x9 x10 x18 x19 x20 H
    rw [s_triunelaw15_BankOwn_S2, show (fun x1 x2 x3 x7 x9 x10 x18 x19 x20 H => loopG [1, 2, 3, 7, 9, 10, 18, 19, 20] [1, 2, 3, 6, 7, 9] 228 (s_triunelaw15_BankOwn_b2 n fl) m (s_triunelaw15_BankOwn_I2 x1 x2 x3 x7 x9 x10 x18 x19 x20) H k) = s_triunelaw15_BankOwn_L2 n fl k m from by funext x1 x2 x3 x7 x9 x10 x18 x19 x20 H; exact ih _ _ _ _ _ _ _ _ _ _]
    rw [s_triunelaw15_BankOwn_L2]
def s_triunelaw15_BankOwn_I1 (x1 x2 x3 x7 x9 x10 x13 : DV) : List DV := [.any, x1, x2, x3, .any, .any, .any, x7, .any, x9, x10, .any, .any, x13, .any, .any, .any, .any, .any, .any, .any, .any, .any, .any, .any, .any, .any, .any, .any, .any, .any, .any, .any, .any, .any, .any, .any, .any, .any, .any, .any, .any, .any, .any, .any, .any, .any, .any, .any, .any, .any, .any, .any, .any, .any, .any, .any, .any, .any, .any, .any, .any, .any, .any, .any, .any, .any, .any, .any, .any, .any, .any, .any, .any, .any, .any, .any, .any, .any, .any, .any, .any, .any, .any, .any, .any, .any, .any, .any, .any, .any, .any, .any, .any, .any, .any, .any, .any, .any, .any, .any, .any, .any, .any, .any, .any, .any, .any, .any, .any, .any, .any, .any, .any, .any, .any, .any, .any, .any, .any, .any, .any, .any, .any, .any, .any, .any, .any, .any, .any, .any, .any, .any, .any, .any, .any, .any, .any, .any, .any, .any, .any, .any, .any, .any, .any, .any, .any, .any, .any, .any, .any, .any, .any, .any, .any, .any, .any, .any, .any, .any, .any, .any, .any, .any, .any, .any, .any, .any, .any, .any, .any, .any, .any, .any, .any, .any, .any, .any, .any, .any, .any, .any, .any, .any, .any, .any, .any, .any, .any, .any, .any, .any, .any, .any, .any, .any, .any, .any, .any, .any, .any, .any, .any, .any, .any, .any, .any, .any, .any, .any, .any, .any, .any, .any, .any, .any, .any, .any, .any, .any, .any, .any, .any, .any, .any, .any, .any]
def s_triunelaw15_BankOwn_O1 (x1 x2 x3 x6 x7 x9 x10 : DV) : List DV := [.any, x1, x2, x3, .any, .any, x6, x7, .any, x9, x10, .any, .any, .any, .any, .any, .any, .any, .any, .any, .any, .any, .any, .any, .any, .any, .any, .any, .any, .any, .any, .any, .any, .any, .any, .any, .any, .any, .any, .any, .any, .any, .any, .any, .any, .any, .any, .any, .any, .any, .any, .any, .any, .any, .any, .any, .any, .any, .any, .any, .any, .any, .any, .any, .any, .any, .any, .any, .any, .any, .any, .any, .any, .any, .any, .any, .any, .any, .any, .any, .any, .any, .any, .any, .any, .any, .any, .any, .any, .any, .any, .any, .any, .any, .any, .any, .any, .any, .any, .any, .any, .any, .any, .any, .any, .any, .any, .any, .any, .any, .any, .any, .any, .any, .any, .any, .any, .any, .any, .any, .any, .any, .any, .any, .any, .any, .any, .any, .any, .any, .any, .any, .any, .any, .any, .any, .any, .any, .any, .any, .any, .any, .any, .any, .any, .any, .any, .any, .any, .any, .any, .any, .any, .any, .any, .any, .any, .any, .any, .any, .any, .any, .any, .any, .any, .any, .any, .any, .any, .any, .any, .any, .any, .any, .any, .any, .any, .any, .any, .any, .any, .any, .any, .any, .any, .any, .any, .any, .any, .any, .any, .any, .any, .any, .any, .any, .any, .any, .any, .any, .any, .any, .any, .any, .any, .any, .any, .any, .any, .any, .any, .any, .any, .any, .any, .any, .any, .any, .any, .any, .any, .any, .any, .any, .any, .any, .any, .any]
noncomputable abbrev s_triunelaw15_BankOwn_b1 (n fl : Nat) : List DV → Heap → (Ex → KF) → R := execG ⟨Try.prog, callG Try.prog ENV n, ENV.md, fl, 228⟩ n (loopAt (bodyOf Try.f4) 1) []
noncomputable def s_triunelaw15_BankOwn_B1 (n fl : Nat) (rec : DV → DV → DV → DV → DV → DV → DV → Heap → R) (k : Ex → KF) (x1 x2 x3 x7 x9 x10 x13 : DV) (H : Heap) : R :=
  bi (ltK .i64 x13 (I .i64 3)) fun d0 =>
  condR d0 (
  bi (loadG true 6 x3 H) fun d1 =>
  bi (fieldD 0 1 x10) fun d2 =>
  bi (loadG false 1 d2 H) fun d3 =>
  bi (addK .i64 x13 (I .i64 1)) fun d4 =>
  bi (mulK .i64 (I .i64 1000) d4) fun d5 =>
  bi (fieldD 2 1 x10) fun d6 =>
  bi (loadG false 1 d6 H) fun d7 =>
  bi (addK .i64 d5 d7) fun d8 =>
  bi (cP n 14 false [d1, d3, d8, (I .i64 1)]) fun d9 =>
  bi (extD 0 d9) fun d10 =>
  bi (extD 1 d9) fun d11 =>
  bi (notD d11) fun d12 =>
  bi (wantF d12 false (some d10)) fun d13 =>
  bi (wantF d12 false (lenD d13)) fun d14 =>
  bi (wantF d12 false (neK .i64 d14 (I .i64 1))) fun d15 =>
  bi (pickD d12 (Bo true) d15) fun d16 =>
  bi (wantF d16 false (some d10)) fun d17 =>
  bi (wantF d16 false (idxSl 1 d17 (I .i64 0))) fun d18 =>
  bi (wantF d16 false (loadG false 1 d18 H)) fun d19 =>
  bi (wantF d16 false (some x13)) fun d20 =>
  bi (wantF d16 false (fieldD 2 3 x3)) fun d21 =>
  bi (wantF d16 false (idxArr 3 1 d21 d20)) fun d22 =>
  bi (wantF d16 false (loadG false 1 d22 H)) fun d23 =>
  bi (wantF d16 false (some x9)) fun d24 =>
  bi (wantF d16 false (idxSl 1 d23 d24)) fun d25 =>
  bi (wantF d16 false (loadG false 1 d25 H)) fun d26 =>
  bi (wantF d16 false (neK .u16 d19 d26)) fun d27 =>
  bi (pickD d16 (Bo true) d27) fun d28 =>
  condR d28 (
  k .ret (s_triunelaw15_BankOwn_O1 x1 x2 x3 (Bo false) x7 x9 x10) H) (
  bi (addK .i64 x13 (I .i64 1)) fun d29 =>
  rec x1 x2 x3 x7 x9 x10 d29 H)) (
  k (.exit 2) (s_triunelaw15_BankOwn_O1 x1 x2 x3 .any x7 x9 x10) H)
noncomputable def s_triunelaw15_BankOwn_L1 (n fl : Nat) (k : Ex → KF) : Nat → DV → DV → DV → DV → DV → DV → DV → Heap → R
  | 0, _, _, _, _, _, _, _, _ => none
  | m + 1, x1, x2, x3, x7, x9, x10, x13, H => s_triunelaw15_BankOwn_B1 n fl (s_triunelaw15_BankOwn_L1 n fl k m) k x1 x2 x3 x7 x9 x10 x13 H
theorem s_triunelaw15_BankOwn_S1 (n fl m : Nat) (k : Ex → KF) (x1 x2 x3 x7 x9 x10 x13 : DV) (H : Heap) : loopG [1, 2, 3, 7, 9, 10, 13] [1, 2, 3, 6, 7, 9, 10] 228 (s_triunelaw15_BankOwn_b1 n fl) (m + 1) (s_triunelaw15_BankOwn_I1 x1 x2 x3 x7 x9 x10 x13) H k = s_triunelaw15_BankOwn_B1 n fl (fun x1 x2 x3 x7 x9 x10 x13 H => loopG [1, 2, 3, 7, 9, 10, 13] [1, 2, 3, 6, 7, 9, 10] 228 (s_triunelaw15_BankOwn_b1 n fl) m (s_triunelaw15_BankOwn_I1 x1 x2 x3 x7 x9 x10 x13) H k) k x1 x2 x3 x7 x9 x10 x13 H := by kernel_rfl
theorem s_triunelaw15_BankOwn_L1_eq (n fl : Nat) (k : Ex → KF) : ∀ (m : Nat) (x1 x2 x3 x7 x9 x10 x13 : DV) (H : Heap), loopG [1, 2, 3, 7, 9, 10, 13] [1, 2, 3, 6, 7, 9, 10] 228 (s_triunelaw15_BankOwn_b1 n fl) m (s_triunelaw15_BankOwn_I1 x1 x2 x3 x7 x9 x10 x13) H k = s_triunelaw15_BankOwn_L1 n fl k m x1 x2 x3 x7 x9 x10 x13 H := by
  intro m
  induction m with
  | zero => intros; rfl
  | succ m ih =>
    intro x1 x2 x3 x7 x9 x10 x13 H
    rw [s_triunelaw15_BankOwn_S1, show (fun x1 x2 x3 x7 x9 x10 x13 H => loopG [1, 2, 3, 7, 9, 10, 13] [1, 2, 3, 6, 7, 9, 10] 228 (s_triunelaw15_BankOwn_b1 n fl) m (s_triunelaw15_BankOwn_I1 x1 x2 x3 x7 x9 x10 x13) H k) = s_triunelaw15_BankOwn_L1 n fl k m from by funext x1 x2 x3 x7 x9 x10 x13 H; exact ih _ _ _ _ _ _ _ _]
    rw [s_triunelaw15_BankOwn_L1]
def s_triunelaw15_BankOwn_I0 (x1 x2 x3 x7 x9 : DV) : List DV := [.any, x1, x2, x3, .any, .any, .any, x7, .any, x9, .any, .any, .any, .any, .any, .any, .any, .any, .any, .any, .any, .any, .any, .any, .any, .any, .any, .any, .any, .any, .any, .any, .any, .any, .any, .any, .any, .any, .any, .any, .any, .any, .any, .any, .any, .any, .any, .any, .any, .any, .any, .any, .any, .any, .any, .any, .any, .any, .any, .any, .any, .any, .any, .any, .any, .any, .any, .any, .any, .any, .any, .any, .any, .any, .any, .any, .any, .any, .any, .any, .any, .any, .any, .any, .any, .any, .any, .any, .any, .any, .any, .any, .any, .any, .any, .any, .any, .any, .any, .any, .any, .any, .any, .any, .any, .any, .any, .any, .any, .any, .any, .any, .any, .any, .any, .any, .any, .any, .any, .any, .any, .any, .any, .any, .any, .any, .any, .any, .any, .any, .any, .any, .any, .any, .any, .any, .any, .any, .any, .any, .any, .any, .any, .any, .any, .any, .any, .any, .any, .any, .any, .any, .any, .any, .any, .any, .any, .any, .any, .any, .any, .any, .any, .any, .any, .any, .any, .any, .any, .any, .any, .any, .any, .any, .any, .any, .any, .any, .any, .any, .any, .any, .any, .any, .any, .any, .any, .any, .any, .any, .any, .any, .any, .any, .any, .any, .any, .any, .any, .any, .any, .any, .any, .any, .any, .any, .any, .any, .any, .any, .any, .any, .any, .any, .any, .any, .any, .any, .any, .any, .any, .any, .any, .any, .any, .any, .any, .any]
def s_triunelaw15_BankOwn_O0 (x6 x7 : DV) : List DV := [.any, .any, .any, .any, .any, .any, x6, x7, .any, .any, .any, .any, .any, .any, .any, .any, .any, .any, .any, .any, .any, .any, .any, .any, .any, .any, .any, .any, .any, .any, .any, .any, .any, .any, .any, .any, .any, .any, .any, .any, .any, .any, .any, .any, .any, .any, .any, .any, .any, .any, .any, .any, .any, .any, .any, .any, .any, .any, .any, .any, .any, .any, .any, .any, .any, .any, .any, .any, .any, .any, .any, .any, .any, .any, .any, .any, .any, .any, .any, .any, .any, .any, .any, .any, .any, .any, .any, .any, .any, .any, .any, .any, .any, .any, .any, .any, .any, .any, .any, .any, .any, .any, .any, .any, .any, .any, .any, .any, .any, .any, .any, .any, .any, .any, .any, .any, .any, .any, .any, .any, .any, .any, .any, .any, .any, .any, .any, .any, .any, .any, .any, .any, .any, .any, .any, .any, .any, .any, .any, .any, .any, .any, .any, .any, .any, .any, .any, .any, .any, .any, .any, .any, .any, .any, .any, .any, .any, .any, .any, .any, .any, .any, .any, .any, .any, .any, .any, .any, .any, .any, .any, .any, .any, .any, .any, .any, .any, .any, .any, .any, .any, .any, .any, .any, .any, .any, .any, .any, .any, .any, .any, .any, .any, .any, .any, .any, .any, .any, .any, .any, .any, .any, .any, .any, .any, .any, .any, .any, .any, .any, .any, .any, .any, .any, .any, .any, .any, .any, .any, .any, .any, .any, .any, .any, .any, .any, .any, .any]
noncomputable abbrev s_triunelaw15_BankOwn_b0 (n fl : Nat) : List DV → Heap → (Ex → KF) → R := execG ⟨Try.prog, callG Try.prog ENV n, ENV.md, fl, 228⟩ n (loopAt (bodyOf Try.f4) 0) [([1, 2, 3, 7, 9, 10, 13], [1, 2, 3, 6, 7, 9, 10]), ([1, 2, 3, 7, 9, 10, 18, 19, 20], [1, 2, 3, 6, 7, 9])]
noncomputable def s_triunelaw15_BankOwn_B0 (n fl : Nat) (rec : DV → DV → DV → DV → DV → Heap → R) (k : Ex → KF) (x1 x2 x3 x7 x9 : DV) (H : Heap) : R :=
  bi (fieldD 0 1 x3) fun d0 =>
  bi (loadG false 1 d0 H) fun d1 =>
  bi (lenD d1) fun d2 =>
  bi (ltK .i64 x9 d2) fun d3 =>
  condR d3 (
  bi (fieldD 0 1 x3) fun d4 =>
  bi (loadG false 1 d4 (H ++ [.hole])) fun d5 =>
  bi (idxSl 5 d5 x9) fun d6 =>
  bi (loadG true 5 d6 (H ++ [.hole])) fun d7 =>
  bi (allocG 48 (.agg [(I .i64 0), (I .i64 0), (I .i64 0), (I .i64 0), (I .i64 0)]) (List.length H) (H ++ [.hole])) fun h8 =>
  bi (storeG 5 (.ptr (List.length H) 0) d7 h8 fl) fun h9 =>
  bi (loadG true 6 x3 h9) fun d10 =>
  bi (loadG false 1 (.ptr (List.length H) 0) h9) fun d11 =>
  bi (loadG false 1 (.ptr (List.length H) 2) h9) fun d12 =>
  bi (cP n 14 false [d10, d11, d12, (I .i64 1)]) fun d13 =>
  bi (extD 0 d13) fun d14 =>
  bi (extD 1 d13) fun d15 =>
  bi (notD d15) fun d16 =>
  bi (wantF d16 false (some d14)) fun d17 =>
  bi (wantF d16 false (lenD d17)) fun d18 =>
  bi (wantF d16 false (neK .i64 d18 (I .i64 1))) fun d19 =>
  bi (pickD d16 (Bo true) d19) fun d20 =>
  bi (wantF d20 false (some d14)) fun d21 =>
  bi (wantF d20 false (idxSl 1 d21 (I .i64 0))) fun d22 =>
  bi (wantF d20 false (loadG false 1 d22 h9)) fun d23 =>
  bi (wantF d20 false (fieldD 1 1 x3)) fun d24 =>
  bi (wantF d20 false (loadG false 1 d24 h9)) fun d25 =>
  bi (wantF d20 false (some x9)) fun d26 =>
  bi (wantF d20 false (idxSl 1 d25 d26)) fun d27 =>
  bi (wantF d20 false (loadG false 1 d27 h9)) fun d28 =>
  bi (wantF d20 false (neK .u16 d23 d28)) fun d29 =>
  bi (pickD d20 (Bo true) d29) fun d30 =>
  condR d30 (
  k .ret (s_triunelaw15_BankOwn_O0 (Bo false) x7) h9) (
  loopG [1, 2, 3, 7, 9, 10, 13] [1, 2, 3, 6, 7, 9, 10] 228 (s_triunelaw15_BankOwn_b1 n fl) n (s_triunelaw15_BankOwn_I1 x1 x2 x3 x7 x9 (.ptr (List.length H) 0) (I .i64 0)) h9 fun x S31 h31 => match x with
  | .normal => none
  | .exit i31 => (
  if i31 = 2 then (
  bi (fieldD 0 1 (S31.getD 3 .any)) fun d32 =>
  bi (loadG false 1 d32 h31) fun d33 =>
  bi (fieldD 0 1 (S31.getD 10 .any)) fun d34 =>
  bi (loadG false 1 d34 h31) fun d35 =>
  bi (fieldD 2 1 (S31.getD 10 .any)) fun d36 =>
  bi (loadG false 1 d36 h31) fun d37 =>
  bi (remK .u16 (S31.getD 2 .any) (I .u16 2)) fun d38 =>
  bi (buildL false 1 1 (I .u16 0) [(0, d38)]) fun d39 =>
  bi (cP n 17 false [d33, d35, d37, d39]) fun d40 =>
  bi (extD 0 d40) fun d41 =>
  bi (extD 1 d40) fun d42 =>
  bi (fieldD 0 1 (S31.getD 10 .any)) fun d43 =>
  bi (loadG false 1 d43 h31) fun d44 =>
  bi (eqK .i64 d44 (I .i64 0)) fun d45 =>
  bi (wantF d45 false (fieldD 0 1 (S31.getD 10 .any))) fun d46 =>
  bi (wantF d45 false (loadG false 1 d46 h31)) fun d47 =>
  bi (wantF d45 false (eqK .i64 d47 (I .i64 2))) fun d48 =>
  bi (pickD d45 (Bo true) d48) fun d49 =>
  bi (neB d42 d49) fun d50 =>
  bi (wantF d50 false (some d42)) fun d51 =>
  bi (wantF d50 false (some d51)) fun d52 =>
  bi (wantF d52 true (some d41)) fun d53 =>
  bi (wantF d52 true (lenD d53)) fun d54 =>
  bi (wantF d52 true (neK .i64 d54 (I .i64 1))) fun d55 =>
  bi (wantF d52 true (some d55)) fun d56 =>
  bi (wantF d56 false (some d41)) fun d57 =>
  bi (wantF d56 false (idxSl 2 d57 (I .i64 0))) fun d58 =>
  bi (wantF d56 false (fieldD 0 1 d58)) fun d59 =>
  bi (wantF d56 false (loadG false 1 d59 h31)) fun d60 =>
  bi (wantF d56 false (some (S31.getD 9 .any))) fun d61 =>
  bi (wantF d56 false (neK .i64 d60 d61)) fun d62 =>
  bi (wantF d52 true (pickD d56 (Bo true) d62)) fun d63 =>
  bi (wantF d52 true (some d63)) fun d64 =>
  bi (wantF d64 false (some d41)) fun d65 =>
  bi (wantF d64 false (idxSl 2 d65 (I .i64 0))) fun d66 =>
  bi (wantF d64 false (fieldD 1 1 d66)) fun d67 =>
  bi (wantF d64 false (loadG false 1 d67 h31)) fun d68 =>
  bi (wantF d64 false (some (S31.getD 2 .any))) fun d69 =>
  bi (wantF d64 false (remK .u16 d69 (I .u16 2))) fun d70 =>
  bi (wantF d64 false (neK .u16 d68 d70)) fun d71 =>
  bi (wantF d52 true (pickD d64 (Bo true) d71)) fun d72 =>
  bi (wantF d50 false (pickD d52 d72 (Bo false))) fun d73 =>
  bi (pickD d50 (Bo true) d73) fun d74 =>
  condR d74 (
  k .ret (s_triunelaw15_BankOwn_O0 (Bo false) (S31.getD 7 .any)) h31) (
  bi (fieldD 0 1 (S31.getD 3 .any)) fun d75 =>
  bi (loadG false 1 d75 h31) fun d76 =>
  bi (fieldD 0 1 (S31.getD 10 .any)) fun d77 =>
  bi (loadG false 1 d77 h31) fun d78 =>
  bi (remK .u16 (S31.getD 2 .any) (I .u16 2)) fun d79 =>
  bi (buildL false 1 1 (I .u16 0) [(0, d79)]) fun d80 =>
  bi (cP n 17 false [d76, d78, (S31.getD 1 .any), d80]) fun d81 =>
  bi (extD 0 d81) fun d82 =>
  bi (extD 1 d81) fun d83 =>
  loopG [1, 2, 3, 7, 9, 10, 18, 19, 20] [1, 2, 3, 6, 7, 9] 228 (s_triunelaw15_BankOwn_b2 n fl) n (s_triunelaw15_BankOwn_I2 (S31.getD 1 .any) (S31.getD 2 .any) (S31.getD 3 .any) (S31.getD 7 .any) (S31.getD 9 .any) (S31.getD 10 .any) d82 d83 (I .i64 0)) h31 fun x S84 h84 => match x with
  | .normal => none
  | .exit i84 => (
  if i84 = 4 then (
  bi (addK .i64 (S84.getD 9 .any) (I .i64 1)) fun d85 =>
  rec (S84.getD 1 .any) (S84.getD 2 .any) (S84.getD 3 .any) (S84.getD 7 .any) d85 h84) else (
  if i84 = 1 then (
  bi (addK .i64 (S84.getD 9 .any) (I .i64 1)) fun d86 =>
  rec (S84.getD 1 .any) (S84.getD 2 .any) (S84.getD 3 .any) (S84.getD 7 .any) d86 h84) else (
  k (.exit i84) (s_triunelaw15_BankOwn_O0 (S84.getD 6 .any) (S84.getD 7 .any)) h84)))
  | .ret => (
  k .ret (s_triunelaw15_BankOwn_O0 (S84.getD 6 .any) (S84.getD 7 .any)) h84))) else (
  if i31 = 1 then (
  bi (addK .i64 (S31.getD 9 .any) (I .i64 1)) fun d87 =>
  rec (S31.getD 1 .any) (S31.getD 2 .any) (S31.getD 3 .any) (S31.getD 7 .any) d87 h31) else (
  k (.exit i31) (s_triunelaw15_BankOwn_O0 (S31.getD 6 .any) (S31.getD 7 .any)) h31)))
  | .ret => (
  k .ret (s_triunelaw15_BankOwn_O0 (S31.getD 6 .any) (S31.getD 7 .any)) h31))) (
  k (.exit 0) (s_triunelaw15_BankOwn_O0 .any x7) H)
noncomputable def s_triunelaw15_BankOwn_L0 (n fl : Nat) (k : Ex → KF) : Nat → DV → DV → DV → DV → DV → Heap → R
  | 0, _, _, _, _, _, _ => none
  | m + 1, x1, x2, x3, x7, x9, H => s_triunelaw15_BankOwn_B0 n fl (s_triunelaw15_BankOwn_L0 n fl k m) k x1 x2 x3 x7 x9 H
theorem s_triunelaw15_BankOwn_S0 (n fl m : Nat) (k : Ex → KF) (x1 x2 x3 x7 x9 : DV) (H : Heap) : loopG [1, 2, 3, 7, 9] [6, 7] 228 (s_triunelaw15_BankOwn_b0 n fl) (m + 1) (s_triunelaw15_BankOwn_I0 x1 x2 x3 x7 x9) H k = s_triunelaw15_BankOwn_B0 n fl (fun x1 x2 x3 x7 x9 H => loopG [1, 2, 3, 7, 9] [6, 7] 228 (s_triunelaw15_BankOwn_b0 n fl) m (s_triunelaw15_BankOwn_I0 x1 x2 x3 x7 x9) H k) k x1 x2 x3 x7 x9 H := by kernel_rfl
theorem s_triunelaw15_BankOwn_L0_eq (n fl : Nat) (k : Ex → KF) : ∀ (m : Nat) (x1 x2 x3 x7 x9 : DV) (H : Heap), loopG [1, 2, 3, 7, 9] [6, 7] 228 (s_triunelaw15_BankOwn_b0 n fl) m (s_triunelaw15_BankOwn_I0 x1 x2 x3 x7 x9) H k = s_triunelaw15_BankOwn_L0 n fl k m x1 x2 x3 x7 x9 H := by
  intro m
  induction m with
  | zero => intros; rfl
  | succ m ih =>
    intro x1 x2 x3 x7 x9 H
    rw [s_triunelaw15_BankOwn_S0, show (fun x1 x2 x3 x7 x9 H => loopG [1, 2, 3, 7, 9] [6, 7] 228 (s_triunelaw15_BankOwn_b0 n fl) m (s_triunelaw15_BankOwn_I0 x1 x2 x3 x7 x9) H k) = s_triunelaw15_BankOwn_L0 n fl k m from by funext x1 x2 x3 x7 x9 H; exact ih _ _ _ _ _ _]
    rw [s_triunelaw15_BankOwn_L0]
noncomputable def s_triunelaw15_BankOwn (n : Nat) (H : Heap) (fl : Nat) (a0 a1 a2 : DV) : R :=
  bi (allocG 26 a0 (List.length H) (H ++ [.hole])) fun h0 =>
  bi (cP n 12 false []) fun d1 =>
  bi (loadG true 6 (.ptr (List.length H) 0) h0) fun d2 =>
  bi (cP n 13 false [d2]) fun d3 =>
  bi (notD d3) fun d4 =>
  bi (wantF d4 false (some a1)) fun d5 =>
  bi (wantF d4 false (ltK .i64 d5 (I .i64 0))) fun d6 =>
  bi (pickD d4 (Bo true) d6) fun d7 =>
  bi (wantF d7 false (some a1)) fun d8 =>
  bi (wantF d7 false (gtK .i64 d8 (I .i64 65535))) fun d9 =>
  bi (pickD d7 (Bo true) d9) fun d10 =>
  condR d10 (
  some (d1, h0)) (
  loopG [1, 2, 3, 7, 9] [6, 7] 228 (s_triunelaw15_BankOwn_b0 n fl) n (s_triunelaw15_BankOwn_I0 a1 a2 (.ptr (List.length H) 0) d1 (I .i64 0)) h0 fun x S11 h11 => match x with
  | .normal => none
  | .exit i11 => (
  if i11 = 0 then (
  some ((S11.getD 7 .any), h11)) else (
  none))
  | .ret => (
  some ((S11.getD 6 .any), h11)))
theorem s_triunelaw15_BankOwn_eq (n : Nat) (H : Heap) (fl : Nat) (a0 a1 a2 : DV) : callG Try.prog ENV (n + 1) 4 [a0, a1, a2] H fl = s_triunelaw15_BankOwn n H fl a0 a1 a2 := by kernel_rfl

end Go.Proofs.Ytigfninpflemnab
