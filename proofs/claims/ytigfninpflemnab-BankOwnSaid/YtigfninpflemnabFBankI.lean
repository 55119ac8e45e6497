/- Go functions as Lean functions on deep values; printed by a program of mine. -/
import Derived.Test.YtigfninpflemnabEnv
namespace Go.Proofs.Ytigfninpflemnab
open Go
set_option maxRecDepth 100000
set_option linter.unusedVariables false
/-! triune/bank.Items -/
def s_bank_Items_I0 (x0 x1 x2 x3 x10 x25 x26 : DV) : List DV := [x0, x1, x2, x3, .any, .any, .any, .any, .any, .any, x10, .any, .any, .any, .any, .any, .any, .any, .any, .any, .any, .any, .any, .any, .any, x25, x26, .any, .any, .any, .any, .any, .any, .any, .any, .any, .any, .any, .any, .any, .any, .any, .any, .any, .any, .any, .any, .any, .any, .any, .any, .any, .any, .any, .any, .any, .any, .any, .any]
def s_bank_Items_O0 (x8 x9 x10 : DV) : List DV := [.any, .any, .any, .any, .any, .any, .any, .any, x8, x9, x10, .any, .any, .any, .any, .any, .any, .any, .any, .any, .any, .any, .any, .any, .any, .any, .any, .any, .any, .any, .any, .any, .any, .any, .any, .any, .any, .any, .any, .any, .any, .any, .any, .any, .any, .any, .any, .any, .any, .any, .any, .any, .any, .any, .any, .any, .any, .any, .any]
noncomputable abbrev s_bank_Items_b0 (n fl : Nat) : List DV → Heap → (Ex → KF) → R := execG ⟨Try.prog, callG Try.prog ENV n, ENV.md, fl, 59⟩ n (loopAt (bodyOf Try.f17) 0) []
noncomputable def s_bank_Items_B0 (n fl : Nat) (rec : DV → DV → DV → DV → DV → DV → DV → Heap → R) (k : Ex → KF) (x0 x1 x2 x3 x10 x25 x26 : DV) (H : Heap) : R :=
  bi (ltK .i64 x26 x25) fun d0 =>
  condR d0 (
  bi (addK .i64 x2 x26) fun d1 =>
  bi (cP n 53 false [x0, x1, d1]) fun d2 =>
  bi (eqK .i64 d2 (I .i64 (-1))) fun d3 =>
  bi (wantF d3 false (some x1)) fun d4 =>
  bi (wantF d3 false (eqK .i64 d4 (I .i64 2))) fun d5 =>
  bi (wantF d3 false (some d5)) fun d6 =>
  bi (wantF d6 true (some x3)) fun d7 =>
  bi (wantF d6 true (some x26)) fun d8 =>
  bi (wantF d6 true (idxSl 1 d7 d8)) fun d9 =>
  bi (wantF d6 true (loadG false 1 d9 H)) fun d10 =>
  bi (wantF d6 true (gtK .u16 d10 (I .u16 1))) fun d11 =>
  bi (wantF d3 false (pickD d6 d11 (Bo false))) fun d12 =>
  bi (pickD d3 (Bo true) d12) fun d13 =>
  condR d13 (
  k .ret (s_bank_Items_O0 (.list 0 [] .ti) (Bo false) x10) H) (
  bi (idxSl 1 x3 x26) fun d14 =>
  bi (loadG false 1 d14 H) fun d15 =>
  bi (buildS (.agg [(I .i64 0), (I .u16 0)]) [(0, 1), (1, 1)] [(0, d2), (1, d15)]) fun d16 =>
  bi (buildL true 2 1 (.agg [(I .i64 0), (I .u16 0)]) [(0, d16)]) fun d17 =>
  bi (appG 50 true 2 16 x10 d17 H fl) fun p18 =>
  bi (addK .i64 x26 (I .i64 1)) fun d19 =>
  rec x0 x1 x2 x3 p18.1 x25 d19 p18.2)) (
  k (.exit 0) (s_bank_Items_O0 .any .any x10) H)
noncomputable def s_bank_Items_L0 (n fl : Nat) (k : Ex → KF) : Nat → DV → DV → DV → DV → DV → DV → DV → Heap → R
  | 0, _, _, _, _, _, _, _, _ => none
  | m + 1, x0, x1, x2, x3, x10, x25, x26, H => s_bank_Items_B0 n fl (s_bank_Items_L0 n fl k m) k x0 x1 x2 x3 x10 x25 x26 H
theorem s_bank_Items_S0 (n fl m : Nat) (k : Ex → KF) (x0 x1 x2 x3 x10 x25 x26 : DV) (H : Heap) : loopG [0, 1, 2, 3, 10, 25, 26] [8, 9, 10] 59 (s_bank_Items_b0 n fl) (m + 1) (s_bank_Items_I0 x0 x1 x2 x3 x10 x25 x26) H k = s_bank_Items_B0 n fl (fun x0 x1 x2 x3 x10 x25 x26 H => loopG [0, 1, 2, 3, 10, 25, 26] [8, 9, 10] 59 (s_bank_Items_b0 n fl) m (s_bank_Items_I0 x0 x1 x2 x3 x10 x25 x26) H k) k x0 x1 x2 x3 x10 x25 x26 H := by kernel_rfl
theorem s_bank_Items_L0_eq (n fl : Nat) (k : Ex → KF) : ∀ (m : Nat) (x0 x1 x2 x3 x10 x25 x26 : DV) (H : Heap), loopG [0, 1, 2, 3, 10, 25, 26] [8, 9, 10] 59 (s_bank_Items_b0 n fl) m (s_bank_Items_I0 x0 x1 x2 x3 x10 x25 x26) H k = s_bank_Items_L0 n fl k m x0 x1 x2 x3 x10 x25 x26 H := by
  intro m
  induction m with
  | zero => intros; rfl
  | succ m ih =>
    intro x0 x1 x2 x3 x10 x25 x26 H
    rw [s_bank_Items_S0, show (fun x0 x1 x2 x3 x10 x25 x26 H => loopG [0, 1, 2, 3, 10, 25, 26] [8, 9, 10] 59 (s_bank_Items_b0 n fl) m (s_bank_Items_I0 x0 x1 x2 x3 x10 x25 x26) H k) = s_bank_Items_L0 n fl k m from by funext x0 x1 x2 x3 x10 x25 x26 H; exact ih _ _ _ _ _ _ _ _]
    rw [s_bank_Items_L0]
noncomputable def s_bank_Items (n : Nat) (H : Heap) (fl : Nat) (a0 a1 a2 a3 : DV) : R :=
  bi (neK .i64 a1 (I .i64 0)) fun d0 =>
  bi (wantF d0 true (some a1)) fun d1 =>
  bi (wantF d0 true (neK .i64 d1 (I .i64 2))) fun d2 =>
  bi (pickD d0 d2 (Bo false)) fun d3 =>
  bi (wantF d3 false (some a3)) fun d4 =>
  bi (wantF d3 false (lenD d4)) fun d5 =>
  bi (wantF d3 false (eqK .i64 d5 (I .i64 0))) fun d6 =>
  bi (pickD d3 (Bo true) d6) fun d7 =>
  condR d7 (
  some ((.tup [(.list 0 [] .ti), (Bo false)]), H)) (
  bi (lenD a3) fun d8 =>
  loopG [0, 1, 2, 3, 10, 25, 26] [8, 9, 10] 59 (s_bank_Items_b0 n fl) n (s_bank_Items_I0 a0 a1 a2 a3 (.list 0 [] .ti) d8 (I .i64 0)) H fun x S9 h9 => match x with
  | .normal => none
  | .exit i9 => (
  if i9 = 0 then (
  some ((.tup [(S9.getD 10 .any), (Bo true)]), h9)) else (
  none))
  | .ret => (
  some ((.tup [(S9.getD 8 .any), (S9.getD 9 .any)]), h9)))
theorem s_bank_Items_eq (n : Nat) (H : Heap) (fl : Nat) (a0 a1 a2 a3 : DV) : callG Try.prog ENV (n + 1) 17 [a0, a1, a2, a3] H fl = s_bank_Items n H fl a0 a1 a2 a3 := by kernel_rfl

/-! triune/triuneref15.Items -/
def s_triuneref15_Items_I0 (x0 x1 x2 x3 x10 x11 : DV) : List DV := [x0, x1, x2, x3, .any, .any, .any, .any, .any, .any, x10, x11, .any, .any, .any, .any, .any, .any, .any, .any, .any, .any, .any, .any, .any, .any, .any, .any, .any, .any, .any, .any, .any, .any, .any, .any, .any, .any, .any, .any, .any, .any, .any, .any, .any, .any, .any, .any, .any, .any, .any, .any, .any, .any, .any, .any, .any, .any, .any]
def s_triuneref15_Items_O0 (x8 x9 x10 : DV) : List DV := [.any, .any, .any, .any, .any, .any, .any, .any, x8, x9, x10, .any, .any, .any, .any, .any, .any, .any, .any, .any, .any, .any, .any, .any, .any, .any, .any, .any, .any, .any, .any, .any, .any, .any, .any, .any, .any, .any, .any, .any, .any, .any, .any, .any, .any, .any, .any, .any, .any, .any, .any, .any, .any, .any, .any, .any, .any, .any, .any]
noncomputable abbrev s_triuneref15_Items_b0 (n fl : Nat) : List DV → Heap → (Ex → KF) → R := execG ⟨Try.prog, callG Try.prog ENV n, ENV.md, fl, 59⟩ n (loopAt (bodyOf Try.f18) 0) []
noncomputable def s_triuneref15_Items_B0 (n fl : Nat) (rec : DV → DV → DV → DV → DV → DV → Heap → R) (k : Ex → KF) (x0 x1 x2 x3 x10 x11 : DV) (H : Heap) : R :=
  bi (lenD x3) fun d0 =>
  bi (ltK .i64 x11 d0) fun d1 =>
  condR d1 (
  bi (addK .i64 x2 x11) fun d2 =>
  bi (cP n 54 false [x0, x1, d2]) fun d3 =>
  bi (ltK .i64 d3 (I .i64 0)) fun d4 =>
  bi (wantF d4 false (some x1)) fun d5 =>
  bi (wantF d4 false (eqK .i64 d5 (I .i64 2))) fun d6 =>
  bi (wantF d4 false (some d6)) fun d7 =>
  bi (wantF d7 true (some x3)) fun d8 =>
  bi (wantF d7 true (some x11)) fun d9 =>
  bi (wantF d7 true (idxSl 1 d8 d9)) fun d10 =>
  bi (wantF d7 true (loadG false 1 d10 H)) fun d11 =>
  bi (wantF d7 true (gtK .u16 d11 (I .u16 1))) fun d12 =>
  bi (wantF d4 false (pickD d7 d12 (Bo false))) fun d13 =>
  bi (pickD d4 (Bo true) d13) fun d14 =>
  condR d14 (
  k .ret (s_triuneref15_Items_O0 (.list 0 [] .ti) (Bo false) x10) H) (
  bi (idxSl 1 x3 x11) fun d15 =>
  bi (loadG false 1 d15 H) fun d16 =>
  bi (buildS (.agg [(I .i64 0), (I .u16 0)]) [(0, 1), (1, 1)] [(0, d3), (1, d16)]) fun d17 =>
  bi (buildL true 2 1 (.agg [(I .i64 0), (I .u16 0)]) [(0, d17)]) fun d18 =>
  bi (appG 116 true 2 16 x10 d18 H fl) fun p19 =>
  bi (addK .i64 x11 (I .i64 1)) fun d20 =>
  rec x0 x1 x2 x3 p19.1 d20 p19.2)) (
  k (.exit 0) (s_triuneref15_Items_O0 .any .any x10) H)
noncomputable def s_triuneref15_Items_L0 (n fl : Nat) (k : Ex → KF) : Nat → DV → DV → DV → DV → DV → DV → Heap → R
  | 0, _, _, _, _, _, _, _ => none
  | m + 1, x0, x1, x2, x3, x10, x11, H => s_triuneref15_Items_B0 n fl (s_triuneref15_Items_L0 n fl k m) k x0 x1 x2 x3 x10 x11 H
theorem s_triuneref15_Items_S0 (n fl m : Nat) (k : Ex → KF) (x0 x1 x2 x3 x10 x11 : DV) (H : Heap) : loopG [0, 1, 2, 3, 10, 11] [8, 9, 10] 59 (s_triuneref15_Items_b0 n fl) (m + 1) (s_triuneref15_Items_I0 x0 x1 x2 x3 x10 x11) H k = s_triuneref15_Items_B0 n fl (fun x0 x1 x2 x3 x10 x11 H => loopG [0, 1, 2, 3, 10, 11] [8, 9, 10] 59 (s_triuneref15_Items_b0 n fl) m (s_triuneref15_Items_I0 x0 x1 x2 x3 x10 x11) H k) k x0 x1 x2 x3 x10 x11 H := by kernel_rfl
theorem s_triuneref15_Items_L0_eq (n fl : Nat) (k : Ex → KF) : ∀ (m : Nat) (x0 x1 x2 x3 x10 x11 : DV) (H : Heap), loopG [0, 1, 2, 3, 10, 11] [8, 9, 10] 59 (s_triuneref15_Items_b0 n fl) m (s_triuneref15_Items_I0 x0 x1 x2 x3 x10 x11) H k = s_triuneref15_Items_L0 n fl k m x0 x1 x2 x3 x10 x11 H := by
  intro m
  induction m with
  | zero => intros; rfl
  | succ m ih =>
    intro x0 x1 x2 x3 x10 x11 H
    rw [s_triuneref15_Items_S0, show (fun x0 x1 x2 x3 x10 x11 H => loopG [0, 1, 2, 3, 10, 11] [8, 9, 10] 59 (s_triuneref15_Items_b0 n fl) m (s_triuneref15_Items_I0 x0 x1 x2 x3 x10 x11) H k) = s_triuneref15_Items_L0 n fl k m from by funext x0 x1 x2 x3 x10 x11 H; exact ih _ _ _ _ _ _ _]
    rw [s_triuneref15_Items_L0]
noncomputable def s_triuneref15_Items (n : Nat) (H : Heap) (fl : Nat) (a0 a1 a2 a3 : DV) : R :=
  bi (neK .i64 a1 (I .i64 0)) fun d0 =>
  bi (wantF d0 true (some a1)) fun d1 =>
  bi (wantF d0 true (neK .i64 d1 (I .i64 2))) fun d2 =>
  bi (pickD d0 d2 (Bo false)) fun d3 =>
  bi (wantF d3 false (some a3)) fun d4 =>
  bi (wantF d3 false (lenD d4)) fun d5 =>
  bi (wantF d3 false (eqK .i64 d5 (I .i64 0))) fun d6 =>
  bi (pickD d3 (Bo true) d6) fun d7 =>
  condR d7 (
  some ((.tup [(.list 0 [] .ti), (Bo false)]), H)) (
  loopG [0, 1, 2, 3, 10, 11] [8, 9, 10] 59 (s_triuneref15_Items_b0 n fl) n (s_triuneref15_Items_I0 a0 a1 a2 a3 (.list 0 [] .ti) (I .i64 0)) H fun x S8 h8 => match x with
  | .normal => none
  | .exit i8 => (
  if i8 = 0 then (
  some ((.tup [(S8.getD 10 .any), (Bo true)]), h8)) else (
  none))
  | .ret => (
  some ((.tup [(S8.getD 8 .any), (S8.getD 9 .any)]), h8)))
theorem s_triuneref15_Items_eq (n : Nat) (H : Heap) (fl : Nat) (a0 a1 a2 a3 : DV) : callG Try.prog ENV (n + 1) 18 [a0, a1, a2, a3] H fl = s_triuneref15_Items n H fl a0 a1 a2 a3 := by kernel_rfl

/-! triune/triuneref15.Same -/
def s_triuneref15_Same_I0 (x0 x1 x5 : DV) : List DV := [x0, x1, .any, .any, .any, x5, .any, .any, .any, .any, .any, .any, .any, .any, .any, .any, .any, .any, .any, .any, .any, .any, .any, .any, .any, .any]
def s_triuneref15_Same_O0 (x4 : DV) : List DV := [.any, .any, .any, .any, x4, .any, .any, .any, .any, .any, .any, .any, .any, .any, .any, .any, .any, .any, .any, .any, .any, .any, .any, .any, .any, .any]
noncomputable abbrev s_triuneref15_Same_b0 (n fl : Nat) : List DV → Heap → (Ex → KF) → R := execG ⟨Try.prog, callG Try.prog ENV n, ENV.md, fl, 26⟩ n (loopAt (bodyOf Try.f19) 0) []
noncomputable def s_triuneref15_Same_B0 (n fl : Nat) (rec : DV → DV → DV → Heap → R) (k : Ex → KF) (x0 x1 x5 : DV) (H : Heap) : R :=
  bi (lenD x0) fun d0 =>
  bi (ltK .i64 x5 d0) fun d1 =>
  condR d1 (
  bi (idxSl 2 x0 x5) fun d2 =>
  bi (loadG true 2 d2 H) fun d3 =>
  bi (idxSl 2 x1 x5) fun d4 =>
  bi (loadG true 2 d4 H) fun d5 =>
  bi (binD Try.prog .neq 116 (.tmp 20) (.tmp 24) d3 d5) fun d6 =>
  condR d6 (
  k .ret (s_triuneref15_Same_O0 (Bo false)) H) (
  bi (addK .i64 x5 (I .i64 1)) fun d7 =>
  rec x0 x1 d7 H)) (
  k (.exit 0) (s_triuneref15_Same_O0 .any) H)
noncomputable def s_triuneref15_Same_L0 (n fl : Nat) (k : Ex → KF) : Nat → DV → DV → DV → Heap → R
  | 0, _, _, _, _ => none
  | m + 1, x0, x1, x5, H => s_triuneref15_Same_B0 n fl (s_triuneref15_Same_L0 n fl k m) k x0 x1 x5 H
theorem s_triuneref15_Same_S0 (n fl m : Nat) (k : Ex → KF) (x0 x1 x5 : DV) (H : Heap) : loopG [0, 1, 5] [4] 26 (s_triuneref15_Same_b0 n fl) (m + 1) (s_triuneref15_Same_I0 x0 x1 x5) H k = s_triuneref15_Same_B0 n fl (fun x0 x1 x5 H => loopG [0, 1, 5] [4] 26 (s_triuneref15_Same_b0 n fl) m (s_triuneref15_Same_I0 x0 x1 x5) H k) k x0 x1 x5 H := by kernel_rfl
theorem s_triuneref15_Same_L0_eq (n fl : Nat) (k : Ex → KF) : ∀ (m : Nat) (x0 x1 x5 : DV) (H : Heap), loopG [0, 1, 5] [4] 26 (s_triuneref15_Same_b0 n fl) m (s_triuneref15_Same_I0 x0 x1 x5) H k = s_triuneref15_Same_L0 n fl k m x0 x1 x5 H := by
  intro m
  induction m with
  | zero => intros; rfl
  | succ m ih =>
    intro x0 x1 x5 H
    rw [s_triuneref15_Same_S0, show (fun x0 x1 x5 H => loopG [0, 1, 5] [4] 26 (s_triuneref15_Same_b0 n fl) m (s_triuneref15_Same_I0 x0 x1 x5) H k) = s_triuneref15_Same_L0 n fl k m from by funext x0 x1 x5 H; exact ih _ _ _ _]
    rw [s_triuneref15_Same_L0]
noncomputable def s_triuneref15_Same (n : Nat) (H : Heap) (fl : Nat) (a0 a1 : DV) : R :=
  bi (lenD a0) fun d0 =>
  bi (lenD a1) fun d1 =>
  bi (neK .i64 d0 d1) fun d2 =>
  condR d2 (
  some ((Bo false), H)) (
  loopG [0, 1, 5] [4] 26 (s_triuneref15_Same_b0 n fl) n (s_triuneref15_Same_I0 a0 a1 (I .i64 0)) H fun x S3 h3 => match x with
  | .normal => none
  | .exit i3 => (
  if i3 = 0 then (
  some ((Bo true), h3)) else (
  none))
  | .ret => (
  some ((S3.getD 4 .any), h3)))
theorem s_triuneref15_Same_eq (n : Nat) (H : Heap) (fl : Nat) (a0 a1 : DV) : callG Try.prog ENV (n + 1) 19 [a0, a1] H fl = s_triuneref15_Same n H fl a0 a1 := by kernel_rfl

/-! triune/triunelaw15.own -/
def s_triunelaw15_own_I0 (x0 x3 x4 : DV) : List DV := [x0, .any, .any, x3, x4, .any, .any, .any, .any, .any, .any, .any, .any, .any, .any, .any, .any, .any, .any]
def s_triunelaw15_own_O0 (x3 : DV) : List DV := [.any, .any, .any, x3, .any, .any, .any, .any, .any, .any, .any, .any, .any, .any, .any, .any, .any, .any, .any]
noncomputable abbrev s_triunelaw15_own_b0 (n fl : Nat) : List DV → Heap → (Ex → KF) → R := execG ⟨Try.prog, callG Try.prog ENV n, ENV.md, fl, 19⟩ n (loopAt (bodyOf Try.f20) 0) []
noncomputable def s_triunelaw15_own_B0 (n fl : Nat) (rec : DV → DV → DV → Heap → R) (k : Ex → KF) (x0 x3 x4 : DV) (H : Heap) : R :=
  bi (lenD x0) fun d0 =>
  bi (ltK .i64 x4 d0) fun d1 =>
  condR d1 (
  bi (idxSl 2 x0 x4) fun d2 =>
  bi (loadG true 2 d2 H) fun d3 =>
  bi (buildL true 2 1 (.agg [(I .i64 0), (I .u16 0)]) [(0, d3)]) fun d4 =>
  bi (appG 116 true 2 16 x3 d4 H fl) fun p5 =>
  bi (addK .i64 x4 (I .i64 1)) fun d6 =>
  rec x0 p5.1 d6 p5.2) (
  k (.exit 0) (s_triunelaw15_own_O0 x3) H)
noncomputable def s_triunelaw15_own_L0 (n fl : Nat) (k : Ex → KF) : Nat → DV → DV → DV → Heap → R
  | 0, _, _, _, _ => none
  | m + 1, x0, x3, x4, H => s_triunelaw15_own_B0 n fl (s_triunelaw15_own_L0 n fl k m) k x0 x3 x4 H
theorem s_triunelaw15_own_S0 (n fl m : Nat) (k : Ex → KF) (x0 x3 x4 : DV) (H : Heap) : loopG [0, 3, 4] [3] 19 (s_triunelaw15_own_b0 n fl) (m + 1) (s_triunelaw15_own_I0 x0 x3 x4) H k = s_triunelaw15_own_B0 n fl (fun x0 x3 x4 H => loopG [0, 3, 4] [3] 19 (s_triunelaw15_own_b0 n fl) m (s_triunelaw15_own_I0 x0 x3 x4) H k) k x0 x3 x4 H := by kernel_rfl
theorem s_triunelaw15_own_L0_eq (n fl : Nat) (k : Ex → KF) : ∀ (m : Nat) (x0 x3 x4 : DV) (H : Heap), loopG [0, 3, 4] [3] 19 (s_triunelaw15_own_b0 n fl) m (s_triunelaw15_own_I0 x0 x3 x4) H k = s_triunelaw15_own_L0 n fl k m x0 x3 x4 H := by
  intro m
  induction m with
  | zero => intros; rfl
  | succ m ih =>
    intro x0 x3 x4 H
    rw [s_triunelaw15_own_S0, show (fun x0 x3 x4 H => loopG [0, 3, 4] [3] 19 (s_triunelaw15_own_b0 n fl) m (s_triunelaw15_own_I0 x0 x3 x4) H k) = s_triunelaw15_own_L0 n fl k m from by funext x0 x3 x4 H; exact ih _ _ _ _]
    rw [s_triunelaw15_own_L0]
noncomputable def s_triunelaw15_own (n : Nat) (H : Heap) (fl : Nat) (a0 : DV) : R :=
  loopG [0, 3, 4] [3] 19 (s_triunelaw15_own_b0 n fl) n (s_triunelaw15_own_I0 a0 (.list 0 [] .ti) (I .i64 0)) H fun x S0 h0 => match x with
  | .normal => none
  | .exit i0 => (
  if i0 = 0 then (
  some ((S0.getD 3 .any), h0)) else (
  none))
  | .ret => (
  some (.any, h0))
theorem s_triunelaw15_own_eq (n : Nat) (H : Heap) (fl : Nat) (a0 : DV) : callG Try.prog ENV (n + 1) 20 [a0] H fl = s_triunelaw15_own n H fl a0 := by kernel_rfl

/-! triune/bank.Order -/
noncomputable def s_bank_Order (n : Nat) (H : Heap) (fl : Nat) (a0 a1 a2 a3 : DV) : R :=
  bi (neK .i64 a1 (I .i64 0)) fun d0 =>
  bi (wantF d0 false (some a2)) fun d1 =>
  bi (wantF d0 false (neK .i64 d1 (I .i64 9500))) fun d2 =>
  bi (pickD d0 (Bo true) d2) fun d3 =>
  bi (wantF d3 false (some a3)) fun d4 =>
  bi (wantF d3 false (lenD d4)) fun d5 =>
  bi (wantF d3 false (neK .i64 d5 (I .i64 1))) fun d6 =>
  bi (pickD d3 (Bo true) d6) fun d7 =>
  condR d7 (
  some ((.tup [(I .i64 0), (I .i64 (-1))]), H)) (
  bi (idxSl 1 a3 (I .i64 0)) fun d8 =>
  bi (loadG false 1 d8 H) fun d9 =>
  bi (eqK .u16 d9 a0) fun d10 =>
  condR d10 (
  some ((.tup [(I .i64 1), (I .i64 (-1))]), H)) (
   bi (geK .u16 d9 (I .u16 21504)) fun d11 =>
   bi (wantF d11 true (some d9)) fun d12 =>
   bi (wantF d11 true (ltK .u16 d12 (I .u16 21507))) fun d13 =>
   bi (pickD d11 d13 (Bo false)) fun d14 =>
   condR d14 (
    bi (subK .u16 d9 (I .u16 21504)) fun d15 =>
    bi (cvK .i64 d15) fun d16 =>
  some ((.tup [(I .i64 2), d16]), H)) (
  some ((.tup [(I .i64 3), (I .i64 (-1))]), H))))
theorem s_bank_Order_eq (n : Nat) (H : Heap) (fl : Nat) (a0 a1 a2 a3 : DV) : callG Try.prog ENV (n + 1) 21 [a0, a1, a2, a3] H fl = s_bank_Order n H fl a0 a1 a2 a3 := by kernel_rfl

/-! triune/triuneref15.Order -/
noncomputable def s_triuneref15_Order (n : Nat) (H : Heap) (fl : Nat) (a0 a1 a2 a3 : DV) : R :=
  bi (neK .i64 a1 (I .i64 0)) fun d0 =>
  bi (wantF d0 false (some a2)) fun d1 =>
  bi (wantF d0 false (neK .i64 d1 (I .i64 9500))) fun d2 =>
  bi (pickD d0 (Bo true) d2) fun d3 =>
  bi (wantF d3 false (some a3)) fun d4 =>
  bi (wantF d3 false (lenD d4)) fun d5 =>
  bi (wantF d3 false (neK .i64 d5 (I .i64 1))) fun d6 =>
  bi (pickD d3 (Bo true) d6) fun d7 =>
  condR d7 (
  some ((.tup [(I .i64 0), (I .i64 (-1))]), H)) (
  bi (idxSl 1 a3 (I .i64 0)) fun d8 =>
  bi (loadG false 1 d8 H) fun d9 =>
  bi (eqK .u16 d9 a0) fun d10 =>
  condR d10 (
  some ((.tup [(I .i64 1), (I .i64 (-1))]), H)) (
  bi (idxSl 1 a3 (I .i64 0)) fun d11 =>
  bi (loadG false 1 d11 H) fun d12 =>
  bi (geK .u16 d12 (I .u16 21504)) fun d13 =>
  bi (wantF d13 true (some a3)) fun d14 =>
  bi (wantF d13 true (idxSl 1 d14 (I .i64 0))) fun d15 =>
  bi (wantF d13 true (loadG false 1 d15 H)) fun d16 =>
  bi (wantF d13 true (leK .u16 d16 (I .u16 21506))) fun d17 =>
  bi (pickD d13 d17 (Bo false)) fun d18 =>
  condR d18 (
   bi (idxSl 1 a3 (I .i64 0)) fun d19 =>
   bi (loadG false 1 d19 H) fun d20 =>
   bi (cvK .i64 d20) fun d21 =>
   bi (subK .i64 d21 (I .i64 21504)) fun d22 =>
  some ((.tup [(I .i64 2), d22]), H)) (
  some ((.tup [(I .i64 3), (I .i64 (-1))]), H))))
theorem s_triuneref15_Order_eq (n : Nat) (H : Heap) (fl : Nat) (a0 a1 a2 a3 : DV) : callG Try.prog ENV (n + 1) 22 [a0, a1, a2, a3] H fl = s_triuneref15_Order n H fl a0 a1 a2 a3 := by kernel_rfl

end Go.Proofs.Ytigfninpflemnab
