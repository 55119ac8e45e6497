/- Go functions as Lean functions on deep values; printed by a program of mine. -/
import Derived.Test.YtigfninpflemnabEnv
namespace Go.Proofs.Ytigfninpflemnab
open Go
set_option maxRecDepth 100000
set_option linter.unusedVariables false
/-! triune/triunelaw14.ModesFall -/
def s_triunelaw14_ModesFall_I1 (x1 x5 x6 x8 x10 x11 x13 x14 : DV) : List DV := [.any, x1, .any, .any, .any, x5, x6, .any, x8, .any, x10, x11, .any, x13, x14, .any, .any, .any, .any, .any, .any, .any, .any, .any, .any, .any, .any, .any, .any, .any, .any, .any, .any, .any, .any, .any, .any, .any, .any, .any, .any, .any, .any, .any, .any, .any, .any, .any, .any, .any, .any, .any, .any, .any, .any, .any, .any, .any, .any, .any, .any, .any, .any, .any, .any, .any, .any, .any, .any, .any, .any, .any, .any, .any, .any, .any, .any, .any, .any, .any, .any, .any, .any, .any, .any, .any, .any, .any, .any, .any, .any, .any, .any, .any, .any, .any, .any, .any, .any, .any, .any, .any, .any, .any, .any, .any, .any, .any, .any, .any, .any, .any, .any, .any, .any, .any, .any, .any, .any, .any, .any, .any, .any, .any, .any, .any, .any, .any, .any, .any, .any, .any, .any, .any]
def s_triunelaw14_ModesFall_O1 (x1 x4 x5 x6 x8 x10 : DV) : List DV := [.any, x1, .any, .any, x4, x5, x6, .any, x8, .any, x10, .any, .any, .any, .any, .any, .any, .any, .any, .any, .any, .any, .any, .any, .any, .any, .any, .any, .any, .any, .any, .any, .any, .any, .any, .any, .any, .any, .any, .any, .any, .any, .any, .any, .any, .any, .any, .any, .any, .any, .any, .any, .any, .any, .any, .any, .any, .any, .any, .any, .any, .any, .any, .any, .any, .any, .any, .any, .any, .any, .any, .any, .any, .any, .any, .any, .any, .any, .any, .any, .any, .any, .any, .any, .any, .any, .any, .any, .any, .any, .any, .any, .any, .any, .any, .any, .any, .any, .any, .any, .any, .any, .any, .any, .any, .any, .any, .any, .any, .any, .any, .any, .any, .any, .any, .any, .any, .any, .any, .any, .any, .any, .any, .any, .any, .any, .any, .any, .any, .any, .any, .any, .any, .any]
noncomputable abbrev s_triunelaw14_ModesFall_b1 (n fl : Nat) : List DV → Heap → (Ex → KF) → R := execG ⟨Try.prog, callG Try.prog ENV n, ENV.md, fl, 134⟩ n (loopAt (bodyOf Try.f6) 1) []
noncomputable def s_triunelaw14_ModesFall_B1 (n fl : Nat) (rec : DV → DV → DV → DV → DV → DV → DV → DV → Heap → R) (k : Ex → KF) (x1 x5 x6 x8 x10 x11 x13 x14 : DV) (H : Heap) : R :=
  bi (ltK .i64 x14 (I .i64 3)) fun d0 =>
  condR d0 (
  bi (fieldD 0 3 x13) fun d1 =>
  bi (idxArr 3 1 d1 x14) fun d2 =>
  bi (loadG false 1 d2 H) fun d3 =>
  bi (wantF d3 true (some x14)) fun d4 =>
  bi (wantF d3 true (fieldD 0 3 x11)) fun d5 =>
  bi (wantF d3 true (idxArr 3 1 d5 d4)) fun d6 =>
  bi (wantF d3 true (loadG false 1 d6 H)) fun d7 =>
  bi (wantF d3 true (notD d7)) fun d8 =>
  bi (pickD d3 d8 (Bo false)) fun d9 =>
  bi (wantF d9 false (some x14)) fun d10 =>
  bi (wantF d9 false (fieldD 6 3 x11)) fun d11 =>
  bi (wantF d9 false (idxArr 3 1 d11 d10)) fun d12 =>
  bi (wantF d9 false (loadG false 1 d12 H)) fun d13 =>
  bi (wantF d9 false (remK .i64 d13 (I .i64 2))) fun d14 =>
  bi (wantF d9 false (some x14)) fun d15 =>
  bi (wantF d9 false (fieldD 6 3 x13)) fun d16 =>
  bi (wantF d9 false (idxArr 3 1 d16 d15)) fun d17 =>
  bi (wantF d9 false (loadG false 1 d17 H)) fun d18 =>
  bi (wantF d9 false (remK .i64 d18 (I .i64 2))) fun d19 =>
  bi (wantF d9 false (gtK .i64 d14 d19)) fun d20 =>
  bi (pickD d9 (Bo true) d20) fun d21 =>
  bi (wantF d21 false (some x14)) fun d22 =>
  bi (wantF d21 false (fieldD 6 3 x11)) fun d23 =>
  bi (wantF d21 false (idxArr 3 1 d23 d22)) fun d24 =>
  bi (wantF d21 false (loadG false 1 d24 H)) fun d25 =>
  bi (wantF d21 false (quoK .i64 d25 (I .i64 2))) fun d26 =>
  bi (wantF d21 false (some x14)) fun d27 =>
  bi (wantF d21 false (fieldD 6 3 x13)) fun d28 =>
  bi (wantF d21 false (idxArr 3 1 d28 d27)) fun d29 =>
  bi (wantF d21 false (loadG false 1 d29 H)) fun d30 =>
  bi (wantF d21 false (quoK .i64 d30 (I .i64 2))) fun d31 =>
  bi (wantF d21 false (gtK .i64 d26 d31)) fun d32 =>
  bi (pickD d21 (Bo true) d32) fun d33 =>
  condR d33 (
  k .ret (s_triunelaw14_ModesFall_O1 x1 (Bo false) x5 x6 x8 x10) H) (
  bi (addK .i64 x14 (I .i64 1)) fun d34 =>
  rec x1 x5 x6 x8 x10 x11 x13 d34 H)) (
  k (.exit 2) (s_triunelaw14_ModesFall_O1 x1 .any x5 x6 x8 x10) H)
noncomputable def s_triunelaw14_ModesFall_L1 (n fl : Nat) (k : Ex → KF) : Nat → DV → DV → DV → DV → DV → DV → DV → DV → Heap → R
  | 0, _, _, _, _, _, _, _, _, _ => none
  | m + 1, x1, x5, x6, x8, x10, x11, x13, x14, H => s_triunelaw14_ModesFall_B1 n fl (s_triunelaw14_ModesFall_L1 n fl k m) k x1 x5 x6 x8 x10 x11 x13 x14 H
theorem s_triunelaw14_ModesFall_S1 (n fl m : Nat) (k : Ex → KF) (x1 x5 x6 x8 x10 x11 x13 x14 : DV) (H : Heap) : loopG [1, 5, 6, 8, 10, 11, 13, 14] [1, 4, 5, 6, 8, 10] 134 (s_triunelaw14_ModesFall_b1 n fl) (m + 1) (s_triunelaw14_ModesFall_I1 x1 x5 x6 x8 x10 x11 x13 x14) H k = s_triunelaw14_ModesFall_B1 n fl (fun x1 x5 x6 x8 x10 x11 x13 x14 H => loopG [1, 5, 6, 8, 10, 11, 13, 14] [1, 4, 5, 6, 8, 10] 134 (s_triunelaw14_ModesFall_b1 n fl) m (s_triunelaw14_ModesFall_I1 x1 x5 x6 x8 x10 x11 x13 x14) H k) k x1 x5 x6 x8 x10 x11 x13 x14 H := by kernel_rfl
theorem s_triunelaw14_ModesFall_L1_eq (n fl : Nat) (k : Ex → KF) : ∀ (m : Nat) (x1 x5 x6 x8 x10 x11 x13 x14 : DV) (H : Heap), loopG [1, 5, 6, 8, 10, 11, 13, 14] [1, 4, 5, 6, 8, 10] 134 (s_triunelaw14_ModesFall_b1 n fl) m (s_triunelaw14_ModesFall_I1 x1 x5 x6 x8 x10 x11 x13 x14) H k = s_triunelaw14_ModesFall_L1 n fl k m x1 x5 x6 x8 x10 x11 x13 x14 H := by
  intro m
  induction m with
  | zero => intros; rfl
  | succ m ih =>
    intro x1 x5 x6 x8 x10 x11 x13 x14 H
    rw [s_triunelaw14_ModesFall_S1, show (fun x1 x5 x6 x8 x10 x11 x13 x14 H => loopG [1, 5, 6, 8, 10, 11, 13, 14] [1, 4, 5, 6, 8, 10] 134 (s_triunelaw14_ModesFall_b1 n fl) m (s_triunelaw14_ModesFall_I1 x1 x5 x6 x8 x10 x11 x13 x14) H k) = s_triunelaw14_ModesFall_L1 n fl k m from by funext x1 x5 x6 x8 x10 x11 x13 x14 H; exact ih _ _ _ _ _ _ _ _ _]
    rw [s_triunelaw14_ModesFall_L1]
def s_triunelaw14_ModesFall_I0 (x1 x5 x6 x8 x10 : DV) : List DV := [.any, x1, .any, .any, .any, x5, x6, .any, x8, .any, x10, .any, .any, .any, .any, .any, .any, .any, .any, .any, .any, .any, .any, .any, .any, .any, .any, .any, .any, .any, .any, .any, .any, .any, .any, .any, .any, .any, .any, .any, .any, .any, .any, .any, .any, .any, .any, .any, .any, .any, .any, .any, .any, .any, .any, .any, .any, .any, .any, .any, .any, .any, .any, .any, .any, .any, .any, .any, .any, .any, .any, .any, .any, .any, .any, .any, .any, .any, .any, .any, .any, .any, .any, .any, .any, .any, .any, .any, .any, .any, .any, .any, .any, .any, .any, .any, .any, .any, .any, .any, .any, .any, .any, .any, .any, .any, .any, .any, .any, .any, .any, .any, .any, .any, .any, .any, .any, .any, .any, .any, .any, .any, .any, .any, .any, .any, .any, .any, .any, .any, .any, .any, .any, .any]
def s_triunelaw14_ModesFall_O0 (x4 x5 : DV) : List DV := [.any, .any, .any, .any, x4, x5, .any, .any, .any, .any, .any, .any, .any, .any, .any, .any, .any, .any, .any, .any, .any, .any, .any, .any, .any, .any, .any, .any, .any, .any, .any, .any, .any, .any, .any, .any, .any, .any, .any, .any, .any, .any, .any, .any, .any, .any, .any, .any, .any, .any, .any, .any, .any, .any, .any, .any, .any, .any, .any, .any, .any, .any, .any, .any, .any, .any, .any, .any, .any, .any, .any, .any, .any, .any, .any, .any, .any, .any, .any, .any, .any, .any, .any, .any, .any, .any, .any, .any, .any, .any, .any, .any, .any, .any, .any, .any, .any, .any, .any, .any, .any, .any, .any, .any, .any, .any, .any, .any, .any, .any, .any, .any, .any, .any, .any, .any, .any, .any, .any, .any, .any, .any, .any, .any, .any, .any, .any, .any, .any, .any, .any, .any, .any, .any]
noncomputable abbrev s_triunelaw14_ModesFall_b0 (n fl : Nat) : List DV → Heap → (Ex → KF) → R := execG ⟨Try.prog, callG Try.prog ENV n, ENV.md, fl, 134⟩ n (loopAt (bodyOf Try.f6) 0) [([1, 5, 6, 8, 10, 11, 13, 14], [1, 4, 5, 6, 8, 10])]
noncomputable def s_triunelaw14_ModesFall_B0 (n fl : Nat) (rec : DV → DV → DV → DV → DV → Heap → R) (k : Ex → KF) (x1 x5 x6 x8 x10 : DV) (H : Heap) : R :=
  bi (lenD x1) fun d0 =>
  bi (ltK .i64 x10 d0) fun d1 =>
  condR d1 (
  bi (cO n 31 [x6] (H ++ [.hole])) fun d2 =>
  bi (allocG 72 (.agg [(Bo false), (Bo false), (Bo false), (I .i64 0), (I .i64 0), (I .i64 0), (I .i64 0), (I .i64 0), (I .i64 0), (I .i64 0), (I .i64 0), (Bo false)]) (List.length H) (H ++ [.hole])) fun h3 =>
  bi (storeG 12 (.ptr (List.length H) 0) d2 h3 fl) fun h4 =>
  bi (idxSl 9 x1 x10) fun d5 =>
  bi (loadG true 9 d5 h4) fun d6 =>
  bi (cW n 26 [x6, d6] h4 fl) fun p7 =>
  bi (cO n 31 [x6] (p7.2 ++ [.hole])) fun d8 =>
  bi (allocG 72 (.agg [(Bo false), (Bo false), (Bo false), (I .i64 0), (I .i64 0), (I .i64 0), (I .i64 0), (I .i64 0), (I .i64 0), (I .i64 0), (I .i64 0), (Bo false)]) (List.length p7.2) (p7.2 ++ [.hole])) fun h9 =>
  bi (storeG 12 (.ptr (List.length p7.2) 0) d8 h9 fl) fun h10 =>
  bi (neK .i64 p7.1 (I .i64 0)) fun d11 =>
  bi (wantF d11 true (loadG true 12 (.ptr (List.length p7.2) 0) h10)) fun d12 =>
  bi (wantF d11 true (loadG true 12 (.ptr (List.length H) 0) h10)) fun d13 =>
  bi (wantF d11 true (binD Try.prog .neq 72 (.tmp 60) (.tmp 61) d12 d13)) fun d14 =>
  bi (pickD d11 d14 (Bo false)) fun d15 =>
  condR d15 (
  k .ret (s_triunelaw14_ModesFall_O0 (Bo false) x5) h10) (
  bi (idxSl 9 x1 x10) fun d16 =>
  bi (fieldD 0 1 d16) fun d17 =>
  bi (loadG false 1 d17 h10) fun d18 =>
  bi (eqK .i64 d18 (I .i64 2)) fun d19 =>
  condR d19 (
   bi (eqK .i64 p7.1 (I .i64 0)) fun d20 =>
   bi (wantF d20 true (loadG true 12 (.ptr (List.length p7.2) 0) h10)) fun d21 =>
   bi (wantF d20 true (some x8)) fun d22 =>
   bi (wantF d20 true (cO n 31 [d22] h10)) fun d23 =>
   bi (wantF d20 true (binD Try.prog .neq 72 (.tmp 73) (.tmp 75) d21 d23)) fun d24 =>
   bi (pickD d20 d24 (Bo false)) fun d25 =>
   condR d25 (
  k .ret (s_triunelaw14_ModesFall_O0 (Bo false) x5) h10) (
  bi (addK .i64 x10 (I .i64 1)) fun d26 =>
  rec x1 x5 x6 x8 d26 h10)) (
  bi (loadG true 12 (.ptr (List.length p7.2) 0) h10) fun d27 =>
  bi (cP n 32 false [d27]) fun d28 =>
  bi (loadG true 12 (.ptr (List.length H) 0) h10) fun d29 =>
  bi (cP n 32 false [d29]) fun d30 =>
  bi (gtK .i64 d28 d30) fun d31 =>
  bi (wantF d31 false (some (.ptr (List.length H) 11))) fun d32 =>
  bi (wantF d31 false (loadG false 1 d32 h10)) fun d33 =>
  bi (wantF d31 false (some d33)) fun d34 =>
  bi (wantF d34 true (some (.ptr (List.length p7.2) 11))) fun d35 =>
  bi (wantF d34 true (loadG false 1 d35 h10)) fun d36 =>
  bi (wantF d34 true (notD d36)) fun d37 =>
  bi (wantF d31 false (pickD d34 d37 (Bo false))) fun d38 =>
  bi (pickD d31 (Bo true) d38) fun d39 =>
  condR d39 (
  k .ret (s_triunelaw14_ModesFall_O0 (Bo false) x5) h10) (
  loopG [1, 5, 6, 8, 10, 11, 13, 14] [1, 4, 5, 6, 8, 10] 134 (s_triunelaw14_ModesFall_b1 n fl) n (s_triunelaw14_ModesFall_I1 x1 x5 x6 x8 x10 (.ptr (List.length H) 0) (.ptr (List.length p7.2) 0) (I .i64 0)) h10 fun x S40 h40 => match x with
  | .normal => none
  | .exit i40 => (
  if i40 = 2 then (
  bi (addK .i64 (S40.getD 10 .any) (I .i64 1)) fun d41 =>
  rec (S40.getD 1 .any) (S40.getD 5 .any) (S40.getD 6 .any) (S40.getD 8 .any) d41 h40) else (
  if i40 = 1 then (
  bi (addK .i64 (S40.getD 10 .any) (I .i64 1)) fun d42 =>
  rec (S40.getD 1 .any) (S40.getD 5 .any) (S40.getD 6 .any) (S40.getD 8 .any) d42 h40) else (
  k (.exit i40) (s_triunelaw14_ModesFall_O0 (S40.getD 4 .any) (S40.getD 5 .any)) h40)))
  | .ret => (
  k .ret (s_triunelaw14_ModesFall_O0 (S40.getD 4 .any) (S40.getD 5 .any)) h40))))) (
  k (.exit 0) (s_triunelaw14_ModesFall_O0 .any x5) H)
noncomputable def s_triunelaw14_ModesFall_L0 (n fl : Nat) (k : Ex → KF) : Nat → DV → DV → DV → DV → DV → Heap → R
  | 0, _, _, _, _, _, _ => none
  | m + 1, x1, x5, x6, x8, x10, H => s_triunelaw14_ModesFall_B0 n fl (s_triunelaw14_ModesFall_L0 n fl k m) k x1 x5 x6 x8 x10 H
theorem s_triunelaw14_ModesFall_S0 (n fl m : Nat) (k : Ex → KF) (x1 x5 x6 x8 x10 : DV) (H : Heap) : loopG [1, 5, 6, 8, 10] [4, 5] 134 (s_triunelaw14_ModesFall_b0 n fl) (m + 1) (s_triunelaw14_ModesFall_I0 x1 x5 x6 x8 x10) H k = s_triunelaw14_ModesFall_B0 n fl (fun x1 x5 x6 x8 x10 H => loopG [1, 5, 6, 8, 10] [4, 5] 134 (s_triunelaw14_ModesFall_b0 n fl) m (s_triunelaw14_ModesFall_I0 x1 x5 x6 x8 x10) H k) k x1 x5 x6 x8 x10 H := by kernel_rfl
theorem s_triunelaw14_ModesFall_L0_eq (n fl : Nat) (k : Ex → KF) : ∀ (m : Nat) (x1 x5 x6 x8 x10 : DV) (H : Heap), loopG [1, 5, 6, 8, 10] [4, 5] 134 (s_triunelaw14_ModesFall_b0 n fl) m (s_triunelaw14_ModesFall_I0 x1 x5 x6 x8 x10) H k = s_triunelaw14_ModesFall_L0 n fl k m x1 x5 x6 x8 x10 H := by
  intro m
  induction m with
  | zero => intros; rfl
  | succ m ih =>
    intro x1 x5 x6 x8 x10 H
    rw [s_triunelaw14_ModesFall_S0, show (fun x1 x5 x6 x8 x10 H => loopG [1, 5, 6, 8, 10] [4, 5] 134 (s_triunelaw14_ModesFall_b0 n fl) m (s_triunelaw14_ModesFall_I0 x1 x5 x6 x8 x10) H k) = s_triunelaw14_ModesFall_L0 n fl k m from by funext x1 x5 x6 x8 x10 H; exact ih _ _ _ _ _ _]
    rw [s_triunelaw14_ModesFall_L0]
noncomputable def s_triunelaw14_ModesFall (n : Nat) (H : Heap) (fl : Nat) (a0 a1 : DV) : R :=
  bi (cP n 23 false []) fun d0 =>
  bi (cK n 24 [a0] H fl) fun p1 =>
  bi (extD 0 p1.1) fun d2 =>
  bi (extD 1 p1.1) fun d3 =>
  bi (cK n 24 [a0] p1.2 fl) fun p4 =>
  bi (extD 0 p4.1) fun d5 =>
  bi (extD 1 p4.1) fun d6 =>
  bi (binD Try.prog .eql 53 (.tmp 26) (.const (.pointer none)) d2 (.flat (.pointer none))) fun d7 =>
  bi (wantF d7 false (some d5)) fun d8 =>
  bi (wantF d7 false (binD Try.prog .eql 53 (.tmp 29) (.const (.pointer none)) d8 (.flat (.pointer none)))) fun d9 =>
  bi (pickD d7 (Bo true) d9) fun d10 =>
  condR d10 (
   bi (wantF d0 true (some d3)) fun d11 =>
   bi (wantF d0 true (eqK .i64 d11 (I .i64 1))) fun d12 =>
   bi (pickD d0 d12 (Bo false)) fun d13 =>
  some (d13, p4.2)) (
  bi (lenD a1) fun d14 =>
  bi (gtK .i64 d14 (I .i64 200)) fun d15 =>
  condR d15 (
  some (d0, p4.2)) (
  loopG [1, 5, 6, 8, 10] [4, 5] 134 (s_triunelaw14_ModesFall_b0 n fl) n (s_triunelaw14_ModesFall_I0 a1 d0 d2 d5 (I .i64 0)) p4.2 fun x S16 h16 => match x with
  | .normal => none
  | .exit i16 => (
  if i16 = 0 then (
  some ((S16.getD 5 .any), h16)) else (
  none))
  | .ret => (
  some ((S16.getD 4 .any), h16))))
theorem s_triunelaw14_ModesFall_eq (n : Nat) (H : Heap) (fl : Nat) (a0 a1 : DV) : callG Try.prog ENV (n + 1) 6 [a0, a1] H fl = s_triunelaw14_ModesFall n H fl a0 a1 := by kernel_rfl

end Go.Proofs.Ytigfninpflemnab
