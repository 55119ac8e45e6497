/- Go functions as Lean functions on deep values; printed by a program of mine. -/
import Derived.Test.YtigfninpflemnabEnv
namespace Go.Proofs.Ytigfninpflemnab
open Go
set_option maxRecDepth 100000
set_option linter.unusedVariables false
/-! (*triune/modes.Modes).Round -/
def s___modes_Modes__Round_I0 (x0 x3 x4 x13 x14 : DV) : List DV := [x0, .any, .any, x3, x4, .any, .any, .any, .any, .any, .any, .any, .any, x13, x14, .any, .any, .any, .any, .any, .any, .any, .any, .any, .any, .any, .any, .any, .any, .any, .any, .any, .any, .any, .any, .any, .any, .any, .any, .any, .any, .any, .any, .any, .any, .any, .any, .any, .any, .any, .any, .any, .any, .any, .any, .any, .any, .any, .any, .any, .any, .any, .any, .any, .any, .any, .any, .any, .any, .any, .any, .any, .any, .any, .any, .any, .any, .any, .any, .any, .any, .any, .any, .any, .any, .any, .any, .any, .any, .any, .any, .any, .any, .any, .any, .any, .any, .any]
def s___modes_Modes__Round_O0 (x0 x3 x4 : DV) : List DV := [x0, .any, .any, x3, x4, .any, .any, .any, .any, .any, .any, .any, .any, .any, .any, .any, .any, .any, .any, .any, .any, .any, .any, .any, .any, .any, .any, .any, .any, .any, .any, .any, .any, .any, .any, .any, .any, .any, .any, .any, .any, .any, .any, .any, .any, .any, .any, .any, .any, .any, .any, .any, .any, .any, .any, .any, .any, .any, .any, .any, .any, .any, .any, .any, .any, .any, .any, .any, .any, .any, .any, .any, .any, .any, .any, .any, .any, .any, .any, .any, .any, .any, .any, .any, .any, .any, .any, .any, .any, .any, .any, .any, .any, .any, .any, .any, .any, .any]
noncomputable abbrev s___modes_Modes__Round_b0 (n fl : Nat) : List DV → Heap → (Ex → KF) → R := execG ⟨Try.prog, callG Try.prog ENV n, ENV.md, fl, 98⟩ n (loopAt (bodyOf Try.f34) 0) []
noncomputable def s___modes_Modes__Round_B0 (n fl : Nat) (rec : DV → DV → DV → DV → DV → Heap → R) (k : Ex → KF) (x0 x3 x4 x13 x14 : DV) (H : Heap) : R :=
  bi (ltK .i64 x14 (I .i64 3)) fun d0 =>
  condR d0 (
  bi (idxV false 1 3 x13 x14) fun d1 =>
  bi (notD d1) fun d2 =>
  condR d2 (
  bi (addK .i64 x14 (I .i64 1)) fun d3 =>
  rec x0 x3 x4 x13 d3 H) (
  bi (fieldD 0 3 x3) fun d4 =>
  bi (idxArr 3 1 d4 x14) fun d5 =>
  bi (loadG false 1 d5 H) fun d6 =>
  bi (nilD x4) fun d7 =>
  bi (fieldD 3 3 d7) fun d8 =>
  bi (idxArr 3 1 d8 x14) fun d9 =>
  bi (loadG false 1 d9 H) fun d10 =>
  bi (cP n 62 false [d6, d10]) fun d11 =>
  bi (nilD x4) fun d12 =>
  bi (fieldD 3 3 d12) fun d13 =>
  bi (idxArr 3 1 d13 x14) fun d14 =>
  bi (storeG 1 d14 d11 H fl) fun h15 =>
  bi (nilD x4) fun d16 =>
  bi (fieldD 3 3 d16) fun d17 =>
  bi (idxArr 3 1 d17 x14) fun d18 =>
  bi (loadG false 1 d18 h15) fun d19 =>
  bi (nilD x0) fun d20 =>
  bi (fieldD 0 1 d20) fun d21 =>
  bi (loadG false 1 d21 h15) fun d22 =>
  bi (geK .i64 d19 d22) fun d23 =>
  condR d23 (
   bi (nilD x4) fun d24 =>
   bi (fieldD 0 3 d24) fun d25 =>
   bi (idxArr 3 1 d25 x14) fun d26 =>
   bi (storeG 1 d26 (Bo false) h15 fl) fun h27 =>
   bi (nilD x4) fun d28 =>
   bi (fieldD 6 3 d28) fun d29 =>
   bi (idxArr 3 1 d29 x14) fun d30 =>
   bi (loadG false 1 d30 h27) fun d31 =>
   bi (orK .i64 d31 (I .i64 1)) fun d32 =>
   bi (nilD x4) fun d33 =>
   bi (fieldD 6 3 d33) fun d34 =>
   bi (idxArr 3 1 d34 x14) fun d35 =>
   bi (storeG 1 d35 d32 h27 fl) fun h36 =>
  bi (addK .i64 x14 (I .i64 1)) fun d37 =>
  rec x0 x3 x4 x13 d37 h36) (
  bi (addK .i64 x14 (I .i64 1)) fun d38 =>
  rec x0 x3 x4 x13 d38 h15))) (
  k (.exit 0) (s___modes_Modes__Round_O0 x0 x3 x4) H)
noncomputable def s___modes_Modes__Round_L0 (n fl : Nat) (k : Ex → KF) : Nat → DV → DV → DV → DV → DV → Heap → R
  | 0, _, _, _, _, _, _ => none
  | m + 1, x0, x3, x4, x13, x14, H => s___modes_Modes__Round_B0 n fl (s___modes_Modes__Round_L0 n fl k m) k x0 x3 x4 x13 x14 H
theorem s___modes_Modes__Round_S0 (n fl m : Nat) (k : Ex → KF) (x0 x3 x4 x13 x14 : DV) (H : Heap) : loopG [0, 3, 4, 13, 14] [0, 3, 4] 98 (s___modes_Modes__Round_b0 n fl) (m + 1) (s___modes_Modes__Round_I0 x0 x3 x4 x13 x14) H k = s___modes_Modes__Round_B0 n fl (fun x0 x3 x4 x13 x14 H => loopG [0, 3, 4, 13, 14] [0, 3, 4] 98 (s___modes_Modes__Round_b0 n fl) m (s___modes_Modes__Round_I0 x0 x3 x4 x13 x14) H k) k x0 x3 x4 x13 x14 H := by kernel_rfl
theorem s___modes_Modes__Round_L0_eq (n fl : Nat) (k : Ex → KF) : ∀ (m : Nat) (x0 x3 x4 x13 x14 : DV) (H : Heap), loopG [0, 3, 4, 13, 14] [0, 3, 4] 98 (s___modes_Modes__Round_b0 n fl) m (s___modes_Modes__Round_I0 x0 x3 x4 x13 x14) H k = s___modes_Modes__Round_L0 n fl k m x0 x3 x4 x13 x14 H := by
  intro m
  induction m with
  | zero => intros; rfl
  | succ m ih =>
    intro x0 x3 x4 x13 x14 H
    rw [s___modes_Modes__Round_S0, show (fun x0 x3 x4 x13 x14 H => loopG [0, 3, 4, 13, 14] [0, 3, 4] 98 (s___modes_Modes__Round_b0 n fl) m (s___modes_Modes__Round_I0 x0 x3 x4 x13 x14) H k) = s___modes_Modes__Round_L0 n fl k m from by funext x0 x3 x4 x13 x14 H; exact ih _ _ _ _ _ _]
    rw [s___modes_Modes__Round_L0]
noncomputable def s___modes_Modes__Round (n : Nat) (H : Heap) (fl : Nat) (a0 a1 : DV) : R :=
  bi (allocG 62 a1 (List.length H) (H ++ [.hole])) fun h0 =>
  bi (nilD a0) fun d1 =>
  bi (fieldD 1 12 d1) fun d2 =>
  bi (nilD d2) fun d3 =>
  bi (fieldD 0 3 d3) fun d4 =>
  bi (loadG true 3 d4 h0) fun d5 =>
  loopG [0, 3, 4, 13, 14] [0, 3, 4] 98 (s___modes_Modes__Round_b0 n fl) n (s___modes_Modes__Round_I0 a0 (.ptr (List.length H) 0) d2 d5 (I .i64 0)) h0 fun x S6 h6 => match x with
  | .normal => none
  | .exit i6 => (
  if i6 = 0 then (
  bi (fieldD 3 1 (S6.getD 3 .any)) fun d7 =>
  bi (loadG false 1 d7 h6) fun d8 =>
  bi (nilD (S6.getD 4 .any)) fun d9 =>
  bi (fieldD 9 1 d9) fun d10 =>
  bi (loadG false 1 d10 h6) fun d11 =>
  bi (cP n 62 false [d8, d11]) fun d12 =>
  bi (nilD (S6.getD 4 .any)) fun d13 =>
  bi (fieldD 9 1 d13) fun d14 =>
  bi (storeG 1 d14 d12 h6 fl) fun h15 =>
  bi (nilD (S6.getD 4 .any)) fun d16 =>
  bi (fieldD 11 1 d16) fun d17 =>
  bi (loadG false 1 d17 h15) fun d18 =>
  bi (wantF d18 false (some (S6.getD 4 .any))) fun d19 =>
  bi (wantF d18 false (nilD d19)) fun d20 =>
  bi (wantF d18 false (fieldD 9 1 d20)) fun d21 =>
  bi (wantF d18 false (loadG false 1 d21 h15)) fun d22 =>
  bi (wantF d18 false (some (S6.getD 0 .any))) fun d23 =>
  bi (wantF d18 false (nilD d23)) fun d24 =>
  bi (wantF d18 false (fieldD 0 1 d24)) fun d25 =>
  bi (wantF d18 false (loadG false 1 d25 h15)) fun d26 =>
  bi (wantF d18 false (geK .i64 d22 d26)) fun d27 =>
  bi (pickD d18 (Bo true) d27) fun d28 =>
  bi (wantF d28 false (some (S6.getD 4 .any))) fun d29 =>
  bi (wantF d28 false (nilD d29)) fun d30 =>
  bi (wantF d28 false (loadG true 12 d30 h15)) fun d31 =>
  bi (wantF d28 false (cP n 61 false [d31])) fun d32 =>
  bi (wantF d28 false (ltK .i64 d32 (I .i64 2))) fun d33 =>
  bi (pickD d28 (Bo true) d33) fun d34 =>
  bi (nilD (S6.getD 4 .any)) fun d35 =>
  bi (fieldD 11 1 d35) fun d36 =>
  bi (storeG 1 d36 d34 h15 fl) fun h37 =>
  some ((.tup []), h37)) else (
  none))
  | .ret => (
  some ((.tup []), h6))
theorem s___modes_Modes__Round_eq (n : Nat) (H : Heap) (fl : Nat) (a0 a1 : DV) : callG Try.prog ENV (n + 1) 34 [a0, a1] H fl = s___modes_Modes__Round n H fl a0 a1 := by kernel_rfl

/-! (triune/modes.State).many -/
def s__modes_State__many_I0 (x3 x7 x8 : DV) : List DV := [.any, .any, .any, x3, .any, .any, .any, x7, x8, .any, .any, .any, .any, .any, .any, .any]
def s__modes_State__many_O0 (x3 : DV) : List DV := [.any, .any, .any, x3, .any, .any, .any, .any, .any, .any, .any, .any, .any, .any, .any, .any]
noncomputable abbrev s__modes_State__many_b0 (n fl : Nat) : List DV → Heap → (Ex → KF) → R := execG ⟨Try.prog, callG Try.prog ENV n, ENV.md, fl, 16⟩ n (loopAt (bodyOf Try.f61) 0) []
noncomputable def s__modes_State__many_B0 (n fl : Nat) (rec : DV → DV → DV → Heap → R) (k : Ex → KF) (x3 x7 x8 : DV) (H : Heap) : R :=
  bi (ltK .i64 x8 (I .i64 3)) fun d0 =>
  condR d0 (
  bi (idxV false 1 3 x7 x8) fun d1 =>
  condR d1 (
   bi (addK .i64 x3 (I .i64 1)) fun d2 =>
  bi (addK .i64 x8 (I .i64 1)) fun d3 =>
  rec d2 x7 d3 H) (
  bi (addK .i64 x8 (I .i64 1)) fun d4 =>
  rec x3 x7 d4 H)) (
  k (.exit 0) (s__modes_State__many_O0 x3) H)
noncomputable def s__modes_State__many_L0 (n fl : Nat) (k : Ex → KF) : Nat → DV → DV → DV → Heap → R
  | 0, _, _, _, _ => none
  | m + 1, x3, x7, x8, H => s__modes_State__many_B0 n fl (s__modes_State__many_L0 n fl k m) k x3 x7 x8 H
theorem s__modes_State__many_S0 (n fl m : Nat) (k : Ex → KF) (x3 x7 x8 : DV) (H : Heap) : loopG [3, 7, 8] [3] 16 (s__modes_State__many_b0 n fl) (m + 1) (s__modes_State__many_I0 x3 x7 x8) H k = s__modes_State__many_B0 n fl (fun x3 x7 x8 H => loopG [3, 7, 8] [3] 16 (s__modes_State__many_b0 n fl) m (s__modes_State__many_I0 x3 x7 x8) H k) k x3 x7 x8 H := by kernel_rfl
theorem s__modes_State__many_L0_eq (n fl : Nat) (k : Ex → KF) : ∀ (m : Nat) (x3 x7 x8 : DV) (H : Heap), loopG [3, 7, 8] [3] 16 (s__modes_State__many_b0 n fl) m (s__modes_State__many_I0 x3 x7 x8) H k = s__modes_State__many_L0 n fl k m x3 x7 x8 H := by
  intro m
  induction m with
  | zero => intros; rfl
  | succ m ih =>
    intro x3 x7 x8 H
    rw [s__modes_State__many_S0, show (fun x3 x7 x8 H => loopG [3, 7, 8] [3] 16 (s__modes_State__many_b0 n fl) m (s__modes_State__many_I0 x3 x7 x8) H k) = s__modes_State__many_L0 n fl k m from by funext x3 x7 x8 H; exact ih _ _ _ _]
    rw [s__modes_State__many_L0]
noncomputable def s__modes_State__many (n : Nat) (H : Heap) (fl : Nat) (a0 : DV) : R :=
  bi (allocG 72 a0 (List.length H) (H ++ [.hole])) fun h0 =>
  bi (loadG true 3 (.ptr (List.length H) 0) h0) fun d1 =>
  loopG [3, 7, 8] [3] 16 (s__modes_State__many_b0 n fl) n (s__modes_State__many_I0 (I .i64 0) d1 (I .i64 0)) h0 fun x S2 h2 => match x with
  | .normal => none
  | .exit i2 => (
  if i2 = 0 then (
  some ((S2.getD 3 .any), h2)) else (
  none))
  | .ret => (
  some (.any, h2))
theorem s__modes_State__many_eq (n : Nat) (H : Heap) (fl : Nat) (a0 : DV) : callG Try.prog ENV (n + 1) 61 [a0] H fl = s__modes_State__many n H fl a0 := by kernel_rfl

/-! triune/modes.more -/
noncomputable def s_modes_more (n : Nat) (H : Heap) (fl : Nat) (a0 a1 : DV) : R :=
  condR a0 (
   bi (addK .i64 a1 (I .i64 1)) fun d0 =>
  some (d0, H)) (
  some ((I .i64 0), H))
theorem s_modes_more_eq (n : Nat) (H : Heap) (fl : Nat) (a0 a1 : DV) : callG Try.prog ENV (n + 1) 62 [a0, a1] H fl = s_modes_more n H fl a0 a1 := by kernel_rfl

end Go.Proofs.Ytigfninpflemnab
