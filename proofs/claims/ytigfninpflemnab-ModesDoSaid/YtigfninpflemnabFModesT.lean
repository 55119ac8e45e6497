/- Go functions as Lean functions on deep values; printed by a program of mine. -/
import Derived.Test.YtigfninpflemnabEnv
namespace Go.Proofs.Ytigfninpflemnab
open Go
set_option maxRecDepth 100000
set_option linter.unusedVariables false
/-! (*triune/modes.Modes).Test -/
noncomputable def s___modes_Modes__Test (n : Nat) (H : Heap) (fl : Nat) (a0 a1 : DV) : R :=
  bi (cP n 79 false [a1]) fun d0 =>
  bi (notD d0) fun d1 =>
  condR d1 (
  some ((I .i64 1), H)) (
   bi (nilD a0) fun d2 =>
   bi (fieldD 1 12 d2) fun d3 =>
   bi (fieldD 11 1 d3) fun d4 =>
   bi (loadG false 1 d4 H) fun d5 =>
   bi (wantF d5 false (some a0)) fun d6 =>
   bi (wantF d5 false (nilD d6)) fun d7 =>
   bi (wantF d5 false (fieldD 1 12 d7)) fun d8 =>
   bi (wantF d5 false (fieldD 0 3 d8)) fun d9 =>
   bi (wantF d5 false (loadG true 3 d9 H)) fun d10 =>
   bi (wantF d5 false (cP n 78 false [])) fun d11 =>
   bi (wantF d5 false (binD Try.prog .neq 60 (.tmp 20) (.tmp 21) d10 d11)) fun d12 =>
   bi (pickD d5 (Bo true) d12) fun d13 =>
   condR d13 (
  some ((I .i64 8), H)) (
  bi (nilD a0) fun d14 =>
  bi (fieldD 1 12 d14) fun d15 =>
  bi (fieldD 0 3 d15) fun d16 =>
  bi (idxArr 3 1 d16 a1) fun d17 =>
  bi (storeG 1 d17 (Bo false) H fl) fun h18 =>
  bi (nilD a0) fun d19 =>
  bi (fieldD 1 12 d19) fun d20 =>
  bi (fieldD 3 3 d20) fun d21 =>
  bi (idxArr 3 1 d21 a1) fun d22 =>
  bi (storeG 1 d22 (I .i64 0) h18 fl) fun h23 =>
  bi (nilD a0) fun d24 =>
  bi (fieldD 1 12 d24) fun d25 =>
  bi (fieldD 10 1 d25) fun d26 =>
  bi (storeG 1 d26 a1 h23 fl) fun h27 =>
  some ((I .i64 0), h27)))
theorem s___modes_Modes__Test_eq (n : Nat) (H : Heap) (fl : Nat) (a0 a1 : DV) : callG Try.prog ENV (n + 1) 56 [a0, a1] H fl = s___modes_Modes__Test n H fl a0 a1 := by kernel_rfl

/-! (*triune/modes.Modes).Reset -/
def s___modes_Modes__Reset_I0 (x0 x3 x11 x12 : DV) : List DV := [x0, .any, .any, x3, .any, .any, .any, .any, .any, .any, .any, x11, x12, .any, .any, .any, .any, .any, .any, .any, .any, .any, .any, .any, .any, .any, .any, .any, .any, .any, .any, .any]
def s___modes_Modes__Reset_O0 (x0 x3 : DV) : List DV := [x0, .any, .any, x3, .any, .any, .any, .any, .any, .any, .any, .any, .any, .any, .any, .any, .any, .any, .any, .any, .any, .any, .any, .any, .any, .any, .any, .any, .any, .any, .any, .any]
noncomputable abbrev s___modes_Modes__Reset_b0 (n fl : Nat) : List DV → Heap → (Ex → KF) → R := execG ⟨Try.prog, callG Try.prog ENV n, ENV.md, fl, 32⟩ n (loopAt (bodyOf Try.f55) 0) []
noncomputable def s___modes_Modes__Reset_B0 (n fl : Nat) (rec : DV → DV → DV → DV → Heap → R) (k : Ex → KF) (x0 x3 x11 x12 : DV) (H : Heap) : R :=
  bi (ltK .i64 x12 (I .i64 3)) fun d0 =>
  condR d0 (
  bi (idxV false 1 3 x11 x12) fun d1 =>
  bi (idxArr 3 1 x3 x12) fun d2 =>
  bi (loadG false 1 d2 H) fun d3 =>
  bi (wantF d3 false (some d1)) fun d4 =>
  bi (pickD d3 (Bo true) d4) fun d5 =>
  bi (idxArr 3 1 x3 x12) fun d6 =>
  bi (storeG 1 d6 d5 H fl) fun h7 =>
  bi (addK .i64 x12 (I .i64 1)) fun d8 =>
  rec x0 x3 x11 d8 h7) (
  k (.exit 0) (s___modes_Modes__Reset_O0 x0 x3) H)
noncomputable def s___modes_Modes__Reset_L0 (n fl : Nat) (k : Ex → KF) : Nat → DV → DV → DV → DV → Heap → R
  | 0, _, _, _, _, _ => none
  | m + 1, x0, x3, x11, x12, H => s___modes_Modes__Reset_B0 n fl (s___modes_Modes__Reset_L0 n fl k m) k x0 x3 x11 x12 H
theorem s___modes_Modes__Reset_S0 (n fl m : Nat) (k : Ex → KF) (x0 x3 x11 x12 : DV) (H : Heap) : loopG [0, 3, 11, 12] [0, 3] 32 (s___modes_Modes__Reset_b0 n fl) (m + 1) (s___modes_Modes__Reset_I0 x0 x3 x11 x12) H k = s___modes_Modes__Reset_B0 n fl (fun x0 x3 x11 x12 H => loopG [0, 3, 11, 12] [0, 3] 32 (s___modes_Modes__Reset_b0 n fl) m (s___modes_Modes__Reset_I0 x0 x3 x11 x12) H k) k x0 x3 x11 x12 H := by kernel_rfl
theorem s___modes_Modes__Reset_L0_eq (n fl : Nat) (k : Ex → KF) : ∀ (m : Nat) (x0 x3 x11 x12 : DV) (H : Heap), loopG [0, 3, 11, 12] [0, 3] 32 (s___modes_Modes__Reset_b0 n fl) m (s___modes_Modes__Reset_I0 x0 x3 x11 x12) H k = s___modes_Modes__Reset_L0 n fl k m x0 x3 x11 x12 H := by
  intro m
  induction m with
  | zero => intros; rfl
  | succ m ih =>
    intro x0 x3 x11 x12 H
    rw [s___modes_Modes__Reset_S0, show (fun x0 x3 x11 x12 H => loopG [0, 3, 11, 12] [0, 3] 32 (s___modes_Modes__Reset_b0 n fl) m (s___modes_Modes__Reset_I0 x0 x3 x11 x12) H k) = s___modes_Modes__Reset_L0 n fl k m from by funext x0 x3 x11 x12 H; exact ih _ _ _ _ _]
    rw [s___modes_Modes__Reset_L0]
noncomputable def s___modes_Modes__Reset (n : Nat) (H : Heap) (fl : Nat) (a0 a1 : DV) : R :=
  bi (allocG 60 a1 (List.length H) (H ++ [.hole])) fun h0 =>
  bi (nilD a0) fun d1 =>
  bi (fieldD 1 12 d1) fun d2 =>
  bi (fieldD 0 3 d2) fun d3 =>
  bi (loadG true 3 d3 h0) fun d4 =>
  loopG [0, 3, 11, 12] [0, 3] 32 (s___modes_Modes__Reset_b0 n fl) n (s___modes_Modes__Reset_I0 a0 (.ptr (List.length H) 0) d4 (I .i64 0)) h0 fun x S5 h5 => match x with
  | .normal => none
  | .exit i5 => (
  if i5 = 0 then (
  bi (loadG true 3 (S5.getD 3 .any) h5) fun d6 =>
  bi (cP n 78 false []) fun d7 =>
  bi (binD Try.prog .neq 60 (.tmp 25) (.tmp 26) d6 d7) fun d8 =>
  condR d8 (
  some ((I .i64 8), h5)) (
  bi (cP n 58 false []) fun d9 =>
  bi (nilD (S5.getD 0 .any)) fun d10 =>
  bi (fieldD 1 12 d10) fun d11 =>
  bi (storeG 12 d11 d9 h5 fl) fun h12 =>
  some ((I .i64 0), h12))) else (
  none))
  | .ret => (
  some (.any, h5))
theorem s___modes_Modes__Reset_eq (n : Nat) (H : Heap) (fl : Nat) (a0 a1 : DV) : callG Try.prog ENV (n + 1) 55 [a0, a1] H fl = s___modes_Modes__Reset n H fl a0 a1 := by kernel_rfl

/-! (*triune/modes.Modes).Fault -/
noncomputable def s___modes_Modes__Fault (n : Nat) (H : Heap) (fl : Nat) (a0 a1 : DV) : R :=
  bi (cP n 79 false [a1]) fun d0 =>
  bi (notD d0) fun d1 =>
  condR d1 (
  some ((I .i64 1), H)) (
  bi (nilD a0) fun d2 =>
  bi (fieldD 1 12 d2) fun d3 =>
  bi (fieldD 6 3 d3) fun d4 =>
  bi (idxArr 3 1 d4 a1) fun d5 =>
  bi (loadG false 1 d5 H) fun d6 =>
  bi (orK .i64 d6 (I .i64 2)) fun d7 =>
  bi (nilD a0) fun d8 =>
  bi (fieldD 1 12 d8) fun d9 =>
  bi (fieldD 6 3 d9) fun d10 =>
  bi (idxArr 3 1 d10 a1) fun d11 =>
  bi (storeG 1 d11 d7 H fl) fun h12 =>
  some ((I .i64 0), h12))
theorem s___modes_Modes__Fault_eq (n : Nat) (H : Heap) (fl : Nat) (a0 a1 : DV) : callG Try.prog ENV (n + 1) 57 [a0, a1] H fl = s___modes_Modes__Fault n H fl a0 a1 := by kernel_rfl

/-! triune/modes.channel -/
noncomputable def s_modes_channel (n : Nat) (H : Heap) (fl : Nat) (a0 : DV) : R :=
  bi (geK .i64 a0 (I .i64 0)) fun d0 =>
  bi (wantF d0 true (some a0)) fun d1 =>
  bi (wantF d0 true (ltK .i64 d1 (I .i64 3))) fun d2 =>
  bi (pickD d0 d2 (Bo false)) fun d3 =>
  some (d3, H)
theorem s_modes_channel_eq (n : Nat) (H : Heap) (fl : Nat) (a0 : DV) : callG Try.prog ENV (n + 1) 79 [a0] H fl = s_modes_channel n H fl a0 := by kernel_rfl

end Go.Proofs.Ytigfninpflemnab
