/- Go functions as Lean functions on deep values; printed by a program of mine. -/
import Derived.Test.YtigfninpflemnabEnv
namespace Go.Proofs.Ytigfninpflemnab
open Go
set_option maxRecDepth 100000
set_option linter.unusedVariables false
/-! triune/modes.New -/
noncomputable def s_modes_New (n : Nat) (H : Heap) (fl : Nat) (a0 : DV) : R :=
  bi (ltK .i64 a0 (I .i64 1)) fun d0 =>
  bi (wantF d0 false (some a0)) fun d1 =>
  bi (wantF d0 false (gtK .i64 d1 (I .i64 20))) fun d2 =>
  bi (pickD d0 (Bo true) d2) fun d3 =>
  condR d3 (
  some ((.tup [(.flat (.pointer none)), (I .i64 1)]), H)) (
  bi (cP n 58 false []) fun d4 =>
  bi (buildS (.agg [(I .i64 0), (Bo false), (Bo false), (Bo false), (I .i64 0), (I .i64 0), (I .i64 0), (I .i64 0), (I .i64 0), (I .i64 0), (I .i64 0), (I .i64 0), (Bo false)]) [(0, 1), (1, 12)] [(0, a0), (1, d4)]) fun d5 =>
  bi (allocG 118 d5 (List.length H) (H ++ [.hole])) fun h6 =>
  some ((.tup [(.ptr (List.length H) 0), (I .i64 0)]), h6))
theorem s_modes_New_eq (n : Nat) (H : Heap) (fl : Nat) (a0 : DV) : callG Try.prog ENV (n + 1) 24 [a0] H fl = s_modes_New n H fl a0 := by kernel_rfl

/-! triune/modes.Mode -/
noncomputable def s_modes_Mode (n : Nat) (H : Heap) (fl : Nat) (a0 : DV) : R :=
  bi (allocG 72 a0 (List.length H) (H ++ [.hole])) fun h0 =>
  bi (loadG false 1 (.ptr (List.length H) 11) h0) fun d1 =>
  condR d1 (
  some ((I .i64 0), h0)) (
  bi (loadG true 12 (.ptr (List.length H) 0) h0) fun d2 =>
  bi (cP n 61 false [d2]) fun d3 =>
  bi (subK .i64 d3 (I .i64 1)) fun d4 =>
  bi (maxI d4 (I .i64 0)) fun d5 =>
  some (d5, h0))
theorem s_modes_Mode_eq (n : Nat) (H : Heap) (fl : Nat) (a0 : DV) : callG Try.prog ENV (n + 1) 32 [a0] H fl = s_modes_Mode n H fl a0 := by kernel_rfl

/-! (*triune/modes.Modes).State -/
noncomputable def s___modes_Modes__State (n : Nat) (H : Heap) (fl : Nat) (a0 : DV) : R :=
  bi (allocG 72 (.agg [(Bo false), (Bo false), (Bo false), (I .i64 0), (I .i64 0), (I .i64 0), (I .i64 0), (I .i64 0), (I .i64 0), (I .i64 0), (I .i64 0), (Bo false)]) (List.length H) (H ++ [.hole])) fun h0 =>
  bi (nilD a0) fun d1 =>
  bi (fieldD 1 12 d1) fun d2 =>
  bi (loadG true 12 d2 h0) fun d3 =>
  bi (storeG 12 (.ptr (List.length H) 0) d3 h0 fl) fun h4 =>
  bi (cellR true 12 (.ptr (List.length H) 0) h4) fun r0 =>
  some (r0, h4)
theorem s___modes_Modes__State_eq (n : Nat) (H : Heap) (fl : Nat) (a0 : DV) : callG Try.prog ENV (n + 1) 31 [a0] H fl = s___modes_Modes__State n H fl a0 := by kernel_rfl

/-! triune/modes.first -/
noncomputable def s_modes_first (n : Nat) (H : Heap) (fl : Nat) : R :=
  bi (allocG 72 (.agg [(Bo false), (Bo false), (Bo false), (I .i64 0), (I .i64 0), (I .i64 0), (I .i64 0), (I .i64 0), (I .i64 0), (I .i64 0), (I .i64 0), (Bo false)]) (List.length H) (H ++ [.hole])) fun h0 =>
  bi (cP n 78 false []) fun d1 =>
  bi (buildS (.agg [(Bo false), (Bo false), (Bo false), (I .i64 0), (I .i64 0), (I .i64 0), (I .i64 0), (I .i64 0), (I .i64 0), (I .i64 0), (I .i64 0), (Bo false)]) [(0, 3), (3, 3), (6, 3), (9, 1), (10, 1), (11, 1)] [(0, d1), (4, (I .i64 (-1)))]) fun d2 =>
  bi (storeG 12 (.ptr (List.length H) 0) d2 h0 fl) fun h3 =>
  bi (cellR true 12 (.ptr (List.length H) 0) h3) fun r0 =>
  some (r0, h3)
theorem s_modes_first_eq (n : Nat) (H : Heap) (fl : Nat) : callG Try.prog ENV (n + 1) 58 [] H fl = s_modes_first n H fl  := by kernel_rfl

/-! triune/modes.all -/
noncomputable def s_modes_all (n : Nat) (H : Heap) (fl : Nat) : R :=
  bi (allocG 60 (.agg [(Bo false), (Bo false), (Bo false)]) (List.length H) (H ++ [.hole])) fun h0 =>
  bi (buildA (.agg [(Bo false), (Bo false), (Bo false)]) 1 [(0, (Bo true)), (1, (Bo true)), (2, (Bo true))]) fun d1 =>
  bi (storeG 3 (.ptr (List.length H) 0) d1 h0 fl) fun h2 =>
  bi (cellR true 3 (.ptr (List.length H) 0) h2) fun r0 =>
  some (r0, h2)
theorem s_modes_all_eq (n : Nat) (H : Heap) (fl : Nat) : callG Try.prog ENV (n + 1) 78 [] H fl = s_modes_all n H fl  := by kernel_rfl

end Go.Proofs.Ytigfninpflemnab
