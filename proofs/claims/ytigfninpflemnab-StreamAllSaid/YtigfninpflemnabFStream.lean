/- Go functions as Lean functions on deep values; printed by a program of mine. -/
import Derived.Test.YtigfninpflemnabEnv
namespace Go.Proofs.Ytigfninpflemnab
open Go
set_option maxRecDepth 100000
set_option linter.unusedVariables false
/-! triune/stream.New -/
noncomputable def s_stream_New (n : Nat) (H : Heap) (fl : Nat) : R :=
  bi (buildS (.agg [(.list 0 [] .ti), (Bo false)]) [(0, 1), (1, 1)] []) fun d0 =>
  bi (allocG 127 d0 (List.length H) (H ++ [.hole])) fun h1 =>
  some ((.ptr (List.length H) 0), h1)
theorem s_stream_New_eq (n : Nat) (H : Heap) (fl : Nat) : callG Try.prog ENV (n + 1) 37 [] H fl = s_stream_New n H fl  := by kernel_rfl

/-! (*triune/stream.Stream).Take -/
def s___stream_Stream__Take_I0 (x0 x6 : DV) : List DV := [x0, .any, .any, .any, .any, .any, x6, .any, .any, .any, .any, .any, .any, .any, .any, .any, .any, .any, .any, .any, .any, .any, .any, .any, .any, .any, .any, .any, .any, .any, .any, .any, .any, .any, .any, .any, .any, .any, .any, .any, .any, .any, .any, .any]
def s___stream_Stream__Take_O0 (x4 x5 : DV) : List DV := [.any, .any, .any, .any, x4, x5, .any, .any, .any, .any, .any, .any, .any, .any, .any, .any, .any, .any, .any, .any, .any, .any, .any, .any, .any, .any, .any, .any, .any, .any, .any, .any, .any, .any, .any, .any, .any, .any, .any, .any, .any, .any, .any, .any]
noncomputable abbrev s___stream_Stream__Take_b0 (n fl : Nat) : List DV → Heap → (Ex → KF) → R := execG ⟨Try.prog, callG Try.prog ENV n, ENV.md, fl, 44⟩ n (loopAt (bodyOf Try.f38) 0) []
noncomputable def s___stream_Stream__Take_B0 (n fl : Nat) (rec : DV → DV → Heap → R) (k : Ex → KF) (x0 x6 : DV) (H : Heap) : R :=
  bi (nilD x0) fun d0 =>
  bi (fieldD 0 1 d0) fun d1 =>
  bi (cW n 66 [d1] (H ++ [.hole]) fl) fun p2 =>
  bi (extD 0 p2.1) fun d3 =>
  bi (extD 1 p2.1) fun d4 =>
  bi (allocG 84 (.agg [(I .u16 0), (I .u8 0), (.list 0 [] .ti)]) (List.length H) p2.2) fun h5 =>
  bi (storeG 3 (.ptr (List.length H) 0) d3 h5 fl) fun h6 =>
  bi (eqK .i64 d4 (I .i64 0)) fun d7 =>
  condR d7 (
   bi (loadG true 3 (.ptr (List.length H) 0) h6) fun d8 =>
   bi (buildL true 3 1 (.agg [(I .u16 0), (I .u8 0), (.list 0 [] .ti)]) [(0, d8)]) fun d9 =>
   bi (appG 84 true 3 32 x6 d9 h6 fl) fun p10 =>
  rec x0 p10.1 p10.2) (
   bi (eqK .i64 d4 (I .i64 2)) fun d11 =>
   condR d11 (
    bi (nilD x0) fun d12 =>
    bi (fieldD 1 1 d12) fun d13 =>
    bi (storeG 1 d13 (Bo true) h6 fl) fun h14 =>
    bi (nilD x0) fun d15 =>
    bi (fieldD 0 1 d15) fun d16 =>
    bi (fieldD 0 1 d16) fun d17 =>
    bi (storeG 1 d17 (.list 0 [] .ti) h14 fl) fun h18 =>
  k .ret (s___stream_Stream__Take_O0 x6 d4) h18) (
  k .ret (s___stream_Stream__Take_O0 x6 (I .i64 0)) h6))
noncomputable def s___stream_Stream__Take_L0 (n fl : Nat) (k : Ex → KF) : Nat → DV → DV → Heap → R
  | 0, _, _, _ => none
  | m + 1, x0, x6, H => s___stream_Stream__Take_B0 n fl (s___stream_Stream__Take_L0 n fl k m) k x0 x6 H
theorem s___stream_Stream__Take_S0 (n fl m : Nat) (k : Ex → KF) (x0 x6 : DV) (H : Heap) : loopG [0, 6] [4, 5] 44 (s___stream_Stream__Take_b0 n fl) (m + 1) (s___stream_Stream__Take_I0 x0 x6) H k = s___stream_Stream__Take_B0 n fl (fun x0 x6 H => loopG [0, 6] [4, 5] 44 (s___stream_Stream__Take_b0 n fl) m (s___stream_Stream__Take_I0 x0 x6) H k) k x0 x6 H := by kernel_rfl
theorem s___stream_Stream__Take_L0_eq (n fl : Nat) (k : Ex → KF) : ∀ (m : Nat) (x0 x6 : DV) (H : Heap), loopG [0, 6] [4, 5] 44 (s___stream_Stream__Take_b0 n fl) m (s___stream_Stream__Take_I0 x0 x6) H k = s___stream_Stream__Take_L0 n fl k m x0 x6 H := by
  intro m
  induction m with
  | zero => intros; rfl
  | succ m ih =>
    intro x0 x6 H
    rw [s___stream_Stream__Take_S0, show (fun x0 x6 H => loopG [0, 6] [4, 5] 44 (s___stream_Stream__Take_b0 n fl) m (s___stream_Stream__Take_I0 x0 x6) H k) = s___stream_Stream__Take_L0 n fl k m from by funext x0 x6 H; exact ih _ _ _]
    rw [s___stream_Stream__Take_L0]
noncomputable def s___stream_Stream__Take (n : Nat) (H : Heap) (fl : Nat) (a0 a1 : DV) : R :=
  bi (nilD a0) fun d0 =>
  bi (fieldD 1 1 d0) fun d1 =>
  bi (loadG false 1 d1 H) fun d2 =>
  condR d2 (
  some ((.tup [(.list 0 [] .ti), (I .i64 8)]), H)) (
  bi (nilD a0) fun d3 =>
  bi (fieldD 0 1 d3) fun d4 =>
  bi (cW n 65 [d4, a1] H fl) fun p5 =>
  loopG [0, 6] [4, 5] 44 (s___stream_Stream__Take_b0 n fl) n (s___stream_Stream__Take_I0 a0 (.list 0 [] .ti)) p5.2 fun x S6 h6 => match x with
  | .normal => none
  | .exit i6 => (
  if i6 = 0 then (
  some ((.tup [(S6.getD 4 .any), (S6.getD 5 .any)]), h6)) else (
  none))
  | .ret => (
  some ((.tup [(S6.getD 4 .any), (S6.getD 5 .any)]), h6)))
theorem s___stream_Stream__Take_eq (n : Nat) (H : Heap) (fl : Nat) (a0 a1 : DV) : callG Try.prog ENV (n + 1) 38 [a0, a1] H fl = s___stream_Stream__Take n H fl a0 a1 := by kernel_rfl

/-! (*triune/stream.held).put -/
noncomputable def s___stream_held__put (n : Nat) (H : Heap) (fl : Nat) (a0 a1 : DV) : R :=
  bi (nilD a0) fun d0 =>
  bi (fieldD 0 1 d0) fun d1 =>
  bi (loadG false 1 d1 H) fun d2 =>
  bi (cP n 80 true [d2]) fun d3 =>
  bi (appG 5 false 1 1 d3 a1 H fl) fun p4 =>
  bi (nilD a0) fun d5 =>
  bi (fieldD 0 1 d5) fun d6 =>
  bi (storeG 1 d6 p4.1 p4.2 fl) fun h7 =>
  some ((.tup []), h7)
theorem s___stream_held__put_eq (n : Nat) (H : Heap) (fl : Nat) (a0 a1 : DV) : callG Try.prog ENV (n + 1) 65 [a0, a1] H fl = s___stream_held__put n H fl a0 a1 := by kernel_rfl

/-! (*triune/stream.held).next -/
noncomputable def s___stream_held__next (n : Nat) (H : Heap) (fl : Nat) (a0 : DV) : R :=
  bi (allocG 84 (.agg [(I .u16 0), (I .u8 0), (.list 0 [] .ti)]) (List.length H) (H ++ [.hole])) fun h0 =>
  bi (nilD a0) fun d1 =>
  bi (fieldD 0 1 d1) fun d2 =>
  bi (loadG false 1 d2 (h0 ++ [.hole])) fun d3 =>
  bi (cP n 81 false [d3]) fun d4 =>
  bi (extD 0 d4) fun d5 =>
  bi (extD 1 d4) fun d6 =>
  bi (extD 2 d4) fun d7 =>
  bi (allocG 84 (.agg [(I .u16 0), (I .u8 0), (.list 0 [] .ti)]) (List.length h0) (h0 ++ [.hole])) fun h8 =>
  bi (storeG 3 (.ptr (List.length h0) 0) d5 h8 fl) fun h9 =>
  bi (nilD a0) fun d10 =>
  bi (fieldD 0 1 d10) fun d11 =>
  bi (loadG false 1 d11 h9) fun d12 =>
  bi (slX 1 d12 (some d6) none none) fun d13 =>
  bi (nilD a0) fun d14 =>
  bi (fieldD 0 1 d14) fun d15 =>
  bi (storeG 1 d15 d13 h9 fl) fun h16 =>
  bi (loadG true 3 (.ptr (List.length h0) 0) h16) fun d17 =>
  bi (storeG 3 (.ptr (List.length H) 0) d17 h16 fl) fun h18 =>
  bi (cellR true 3 (.ptr (List.length H) 0) h18) fun r0 =>
  some ((.tup [r0, d7]), h18)
theorem s___stream_held__next_eq (n : Nat) (H : Heap) (fl : Nat) (a0 : DV) : callG Try.prog ENV (n + 1) 66 [a0] H fl = s___stream_held__next n H fl a0 := by kernel_rfl

/-! slices.Clip[[]byte,byte] -/
noncomputable def s_slices_Clip___byte_byte_ (n : Nat) (H : Heap) (fl : Nat) (a0 : DV) : R :=
  bi (lenD a0) fun d0 =>
  bi (lenD a0) fun d1 =>
  bi (slX 1 a0 none (some d0) (some d1)) fun d2 =>
  some (d2, H)
theorem s_slices_Clip___byte_byte__eq (n : Nat) (H : Heap) (fl : Nat) (a0 : DV) : callG Try.prog ENV (n + 1) 80 [a0] H fl = s_slices_Clip___byte_byte_ n H fl a0 := by kernel_rfl

/-! (*triune/stream.Stream).Held -/
noncomputable def s___stream_Stream__Held (n : Nat) (H : Heap) (fl : Nat) (a0 : DV) : R :=
  bi (nilD a0) fun d0 =>
  bi (fieldD 0 1 d0) fun d1 =>
  bi (fieldD 0 1 d1) fun d2 =>
  bi (loadG false 1 d2 H) fun d3 =>
  bi (lenD d3) fun d4 =>
  some (d4, H)
theorem s___stream_Stream__Held_eq (n : Nat) (H : Heap) (fl : Nat) (a0 : DV) : callG Try.prog ENV (n + 1) 41 [a0] H fl = s___stream_Stream__Held n H fl a0 := by kernel_rfl

/-! (*triune/stream.Stream).Broken -/
noncomputable def s___stream_Stream__Broken (n : Nat) (H : Heap) (fl : Nat) (a0 : DV) : R :=
  bi (nilD a0) fun d0 =>
  bi (fieldD 1 1 d0) fun d1 =>
  bi (loadG false 1 d1 H) fun d2 =>
  some (d2, H)
theorem s___stream_Stream__Broken_eq (n : Nat) (H : Heap) (fl : Nat) (a0 : DV) : callG Try.prog ENV (n + 1) 63 [a0] H fl = s___stream_Stream__Broken n H fl a0 := by kernel_rfl

end Go.Proofs.Ytigfninpflemnab
