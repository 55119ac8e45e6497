/- Go functions as Lean functions on deep values; printed by a program of mine. -/
import Derived.Test.YtigfninpflemnaaEnv
namespace Go.Proofs.Ytigfninpflemnaa
open Go
set_option maxRecDepth 100000
set_option linter.unusedVariables false
/-! (*triune/triuneref05.Stream).Take -/
def s___triuneref05_Stream__Take_I0 (x0 x6 : DV) : List DV := [x0, .any, .any, .any, .any, .any, x6, .any, .any, .any, .any, .any, .any, .any, .any, .any, .any, .any, .any, .any, .any, .any, .any, .any, .any, .any, .any, .any, .any, .any, .any, .any, .any, .any, .any, .any, .any, .any, .any, .any, .any, .any, .any, .any, .any, .any, .any, .any, .any, .any, .any, .any, .any, .any, .any, .any, .any, .any, .any]
def s___triuneref05_Stream__Take_O0 (x4 x5 : DV) : List DV := [.any, .any, .any, .any, x4, x5, .any, .any, .any, .any, .any, .any, .any, .any, .any, .any, .any, .any, .any, .any, .any, .any, .any, .any, .any, .any, .any, .any, .any, .any, .any, .any, .any, .any, .any, .any, .any, .any, .any, .any, .any, .any, .any, .any, .any, .any, .any, .any, .any, .any, .any, .any, .any, .any, .any, .any, .any, .any, .any]
noncomputable abbrev s___triuneref05_Stream__Take_b0 (n fl : Nat) : List DV → Heap → (Ex → KF) → R := execG ⟨Try.prog, callG Try.prog ENV n, ENV.md, fl, 59⟩ n (loopAt (bodyOf Try.f62) 0) []
noncomputable def s___triuneref05_Stream__Take_B0 (n fl : Nat) (rec : DV → DV → Heap → R) (k : Ex → KF) (x0 x6 : DV) (H : Heap) : R :=
  bi (nilD x0) fun d0 =>
  bi (fieldD 0 1 d0) fun d1 =>
  bi (loadG false 1 d1 (H ++ [.hole])) fun d2 =>
  bi (cP n 56 false [d2]) fun d3 =>
  bi (extD 0 d3) fun d4 =>
  bi (extD 1 d3) fun d5 =>
  bi (extD 2 d3) fun d6 =>
  bi (allocG 72 (.agg [(I .u16 0), (I .u8 0), (.list 0 [] .ti)]) (List.length H) (H ++ [.hole])) fun h7 =>
  bi (storeG 3 (.ptr (List.length H) 0) d4 h7 fl) fun h8 =>
  bi (eqK .i64 d6 (I .i64 2)) fun d9 =>
  condR d9 (
   bi (nilD x0) fun d10 =>
   bi (fieldD 1 1 d10) fun d11 =>
   bi (storeG 1 d11 (Bo true) h8 fl) fun h12 =>
   bi (nilD x0) fun d13 =>
   bi (fieldD 0 1 d13) fun d14 =>
   bi (storeG 1 d14 (.list 0 [] .ti) h12 fl) fun h15 =>
  k .ret (s___triuneref05_Stream__Take_O0 x6 (I .i64 2)) h15) (
  bi (neK .i64 d6 (I .i64 0)) fun d16 =>
  condR d16 (
  k .ret (s___triuneref05_Stream__Take_O0 x6 (I .i64 0)) h8) (
  bi (loadG true 3 (.ptr (List.length H) 0) h8) fun d17 =>
  bi (buildL true 3 1 (.agg [(I .u16 0), (I .u8 0), (.list 0 [] .ti)]) [(0, d17)]) fun d18 =>
  bi (appG 72 true 3 32 x6 d18 h8 fl) fun p19 =>
  bi (nilD x0) fun d20 =>
  bi (fieldD 0 1 d20) fun d21 =>
  bi (loadG false 1 d21 p19.2) fun d22 =>
  bi (slX 1 d22 (some d5) none none) fun d23 =>
  bi (nilD x0) fun d24 =>
  bi (fieldD 0 1 d24) fun d25 =>
  bi (storeG 1 d25 d23 p19.2 fl) fun h26 =>
  rec x0 p19.1 h26))
noncomputable def s___triuneref05_Stream__Take_L0 (n fl : Nat) (k : Ex → KF) : Nat → DV → DV → Heap → R
  | 0, _, _, _ => none
  | m + 1, x0, x6, H => s___triuneref05_Stream__Take_B0 n fl (s___triuneref05_Stream__Take_L0 n fl k m) k x0 x6 H
theorem s___triuneref05_Stream__Take_S0 (n fl m : Nat) (k : Ex → KF) (x0 x6 : DV) (H : Heap) : loopG [0, 6] [4, 5] 59 (s___triuneref05_Stream__Take_b0 n fl) (m + 1) (s___triuneref05_Stream__Take_I0 x0 x6) H k = s___triuneref05_Stream__Take_B0 n fl (fun x0 x6 H => loopG [0, 6] [4, 5] 59 (s___triuneref05_Stream__Take_b0 n fl) m (s___triuneref05_Stream__Take_I0 x0 x6) H k) k x0 x6 H := by kernel_rfl
theorem s___triuneref05_Stream__Take_L0_eq (n fl : Nat) (k : Ex → KF) : ∀ (m : Nat) (x0 x6 : DV) (H : Heap), loopG [0, 6] [4, 5] 59 (s___triuneref05_Stream__Take_b0 n fl) m (s___triuneref05_Stream__Take_I0 x0 x6) H k = s___triuneref05_Stream__Take_L0 n fl k m x0 x6 H := by
  intro m
  induction m with
  | zero => intros; rfl
  | succ m ih =>
    intro x0 x6 H
    rw [s___triuneref05_Stream__Take_S0, show (fun x0 x6 H => loopG [0, 6] [4, 5] 59 (s___triuneref05_Stream__Take_b0 n fl) m (s___triuneref05_Stream__Take_I0 x0 x6) H k) = s___triuneref05_Stream__Take_L0 n fl k m from by funext x0 x6 H; exact ih _ _ _]
    rw [s___triuneref05_Stream__Take_L0]
noncomputable def s___triuneref05_Stream__Take (n : Nat) (H : Heap) (fl : Nat) (a0 a1 : DV) : R :=
  bi (nilD a0) fun d0 =>
  bi (fieldD 1 1 d0) fun d1 =>
  bi (loadG false 1 d1 H) fun d2 =>
  condR d2 (
  some ((.tup [(.list 0 [] .ti), (I .i64 8)]), H)) (
  bi (buildL false 1 0 (I .u8 0) []) fun d3 =>
  bi (nilD a0) fun d4 =>
  bi (fieldD 0 1 d4) fun d5 =>
  bi (loadG false 1 d5 H) fun d6 =>
  bi (appG 5 false 1 1 d3 d6 H fl) fun p7 =>
  bi (appG 5 false 1 1 p7.1 a1 p7.2 fl) fun p8 =>
  bi (nilD a0) fun d9 =>
  bi (fieldD 0 1 d9) fun d10 =>
  bi (storeG 1 d10 p8.1 p8.2 fl) fun h11 =>
  loopG [0, 6] [4, 5] 59 (s___triuneref05_Stream__Take_b0 n fl) n (s___triuneref05_Stream__Take_I0 a0 (.list 0 [] .ti)) h11 fun x S12 h12 => match x with
  | .normal => none
  | .exit i12 => (
  if i12 = 0 then (
  some ((.tup [(S12.getD 4 .any), (S12.getD 5 .any)]), h12)) else (
  none))
  | .ret => (
  some ((.tup [(S12.getD 4 .any), (S12.getD 5 .any)]), h12)))
theorem s___triuneref05_Stream__Take_eq (n : Nat) (H : Heap) (fl : Nat) (a0 a1 : DV) : callG Try.prog ENV (n + 1) 62 [a0, a1] H fl = s___triuneref05_Stream__Take n H fl a0 a1 := by kernel_rfl

end Go.Proofs.Ytigfninpflemnaa
