/- Go functions as Lean functions on deep values; printed by a program of mine. -/
import Derived.Test.YtbmjflieedadkaaEnv
namespace Go.Proofs.Ytbmjflieedadkaa
open Go
set_option maxRecDepth 100000
set_option linter.unusedVariables false
/-! triune/word.Words -/
def s_word_Words_I0 (x0 x4 x5 : DV) : List DV := [x0, .any, .any, .any, x4, x5, .any, .any, .any, .any, .any, .any, .any, .any, .any, .any, .any, .any, .any, .any, .any, .any, .any, .any, .any, .any, .any, .any, .any, .any, .any, .any, .any]
def s_word_Words_O0 (x4 : DV) : List DV := [.any, .any, .any, .any, x4, .any, .any, .any, .any, .any, .any, .any, .any, .any, .any, .any, .any, .any, .any, .any, .any, .any, .any, .any, .any, .any, .any, .any, .any, .any, .any, .any, .any]
noncomputable abbrev s_word_Words_b0 (n fl : Nat) : List DV → Heap → (Ex → KF) → R := execG ⟨Try.prog, callG Try.prog ENV n, ENV.md, fl, 33⟩ n (loopAt (bodyOf Try.f83) 0) []
noncomputable def s_word_Words_B0 (n fl : Nat) (rec : DV → DV → DV → Heap → R) (k : Ex → KF) (x0 x4 x5 : DV) (H : Heap) : R :=
  bi (lenD x0) fun d0 =>
  bi (ltK .i64 x5 d0) fun d1 =>
  condR d1 (
  bi (idxSl 1 x0 x5) fun d2 =>
  bi (loadG false 1 d2 H) fun d3 =>
  bi (cvK .u16 d3) fun d4 =>
  bi (shlK .u16 d4 (I .u64 8)) fun d5 =>
  bi (addK .i64 x5 (I .i64 1)) fun d6 =>
  bi (idxSl 1 x0 d6) fun d7 =>
  bi (loadG false 1 d7 H) fun d8 =>
  bi (cvK .u16 d8) fun d9 =>
  bi (orK .u16 d5 d9) fun d10 =>
  bi (buildL false 1 1 (I .u16 0) [(0, d10)]) fun d11 =>
  bi (appG 40 false 1 2 x4 d11 H fl) fun p12 =>
  bi (addK .i64 x5 (I .i64 2)) fun d13 =>
  rec x0 p12.1 d13 p12.2) (
  k (.exit 0) (s_word_Words_O0 x4) H)
noncomputable def s_word_Words_L0 (n fl : Nat) (k : Ex → KF) : Nat → DV → DV → DV → Heap → R
  | 0, _, _, _, _ => none
  | m + 1, x0, x4, x5, H => s_word_Words_B0 n fl (s_word_Words_L0 n fl k m) k x0 x4 x5 H
theorem s_word_Words_S0 (n fl m : Nat) (k : Ex → KF) (x0 x4 x5 : DV) (H : Heap) : loopG [0, 4, 5] [4] 33 (s_word_Words_b0 n fl) (m + 1) (s_word_Words_I0 x0 x4 x5) H k = s_word_Words_B0 n fl (fun x0 x4 x5 H => loopG [0, 4, 5] [4] 33 (s_word_Words_b0 n fl) m (s_word_Words_I0 x0 x4 x5) H k) k x0 x4 x5 H := by kernel_rfl
theorem s_word_Words_L0_eq (n fl : Nat) (k : Ex → KF) : ∀ (m : Nat) (x0 x4 x5 : DV) (H : Heap), loopG [0, 4, 5] [4] 33 (s_word_Words_b0 n fl) m (s_word_Words_I0 x0 x4 x5) H k = s_word_Words_L0 n fl k m x0 x4 x5 H := by
  intro m
  induction m with
  | zero => intros; rfl
  | succ m ih =>
    intro x0 x4 x5 H
    rw [s_word_Words_S0, show (fun x0 x4 x5 H => loopG [0, 4, 5] [4] 33 (s_word_Words_b0 n fl) m (s_word_Words_I0 x0 x4 x5) H k) = s_word_Words_L0 n fl k m from by funext x0 x4 x5 H; exact ih _ _ _ _]
    rw [s_word_Words_L0]
noncomputable def s_word_Words (n : Nat) (H : Heap) (fl : Nat) (a0 : DV) : R :=
  bi (lenD a0) fun d0 =>
  bi (andK .i64 d0 (I .i64 1)) fun d1 =>
  bi (eqK .i64 d1 (I .i64 1)) fun d2 =>
  condR d2 (
  some ((.tup [(.list 0 [] .ti), (Bo false)]), H)) (
  loopG [0, 4, 5] [4] 33 (s_word_Words_b0 n fl) n (s_word_Words_I0 a0 (.list 0 [] .ti) (I .i64 0)) H fun x S3 h3 => match x with
  | .normal => none
  | .exit i3 => (
  if i3 = 0 then (
  some ((.tup [(S3.getD 4 .any), (Bo true)]), h3)) else (
  none))
  | .ret => (
  some ((.tup [.any, .any]), h3)))
theorem s_word_Words_eq (n : Nat) (H : Heap) (fl : Nat) (a0 : DV) : callG Try.prog ENV (n + 1) 83 [a0] H fl = s_word_Words n H fl a0 := by kernel_rfl

end Go.Proofs.Ytbmjflieedadkaa
