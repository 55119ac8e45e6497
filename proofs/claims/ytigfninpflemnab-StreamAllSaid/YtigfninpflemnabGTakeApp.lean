/- More bytes: what they change of the frames. -/
import Derived.Test.YtigfninpflemnabGStream
namespace Go.Proofs.Ytigfninpflemnab
open Go
set_option linter.unusedSimpArgs false
set_option linter.unusedVariables false
theorem getD_app (b c : List Int) (i : Nat) (h : i < b.length) : (b ++ c).getD i 0 = b.getD i 0 := by
  rw [List.getD_eq_getElem?_getD, List.getElem?_append_left h, ← List.getD_eq_getElem?_getD]
/-- more bytes change nothing of a frame that is whole, or wrong -/
theorem rdErr_app {b : List Int} (c : List Int) (h : rdErr b ≠ 3) : rdErr (b ++ c) = rdErr b ∧ (rdErr b = 0 → rdN (b ++ c) = rdN b) := by
  have hl : (b ++ c).length = b.length + c.length := by simp
  have h4 : 4 ≤ b.length → (b ++ c).getD 2 0 = b.getD 2 0 ∧ (b ++ c).getD 3 0 = b.getD 3 0 := fun h => ⟨getD_app b c 2 (by omega), getD_app b c 3 (by omega)⟩
  have h6 : 6 ≤ b.length → rdN (b ++ c) = rdN b := fun h => by unfold rdN; rw [getD_app b c 4 (by omega), getD_app b c 5 (by omega)]
  by_cases c4 : 4 ≤ b.length ∧ 256 * b.getD 2 0 + b.getD 3 0 ≠ 0
  · have e : rdErr b = 2 := by unfold rdErr; rw [if_pos c4]
    refine ⟨?_, fun h0 => by omega⟩
    rw [e]; unfold rdErr
    rw [if_pos ⟨by omega, by rw [(h4 c4.1).1, (h4 c4.1).2]; exact c4.2⟩]
  by_cases c6 : 6 ≤ b.length
  · have hn := h6 c6
    have c4' : ¬ (4 ≤ (b ++ c).length ∧ 256 * (b ++ c).getD 2 0 + (b ++ c).getD 3 0 ≠ 0) := by
      rw [(h4 (by omega)).1, (h4 (by omega)).2]; intro hh; exact c4 ⟨by omega, hh.2⟩
    by_cases c7 : rdN b < 2 ∨ 254 < rdN b
    · have e : rdErr b = 2 := by unfold rdErr; rw [if_neg c4, if_pos ⟨c6, c7⟩]
      refine ⟨?_, fun _ => hn⟩
      rw [e]; unfold rdErr; rw [if_neg c4', hn, if_pos ⟨by omega, c7⟩]
    by_cases c8 : (b.length : Int) < 6 + rdN b
    · exfalso; apply h; unfold rdErr; rw [if_neg c4, if_neg (by omega), if_pos (by omega)]
    · have e : rdErr b = 0 := by unfold rdErr; rw [if_neg c4, if_neg (by omega), if_neg (by omega)]
      refine ⟨?_, fun _ => hn⟩
      rw [e]; unfold rdErr; rw [if_neg c4', hn, if_neg (by omega), if_neg (by omega)]
  · exfalso; apply h; unfold rdErr; rw [if_neg c4, if_neg (by omega), if_pos (by omega)]
theorem rdErr_cases (b : List Int) : rdErr b = 0 ∨ rdErr b = 2 ∨ rdErr b = 3 := by
  unfold rdErr; split
  · exact .inr (.inl rfl)
  split
  · exact .inr (.inl rfl)
  split
  · exact .inr (.inr rfl)
  · exact .inl rfl
theorem rdFr_app {b : List Int} (c : List Int) (h : rdErr b = 0) : rdFr (b ++ c) = rdFr b ∧ (b ++ c).drop (rdLen (b ++ c)).toNat = b.drop (rdLen b).toNat ++ c := by
  have hr := rdN_lo h
  obtain ⟨h1, h2⟩ := rdErr_app c (by omega : rdErr b ≠ 3)
  have h2 := h2 h
  have h1 : rdErr (b ++ c) = 0 := h1.trans h
  constructor
  · unfold rdFr rdTid rdUnit rdPdu
    rw [h1, h, h2]
    simp only [if_true]
    rw [getD_app b c 0 (by omega), getD_app b c 1 (by omega), getD_app b c 6 (by omega), List.take_append_of_le_length (by omega)]
  · unfold rdLen
    rw [h1, h, h2]
    simp only [if_true]
    rw [List.drop_append_of_le_length (by omega)]
theorem takeF_err (b : List Int) : (takeF b).2.2 = 0 ∨ (takeF b).2.2 = 2 := by
  induction b using takeF.induct with
  | case1 b h ih => rw [takeF_0 h]; exact ih
  | case2 b h h2 => rw [takeF_2 h2]; exact .inr rfl
  | case3 b h h2 => rw [takeF_3 h h2]; exact .inl rfl
theorem takeF_rest (b : List Int) : (takeF b).2.1.length < 260 := by
  induction b using takeF.induct with
  | case1 b h ih => rw [takeF_0 h]; exact ih
  | case2 b h h2 => rw [takeF_2 h2]; simp
  | case3 b h h2 =>
    rw [takeF_3 h h2]
    show b.length < 260
    unfold rdErr at h h2
    split at h
    · simp_all
    split at h
    · simp_all
    split at h
    · omega
    · simp_all
theorem takeF_app (b c : List Int) : takeF (b ++ c) = if (takeF b).2.2 = 2 then ((takeF b).1, [], 2) else ((takeF b).1 ++ (takeF ((takeF b).2.1 ++ c)).1, (takeF ((takeF b).2.1 ++ c)).2) := by
  induction b using takeF.induct with
  | case1 b h ih =>
    obtain ⟨h1, h2⟩ := rdFr_app c h
    have h3 : rdErr (b ++ c) = 0 := (rdErr_app c (by omega)).1.trans h
    rw [takeF_0 h, takeF_0 h3, h1, h2, ih]
    dsimp only
    split <;> simp
  | case2 b h h2 =>
    have h3 : rdErr (b ++ c) = 2 := (rdErr_app c (by omega)).1.trans h2
    rw [takeF_2 h2, takeF_2 h3, if_pos rfl]
  | case3 b h h2 =>
    rw [takeF_3 h h2, if_neg (by simp)]
    simp

end Go.Proofs.Ytigfninpflemnab
