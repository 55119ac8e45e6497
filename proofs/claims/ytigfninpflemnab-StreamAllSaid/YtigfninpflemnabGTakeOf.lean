/- Bytes of frames, one behind the other, are these frames. -/
import Derived.Test.YtigfninpflemnabGTakeApp
namespace Go.Proofs.Ytigfninpflemnab
open Go
set_option linter.unusedSimpArgs false
set_option linter.unusedVariables false
def FrVal (f : Fr) : Prop := (0 ≤ f.1 ∧ f.1 < 65536) ∧ (0 ≤ f.2.1 ∧ f.2.1 < 256) ∧ Bytes f.2.2 ∧ 1 ≤ f.2.2.length ∧ f.2.2.length ≤ 253
def frB (f : Fr) : List Int := frameBytes f.1 f.2.1 f.2.2
theorem frB_len (f : Fr) : (frB f).length = f.2.2.length + 7 := by unfold frB frameBytes; simp
theorem frB_rd {f : Fr} (c : List Int) (h : FrVal f) : rdErr (frB f ++ c) = 0 ∧ rdFr (frB f ++ c) = f ∧ (frB f ++ c).drop (rdLen (frB f ++ c)).toNat = c := by
  obtain ⟨t, u, p⟩ := f
  obtain ⟨⟨h0, h1⟩, ⟨h2, h3⟩, hb, h4, h5⟩ := h
  simp only at h0 h1 h2 h3 h4 h5
  have hl : (frB (t, u, p) ++ c).length = p.length + 7 + c.length := by rw [List.length_append, frB_len]
  have hN : rdN (frB (t, u, p) ++ c) = p.length + 1 := by
    unfold rdN frB frameBytes
    simp
    omega
  have g : ∀ i, (frB (t, u, p) ++ c).getD i 0 = ([t / 256, t % 256, 0, 0, ((p.length : Int) + 1) / 256, ((p.length : Int) + 1) % 256, u] ++ (p ++ c)).getD i 0 := by
    intro i; unfold frB frameBytes; rw [List.append_assoc]
  have e : rdErr (frB (t, u, p) ++ c) = 0 := by
    unfold rdErr
    rw [hN, hl, g 2, g 3, if_neg (by simp), if_neg (by omega), if_neg (by omega)]
  refine ⟨e, ?_, ?_⟩
  · unfold rdFr rdTid rdUnit rdPdu
    rw [e, hN, g 0, g 1, g 6]
    simp only [if_true]
    refine Prod.ext ?_ (Prod.ext ?_ ?_)
    · simp; omega
    · simp
    · have : (6 + ((p.length : Int) + 1)).toNat = p.length + 7 := by omega
      rw [this]
      unfold frB frameBytes
      simp
  · unfold rdLen
    rw [e, hN]
    simp only [if_true]
    have : (6 + ((p.length : Int) + 1)).toNat = p.length + 7 := by omega
    rw [this]
    have hl2 := frB_len (t, u, p)
    simp only at hl2
    rw [List.drop_append_of_le_length (by omega), List.drop_of_length_le (by omega)]
    simp
theorem take_frames : ∀ fs : List Fr, (∀ f ∈ fs, FrVal f) → takeF ((fs.map frB).flatten) = (fs, [], 0)
  | [], _ => by
    show takeF [] = _
    rw [takeF_3 (by decide) (by decide)]
  | f :: fs, h => by
    obtain ⟨h1, h2, h3⟩ := frB_rd ((fs.map frB).flatten) (h f (by simp))
    rw [List.map_cons, List.flatten_cons, takeF_0 h1, h2, h3, take_frames fs (fun g hg => h g (by simp [hg]))]
theorem frB_bytes {f : Fr} (h : FrVal f) : Bytes (frB f) := by
  obtain ⟨t, u, p⟩ := f
  obtain ⟨⟨h0, h1⟩, ⟨h2, h3⟩, hb, h4, h5⟩ := h
  simp only at h0 h1 h2 h3 h4 h5
  intro x hx
  unfold frB frameBytes at hx
  simp only [List.cons_append, List.nil_append, List.mem_cons] at hx
  rcases hx with rfl | rfl | rfl | rfl | rfl | rfl | rfl | hx
  · omega
  · omega
  · omega
  · omega
  · omega
  · omega
  · exact ⟨h2, h3⟩
  · exact hb x hx
end Go.Proofs.Ytigfninpflemnab
