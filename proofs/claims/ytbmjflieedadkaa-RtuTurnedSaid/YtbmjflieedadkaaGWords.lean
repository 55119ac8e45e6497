/- The words of bytes. -/
import Derived.Test.YtbmjflieedadkaaFWords
import Derived.Test.YtbmjflieedadkaaEv
-- NEEDS: word.Words
namespace Go.Proofs.Ytbmjflieedadkaa
open Go
set_option linter.unusedSimpArgs false
def wordsOf : List Int → List Int
  | a :: b :: l => (256 * a + b) :: wordsOf l
  | _ => []
def Bytes (l : List Int) : Prop := ∀ x ∈ l, 0 ≤ x ∧ x < 256
theorem s_word_Words_L (n fl : Nat) (k : Ex → KF) (l : List Int) (hb : Bytes l) (hl1 : l.length ≤ 1000000) (hl : l.length % 2 = 0) : ∀ (m i : Nat) (acc : List Int) (t : Tag) (H : Heap), l.length < 2 * m + i → i % 2 = 0 → i ≤ l.length → acc.length ≤ i → TgOk t 40 1 fl acc.length H → fl ≤ H.length →
    ∃ t' H', s_word_Words_L0 n fl k m (LV 1 (I .u8) l .sh) (LV 1 (I .u16) acc t) (I .i64 i) H = k (.exit 0) (s_word_Words_O0 (LV 1 (I .u16) (acc ++ wordsOf (l.drop i)) t')) H' := by
  intro m
  induction m with
  | zero => intro i acc t H h; omega
  | succ m ih =>
    intro i acc t H hm hi hil hac ht hfl
    unfold s_word_Words_L0 s_word_Words_B0
    by_cases h : i < l.length
    · have hd : l.drop i = l[i] :: l[i+1] :: l.drop (i + 2) := by
        rw [List.drop_eq_getElem_cons h, List.drop_eq_getElem_cons (by omega)]
      have b0 := hb _ (List.getElem_mem h)
      have b1 := hb _ (List.getElem_mem (show i + 1 < l.length by omega))
      obtain ⟨t2, H2, ha, ht2, _, hf2⟩ := appG_ok (enc := I .u16) (ag := false) (by_ := 2) (ys := [256 * l[i] + l[i+1]]) (t' := .ti) ht hfl (by simp) (by rfl) (by simp; omega) (by simp; omega)
      simp -implicitDefEqProofs (disch := first | omega | (simp only [List.length_set, List.length_append, List.length_cons, List.length_nil, List.length_take, List.length_drop, List.length_map]; omega) | simp) [wrap_i64, wrap_u16_id, wrap_u8_id, tdiv_pos, tmod_pos, -getElem?_pos, -getElem?_neg, -List.length_eq_zero_iff, -List.getElem_cons_drop, h, shlI_w8, orI_w8, ha]
      obtain ⟨t3, H3, e⟩ := ih (i + 2) _ t2 H2 (by omega) (by omega) (by omega) (by simp; omega) ht2 hf2
      exact ⟨t3, H3, by rw [hd, wordsOf]; rw [List.append_assoc] at e; exact e⟩
    · simp [h]
      have : l.drop i = [] := by simp; omega
      rw [this]
      exact ⟨t, H, by simp [wordsOf]⟩
theorem s_word_Words_c (n : Nat) (l : List Int) (t : Tag) (hb : Bytes l) (hl : l.length ≤ 1000000) (he : l.length % 2 = 0) (hn : l.length + 2 ≤ n) :
    cP n 83 false [LV 1 (I .u8) l t] = some (.tup [LV 1 (I .u16) (wordsOf l) .sh, Bo true]) := by
  obtain ⟨n, rfl⟩ : ∃ m, n = m + 1 := ⟨n - 1, by omega⟩
  obtain ⟨t', H', e⟩ := s_word_Words_L n 0 (fun x S3 h3 => match x with
    | .normal => none
    | .exit i3 => if i3 = 0 then some (.tup [S3.getD 4 .any, Bo true], h3) else none
    | .ret => some (.tup [.any, .any], h3)) l hb hl he n 0 [] .ti [] (by omega) rfl (by omega) (by simp) (.inl rfl) (by simp)
  have ha : andI .i64 l.length 1 = 0 := by
    rw [andI_one _ (by omega), he]; rfl
  refine cP_of (args' := [LV 1 (I .u8) l .sh]) (by simp [argEl_eq]) ((s_word_Words_eq _ _ _ _).trans (by unfold s_word_Words; simp -implicitDefEqProofs (disch := first | omega | (simp only [List.length_set, List.length_append, List.length_cons, List.length_nil, List.length_take, List.length_drop, List.length_map]; omega) | simp) [wrap_i64, wrap_u16_id, wrap_u8_id, tdiv_pos, tmod_pos, -getElem?_pos, -getElem?_neg, -List.length_eq_zero_iff, -List.getElem_cons_drop, ha]; rw [s_word_Words_L0_eq, LV_nil 1 (I .u16)]; exact e)) ?_
  simp [s_word_Words_O0]
end Go.Proofs.Ytbmjflieedadkaa
