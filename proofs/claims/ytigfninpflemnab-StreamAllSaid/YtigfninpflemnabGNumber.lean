/- A number of two bytes. -/
import Derived.Test.YtigfninpflemnabFNumber
import Derived.Test.YtigfninpflemnabEv
import Derived.Test.YtigfninpflemnabGWords
-- NEEDS: mbap.number
namespace Go.Proofs.Ytigfninpflemnab
open Go
set_option linter.unusedSimpArgs false
theorem mbap_number_c (n : Nat) (l : List Int) (t : Tag) (i : Nat) (hb : Bytes l) (hl : l.length ≤ 1000000) (hi : i ≤ 100) (hn : l.length + 8 ≤ n) :
    cP n 87 false [LV 1 (I .u8) l t, I .i64 i] = some (if h : i + 2 ≤ l.length then .tup [I .i64 (256 * l[i] + l[i + 1]), Bo true] else .tup [I .i64 0, Bo false]) := by
  obtain ⟨n, rfl⟩ : ∃ m, n = m + 1 := ⟨n - 1, by omega⟩
  by_cases h : i + 2 ≤ l.length
  · have b0 := hb l[i] (List.getElem_mem (by omega))
    have b1 := hb l[i+1] (List.getElem_mem (by omega))
    have hd : (l.take (i + 2)).drop i = [l[i], l[i+1]] := by
      rw [List.drop_take, List.drop_eq_getElem_cons (by omega), List.drop_eq_getElem_cons (by omega)]
      have : i + 2 - i = 2 := by omega
      rw [this]; rfl
    have hW := s_word_Words_c n [l[i], l[i+1]] .sh (by intro x hx; simp at hx; rcases hx with rfl | rfl <;> assumption) (by simp) (by simp) (by simp; omega)
    have h2 : ((i : Int) + 2).toNat = i + 2 := by omega
    refine cP_of (args' := [LV 1 (I .u8) l .sh, I .i64 i]) (by simp [argEl_eq]) ((s_mbap_number_eq _ _ _ _ _).trans (by unfold s_mbap_number; simp -implicitDefEqProofs (disch := first | omega | (simp only [List.length_set, List.length_append, List.length_cons, List.length_nil, List.length_take, List.length_drop, List.length_map]; omega) | simp) [wrap_i64, wrap_u16_id, wrap_u8_id, tdiv_pos, tmod_pos, -getElem?_pos, -getElem?_neg, -List.length_eq_zero_iff, -List.getElem_cons_drop, h2, hd, hW, wordsOf]; first | exact rfl | exact ⟨rfl, rfl⟩)) ?_
    simp [h]
  · refine cP_of (args' := [LV 1 (I .u8) l .sh, I .i64 i]) (by simp [argEl_eq]) ((s_mbap_number_eq _ _ _ _ _).trans (by unfold s_mbap_number; simp -implicitDefEqProofs (disch := first | omega | (simp only [List.length_set, List.length_append, List.length_cons, List.length_nil, List.length_take, List.length_drop, List.length_map]; omega) | simp) [wrap_i64, wrap_u16_id, wrap_u8_id, tdiv_pos, tmod_pos, -getElem?_pos, -getElem?_neg, -List.length_eq_zero_iff, -List.getElem_cons_drop]; first | exact rfl | exact ⟨rfl, rfl⟩)) ?_
    simp [h]
end Go.Proofs.Ytigfninpflemnab
