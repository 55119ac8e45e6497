/- Are bytes the same? -/
import Derived.Test.YtbmjflieedadkaaFSame01
import Derived.Test.YtbmjflieedadkaaEv
-- NEEDS: triuneref01.Same
namespace Go.Proofs.Ytbmjflieedadkaa
open Go
set_option linter.unusedSimpArgs false
theorem ref01_Same_L (n fl : Nat) (k : Ex → KF) (l1 l2 : List Int) (hl : l1.length = l2.length) (hl1 : l1.length ≤ 1000000) : ∀ (m i : Nat) (H : Heap), l1.length < m + i → i ≤ l1.length →
    s_triuneref01_Same_L0 n fl k m (LV 1 (I .u8) l1 .sh) (LV 1 (I .u8) l2 .sh) (I .i64 i) H = if l1.drop i = l2.drop i then k (.exit 0) (s_triuneref01_Same_O0 .any) H else k .ret (s_triuneref01_Same_O0 (Bo false)) H := by
  intro m
  induction m with
  | zero => intro i H h; omega
  | succ m ih =>
    intro i H hm hi
    unfold s_triuneref01_Same_L0 s_triuneref01_Same_B0
    by_cases h : i < l1.length
    · have d1 : l1.drop i = l1[i] :: l1.drop (i + 1) := List.drop_eq_getElem_cons h
      have d2 : l2.drop i = l2[i] :: l2.drop (i + 1) := List.drop_eq_getElem_cons (by omega)
      have h' : i < l2.length := by omega
      rw [d1, d2]
      by_cases e : l1[i] = l2[i]
      · have ih' := ih (i + 1) H (by omega) (by omega)
        have hi2 : ((i + 1 : Nat) : Int) = (i : Int) + 1 := by omega
        rw [hi2] at ih'
        simp -implicitDefEqProofs (disch := first | omega | (simp only [List.length_set, List.length_append, List.length_cons, List.length_nil, List.length_take, List.length_drop, List.length_map]; omega) | simp) [wrap_i64, wrap_u16_id, wrap_u8_id, tdiv_pos, tmod_pos, -getElem?_pos, -getElem?_neg, -List.length_eq_zero_iff, -List.getElem_cons_drop, h, h', e, ih']
      · simp -implicitDefEqProofs (disch := first | omega | (simp only [List.length_set, List.length_append, List.length_cons, List.length_nil, List.length_take, List.length_drop, List.length_map]; omega) | simp) [wrap_i64, wrap_u16_id, wrap_u8_id, tdiv_pos, tmod_pos, -getElem?_pos, -getElem?_neg, -List.length_eq_zero_iff, -List.getElem_cons_drop, h, h', e]
    · have d1 : l1.drop i = [] := by simp; omega
      have d2 : l2.drop i = [] := by simp; omega
      rw [d1, d2, if_pos rfl]
      simp -implicitDefEqProofs (disch := first | omega | (simp only [List.length_set, List.length_append, List.length_cons, List.length_nil, List.length_take, List.length_drop, List.length_map]; omega) | simp) [wrap_i64, wrap_u16_id, wrap_u8_id, tdiv_pos, tmod_pos, -getElem?_pos, -getElem?_neg, -List.length_eq_zero_iff, -List.getElem_cons_drop, h]
theorem ref01_Same_c (n : Nat) (l1 l2 : List Int) (t1 t2 : Tag) (hl1 : l1.length ≤ 1000000) (hn : l1.length + 2 ≤ n) : cP n 14 false [LV 1 (I .u8) l1 t1, LV 1 (I .u8) l2 t2] = some (Bo (decide (l1 = l2))) := by
  obtain ⟨n, rfl⟩ : ∃ m, n = m + 1 := ⟨n - 1, by omega⟩
  by_cases hl : l1.length = l2.length
  · by_cases e : l1 = l2
    · refine cP_of (args' := [LV 1 (I .u8) l1 .sh, LV 1 (I .u8) l2 .sh]) (by simp [argEl_eq]) ((s_triuneref01_Same_eq _ _ _ _ _).trans (by unfold s_triuneref01_Same; simp -implicitDefEqProofs (disch := first | omega | (simp only [List.length_set, List.length_append, List.length_cons, List.length_nil, List.length_take, List.length_drop, List.length_map]; omega) | simp) [wrap_i64, wrap_u16_id, wrap_u8_id, tdiv_pos, tmod_pos, -getElem?_pos, -getElem?_neg, -List.length_eq_zero_iff, -List.getElem_cons_drop, hl]; rw [s_triuneref01_Same_L0_eq]; erw [ref01_Same_L n 0 _ l1 l2 hl hl1 n 0 [] (by omega) (by omega)]; rw [if_pos (by simp [e])]; first | done | exact rfl)) ?_
      simp [e]
    · refine cP_of (args' := [LV 1 (I .u8) l1 .sh, LV 1 (I .u8) l2 .sh]) (by simp [argEl_eq]) ((s_triuneref01_Same_eq _ _ _ _ _).trans (by unfold s_triuneref01_Same; simp -implicitDefEqProofs (disch := first | omega | (simp only [List.length_set, List.length_append, List.length_cons, List.length_nil, List.length_take, List.length_drop, List.length_map]; omega) | simp) [wrap_i64, wrap_u16_id, wrap_u8_id, tdiv_pos, tmod_pos, -getElem?_pos, -getElem?_neg, -List.length_eq_zero_iff, -List.getElem_cons_drop, hl]; rw [s_triuneref01_Same_L0_eq]; erw [ref01_Same_L n 0 _ l1 l2 hl hl1 n 0 [] (by omega) (by omega)]; rw [if_neg (by simpa using e)]; first | done | exact rfl)) ?_
      simp [e, s_triuneref01_Same_O0]
  · have e : ¬ l1 = l2 := fun h => hl (by rw [h])
    refine cP_of (args' := [LV 1 (I .u8) l1 .sh, LV 1 (I .u8) l2 .sh]) (by simp [argEl_eq]) ((s_triuneref01_Same_eq _ _ _ _ _).trans (by unfold s_triuneref01_Same; simp -implicitDefEqProofs (disch := first | omega | (simp only [List.length_set, List.length_append, List.length_cons, List.length_nil, List.length_take, List.length_drop, List.length_map]; omega) | simp) [wrap_i64, wrap_u16_id, wrap_u8_id, tdiv_pos, tmod_pos, -getElem?_pos, -getElem?_neg, -List.length_eq_zero_iff, -List.getElem_cons_drop, hl]; first | exact rfl | exact ⟨rfl, rfl⟩)) ?_
    simp [e]
end Go.Proofs.Ytbmjflieedadkaa
