/- Frames compared and handed on, law 05. -/
import Derived.Test.YtigfninpflemnabFSame05
import Derived.Test.YtigfninpflemnabGStream
import Derived.Test.YtigfninpflemnabGRef04S
-- NEEDS: triuneref05.Same
namespace Go.Proofs.Ytigfninpflemnab
open Go
set_option linter.unusedSimpArgs false
set_option linter.unusedVariables false
def FrsOk (l : List Fr) : Prop := ∀ f ∈ l, f.2.2.length ≤ 300
theorem frE_cells (f : Fr) : (frE f).cells = [I .u16 f.1, I .u8 f.2.1, LV 1 (I .u8) f.2.2 .sh] := rfl
theorem same05_L (n fl : Nat) (K : Ex → KF) (l1 l2 : List Fr) (t1 t2 : Tag) (hl : l1.length = l2.length) (hl1 : l1.length ≤ 200000) (h1 : FrsOk l1) (hn : 310 ≤ n) : ∀ (m i : Nat) (H : Heap), l1.length < m + i → i ≤ l1.length →
    s_triuneref05_Same_L0 n fl K m (LV 3 frE l1 t1) (LV 3 frE l2 t2) (I .i64 i) H = if l1.drop i = l2.drop i then K (.exit 0) (s_triuneref05_Same_O0 .any) H else K .ret (s_triuneref05_Same_O0 (Bo false)) H := by
  intro m
  induction m with
  | zero => intro i H h; omega
  | succ m ih =>
    intro i H hm hi
    unfold s_triuneref05_Same_L0 s_triuneref05_Same_B0
    by_cases h : i < l1.length
    · have d1 : l1.drop i = l1[i] :: l1.drop (i + 1) := List.drop_eq_getElem_cons h
      have d2 : l2.drop i = l2[i] :: l2.drop (i + 1) := List.drop_eq_getElem_cons (by omega)
      have h' : i < l2.length := by omega
      rw [d1, d2]
      have hp := h1 _ (List.getElem_mem h)
      have hS := ref04_Same_c n l1[i].1 l1[i].2.1 l2[i].1 l2[i].2.1 l1[i].2.2 l2[i].2.2 .sh .sh (by omega) (by omega)
      have hd : (l1[i].1 = l2[i].1 ∧ l1[i].2.1 = l2[i].2.1 ∧ l1[i].2.2 = l2[i].2.2) ↔ l1[i] = l2[i] := by
        constructor
        · intro ⟨a, b, c⟩; exact Prod.ext a (Prod.ext b c)
        · intro e; rw [e]; exact ⟨rfl, rfl, rfl⟩
      have hdd : decide (l1[i].1 = l2[i].1 ∧ l1[i].2.1 = l2[i].2.1 ∧ l1[i].2.2 = l2[i].2.2) = decide (l1[i] = l2[i]) := decide_eq_decide.mpr hd
      rw [hdd] at hS
      unfold frameV at hS
      by_cases e : l1[i] = l2[i]
      · have ih' := ih (i + 1) H (by omega) (by omega)
        have hi2 : ((i + 1 : Nat) : Int) = (i : Int) + 1 := by omega
        rw [hi2] at ih'
        simp only [e, decide_true] at hS
        simp -implicitDefEqProofs (disch := first | omega | (simp only [List.length_set, List.length_append, List.length_cons, List.length_nil, List.length_take, List.length_drop, List.length_map]; omega) | simp) [wrap_i64, wrap_u16_id, wrap_u8_id, tdiv_pos, tmod_pos, -getElem?_pos, -getElem?_neg, -List.length_eq_zero_iff, -List.getElem_cons_drop, h, h', e, frE_cells, hS, ih']
      · simp -implicitDefEqProofs (disch := first | omega | (simp only [List.length_set, List.length_append, List.length_cons, List.length_nil, List.length_take, List.length_drop, List.length_map]; omega) | simp) [wrap_i64, wrap_u16_id, wrap_u8_id, tdiv_pos, tmod_pos, -getElem?_pos, -getElem?_neg, -List.length_eq_zero_iff, -List.getElem_cons_drop, h, h', e, frE_cells, hS]
    · have d1 : l1.drop i = [] := by simp; omega
      have d2 : l2.drop i = [] := by simp; omega
      rw [d1, d2, if_pos rfl]
      simp -implicitDefEqProofs (disch := first | omega | (simp only [List.length_set, List.length_append, List.length_cons, List.length_nil, List.length_take, List.length_drop, List.length_map]; omega) | simp) [wrap_i64, wrap_u16_id, wrap_u8_id, tdiv_pos, tmod_pos, -getElem?_pos, -getElem?_neg, -List.length_eq_zero_iff, -List.getElem_cons_drop, h]
theorem same05_c (n : Nat) (l1 l2 : List Fr) (t1 t2 : Tag) (hl1 : l1.length ≤ 200000) (h1 : FrsOk l1) (hn : l1.length + 320 ≤ n) : cP n 39 false [LV 3 frE l1 t1, LV 3 frE l2 t2] = some (Bo (decide (l1 = l2))) := by
  obtain ⟨n, rfl⟩ : ∃ m, n = m + 1 := ⟨n - 1, by omega⟩
  by_cases hl : l1.length = l2.length
  · by_cases e : l1 = l2
    · refine cP_of (args' := [LV 3 frE l1 .sh, LV 3 frE l2 .sh]) (by simp [argEl_eq]) ((s_triuneref05_Same_eq _ _ _ _ _).trans (by unfold s_triuneref05_Same; simp -implicitDefEqProofs (disch := first | omega | (simp only [List.length_set, List.length_append, List.length_cons, List.length_nil, List.length_take, List.length_drop, List.length_map]; omega) | simp) [wrap_i64, wrap_u16_id, wrap_u8_id, tdiv_pos, tmod_pos, -getElem?_pos, -getElem?_neg, -List.length_eq_zero_iff, -List.getElem_cons_drop, hl]; rw [s_triuneref05_Same_L0_eq]; erw [same05_L n 0 _ l1 l2 .sh .sh hl hl1 h1 (by omega) n 0 [] (by omega) (by omega)]; rw [if_pos (by simp [e])]; first | done | exact rfl)) ?_
      simp [e]
    · refine cP_of (args' := [LV 3 frE l1 .sh, LV 3 frE l2 .sh]) (by simp [argEl_eq]) ((s_triuneref05_Same_eq _ _ _ _ _).trans (by unfold s_triuneref05_Same; simp -implicitDefEqProofs (disch := first | omega | (simp only [List.length_set, List.length_append, List.length_cons, List.length_nil, List.length_take, List.length_drop, List.length_map]; omega) | simp) [wrap_i64, wrap_u16_id, wrap_u8_id, tdiv_pos, tmod_pos, -getElem?_pos, -getElem?_neg, -List.length_eq_zero_iff, -List.getElem_cons_drop, hl]; rw [s_triuneref05_Same_L0_eq]; erw [same05_L n 0 _ l1 l2 .sh .sh hl hl1 h1 (by omega) n 0 [] (by omega) (by omega)]; rw [if_neg (by simpa using e)]; first | done | exact rfl)) ?_
      simp [e, s_triuneref05_Same_O0]
  · have e : ¬ l1 = l2 := fun h => hl (by rw [h])
    refine cP_of (args' := [LV 3 frE l1 .sh, LV 3 frE l2 .sh]) (by simp [argEl_eq]) ((s_triuneref05_Same_eq _ _ _ _ _).trans (by unfold s_triuneref05_Same; simp -implicitDefEqProofs (disch := first | omega | (simp only [List.length_set, List.length_append, List.length_cons, List.length_nil, List.length_take, List.length_drop, List.length_map]; omega) | simp) [wrap_i64, wrap_u16_id, wrap_u8_id, tdiv_pos, tmod_pos, -getElem?_pos, -getElem?_neg, -List.length_eq_zero_iff, -List.getElem_cons_drop, hl]; first | exact rfl | exact ⟨rfl, rfl⟩)) ?_
    simp [e]

theorem takeF_len (b : List Int) : (takeF b).1.length ≤ b.length ∧ (takeF b).2.1.length ≤ b.length := by
  induction b using takeF.induct with
  | case1 b h ih =>
    have hr := rdN_lo h
    have hL : rdLen b = 6 + rdN b := by unfold rdLen; rw [if_pos h]
    rw [takeF_0 h]
    simp only [List.length_cons, List.length_drop] at ih ⊢
    omega
  | case2 b h h2 => rw [takeF_2 h2]; simp
  | case3 b h h2 => rw [takeF_3 h h2]; simp
theorem takeF_frs (b : List Int) : FrsOk (takeF b).1 := by
  induction b using takeF.induct with
  | case1 b h ih =>
    have hr := rdN_lo h
    rw [takeF_0 h]
    intro f hf
    rcases List.mem_cons.mp hf with rfl | hf
    · show (rdPdu b).length ≤ 300
      unfold rdPdu
      rw [if_pos h]
      simp
      omega
    · exact ih f hf
  | case2 b h h2 => rw [takeF_2 h2]; intro f hf; simp at hf
  | case3 b h h2 => rw [takeF_3 h h2]; intro f hf; simp at hf
theorem takeF_bytes (b : List Int) (hb : Bytes b) : Bytes (takeF b).2.1 := by
  induction b using takeF.induct with
  | case1 b h ih => rw [takeF_0 h]; exact ih (hb.drop _)
  | case2 b h h2 => rw [takeF_2 h2]; intro f hf; simp at hf
  | case3 b h h2 => rw [takeF_3 h h2]; exact hb
end Go.Proofs.Ytigfninpflemnab
