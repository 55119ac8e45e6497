/- try -/
import Derived.Test.YtigfninpflemnaaTx
namespace Go.Proofs.Ytigfninpflemnaa
open Go
set_option linter.unusedSimpArgs false
theorem buildL_i7 (k : IntKind) (z a b c d e f g : Int) : buildL false 1 7 (.flat (.int k z)) [(0, .flat (.int k a)), (1, .flat (.int k b)), (2, .flat (.int k c)), (3, .flat (.int k d)), (4, .flat (.int k e)), (5, .flat (.int k f)), (6, .flat (.int k g))] = some (LV 1 (I k) [a, b, c, d, e, f, g] .ti) := by kernel_rfl
theorem ref04_Bytes_c (n : Nat) (hn : 3 ≤ n) (t u : Int) (p : List Int) (g : Tag) (h0 : 0 ≤ t) (h1 : t < 65536) (hl : p.length ≤ 1000) :
    cP n 54 false [frameV t u p g] = some (.tup [LV 1 (I .u8) (frameOut t u p) .sh, I .i64 (frameErr p.length)]) := by
  obtain ⟨n, rfl⟩ : ∃ m, n = m + 1 := ⟨n - 1, by omega⟩
  by_cases c0 : p.length = 0
  · refine cP_of (by simp [argEl_eq, frameV]; rfl) ((s_triuneref04_Bytes_eq _ _ _ _).trans (by unfold s_triuneref04_Bytes; simp -implicitDefEqProofs (disch := first | omega | simp) [wrap_i64, wrap_u16_id, wrap_u8_id, tdiv_pos, tmod_pos, -List.length_eq_zero_iff, -List.getElem_cons_drop]; first | exact rfl | exact ⟨rfl, rfl⟩)) ?_
    simp [frameOut, frameErr, c0]; rfl
  by_cases c1 : 253 < p.length
  · refine cP_of (by simp [argEl_eq, frameV]; rfl) ((s_triuneref04_Bytes_eq _ _ _ _).trans (by unfold s_triuneref04_Bytes; simp -implicitDefEqProofs (disch := first | omega | simp) [wrap_i64, wrap_u16_id, wrap_u8_id, tdiv_pos, tmod_pos, -List.length_eq_zero_iff, -List.getElem_cons_drop]; first | exact rfl | exact ⟨rfl, rfl⟩)) ?_
    simp [frameOut, frameErr, c0, c1]; rfl
  have e3 : ∀ (xs : List Int) H, xs.length = 7 → appG 5 false 1 1 (LV 1 (I .u8) xs .ti) (LV 1 (I .u8) p .sh) H 0 = some (LV 1 (I .u8) (xs ++ p) (.own H.length), H ++ [.token 5 1 (xs.length + p.length)]) := fun xs H hx =>
    appG_ti (by intro h; simp [h] at c0) rfl (by omega) (by omega)
  refine cP_of (by simp [argEl_eq, frameV]; rfl) ((s_triuneref04_Bytes_eq _ _ _ _).trans (by unfold s_triuneref04_Bytes; simp -implicitDefEqProofs (disch := first | omega | simp) [wrap_i64, wrap_u16_id, wrap_u8_id, tdiv_pos, tmod_pos, -List.length_eq_zero_iff, -List.getElem_cons_drop, buildL_i7, e3]; first | exact rfl | exact ⟨rfl, rfl⟩)) ?_
  have hf : frameErr p.length = 0 := by simp [frameErr, c0, c1]
  simp [frameOut, hf, frameBytes]
theorem ref01_Same_L (n fl : Nat) (k : Ex → KF) (l1 l2 : List Int) (hl : l1.length = l2.length) (hl1 : l1.length ≤ 1000000) : ∀ (m i : Nat) (H : Heap), l1.length < m + i → i ≤ l1.length →
    s_triuneref01_Same_L0 n fl k m (LV 1 (I .u8) l1 .sh) (LV 1 (I .u8) l2 .sh) (I .i64 i) H = if l1.drop i = l2.drop i then k (.exit 0) (s_triuneref01_Same_O0 .any) H else k .ret (s_triuneref01_Same_O0 (Bo false)) H := by
  intro m
  induction m with
  | zero => intro i H h; omega
  | succ m ih =>
    intro i H hm hi
    unfold s_triuneref01_Same_L0 s_triuneref01_Same_B0
    by_cases h : i < l1.length
    · have d1 : l1.drop i = l1[i] :: l1.drop (i + 1) := List.drop_eq_getElem_cons h
      have d2 : l2.drop i = l2[i] :: l2.drop (i + 1) := List.drop_eq_getElem_cons (by omega)
      have h' : i < l2.length := by omega
      rw [d1, d2]
      by_cases e : l1[i] = l2[i]
      · have ih' := ih (i + 1) H (by omega) (by omega)
        have hi2 : ((i + 1 : Nat) : Int) = (i : Int) + 1 := by omega
        rw [hi2] at ih'
        simp -implicitDefEqProofs (disch := first | omega | simp) [wrap_i64, wrap_u16_id, wrap_u8_id, tdiv_pos, tmod_pos, -List.length_eq_zero_iff, -List.getElem_cons_drop, h, h', e, ih']
      · simp -implicitDefEqProofs (disch := first | omega | simp) [wrap_i64, wrap_u16_id, wrap_u8_id, tdiv_pos, tmod_pos, -List.length_eq_zero_iff, -List.getElem_cons_drop, h, h', e]
    · have d1 : l1.drop i = [] := by simp; omega
      have d2 : l2.drop i = [] := by simp; omega
      rw [d1, d2, if_pos rfl]
      simp -implicitDefEqProofs (disch := first | omega | simp) [wrap_i64, wrap_u16_id, wrap_u8_id, tdiv_pos, tmod_pos, -List.length_eq_zero_iff, -List.getElem_cons_drop, h]
theorem ref01_Same_c (n : Nat) (l1 l2 : List Int) (t1 t2 : Tag) (hl1 : l1.length ≤ 1000000) (hn : l1.length + 2 ≤ n) : cP n 18 false [LV 1 (I .u8) l1 t1, LV 1 (I .u8) l2 t2] = some (Bo (decide (l1 = l2))) := by
  obtain ⟨n, rfl⟩ : ∃ m, n = m + 1 := ⟨n - 1, by omega⟩
  by_cases hl : l1.length = l2.length
  · by_cases e : l1 = l2
    · refine cP_of (args' := [LV 1 (I .u8) l1 .sh, LV 1 (I .u8) l2 .sh]) (by simp [argEl_eq]) ((s_triuneref01_Same_eq _ _ _ _ _).trans (by unfold s_triuneref01_Same; simp -implicitDefEqProofs (disch := first | omega | simp) [wrap_i64, wrap_u16_id, wrap_u8_id, tdiv_pos, tmod_pos, -List.length_eq_zero_iff, -List.getElem_cons_drop, hl]; rw [s_triuneref01_Same_L0_eq]; erw [ref01_Same_L n 0 _ l1 l2 hl hl1 n 0 [] (by omega) (by omega)]; rw [if_pos (by simp [e])]; first | done | exact rfl)) ?_
      simp [e]
    · refine cP_of (args' := [LV 1 (I .u8) l1 .sh, LV 1 (I .u8) l2 .sh]) (by simp [argEl_eq]) ((s_triuneref01_Same_eq _ _ _ _ _).trans (by unfold s_triuneref01_Same; simp -implicitDefEqProofs (disch := first | omega | simp) [wrap_i64, wrap_u16_id, wrap_u8_id, tdiv_pos, tmod_pos, -List.length_eq_zero_iff, -List.getElem_cons_drop, hl]; rw [s_triuneref01_Same_L0_eq]; erw [ref01_Same_L n 0 _ l1 l2 hl hl1 n 0 [] (by omega) (by omega)]; rw [if_neg (by simpa using e)]; first | done | exact rfl)) ?_
      simp [e, s_triuneref01_Same_O0]
  · have e : ¬ l1 = l2 := fun h => hl (by rw [h])
    refine cP_of (args' := [LV 1 (I .u8) l1 .sh, LV 1 (I .u8) l2 .sh]) (by simp [argEl_eq]) ((s_triuneref01_Same_eq _ _ _ _ _).trans (by unfold s_triuneref01_Same; simp -implicitDefEqProofs (disch := first | omega | simp) [wrap_i64, wrap_u16_id, wrap_u8_id, tdiv_pos, tmod_pos, -List.length_eq_zero_iff, -List.getElem_cons_drop, hl]; first | exact rfl | exact ⟨rfl, rfl⟩)) ?_
    simp [e]
theorem mbap_Same_c (n : Nat) (a b c d : Int) (p q : List Int) (t1 t2 : Tag) (hp : Bytes p) (hq : Bytes q) (hn : 3 ≤ n) : cP n 58 false [frameV a b p t1, frameV c d q t2] = some (Bo (decide (a = c ∧ b = d ∧ p = q))) := by
  obtain ⟨n, rfl⟩ : ∃ m, n = m + 1 := ⟨n - 1, by omega⟩
  have hE := bytes_Equal_c n p q .sh .sh hp hq (by omega)
  by_cases e1 : a = c
  · by_cases e2 : b = d
    · refine cP_of (args' := [frameV a b p .sh, frameV c d q .sh]) (by simp [argEl_eq, frameV]) ((s_mbap_Same_eq _ _ _ _ _).trans (by unfold s_mbap_Same frameV; simp -implicitDefEqProofs (disch := first | omega | simp) [wrap_i64, wrap_u16_id, wrap_u8_id, tdiv_pos, tmod_pos, -List.length_eq_zero_iff, -List.getElem_cons_drop, hE, e1, e2]; first | exact rfl | exact ⟨rfl, rfl⟩)) ?_
      simp [e1, e2]
    · refine cP_of (args' := [frameV a b p .sh, frameV c d q .sh]) (by simp [argEl_eq, frameV]) ((s_mbap_Same_eq _ _ _ _ _).trans (by unfold s_mbap_Same frameV; simp -implicitDefEqProofs (disch := first | omega | simp) [wrap_i64, wrap_u16_id, wrap_u8_id, tdiv_pos, tmod_pos, -List.length_eq_zero_iff, -List.getElem_cons_drop, e1, e2]; first | exact rfl | exact ⟨rfl, rfl⟩)) ?_
      simp [e1, e2]
  · refine cP_of (args' := [frameV a b p .sh, frameV c d q .sh]) (by simp [argEl_eq, frameV]) ((s_mbap_Same_eq _ _ _ _ _).trans (by unfold s_mbap_Same frameV; simp -implicitDefEqProofs (disch := first | omega | simp) [wrap_i64, wrap_u16_id, wrap_u8_id, tdiv_pos, tmod_pos, -List.length_eq_zero_iff, -List.getElem_cons_drop, e1]; first | exact rfl | exact ⟨rfl, rfl⟩)) ?_
    simp [e1]
theorem ref04_Same_c (n : Nat) (a b c d : Int) (p q : List Int) (t1 t2 : Tag) (hp : p.length ≤ 1000000) (hn : p.length + 4 ≤ n) : cP n 57 false [frameV a b p t1, frameV c d q t2] = some (Bo (decide (a = c ∧ b = d ∧ p = q))) := by
  obtain ⟨n, rfl⟩ : ∃ m, n = m + 1 := ⟨n - 1, by omega⟩
  have hE := ref01_Same_c n p q .sh .sh hp (by omega)
  by_cases e1 : a = c
  · by_cases e2 : b = d
    · refine cP_of (args' := [frameV a b p .sh, frameV c d q .sh]) (by simp [argEl_eq, frameV]) ((s_triuneref04_Same_eq _ _ _ _ _).trans (by unfold s_triuneref04_Same frameV; simp -implicitDefEqProofs (disch := first | omega | simp) [wrap_i64, wrap_u16_id, wrap_u8_id, tdiv_pos, tmod_pos, -List.length_eq_zero_iff, -List.getElem_cons_drop, hE, e1, e2]; first | exact rfl | exact ⟨rfl, rfl⟩)) ?_
      simp [e1, e2]
    · refine cP_of (args' := [frameV a b p .sh, frameV c d q .sh]) (by simp [argEl_eq, frameV]) ((s_triuneref04_Same_eq _ _ _ _ _).trans (by unfold s_triuneref04_Same frameV; simp -implicitDefEqProofs (disch := first | omega | simp) [wrap_i64, wrap_u16_id, wrap_u8_id, tdiv_pos, tmod_pos, -List.length_eq_zero_iff, -List.getElem_cons_drop, e1, e2]; first | exact rfl | exact ⟨rfl, rfl⟩)) ?_
      simp [e1, e2]
  · refine cP_of (args' := [frameV a b p .sh, frameV c d q .sh]) (by simp [argEl_eq, frameV]) ((s_triuneref04_Same_eq _ _ _ _ _).trans (by unfold s_triuneref04_Same frameV; simp -implicitDefEqProofs (disch := first | omega | simp) [wrap_i64, wrap_u16_id, wrap_u8_id, tdiv_pos, tmod_pos, -List.length_eq_zero_iff, -List.getElem_cons_drop, e1]; first | exact rfl | exact ⟨rfl, rfl⟩)) ?_
    simp [e1]
end Go.Proofs.Ytigfninpflemnaa
