/- Lists compared: of words, of bits. -/
import Derived.Test.YtjkofefcoeejbaaFSameL
import Derived.Test.YtjkofefcoeejbaaHp
-- NEEDS: slices.Equal[[]uint16,uint16]; slices.Equal[[]bool,bool]; triuneref02.Same; triuneref02.SameBits
namespace Go.Proofs.Ytjkofefcoeejbaa
open Go
set_option linter.unusedSimpArgs false
set_option linter.unusedVariables false
set_option maxRecDepth 100000
theorem eq16_L (n fl : Nat) (k : Ex → KF) (l1 l2 : List Int) (hl : l1.length = l2.length) (hl1 : l1.length ≤ 1000000) : ∀ (m i : Nat) (H : Heap), l1.length < m + i → i ≤ l1.length →
    s_slices_Equal___uint16_uint16__L0 n fl k m (LV 1 (I .u16) l1 .sh) (LV 1 (I .u16) l2 .sh) (I .i64 l1.length) (I .i64 i) H = if l1.drop i = l2.drop i then k (.exit 0) (s_slices_Equal___uint16_uint16__O0 .any) H else k .ret (s_slices_Equal___uint16_uint16__O0 (Bo false)) H := by
  intro m
  induction m with
  | zero => intro i H h; omega
  | succ m ih =>
    intro i H hm hi
    unfold s_slices_Equal___uint16_uint16__L0 s_slices_Equal___uint16_uint16__B0
    by_cases h : i < l1.length
    · have d1 : l1.drop i = l1[i] :: l1.drop (i + 1) := List.drop_eq_getElem_cons h
      have d2 : l2.drop i = l2[i] :: l2.drop (i + 1) := List.drop_eq_getElem_cons (by omega)
      have h' : i < l2.length := by omega
      rw [d1, d2]
      by_cases e : l1[i] = l2[i]
      · have ih' := ih (i + 1) H (by omega) (by omega)
        have hi2 : ((i + 1 : Nat) : Int) = (i : Int) + 1 := by omega
        rw [hi2] at ih'
        simp -implicitDefEqProofs (disch := first | omega | (simp only [List.length_set, List.length_append, List.length_cons, List.length_nil, List.length_take, List.length_drop, List.length_map]; omega) | simp) [wrap_i64, wrap_u16_id, wrap_u8_id, tdiv_pos, tmod_pos, -getElem?_pos, -getElem?_neg, -List.length_eq_zero_iff, -List.getElem_cons_drop, h, h', e, ih']
      · simp -implicitDefEqProofs (disch := first | omega | (simp only [List.length_set, List.length_append, List.length_cons, List.length_nil, List.length_take, List.length_drop, List.length_map]; omega) | simp) [wrap_i64, wrap_u16_id, wrap_u8_id, tdiv_pos, tmod_pos, -getElem?_pos, -getElem?_neg, -List.length_eq_zero_iff, -List.getElem_cons_drop, h, h', e]
    · have d1 : l1.drop i = [] := by simp; omega
      have d2 : l2.drop i = [] := by simp; omega
      rw [d1, d2, if_pos rfl]
      simp -implicitDefEqProofs (disch := first | omega | (simp only [List.length_set, List.length_append, List.length_cons, List.length_nil, List.length_take, List.length_drop, List.length_map]; omega) | simp) [wrap_i64, wrap_u16_id, wrap_u8_id, tdiv_pos, tmod_pos, -getElem?_pos, -getElem?_neg, -List.length_eq_zero_iff, -List.getElem_cons_drop, h]
theorem eq16_c (n : Nat) (l1 l2 : List Int) (t1 t2 : Tag) (hl1 : l1.length ≤ 1000000) (hn : l1.length + 2 ≤ n) : cP n 58 false [LV 1 (I .u16) l1 t1, LV 1 (I .u16) l2 t2] = some (Bo (decide (l1 = l2))) := by
  obtain ⟨n, rfl⟩ : ∃ m, n = m + 1 := ⟨n - 1, by omega⟩
  by_cases hl : l1.length = l2.length
  · have q : ∀ K, loopG [0, 1, 12, 13] [4] 26 (s_slices_Equal___uint16_uint16__b0 n 0) n (s_slices_Equal___uint16_uint16__I0 (LV 1 (I .u16) l1 .sh) (LV 1 (I .u16) l2 .sh) (I .i64 l1.length) (I .i64 0)) [] K = _ := fun K => (s_slices_Equal___uint16_uint16__L0_eq _ _ _ _ _ _ _ _ _).trans (eq16_L n 0 K l1 l2 hl hl1 n 0 [] (by omega) (by omega))
    by_cases e : l1 = l2
    · have q2 := fun K => (q K).trans (if_pos (by simp [e]))
      exact cP_of (r := Bo true) (args' := [LV 1 (I .u16) l1 .sh, LV 1 (I .u16) l2 .sh]) (by simp [argEl_eq]) ((s_slices_Equal___uint16_uint16__eq _ _ _ _ _).trans (by unfold s_slices_Equal___uint16_uint16_; simp -implicitDefEqProofs (disch := first | omega | (simp only [List.length_set, List.length_append, List.length_cons, List.length_nil, List.length_take, List.length_drop, List.length_map]; omega) | simp) [wrap_i64, wrap_u16_id, wrap_u8_id, tdiv_pos, tmod_pos, -getElem?_pos, -getElem?_neg, -List.length_eq_zero_iff, -List.getElem_cons_drop, q2, s_slices_Equal___uint16_uint16__O0]; first | exact rfl | exact ⟨rfl, rfl⟩)) (by simp [e])
    · have q2 := fun K => (q K).trans (if_neg (by simpa using e))
      exact cP_of (r := Bo false) (args' := [LV 1 (I .u16) l1 .sh, LV 1 (I .u16) l2 .sh]) (by simp [argEl_eq]) ((s_slices_Equal___uint16_uint16__eq _ _ _ _ _).trans (by unfold s_slices_Equal___uint16_uint16_; simp -implicitDefEqProofs (disch := first | omega | (simp only [List.length_set, List.length_append, List.length_cons, List.length_nil, List.length_take, List.length_drop, List.length_map]; omega) | simp) [wrap_i64, wrap_u16_id, wrap_u8_id, tdiv_pos, tmod_pos, -getElem?_pos, -getElem?_neg, -List.length_eq_zero_iff, -List.getElem_cons_drop, q2, s_slices_Equal___uint16_uint16__O0]; first | exact rfl | exact ⟨rfl, rfl⟩)) (by simp [e])
  · have e : ¬ l1 = l2 := fun h => hl (by rw [h])
    exact cP_of (r := Bo false) (args' := [LV 1 (I .u16) l1 .sh, LV 1 (I .u16) l2 .sh]) (by simp [argEl_eq]) ((s_slices_Equal___uint16_uint16__eq _ _ _ _ _).trans (by unfold s_slices_Equal___uint16_uint16_; simp -implicitDefEqProofs (disch := first | omega | (simp only [List.length_set, List.length_append, List.length_cons, List.length_nil, List.length_take, List.length_drop, List.length_map]; omega) | simp) [wrap_i64, wrap_u16_id, wrap_u8_id, tdiv_pos, tmod_pos, -getElem?_pos, -getElem?_neg, -List.length_eq_zero_iff, -List.getElem_cons_drop]; first | exact rfl | exact ⟨rfl, rfl⟩)) (by simp [e])
theorem eqB_L (n fl : Nat) (k : Ex → KF) (l1 l2 : List Bool) (hl : l1.length = l2.length) (hl1 : l1.length ≤ 1000000) : ∀ (m i : Nat) (H : Heap), l1.length < m + i → i ≤ l1.length →
    s_slices_Equal___bool_bool__L0 n fl k m (LV 1 Bo l1 .sh) (LV 1 Bo l2 .sh) (I .i64 l1.length) (I .i64 i) H = if l1.drop i = l2.drop i then k (.exit 0) (s_slices_Equal___bool_bool__O0 .any) H else k .ret (s_slices_Equal___bool_bool__O0 (Bo false)) H := by
  intro m
  induction m with
  | zero => intro i H h; omega
  | succ m ih =>
    intro i H hm hi
    unfold s_slices_Equal___bool_bool__L0 s_slices_Equal___bool_bool__B0
    by_cases h : i < l1.length
    · have d1 : l1.drop i = l1[i] :: l1.drop (i + 1) := List.drop_eq_getElem_cons h
      have d2 : l2.drop i = l2[i] :: l2.drop (i + 1) := List.drop_eq_getElem_cons (by omega)
      have h' : i < l2.length := by omega
      rw [d1, d2]
      by_cases e : l1[i] = l2[i]
      · have ih' := ih (i + 1) H (by omega) (by omega)
        have hi2 : ((i + 1 : Nat) : Int) = (i : Int) + 1 := by omega
        rw [hi2] at ih'
        simp -implicitDefEqProofs (disch := first | omega | (simp only [List.length_set, List.length_append, List.length_cons, List.length_nil, List.length_take, List.length_drop, List.length_map]; omega) | simp) [wrap_i64, wrap_u16_id, wrap_u8_id, tdiv_pos, tmod_pos, -getElem?_pos, -getElem?_neg, -List.length_eq_zero_iff, -List.getElem_cons_drop, h, h', e, ih']
      · have hne : (l1[i] != l2[i]) = true := by simpa using e
        simp -implicitDefEqProofs (disch := first | omega | (simp only [List.length_set, List.length_append, List.length_cons, List.length_nil, List.length_take, List.length_drop, List.length_map]; omega) | simp) [wrap_i64, wrap_u16_id, wrap_u8_id, tdiv_pos, tmod_pos, -getElem?_pos, -getElem?_neg, -List.length_eq_zero_iff, -List.getElem_cons_drop, h, h', hne, e]
    · have d1 : l1.drop i = [] := by simp; omega
      have d2 : l2.drop i = [] := by simp; omega
      rw [d1, d2, if_pos rfl]
      simp -implicitDefEqProofs (disch := first | omega | (simp only [List.length_set, List.length_append, List.length_cons, List.length_nil, List.length_take, List.length_drop, List.length_map]; omega) | simp) [wrap_i64, wrap_u16_id, wrap_u8_id, tdiv_pos, tmod_pos, -getElem?_pos, -getElem?_neg, -List.length_eq_zero_iff, -List.getElem_cons_drop, h]
theorem eqB_c (n : Nat) (l1 l2 : List Bool) (t1 t2 : Tag) (hl1 : l1.length ≤ 1000000) (hn : l1.length + 2 ≤ n) : cP n 59 false [LV 1 Bo l1 t1, LV 1 Bo l2 t2] = some (Bo (decide (l1 = l2))) := by
  obtain ⟨n, rfl⟩ : ∃ m, n = m + 1 := ⟨n - 1, by omega⟩
  by_cases hl : l1.length = l2.length
  · have q : ∀ K, loopG [0, 1, 12, 13] [4] 26 (s_slices_Equal___bool_bool__b0 n 0) n (s_slices_Equal___bool_bool__I0 (LV 1 Bo l1 .sh) (LV 1 Bo l2 .sh) (I .i64 l1.length) (I .i64 0)) [] K = _ := fun K => (s_slices_Equal___bool_bool__L0_eq _ _ _ _ _ _ _ _ _).trans (eqB_L n 0 K l1 l2 hl hl1 n 0 [] (by omega) (by omega))
    by_cases e : l1 = l2
    · have q2 := fun K => (q K).trans (if_pos (by simp [e]))
      exact cP_of (r := Bo true) (args' := [LV 1 Bo l1 .sh, LV 1 Bo l2 .sh]) (by simp [argEl_eq]) ((s_slices_Equal___bool_bool__eq _ _ _ _ _).trans (by unfold s_slices_Equal___bool_bool_; simp -implicitDefEqProofs (disch := first | omega | (simp only [List.length_set, List.length_append, List.length_cons, List.length_nil, List.length_take, List.length_drop, List.length_map]; omega) | simp) [wrap_i64, wrap_u16_id, wrap_u8_id, tdiv_pos, tmod_pos, -getElem?_pos, -getElem?_neg, -List.length_eq_zero_iff, -List.getElem_cons_drop, q2, s_slices_Equal___bool_bool__O0]; first | exact rfl | exact ⟨rfl, rfl⟩)) (by simp [e])
    · have q2 := fun K => (q K).trans (if_neg (by simpa using e))
      exact cP_of (r := Bo false) (args' := [LV 1 Bo l1 .sh, LV 1 Bo l2 .sh]) (by simp [argEl_eq]) ((s_slices_Equal___bool_bool__eq _ _ _ _ _).trans (by unfold s_slices_Equal___bool_bool_; simp -implicitDefEqProofs (disch := first | omega | (simp only [List.length_set, List.length_append, List.length_cons, List.length_nil, List.length_take, List.length_drop, List.length_map]; omega) | simp) [wrap_i64, wrap_u16_id, wrap_u8_id, tdiv_pos, tmod_pos, -getElem?_pos, -getElem?_neg, -List.length_eq_zero_iff, -List.getElem_cons_drop, q2, s_slices_Equal___bool_bool__O0]; first | exact rfl | exact ⟨rfl, rfl⟩)) (by simp [e])
  · have e : ¬ l1 = l2 := fun h => hl (by rw [h])
    exact cP_of (r := Bo false) (args' := [LV 1 Bo l1 .sh, LV 1 Bo l2 .sh]) (by simp [argEl_eq]) ((s_slices_Equal___bool_bool__eq _ _ _ _ _).trans (by unfold s_slices_Equal___bool_bool_; simp -implicitDefEqProofs (disch := first | omega | (simp only [List.length_set, List.length_append, List.length_cons, List.length_nil, List.length_take, List.length_drop, List.length_map]; omega) | simp) [wrap_i64, wrap_u16_id, wrap_u8_id, tdiv_pos, tmod_pos, -getElem?_pos, -getElem?_neg, -List.length_eq_zero_iff, -List.getElem_cons_drop]; first | exact rfl | exact ⟨rfl, rfl⟩)) (by simp [e])
theorem ref02_Same_L (n fl : Nat) (k : Ex → KF) (l1 l2 : List Int) (hl : l1.length = l2.length) (hl1 : l1.length ≤ 1000000) : ∀ (m i : Nat) (H : Heap), l1.length < m + i → i ≤ l1.length →
    s_triuneref02_Same_L0 n fl k m (LV 1 (I .u16) l1 .sh) (LV 1 (I .u16) l2 .sh) (I .i64 i) H = if l1.drop i = l2.drop i then k (.exit 0) (s_triuneref02_Same_O0 .any) H else k .ret (s_triuneref02_Same_O0 (Bo false)) H := by
  intro m
  induction m with
  | zero => intro i H h; omega
  | succ m ih =>
    intro i H hm hi
    unfold s_triuneref02_Same_L0 s_triuneref02_Same_B0
    by_cases h : i < l1.length
    · have d1 : l1.drop i = l1[i] :: l1.drop (i + 1) := List.drop_eq_getElem_cons h
      have d2 : l2.drop i = l2[i] :: l2.drop (i + 1) := List.drop_eq_getElem_cons (by omega)
      have h' : i < l2.length := by omega
      rw [d1, d2]
      by_cases e : l1[i] = l2[i]
      · have ih' := ih (i + 1) H (by omega) (by omega)
        have hi2 : ((i + 1 : Nat) : Int) = (i : Int) + 1 := by omega
        rw [hi2] at ih'
        simp -implicitDefEqProofs (disch := first | omega | (simp only [List.length_set, List.length_append, List.length_cons, List.length_nil, List.length_take, List.length_drop, List.length_map]; omega) | simp) [wrap_i64, wrap_u16_id, wrap_u8_id, tdiv_pos, tmod_pos, -getElem?_pos, -getElem?_neg, -List.length_eq_zero_iff, -List.getElem_cons_drop, h, h', e, ih']
      · simp -implicitDefEqProofs (disch := first | omega | (simp only [List.length_set, List.length_append, List.length_cons, List.length_nil, List.length_take, List.length_drop, List.length_map]; omega) | simp) [wrap_i64, wrap_u16_id, wrap_u8_id, tdiv_pos, tmod_pos, -getElem?_pos, -getElem?_neg, -List.length_eq_zero_iff, -List.getElem_cons_drop, h, h', e]
    · have d1 : l1.drop i = [] := by simp; omega
      have d2 : l2.drop i = [] := by simp; omega
      rw [d1, d2, if_pos rfl]
      simp -implicitDefEqProofs (disch := first | omega | (simp only [List.length_set, List.length_append, List.length_cons, List.length_nil, List.length_take, List.length_drop, List.length_map]; omega) | simp) [wrap_i64, wrap_u16_id, wrap_u8_id, tdiv_pos, tmod_pos, -getElem?_pos, -getElem?_neg, -List.length_eq_zero_iff, -List.getElem_cons_drop, h]
theorem ref02_Same_c (n : Nat) (l1 l2 : List Int) (t1 t2 : Tag) (hl1 : l1.length ≤ 1000000) (hn : l1.length + 2 ≤ n) : cP n 55 false [LV 1 (I .u16) l1 t1, LV 1 (I .u16) l2 t2] = some (Bo (decide (l1 = l2))) := by
  obtain ⟨n, rfl⟩ : ∃ m, n = m + 1 := ⟨n - 1, by omega⟩
  by_cases hl : l1.length = l2.length
  · have q : ∀ K, loopG [0, 1, 5] [4] 26 (s_triuneref02_Same_b0 n 0) n (s_triuneref02_Same_I0 (LV 1 (I .u16) l1 .sh) (LV 1 (I .u16) l2 .sh) (I .i64 0)) [] K = _ := fun K => (s_triuneref02_Same_L0_eq _ _ _ _ _ _ _ _).trans (ref02_Same_L n 0 K l1 l2 hl hl1 n 0 [] (by omega) (by omega))
    by_cases e : l1 = l2
    · have q2 := fun K => (q K).trans (if_pos (by simp [e]))
      exact cP_of (r := Bo true) (args' := [LV 1 (I .u16) l1 .sh, LV 1 (I .u16) l2 .sh]) (by simp [argEl_eq]) ((s_triuneref02_Same_eq _ _ _ _ _).trans (by unfold s_triuneref02_Same; simp -implicitDefEqProofs (disch := first | omega | (simp only [List.length_set, List.length_append, List.length_cons, List.length_nil, List.length_take, List.length_drop, List.length_map]; omega) | simp) [wrap_i64, wrap_u16_id, wrap_u8_id, tdiv_pos, tmod_pos, -getElem?_pos, -getElem?_neg, -List.length_eq_zero_iff, -List.getElem_cons_drop, q2, s_triuneref02_Same_O0]; first | exact rfl | exact ⟨rfl, rfl⟩)) (by simp [e])
    · have q2 := fun K => (q K).trans (if_neg (by simpa using e))
      exact cP_of (r := Bo false) (args' := [LV 1 (I .u16) l1 .sh, LV 1 (I .u16) l2 .sh]) (by simp [argEl_eq]) ((s_triuneref02_Same_eq _ _ _ _ _).trans (by unfold s_triuneref02_Same; simp -implicitDefEqProofs (disch := first | omega | (simp only [List.length_set, List.length_append, List.length_cons, List.length_nil, List.length_take, List.length_drop, List.length_map]; omega) | simp) [wrap_i64, wrap_u16_id, wrap_u8_id, tdiv_pos, tmod_pos, -getElem?_pos, -getElem?_neg, -List.length_eq_zero_iff, -List.getElem_cons_drop, q2, s_triuneref02_Same_O0]; first | exact rfl | exact ⟨rfl, rfl⟩)) (by simp [e])
  · have e : ¬ l1 = l2 := fun h => hl (by rw [h])
    exact cP_of (r := Bo false) (args' := [LV 1 (I .u16) l1 .sh, LV 1 (I .u16) l2 .sh]) (by simp [argEl_eq]) ((s_triuneref02_Same_eq _ _ _ _ _).trans (by unfold s_triuneref02_Same; simp -implicitDefEqProofs (disch := first | omega | (simp only [List.length_set, List.length_append, List.length_cons, List.length_nil, List.length_take, List.length_drop, List.length_map]; omega) | simp) [wrap_i64, wrap_u16_id, wrap_u8_id, tdiv_pos, tmod_pos, -getElem?_pos, -getElem?_neg, -List.length_eq_zero_iff, -List.getElem_cons_drop]; first | exact rfl | exact ⟨rfl, rfl⟩)) (by simp [e])
theorem ref02_SameBits_L (n fl : Nat) (k : Ex → KF) (l1 l2 : List Bool) (hl : l1.length = l2.length) (hl1 : l1.length ≤ 1000000) : ∀ (m i : Nat) (H : Heap), l1.length < m + i → i ≤ l1.length →
    s_triuneref02_SameBits_L0 n fl k m (LV 1 Bo l1 .sh) (LV 1 Bo l2 .sh) (I .i64 i) H = if l1.drop i = l2.drop i then k (.exit 0) (s_triuneref02_SameBits_O0 .any) H else k .ret (s_triuneref02_SameBits_O0 (Bo false)) H := by
  intro m
  induction m with
  | zero => intro i H h; omega
  | succ m ih =>
    intro i H hm hi
    unfold s_triuneref02_SameBits_L0 s_triuneref02_SameBits_B0
    by_cases h : i < l1.length
    · have d1 : l1.drop i = l1[i] :: l1.drop (i + 1) := List.drop_eq_getElem_cons h
      have d2 : l2.drop i = l2[i] :: l2.drop (i + 1) := List.drop_eq_getElem_cons (by omega)
      have h' : i < l2.length := by omega
      rw [d1, d2]
      by_cases e : l1[i] = l2[i]
      · have ih' := ih (i + 1) H (by omega) (by omega)
        have hi2 : ((i + 1 : Nat) : Int) = (i : Int) + 1 := by omega
        rw [hi2] at ih'
        simp -implicitDefEqProofs (disch := first | omega | (simp only [List.length_set, List.length_append, List.length_cons, List.length_nil, List.length_take, List.length_drop, List.length_map]; omega) | simp) [wrap_i64, wrap_u16_id, wrap_u8_id, tdiv_pos, tmod_pos, -getElem?_pos, -getElem?_neg, -List.length_eq_zero_iff, -List.getElem_cons_drop, h, h', e, ih']
      · have hne : (l1[i] != l2[i]) = true := by simpa using e
        simp -implicitDefEqProofs (disch := first | omega | (simp only [List.length_set, List.length_append, List.length_cons, List.length_nil, List.length_take, List.length_drop, List.length_map]; omega) | simp) [wrap_i64, wrap_u16_id, wrap_u8_id, tdiv_pos, tmod_pos, -getElem?_pos, -getElem?_neg, -List.length_eq_zero_iff, -List.getElem_cons_drop, h, h', hne, e]
    · have d1 : l1.drop i = [] := by simp; omega
      have d2 : l2.drop i = [] := by simp; omega
      rw [d1, d2, if_pos rfl]
      simp -implicitDefEqProofs (disch := first | omega | (simp only [List.length_set, List.length_append, List.length_cons, List.length_nil, List.length_take, List.length_drop, List.length_map]; omega) | simp) [wrap_i64, wrap_u16_id, wrap_u8_id, tdiv_pos, tmod_pos, -getElem?_pos, -getElem?_neg, -List.length_eq_zero_iff, -List.getElem_cons_drop, h]
theorem ref02_SameBits_c (n : Nat) (l1 l2 : List Bool) (t1 t2 : Tag) (hl1 : l1.length ≤ 1000000) (hn : l1.length + 2 ≤ n) : cP n 56 false [LV 1 Bo l1 t1, LV 1 Bo l2 t2] = some (Bo (decide (l1 = l2))) := by
  obtain ⟨n, rfl⟩ : ∃ m, n = m + 1 := ⟨n - 1, by omega⟩
  by_cases hl : l1.length = l2.length
  · have q : ∀ K, loopG [0, 1, 5] [4] 26 (s_triuneref02_SameBits_b0 n 0) n (s_triuneref02_SameBits_I0 (LV 1 Bo l1 .sh) (LV 1 Bo l2 .sh) (I .i64 0)) [] K = _ := fun K => (s_triuneref02_SameBits_L0_eq _ _ _ _ _ _ _ _).trans (ref02_SameBits_L n 0 K l1 l2 hl hl1 n 0 [] (by omega) (by omega))
    by_cases e : l1 = l2
    · have q2 := fun K => (q K).trans (if_pos (by simp [e]))
      exact cP_of (r := Bo true) (args' := [LV 1 Bo l1 .sh, LV 1 Bo l2 .sh]) (by simp [argEl_eq]) ((s_triuneref02_SameBits_eq _ _ _ _ _).trans (by unfold s_triuneref02_SameBits; simp -implicitDefEqProofs (disch := first | omega | (simp only [List.length_set, List.length_append, List.length_cons, List.length_nil, List.length_take, List.length_drop, List.length_map]; omega) | simp) [wrap_i64, wrap_u16_id, wrap_u8_id, tdiv_pos, tmod_pos, -getElem?_pos, -getElem?_neg, -List.length_eq_zero_iff, -List.getElem_cons_drop, q2, s_triuneref02_SameBits_O0]; first | exact rfl | exact ⟨rfl, rfl⟩)) (by simp [e])
    · have q2 := fun K => (q K).trans (if_neg (by simpa using e))
      exact cP_of (r := Bo false) (args' := [LV 1 Bo l1 .sh, LV 1 Bo l2 .sh]) (by simp [argEl_eq]) ((s_triuneref02_SameBits_eq _ _ _ _ _).trans (by unfold s_triuneref02_SameBits; simp -implicitDefEqProofs (disch := first | omega | (simp only [List.length_set, List.length_append, List.length_cons, List.length_nil, List.length_take, List.length_drop, List.length_map]; omega) | simp) [wrap_i64, wrap_u16_id, wrap_u8_id, tdiv_pos, tmod_pos, -getElem?_pos, -getElem?_neg, -List.length_eq_zero_iff, -List.getElem_cons_drop, q2, s_triuneref02_SameBits_O0]; first | exact rfl | exact ⟨rfl, rfl⟩)) (by simp [e])
  · have e : ¬ l1 = l2 := fun h => hl (by rw [h])
    exact cP_of (r := Bo false) (args' := [LV 1 Bo l1 .sh, LV 1 Bo l2 .sh]) (by simp [argEl_eq]) ((s_triuneref02_SameBits_eq _ _ _ _ _).trans (by unfold s_triuneref02_SameBits; simp -implicitDefEqProofs (disch := first | omega | (simp only [List.length_set, List.length_append, List.length_cons, List.length_nil, List.length_take, List.length_drop, List.length_map]; omega) | simp) [wrap_i64, wrap_u16_id, wrap_u8_id, tdiv_pos, tmod_pos, -getElem?_pos, -getElem?_neg, -List.length_eq_zero_iff, -List.getElem_cons_drop]; first | exact rfl | exact ⟨rfl, rfl⟩)) (by simp [e])
end Go.Proofs.Ytjkofefcoeejbaa
