/- A point's place, in the program. -/
import Derived.Test.YtigfninpflemnabFFindB
import Derived.Test.YtigfninpflemnabGPoint
-- NEEDS: bank.find; bank.find$1; slices.IndexFunc[[]triune/api.Point,triune/api.Point]
namespace Go.Proofs.Ytigfninpflemnab
open Go
set_option linter.unusedSimpArgs false
set_option linter.unusedVariables false
theorem cV_ro {n fl f : Nat} {caps args : List DV} {H : Heap} {d : DV} (hm : ENV.md f = .ro) (h : cO n f (args ++ caps) H = some d) : cV n fl (.clo (.func f) [] caps) args H = some (d, H) := by
  unfold cV callVG callV
  simp only [fnOf, hm]
  have := callO_ok (cf' := callG Try.prog ENV n) (fun _ _ _ _ _ h => h) (fl := fl) h
  unfold callO at this
  rw [this]
  rfl
theorem IndexFunc_L (n fl : Nat) (f : DV) (q : Pt → Bool) (l : List Pt) (t : Tag) (H : Heap) (hl : l.length ≤ 100000) (hf : ∀ p ∈ l, cV n fl f [ptE p] H = some (Bo (q p), H)) : ∀ (m i : Nat), l.length < m + i → i ≤ l.length →
    ∀ K, s_slices_IndexFunc___api_Point_api_Point__L0 n fl K m (LV 5 ptE l t) f (I .i64 l.length) (I .i64 i) H = if findI q (l.drop i) i = -1 then K (.exit 0) (s_slices_IndexFunc___api_Point_api_Point__O0 .any) H else K .ret (s_slices_IndexFunc___api_Point_api_Point__O0 (I .i64 (findI q (l.drop i) i))) H := by
  intro m
  induction m with
  | zero => intro i h; omega
  | succ m ih =>
    intro i hm hi K
    unfold s_slices_IndexFunc___api_Point_api_Point__L0 s_slices_IndexFunc___api_Point_api_Point__B0
    by_cases h : i < l.length
    · have hd : l.drop i = l[i] :: l.drop (i + 1) := List.drop_eq_getElem_cons h
      have hq := hf _ (List.getElem_mem h)
      have ih' := ih (i + 1) (by omega) (by omega) K
      have hi2 : ((i + 1 : Nat) : Int) = (i : Int) + 1 := by omega
      rw [hi2] at ih'
      rw [hd, findI]
      unfold ptE at hq
      by_cases e : q l[i] = true
      · rw [if_pos e, if_neg (by omega)]
        rw [e] at hq
        simp -implicitDefEqProofs (disch := first | omega | (simp only [List.length_set, List.length_append, List.length_cons, List.length_nil, List.length_take, List.length_drop, List.length_map]; omega) | simp) [wrap_i64, wrap_u16_id, wrap_u8_id, tdiv_pos, tmod_pos, -getElem?_pos, -getElem?_neg, -List.length_eq_zero_iff, -List.getElem_cons_drop, h, ptE_cells, hq]
      · have e' : q l[i] = false := by simpa using e
        rw [if_neg e]
        rw [e'] at hq
        simp -implicitDefEqProofs (disch := first | omega | (simp only [List.length_set, List.length_append, List.length_cons, List.length_nil, List.length_take, List.length_drop, List.length_map]; omega) | simp) [wrap_i64, wrap_u16_id, wrap_u8_id, tdiv_pos, tmod_pos, -getElem?_pos, -getElem?_neg, -List.length_eq_zero_iff, -List.getElem_cons_drop, h, ptE_cells, hq, ih']
    · have hd : l.drop i = [] := by simp; omega
      rw [hd, findI, if_pos rfl]
      simp -implicitDefEqProofs (disch := first | omega | (simp only [List.length_set, List.length_append, List.length_cons, List.length_nil, List.length_take, List.length_drop, List.length_map]; omega) | simp) [wrap_i64, wrap_u16_id, wrap_u8_id, tdiv_pos, tmod_pos, -getElem?_pos, -getElem?_neg, -List.length_eq_zero_iff, -List.getElem_cons_drop, h]
theorem IndexFunc_c (n : Nat) (f : DV) (q : Pt → Bool) (l : List Pt) (t : Tag) (H : Heap) (hl : l.length ≤ 100000) (hn : l.length + 2 ≤ n) (hf : ∀ p ∈ l, cV (n - 1) H.length f [ptE p] H = some (Bo (q p), H)) :
    cO n 76 [LV 5 ptE l t, f] H = some (I .i64 (findI q l 0)) := by
  obtain ⟨n, rfl⟩ : ∃ m, n = m + 1 := ⟨n - 1, by omega⟩
  have hL := IndexFunc_L n H.length f q l t H hl hf n 0 (by omega) (by omega)
  rw [List.drop_zero] at hL
  refine cO_of (r := I .i64 (findI q l 0)) (H' := H) ((s_slices_IndexFunc___api_Point_api_Point__eq _ _ _ _ _).trans ?_) (by simp)
  unfold s_slices_IndexFunc___api_Point_api_Point_
  simp -implicitDefEqProofs (disch := first | omega | (simp only [List.length_set, List.length_append, List.length_cons, List.length_nil, List.length_take, List.length_drop, List.length_map]; omega) | simp) [wrap_i64, wrap_u16_id, wrap_u8_id, tdiv_pos, tmod_pos, -getElem?_pos, -getElem?_neg, -List.length_eq_zero_iff, -List.getElem_cons_drop]
  rw [s_slices_IndexFunc___api_Point_api_Point__L0_eq]
  refine (hL _).trans ?_
  by_cases e : findI q l 0 = -1
  · have e' : findI q l ((0 : Nat) : Int) = -1 := e
    rw [if_pos e', e]
    rfl
  · have e' : ¬ findI q l ((0 : Nat) : Int) = -1 := e
    rw [if_neg e']
    rfl
theorem find1_c (n k : Nat) (H : Heap) (p : Pt) (kind at_ : Int) (e1 e2 : TypeId) (hn : 1 ≤ n) (h1 : H[k]? = some (.cells e1 [I .i64 kind])) (h2 : H[k + 1]? = some (.cells e2 [I .i64 at_])) :
    cO n 77 ([ptE p] ++ [.ptr k 0, .ptr (k + 1) 0]) H = some (Bo (isPt kind at_ p)) := by
  obtain ⟨n, rfl⟩ : ∃ m, n = m + 1 := ⟨n - 1, by omega⟩
  have l1 := hp_lt h1
  have l2 := hp_lt h2
  unfold isPt
  by_cases c1 : p.kind = kind
  · by_cases c2 : p.at_ = at_
    · exact cO_of (H' := H ++ [.cells 48 [I .i64 p.kind, I .i64 p.addr, I .i64 p.at_, I .i64 p.band, I .i64 p.safe]]) ((s_bank_find_1_eq _ _ _ _ _ _).trans (by unfold s_bank_find_1 ptE; simp -implicitDefEqProofs (disch := first | omega | (simp only [List.length_set, List.length_append, List.length_cons, List.length_nil, List.length_take, List.length_drop, List.length_map]; omega) | simp) [wrap_i64, wrap_u16_id, wrap_u8_id, tdiv_pos, tmod_pos, -getElem?_pos, -getElem?_neg, -List.length_eq_zero_iff, -List.getElem_cons_drop, h1, h2, c1, c2]; first | exact rfl | exact ⟨rfl, rfl⟩)) (by simp [c1, c2])
    · exact cO_of (H' := H ++ [.cells 48 [I .i64 p.kind, I .i64 p.addr, I .i64 p.at_, I .i64 p.band, I .i64 p.safe]]) ((s_bank_find_1_eq _ _ _ _ _ _).trans (by unfold s_bank_find_1 ptE; simp -implicitDefEqProofs (disch := first | omega | (simp only [List.length_set, List.length_append, List.length_cons, List.length_nil, List.length_take, List.length_drop, List.length_map]; omega) | simp) [wrap_i64, wrap_u16_id, wrap_u8_id, tdiv_pos, tmod_pos, -getElem?_pos, -getElem?_neg, -List.length_eq_zero_iff, -List.getElem_cons_drop, h1, h2, c1, c2]; first | exact rfl | exact ⟨rfl, rfl⟩)) (by simp [c1, c2])
  · exact cO_of (H' := H ++ [.cells 48 [I .i64 p.kind, I .i64 p.addr, I .i64 p.at_, I .i64 p.band, I .i64 p.safe]]) ((s_bank_find_1_eq _ _ _ _ _ _).trans (by unfold s_bank_find_1 ptE; simp -implicitDefEqProofs (disch := first | omega | (simp only [List.length_set, List.length_append, List.length_cons, List.length_nil, List.length_take, List.length_drop, List.length_map]; omega) | simp) [wrap_i64, wrap_u16_id, wrap_u8_id, tdiv_pos, tmod_pos, -getElem?_pos, -getElem?_neg, -List.length_eq_zero_iff, -List.getElem_cons_drop, h1, h2, c1]; first | exact rfl | exact ⟨rfl, rfl⟩)) (by simp [c1])
theorem bank_find_c (n : Nat) (l : List Pt) (t : Tag) (kind at_ : Int) (hl : l.length ≤ 100000) (hn : l.length + 5 ≤ n) : cP n 53 false [LV 5 ptE l t, I .i64 kind, I .i64 at_] = some (I .i64 (findP l kind at_)) := by
  obtain ⟨n, rfl⟩ : ∃ m, n = m + 1 := ⟨n - 1, by omega⟩
  have hI := IndexFunc_c n (.clo (.func 77) [] [.ptr 0 0, .ptr (0 + 1) 0]) (isPt kind at_) l .sh [.cells 3 [I .i64 kind], .cells 3 [I .i64 at_]] hl (by omega) (fun p hp => cV_ro rfl (find1_c (n - 1) 0 _ p kind at_ 3 3 (by omega) rfl rfl))
  simp only [Nat.zero_add] at hI
  refine cP_of (args' := [LV 5 ptE l .sh, I .i64 kind, I .i64 at_]) (by simp [argEl_eq]) ((s_bank_find_eq _ _ _ _ _ _).trans (by unfold s_bank_find; simp -implicitDefEqProofs (disch := first | omega | (simp only [List.length_set, List.length_append, List.length_cons, List.length_nil, List.length_take, List.length_drop, List.length_map]; omega) | simp) [wrap_i64, wrap_u16_id, wrap_u8_id, tdiv_pos, tmod_pos, -getElem?_pos, -getElem?_neg, -List.length_eq_zero_iff, -List.getElem_cons_drop, hI]; first | exact rfl | exact ⟨rfl, rfl⟩)) ?_
  simp [findP]
end Go.Proofs.Ytigfninpflemnab
