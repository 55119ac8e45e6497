/- What stands at an address: the program's answer, and the reference's. -/
import Derived.Test.YtigfninpflemnabFBankV
import Derived.Test.YtigfninpflemnabGFindB
import Derived.Test.YtigfninpflemnabGPtsMay
-- NEEDS: (triune/bank.View).one; triuneref15.find
namespace Go.Proofs.Ytigfninpflemnab
open Go
set_option linter.unusedSimpArgs false
set_option linter.unusedVariables false
theorem ref15_find_L (n fl : Nat) (l : List Pt) (t : Tag) (kind at_ : Int) (hl : l.length ≤ 100000) : ∀ (m i : Nat) (H : Heap), l.length < m + i → i ≤ l.length →
    ∀ K, s_triuneref15_find_L0 n fl K m (LV 5 ptE l t) (I .i64 kind) (I .i64 at_) (I .i64 i) H = if findI (isPt kind at_) (l.drop i) i = -1 then K (.exit 0) (s_triuneref15_find_O0 .any) H else K .ret (s_triuneref15_find_O0 (I .i64 (findI (isPt kind at_) (l.drop i) i))) H := by
  intro m
  induction m with
  | zero => intro i H h; omega
  | succ m ih =>
    intro i H hm hi K
    unfold s_triuneref15_find_L0 s_triuneref15_find_B0
    by_cases h : i < l.length
    · have hd : l.drop i = l[i] :: l.drop (i + 1) := List.drop_eq_getElem_cons h
      have ih' := ih (i + 1) H (by omega) (by omega) K
      have hi2 : ((i + 1 : Nat) : Int) = (i : Int) + 1 := by omega
      rw [hi2] at ih'
      by_cases c1 : l[i].kind = kind
      · by_cases c2 : l[i].at_ = at_
        · have e : isPt kind at_ l[i] = true := by unfold isPt; simp [c1, c2]
          rw [hd, findI, if_pos e, if_neg (by omega)]
          simp -implicitDefEqProofs (disch := first | omega | (simp only [List.length_set, List.length_append, List.length_cons, List.length_nil, List.length_take, List.length_drop, List.length_map]; omega) | simp) [wrap_i64, wrap_u16_id, wrap_u8_id, tdiv_pos, tmod_pos, -getElem?_pos, -getElem?_neg, -List.length_eq_zero_iff, -List.getElem_cons_drop, h, ptE_cells, c1, c2]
        · have e : isPt kind at_ l[i] = false := by unfold isPt; simp [c1, c2]
          have hfi : findI (isPt kind at_) (l[i] :: l.drop (i + 1)) (i : Int) = findI (isPt kind at_) (l.drop (i + 1)) ((i : Int) + 1) := by rw [findI, e]; rfl
          rw [hd, hfi]
          simp -implicitDefEqProofs (disch := first | omega | (simp only [List.length_set, List.length_append, List.length_cons, List.length_nil, List.length_take, List.length_drop, List.length_map]; omega) | simp) [wrap_i64, wrap_u16_id, wrap_u8_id, tdiv_pos, tmod_pos, -getElem?_pos, -getElem?_neg, -List.length_eq_zero_iff, -List.getElem_cons_drop, h, ptE_cells, c1, c2, ih']
      · have e : isPt kind at_ l[i] = false := by unfold isPt; simp [c1]
        have hfi : findI (isPt kind at_) (l[i] :: l.drop (i + 1)) (i : Int) = findI (isPt kind at_) (l.drop (i + 1)) ((i : Int) + 1) := by rw [findI, e]; rfl
        rw [hd, hfi]
        simp -implicitDefEqProofs (disch := first | omega | (simp only [List.length_set, List.length_append, List.length_cons, List.length_nil, List.length_take, List.length_drop, List.length_map]; omega) | simp) [wrap_i64, wrap_u16_id, wrap_u8_id, tdiv_pos, tmod_pos, -getElem?_pos, -getElem?_neg, -List.length_eq_zero_iff, -List.getElem_cons_drop, h, ptE_cells, c1, ih']
    · have hd : l.drop i = [] := by simp; omega
      rw [hd, findI, if_pos rfl]
      simp -implicitDefEqProofs (disch := first | omega | (simp only [List.length_set, List.length_append, List.length_cons, List.length_nil, List.length_take, List.length_drop, List.length_map]; omega) | simp) [wrap_i64, wrap_u16_id, wrap_u8_id, tdiv_pos, tmod_pos, -getElem?_pos, -getElem?_neg, -List.length_eq_zero_iff, -List.getElem_cons_drop, h]
theorem ref15_find_c (n : Nat) (l : List Pt) (t : Tag) (kind at_ : Int) (hl : l.length ≤ 100000) (hn : l.length + 2 ≤ n) : cP n 54 false [LV 5 ptE l t, I .i64 kind, I .i64 at_] = some (I .i64 (findP l kind at_)) := by
  obtain ⟨n, rfl⟩ : ∃ m, n = m + 1 := ⟨n - 1, by omega⟩
  have hL := ref15_find_L n 0 l .sh kind at_ hl n 0 [] (by omega) (by omega)
  rw [List.drop_zero] at hL
  have q := fun K => (s_triuneref15_find_L0_eq n 0 K n (LV 5 ptE l .sh) (I .i64 kind) (I .i64 at_) (I .i64 0) []).trans (hL K)
  by_cases e : findP l kind at_ = -1
  · have e' : findI (isPt kind at_) l ((0 : Nat) : Int) = -1 := e
    simp only [e', if_true] at q
    exact cP_of (args' := [LV 5 ptE l .sh, I .i64 kind, I .i64 at_]) (by simp [argEl_eq]) ((s_triuneref15_find_eq _ _ _ _ _ _).trans (by unfold s_triuneref15_find; simp -implicitDefEqProofs (disch := first | omega | (simp only [List.length_set, List.length_append, List.length_cons, List.length_nil, List.length_take, List.length_drop, List.length_map]; omega) | simp) [wrap_i64, wrap_u16_id, wrap_u8_id, tdiv_pos, tmod_pos, -getElem?_pos, -getElem?_neg, -List.length_eq_zero_iff, -List.getElem_cons_drop, q, s_triuneref15_find_O0]; first | exact rfl | exact ⟨rfl, rfl⟩)) (by simp [e])
  · have e' : ¬ findI (isPt kind at_) l ((0 : Nat) : Int) = -1 := e
    simp only [e', if_false] at q
    refine cP_of (args' := [LV 5 ptE l .sh, I .i64 kind, I .i64 at_]) (r := I .i64 (findP l kind at_)) (H' := []) (by simp [argEl_eq]) ((s_triuneref15_find_eq _ _ _ _ _ _).trans ?_) (by simp)
    unfold s_triuneref15_find
    rw [q]
    rfl
structure Vw where
  pts : List Pt
  voted : List Int
  r0 : List Int
  r1 : List Int
  r2 : List Int
  diag : List Int
def Vw.C (v : Vw) : List DV := [LV 5 ptE v.pts .sh, LV 1 (I .u16) v.voted .sh, LV 1 (I .u16) v.r0 .sh, LV 1 (I .u16) v.r1 .sh, LV 1 (I .u16) v.r2 .sh, LV 1 (I .u16) v.diag .sh]
def Vw.row (v : Vw) (q : Int) : List Int := if q = 0 then v.voted else if q = 1 then v.r0 else if q = 2 then v.r1 else v.r2
structure VwOk (v : Vw) : Prop where
  pts : PtsOk v.pts
  voted : v.voted.length = v.pts.length
  r0 : v.r0.length = v.pts.length
  r1 : v.r1.length = v.pts.length
  r2 : v.r2.length = v.pts.length
  diag : v.diag.length ≤ 100
def oneV (v : Vw) (kind addr : Int) : Option Int :=
  if kind = 1 ∧ 9000 ≤ addr ∧ addr - 9000 < v.diag.length then v.diag[(addr - 9000).toNat]?
  else if kind = 0 ∧ addr = 9500 then some 0
  else if 4000 ≤ addr ∨ findP v.pts kind (addr % 1000) = -1 then none
  else (v.row (addr / 1000))[(findP v.pts kind (addr % 1000)).toNat]?
def oneD (o : Option Int) : DV := .tup [I .u16 (o.getD 0), Bo o.isSome]
theorem View_one_c (n : Nat) (v : Vw) (hv : VwOk v) (kind addr : Int) (h0 : 0 ≤ addr) (h1 : addr ≤ 1000000) (hn : 100 ≤ n) : cP n 51 false [.agg v.C, I .i64 kind, I .i64 addr] = some (oneD (oneV v kind addr)) := by
  obtain ⟨n, rfl⟩ : ∃ m, n = m + 1 := ⟨n - 1, by omega⟩
  have hF : ∀ (a b : Int), a = kind → b = addr % 1000 → cP n 53 false [LV 5 ptE v.pts .sh, I .i64 a, I .i64 b] = some (I .i64 (findP v.pts kind (addr % 1000))) := by
    intro a b ha hb
    rw [ha, hb]
    exact bank_find_c n v.pts .sh kind (addr % 1000) (by have := hv.pts.1; omega) (by have := hv.pts.1; omega)
  have hpl := hv.pts.1
  obtain ⟨hp, hvl, h0l, h1l, h2l, hdl⟩ := hv
  have hr := findP_range v.pts kind (addr % 1000)
  unfold Vw.C
  have go : ∀ o, oneV v kind addr = o → s__bank_View__one n [] 0 (.agg v.C) (I .i64 kind) (I .i64 addr) = some (oneD o, [.cells 26 v.C]) → cP (n + 1) 51 false [.agg v.C, I .i64 kind, I .i64 addr] = some (oneD (oneV v kind addr)) := by
    intro o ho h
    rw [ho]
    exact cP_of (args' := [.agg v.C, I .i64 kind, I .i64 addr]) (by unfold Vw.C; simp [argEl_eq]) ((s__bank_View__one_eq _ _ _ _ _ _).trans h) (by unfold oneD; simp)
  unfold Vw.C at go
  by_cases cD : kind = 1 ∧ 9000 ≤ addr ∧ addr - 9000 < v.diag.length
  · obtain ⟨k1, k2, k3⟩ := cD
    obtain ⟨d, hd⟩ : ∃ d : Nat, addr - 9000 = (d : Int) := ⟨(addr - 9000).toNat, by omega⟩
    have hd2 : addr = 9000 + (d : Int) := by omega
    have hdl2 : d < v.diag.length := by omega
    subst hd2
    refine go (some v.diag[d]) (by unfold oneV; rw [if_pos ⟨k1, k2, k3⟩]; have : (9000 + (d : Int) - 9000).toNat = d := by omega
                                   rw [this, List.getElem?_eq_getElem hdl2]) ?_
    have hd3 : 9000 + (d : Int) - 9000 = d := by omega
    unfold s__bank_View__one
    simp -implicitDefEqProofs (disch := first | omega | (simp only [List.length_set, List.length_append, List.length_cons, List.length_nil, List.length_take, List.length_drop, List.length_map]; omega) | simp) [wrap_i64, wrap_u16_id, wrap_u8_id, tdiv_pos, tmod_pos, -getElem?_pos, -getElem?_neg, -List.length_eq_zero_iff, -List.getElem_cons_drop, k1, hd3, hdl2]
    rfl
  by_cases cC : kind = 0 ∧ addr = 9500
  · obtain ⟨k1, k2⟩ := cC
    refine go (some 0) (by unfold oneV; rw [if_neg cD, if_pos ⟨k1, k2⟩]) ?_
    subst k1 k2
    unfold s__bank_View__one
    simp -implicitDefEqProofs (disch := first | omega | (simp only [List.length_set, List.length_append, List.length_cons, List.length_nil, List.length_take, List.length_drop, List.length_map]; omega) | simp) [wrap_i64, wrap_u16_id, wrap_u8_id, tdiv_pos, tmod_pos, -getElem?_pos, -getElem?_neg, -List.length_eq_zero_iff, -List.getElem_cons_drop]
    rfl
  have hO : oneV v kind addr = if 4000 ≤ addr ∨ findP v.pts kind (addr % 1000) = -1 then none else (v.row (addr / 1000))[(findP v.pts kind (addr % 1000)).toNat]? := by
    unfold oneV; rw [if_neg cD, if_neg cC]
  by_cases cN : findP v.pts kind (addr % 1000) = -1
  · refine go none (by rw [hO, if_pos (.inr cN)]) ?_
    rw [cN] at hF
    unfold s__bank_View__one
    by_cases k1 : kind = 1 <;> by_cases k2 : 0 ≤ addr - 9000 <;> by_cases k3 : addr - 9000 < v.diag.length <;> by_cases k4 : kind = 0 <;> by_cases k5 : addr = 9500 <;> first | omega | (simp -implicitDefEqProofs (disch := first | omega | (simp only [List.length_set, List.length_append, List.length_cons, List.length_nil, List.length_take, List.length_drop, List.length_map]; omega) | simp) [wrap_i64, wrap_u16_id, wrap_u8_id, tdiv_pos, tmod_pos, -getElem?_pos, -getElem?_neg, -List.length_eq_zero_iff, -List.getElem_cons_drop, k1, k2, k3, k4, k5, hF]; first | done | rfl)
  obtain ⟨k, hk⟩ : ∃ k : Nat, findP v.pts kind (addr % 1000) = (k : Int) := ⟨(findP v.pts kind (addr % 1000)).toNat, by omega⟩
  rw [hk] at hF
  by_cases c4 : 4000 ≤ addr
  · refine go none (by rw [hO, if_pos (.inl c4)]) ?_
    unfold s__bank_View__one
    by_cases k1 : kind = 1 <;> by_cases k2 : 0 ≤ addr - 9000 <;> by_cases k3 : addr - 9000 < v.diag.length <;> by_cases k4 : kind = 0 <;> by_cases k5 : addr = 9500 <;> first | omega | (simp -implicitDefEqProofs (disch := first | omega | (simp only [List.length_set, List.length_append, List.length_cons, List.length_nil, List.length_take, List.length_drop, List.length_map]; omega) | simp) [wrap_i64, wrap_u16_id, wrap_u8_id, tdiv_pos, tmod_pos, -getElem?_pos, -getElem?_neg, -List.length_eq_zero_iff, -List.getElem_cons_drop, k1, k2, k3, k4, k5, hF]; first | done | rfl)
  have hO2 : oneV v kind addr = (v.row (addr / 1000))[k]? := by
    rw [hO, if_neg (by omega), hk]
    rfl
  have k2 : ¬ 0 ≤ addr - 9000 := by omega
  have k5 : ¬ addr = 9500 := by omega
  rcases (by omega : addr / 1000 = 0 ∨ addr / 1000 = 1 ∨ addr / 1000 = 2 ∨ addr / 1000 = 3) with e | e | e | e
  · have hkl : k < v.voted.length := by omega
    refine go (some v.voted[k]) (by rw [hO2, e]; exact List.getElem?_eq_getElem hkl) ?_
    unfold s__bank_View__one
    by_cases k1 : kind = 1 <;> by_cases k4 : kind = 0 <;> first | omega | (simp -implicitDefEqProofs (disch := first | omega | (simp only [List.length_set, List.length_append, List.length_cons, List.length_nil, List.length_take, List.length_drop, List.length_map]; omega) | simp) [wrap_i64, wrap_u16_id, wrap_u8_id, tdiv_pos, tmod_pos, -getElem?_pos, -getElem?_neg, -List.length_eq_zero_iff, -List.getElem_cons_drop, k1, k2, k4, k5, hF, e, hkl, idxArr_k]; first | done | rfl)
  · have hkl : k < v.r0.length := by omega
    refine go (some v.r0[k]) (by rw [hO2, e]; exact List.getElem?_eq_getElem hkl) ?_
    unfold s__bank_View__one
    by_cases k1 : kind = 1 <;> by_cases k4 : kind = 0 <;> first | omega | (simp -implicitDefEqProofs (disch := first | omega | (simp only [List.length_set, List.length_append, List.length_cons, List.length_nil, List.length_take, List.length_drop, List.length_map]; omega) | simp) [wrap_i64, wrap_u16_id, wrap_u8_id, tdiv_pos, tmod_pos, -getElem?_pos, -getElem?_neg, -List.length_eq_zero_iff, -List.getElem_cons_drop, k1, k2, k4, k5, hF, e, hkl, idxArr_k]; first | done | rfl)
  · have hkl : k < v.r1.length := by omega
    refine go (some v.r1[k]) (by rw [hO2, e]; exact List.getElem?_eq_getElem hkl) ?_
    unfold s__bank_View__one
    by_cases k1 : kind = 1 <;> by_cases k4 : kind = 0 <;> first | omega | (simp -implicitDefEqProofs (disch := first | omega | (simp only [List.length_set, List.length_append, List.length_cons, List.length_nil, List.length_take, List.length_drop, List.length_map]; omega) | simp) [wrap_i64, wrap_u16_id, wrap_u8_id, tdiv_pos, tmod_pos, -getElem?_pos, -getElem?_neg, -List.length_eq_zero_iff, -List.getElem_cons_drop, k1, k2, k4, k5, hF, e, hkl, idxArr_k]; first | done | rfl)
  · have hkl : k < v.r2.length := by omega
    refine go (some v.r2[k]) (by rw [hO2, e]; exact List.getElem?_eq_getElem hkl) ?_
    unfold s__bank_View__one
    by_cases k1 : kind = 1 <;> by_cases k4 : kind = 0 <;> first | omega | (simp -implicitDefEqProofs (disch := first | omega | (simp only [List.length_set, List.length_append, List.length_cons, List.length_nil, List.length_take, List.length_drop, List.length_map]; omega) | simp) [wrap_i64, wrap_u16_id, wrap_u8_id, tdiv_pos, tmod_pos, -getElem?_pos, -getElem?_neg, -List.length_eq_zero_iff, -List.getElem_cons_drop, k1, k2, k4, k5, hF, e, hkl, idxArr_k]; first | done | rfl)
end Go.Proofs.Ytigfninpflemnab
