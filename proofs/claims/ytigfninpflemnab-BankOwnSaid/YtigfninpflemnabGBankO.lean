/- What stands at an address: the reference's answer. -/
import Derived.Test.YtigfninpflemnabFBankO
import Derived.Test.YtigfninpflemnabGBankV
-- NEEDS: triuneref15.one
namespace Go.Proofs.Ytigfninpflemnab
open Go
set_option linter.unusedSimpArgs false
set_option linter.unusedVariables false
theorem findP_out {l : List Pt} (h : PtsOk l) (kind z : Int) (hz : z < 0 ∨ 900 ≤ z) : findP l kind z = -1 :=
  findP_none l kind z fun p hp => by have := (h.2.1 p hp).2.2; omega
theorem ref15_one_c (n : Nat) (v : Vw) (hv : VwOk v) (kind addr : Int) (h0 : 0 ≤ addr) (h1 : addr ≤ 1000000) (hn : 100 ≤ n) : cP n 52 false [.agg v.C, I .i64 kind, I .i64 addr] = some (oneD (oneV v kind addr)) := by
  obtain ⟨n, rfl⟩ : ∃ m, n = m + 1 := ⟨n - 1, by omega⟩
  have hF : ∀ (a b : Int), cP n 54 false [LV 5 ptE v.pts .sh, I .i64 a, I .i64 b] = some (I .i64 (findP v.pts a b)) := by
    intro a b
    exact ref15_find_c n v.pts .sh a b (by have := hv.pts.1; omega) (by have := hv.pts.1; omega)
  have hpl := hv.pts.1
  have hout := fun z h => findP_out hv.pts kind z h
  obtain ⟨hp, hvl, h0l, h1l, h2l, hdl⟩ := hv
  have hr := findP_range v.pts kind (addr % 1000)
  have go : ∀ o, oneV v kind addr = o → s_triuneref15_one n [] 0 (.agg v.C) (I .i64 kind) (I .i64 addr) = some (oneD o, [.cells 33 v.C]) → cP (n + 1) 52 false [.agg v.C, I .i64 kind, I .i64 addr] = some (oneD (oneV v kind addr)) := by
    intro o ho h
    rw [ho]
    exact cP_of (args' := [.agg v.C, I .i64 kind, I .i64 addr]) (by unfold Vw.C; simp [argEl_eq]) ((s_triuneref15_one_eq _ _ _ _ _ _).trans h) (by unfold oneD; simp)
  unfold Vw.C at go ⊢
  obtain ⟨m, hm⟩ : ∃ m, n = m + 4 := ⟨n - 4, by omega⟩
  have g3 : ∀ K, findP v.pts kind (addr - 1000) = -1 → findP v.pts kind (addr - 2000) = -1 → findP v.pts kind (addr - 3000) = -1 →
      loopG [1, 2, 3, 9] [1, 2, 3, 6, 7] 71 (s_triuneref15_one_b0 n 0) n (s_triuneref15_one_I0 (I .i64 kind) (I .i64 addr) (.ptr 0 0) (I .i64 0)) [.cells 33 v.C] K = K (.exit 0) (s_triuneref15_one_O0 (I .i64 kind) (I .i64 addr) (.ptr 0 0) .any .any) [.cells 33 v.C] := by
    intro K e1 e2 e3
    rw [s_triuneref15_one_L0_eq]
    have hm2 : ∀ k, s_triuneref15_one_L0 n 0 k n = s_triuneref15_one_L0 n 0 k (m + 4) := fun k => by rw [← hm]
    rw [hm2]
    unfold Vw.C
    simp -implicitDefEqProofs (disch := first | omega | (simp only [List.length_set, List.length_append, List.length_cons, List.length_nil, List.length_take, List.length_drop, List.length_map]; omega) | simp) [wrap_i64, wrap_u16_id, wrap_u8_id, tdiv_pos, tmod_pos, -getElem?_pos, -getElem?_neg, -List.length_eq_zero_iff, -List.getElem_cons_drop, s_triuneref15_one_L0, s_triuneref15_one_B0, hF, e1, e2, e3]
  by_cases cF : findP v.pts kind addr = -1
  · by_cases cA : findP v.pts kind (addr - 1000) = -1 ∧ findP v.pts kind (addr - 2000) = -1 ∧ findP v.pts kind (addr - 3000) = -1
    · have g := fun K => g3 K cA.1 cA.2.1 cA.2.2
      have hno : 4000 ≤ addr ∨ findP v.pts kind (addr % 1000) = -1 := by
        rcases (by omega : 4000 ≤ addr ∨ addr / 1000 = 0 ∨ addr / 1000 = 1 ∨ addr / 1000 = 2 ∨ addr / 1000 = 3) with e | e | e | e | e
        · exact .inl e
        · exact .inr (by rw [show addr % 1000 = addr by omega]; exact cF)
        · exact .inr (by rw [show addr % 1000 = addr - 1000 by omega]; exact cA.1)
        · exact .inr (by rw [show addr % 1000 = addr - 2000 by omega]; exact cA.2.1)
        · exact .inr (by rw [show addr % 1000 = addr - 3000 by omega]; exact cA.2.2)
      unfold Vw.C at g
      by_cases cD : kind = 1 ∧ 9000 ≤ addr ∧ addr - 9000 < v.diag.length
      · obtain ⟨k1, k2, k3⟩ := cD
        obtain ⟨d, hd⟩ : ∃ d : Nat, addr - 9000 = (d : Int) := ⟨(addr - 9000).toNat, by omega⟩
        have hdl2 : d < v.diag.length := by omega
        refine go (some v.diag[d]) (by unfold oneV; rw [if_pos ⟨k1, k2, k3⟩]; have : (addr - 9000).toNat = d := by omega
                                       rw [this, List.getElem?_eq_getElem hdl2]) ?_
        unfold s_triuneref15_one
        have kd : decide (kind = 1) = true := by simp [k1]
        simp -implicitDefEqProofs (disch := first | omega | (simp only [List.length_set, List.length_append, List.length_cons, List.length_nil, List.length_take, List.length_drop, List.length_map]; omega) | simp) [wrap_i64, wrap_u16_id, wrap_u8_id, tdiv_pos, tmod_pos, -getElem?_pos, -getElem?_neg, -List.length_eq_zero_iff, -List.getElem_cons_drop, hF, cF, g, s_triuneref15_one_O0, kd, k2, hd, hdl2]
        rfl
      by_cases cC : kind = 0 ∧ addr = 9500
      · obtain ⟨k1, k2⟩ := cC
        refine go (some 0) (by unfold oneV; rw [if_neg cD, if_pos ⟨k1, k2⟩]) ?_
        unfold s_triuneref15_one
        have kd : decide (kind = 1) = false := by simp [k1]
        have kd2 : decide (kind = 0) = true := by simp [k1]
        have kd3 : decide (addr = 9500) = true := by simp [k2]
        simp -implicitDefEqProofs (disch := first | omega | (simp only [List.length_set, List.length_append, List.length_cons, List.length_nil, List.length_take, List.length_drop, List.length_map]; omega) | simp) [wrap_i64, wrap_u16_id, wrap_u8_id, tdiv_pos, tmod_pos, -getElem?_pos, -getElem?_neg, -List.length_eq_zero_iff, -List.getElem_cons_drop, hF, cF, g, s_triuneref15_one_O0, kd, kd2, kd3]
        rfl
      · refine go none (by unfold oneV; rw [if_neg cD, if_neg cC, if_pos hno]) ?_
        unfold s_triuneref15_one
        by_cases k1 : kind = 1
        · have kd : decide (kind = 1) = true := by simp [k1]
          have kd2 : decide (kind = 0) = false := by simp [k1]
          by_cases k2 : 9000 ≤ addr
          · have k3 : ¬ addr - 9000 < v.diag.length := fun h => cD ⟨k1, k2, h⟩
            simp -implicitDefEqProofs (disch := first | omega | (simp only [List.length_set, List.length_append, List.length_cons, List.length_nil, List.length_take, List.length_drop, List.length_map]; omega) | simp) [wrap_i64, wrap_u16_id, wrap_u8_id, tdiv_pos, tmod_pos, -getElem?_pos, -getElem?_neg, -List.length_eq_zero_iff, -List.getElem_cons_drop, hF, cF, g, s_triuneref15_one_O0, kd, kd2, k2, k3]
            rfl
          · simp -implicitDefEqProofs (disch := first | omega | (simp only [List.length_set, List.length_append, List.length_cons, List.length_nil, List.length_take, List.length_drop, List.length_map]; omega) | simp) [wrap_i64, wrap_u16_id, wrap_u8_id, tdiv_pos, tmod_pos, -getElem?_pos, -getElem?_neg, -List.length_eq_zero_iff, -List.getElem_cons_drop, hF, cF, g, s_triuneref15_one_O0, kd, kd2, k2]
            rfl
        · have kd : decide (kind = 1) = false := by simp [k1]
          by_cases k4 : kind = 0
          · have kd2 : decide (kind = 0) = true := by simp [k4]
            have kd3 : decide (addr = 9500) = false := by simp; exact fun h => cC ⟨k4, h⟩
            simp -implicitDefEqProofs (disch := first | omega | (simp only [List.length_set, List.length_append, List.length_cons, List.length_nil, List.length_take, List.length_drop, List.length_map]; omega) | simp) [wrap_i64, wrap_u16_id, wrap_u8_id, tdiv_pos, tmod_pos, -getElem?_pos, -getElem?_neg, -List.length_eq_zero_iff, -List.getElem_cons_drop, hF, cF, g, s_triuneref15_one_O0, kd, kd2, kd3]
            rfl
          · have kd2 : decide (kind = 0) = false := by simp [k4]
            simp -implicitDefEqProofs (disch := first | omega | (simp only [List.length_set, List.length_append, List.length_cons, List.length_nil, List.length_take, List.length_drop, List.length_map]; omega) | simp) [wrap_i64, wrap_u16_id, wrap_u8_id, tdiv_pos, tmod_pos, -getElem?_pos, -getElem?_neg, -List.length_eq_zero_iff, -List.getElem_cons_drop, hF, cF, g, s_triuneref15_one_O0, kd, kd2]
            rfl
    · have hlt : addr < 4000 := by
        apply Classical.byContradiction
        intro h
        exact cA ⟨hout _ (by omega), hout _ (by omega), hout _ (by omega)⟩
      have hge : 1000 ≤ addr := by
        apply Classical.byContradiction
        intro h
        exact cA ⟨hout _ (by omega), hout _ (by omega), hout _ (by omega)⟩
      have hO : ∀ k : Nat, findP v.pts kind (addr % 1000) = (k : Int) → oneV v kind addr = (v.row (addr / 1000))[k]? := by
        intro k hk
        unfold oneV
        rw [if_neg (by omega), if_neg (by omega), if_neg (by omega), hk]
        rfl
      have hm2 : ∀ k, s_triuneref15_one_L0 n 0 k n = s_triuneref15_one_L0 n 0 k (m + 4) := fun k => by rw [← hm]
      rcases (by omega : addr / 1000 = 1 ∨ addr / 1000 = 2 ∨ addr / 1000 = 3) with e | e | e
      · have em : addr % 1000 = addr - 1000 := by omega
        have h1 : ¬ findP v.pts kind (addr - 1000) = -1 := fun h => cA ⟨h, hout _ (by omega), hout _ (by omega)⟩
        rw [em] at hr hO
        obtain ⟨k, hk⟩ : ∃ k : Nat, findP v.pts kind (addr - 1000) = (k : Int) := ⟨(findP v.pts kind (addr - 1000)).toNat, by omega⟩
        have hkl : k < v.r0.length := by omega
        refine go (some v.r0[k]) (by rw [hO k hk, e]; exact List.getElem?_eq_getElem hkl) ?_
        unfold s_triuneref15_one
        simp -implicitDefEqProofs (disch := first | omega | (simp only [List.length_set, List.length_append, List.length_cons, List.length_nil, List.length_take, List.length_drop, List.length_map]; omega) | simp) [wrap_i64, wrap_u16_id, wrap_u8_id, tdiv_pos, tmod_pos, -getElem?_pos, -getElem?_neg, -List.length_eq_zero_iff, -List.getElem_cons_drop, hF, cF]
        rw [s_triuneref15_one_L0_eq, hm2]
        simp -implicitDefEqProofs (disch := first | omega | (simp only [List.length_set, List.length_append, List.length_cons, List.length_nil, List.length_take, List.length_drop, List.length_map]; omega) | simp) [wrap_i64, wrap_u16_id, wrap_u8_id, tdiv_pos, tmod_pos, -getElem?_pos, -getElem?_neg, -List.length_eq_zero_iff, -List.getElem_cons_drop, s_triuneref15_one_L0, s_triuneref15_one_B0, hF, hk, hkl, idxArr_k]
        rfl
      · have em : addr % 1000 = addr - 2000 := by omega
        have h0 := hout (addr - 1000) (by omega)
        have h1 : ¬ findP v.pts kind (addr - 2000) = -1 := fun h => cA ⟨hout _ (by omega), h, hout _ (by omega)⟩
        rw [em] at hr hO
        obtain ⟨k, hk⟩ : ∃ k : Nat, findP v.pts kind (addr - 2000) = (k : Int) := ⟨(findP v.pts kind (addr - 2000)).toNat, by omega⟩
        have hkl : k < v.r1.length := by omega
        refine go (some v.r1[k]) (by rw [hO k hk, e]; exact List.getElem?_eq_getElem hkl) ?_
        unfold s_triuneref15_one
        simp -implicitDefEqProofs (disch := first | omega | (simp only [List.length_set, List.length_append, List.length_cons, List.length_nil, List.length_take, List.length_drop, List.length_map]; omega) | simp) [wrap_i64, wrap_u16_id, wrap_u8_id, tdiv_pos, tmod_pos, -getElem?_pos, -getElem?_neg, -List.length_eq_zero_iff, -List.getElem_cons_drop, hF, cF]
        rw [s_triuneref15_one_L0_eq, hm2]
        simp -implicitDefEqProofs (disch := first | omega | (simp only [List.length_set, List.length_append, List.length_cons, List.length_nil, List.length_take, List.length_drop, List.length_map]; omega) | simp) [wrap_i64, wrap_u16_id, wrap_u8_id, tdiv_pos, tmod_pos, -getElem?_pos, -getElem?_neg, -List.length_eq_zero_iff, -List.getElem_cons_drop, s_triuneref15_one_L0, s_triuneref15_one_B0, hF, h0, hk, hkl, idxArr_k]
        rfl
      · have em : addr % 1000 = addr - 3000 := by omega
        have h0 := hout (addr - 1000) (by omega)
        have h01 := hout (addr - 2000) (by omega)
        have h1 : ¬ findP v.pts kind (addr - 3000) = -1 := fun h => cA ⟨hout _ (by omega), hout _ (by omega), h⟩
        rw [em] at hr hO
        obtain ⟨k, hk⟩ : ∃ k : Nat, findP v.pts kind (addr - 3000) = (k : Int) := ⟨(findP v.pts kind (addr - 3000)).toNat, by omega⟩
        have hkl : k < v.r2.length := by omega
        refine go (some v.r2[k]) (by rw [hO k hk, e]; exact List.getElem?_eq_getElem hkl) ?_
        unfold s_triuneref15_one
        simp -implicitDefEqProofs (disch := first | omega | (simp only [List.length_set, List.length_append, List.length_cons, List.length_nil, List.length_take, List.length_drop, List.length_map]; omega) | simp) [wrap_i64, wrap_u16_id, wrap_u8_id, tdiv_pos, tmod_pos, -getElem?_pos, -getElem?_neg, -List.length_eq_zero_iff, -List.getElem_cons_drop, hF, cF]
        rw [s_triuneref15_one_L0_eq, hm2]
        simp -implicitDefEqProofs (disch := first | omega | (simp only [List.length_set, List.length_append, List.length_cons, List.length_nil, List.length_take, List.length_drop, List.length_map]; omega) | simp) [wrap_i64, wrap_u16_id, wrap_u8_id, tdiv_pos, tmod_pos, -getElem?_pos, -getElem?_neg, -List.length_eq_zero_iff, -List.getElem_cons_drop, s_triuneref15_one_L0, s_triuneref15_one_B0, hF, h0, h01, hk, hkl, idxArr_k]
        rfl
  · have hlt : addr < 900 := by
      apply Classical.byContradiction
      intro h
      exact cF (hout _ (by omega))
    rw [show addr % 1000 = addr by omega] at hr
    obtain ⟨k, hk⟩ : ∃ k : Nat, findP v.pts kind addr = (k : Int) := ⟨(findP v.pts kind addr).toNat, by omega⟩
    have hkl : k < v.voted.length := by omega
    refine go (some v.voted[k]) (by
      unfold oneV
      rw [if_neg (by omega), if_neg (by omega), show addr % 1000 = addr by omega, if_neg (by omega), hk, show addr / 1000 = 0 by omega]
      exact List.getElem?_eq_getElem hkl) ?_
    unfold s_triuneref15_one
    simp -implicitDefEqProofs (disch := first | omega | (simp only [List.length_set, List.length_append, List.length_cons, List.length_nil, List.length_take, List.length_drop, List.length_map]; omega) | simp) [wrap_i64, wrap_u16_id, wrap_u8_id, tdiv_pos, tmod_pos, -getElem?_pos, -getElem?_neg, -List.length_eq_zero_iff, -List.getElem_cons_drop, hF, hk, hkl]
    rfl
end Go.Proofs.Ytigfninpflemnab
