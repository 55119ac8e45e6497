/- The law RtuTells: it answers true. -/
import Derived.Test.YtigfninpflemnabFLRtuTells
import Derived.Test.YtigfninpflemnabGRtuL
-- NEEDS: triunelaw03.RtuTells
namespace Go.Proofs.Ytigfninpflemnab
open Go
set_option linter.unusedSimpArgs false
set_option linter.unusedVariables false
theorem RtuTells_run (n : Nat) (up : cP n 42 false [] = some (Bo true)) (hn : 3000 ≤ n) (x y : Fm) (b : List Int) (hx : 0 ≤ x.u ∧ x.u < 256) (hxp : Bytes x.p) (hy : 0 ≤ y.u ∧ y.u < 256) (hyp : Bytes y.p) (hb : Bytes b) :
    ∃ H', s_triunelaw03_RtuTells n [] 0 (fmE x .sh) (fmE y .sh) (LV 1 (I .u8) b .sh) = some (Bo true, H') := by
  by_cases c1 : 400 < x.p.length
  · exact ⟨_, by unfold s_triunelaw03_RtuTells fmE; simp -implicitDefEqProofs (disch := first | omega | (simp only [List.length_set, List.length_append, List.length_cons, List.length_nil, List.length_take, List.length_drop, List.length_map]; omega) | simp) [wrap_i64, wrap_u16_id, wrap_u8_id, tdiv_pos, tmod_pos, -getElem?_pos, -getElem?_neg, -List.length_eq_zero_iff, -List.getElem_cons_drop, up, c1]; rfl⟩
  by_cases c2 : 400 < y.p.length
  · exact ⟨_, by unfold s_triunelaw03_RtuTells fmE; simp -implicitDefEqProofs (disch := first | omega | (simp only [List.length_set, List.length_append, List.length_cons, List.length_nil, List.length_take, List.length_drop, List.length_map]; omega) | simp) [wrap_i64, wrap_u16_id, wrap_u8_id, tdiv_pos, tmod_pos, -getElem?_pos, -getElem?_neg, -List.length_eq_zero_iff, -List.getElem_cons_drop, up, c1, c2]; rfl⟩
  by_cases c3 : 400 < b.length
  · exact ⟨_, by unfold s_triunelaw03_RtuTells fmE; simp -implicitDefEqProofs (disch := first | omega | (simp only [List.length_set, List.length_append, List.length_cons, List.length_nil, List.length_take, List.length_drop, List.length_map]; omega) | simp) [wrap_i64, wrap_u16_id, wrap_u8_id, tdiv_pos, tmod_pos, -getElem?_pos, -getElem?_neg, -List.length_eq_zero_iff, -List.getElem_cons_drop, up, c1, c2, c3]; rfl⟩
  have okx : FmOk x := ⟨hx, hxp, by omega⟩
  have oky : FmOk y := ⟨hy, hyp, by omega⟩
  have k1 := rtu_Bytes_c n x .sh okx (by omega)
  have k2 := ref03_Bytes_c n x .sh okx (by omega)
  have k3 := rtu_Read_c n b .sh hb (by omega) (by omega)
  have k4 := ref03_Read_c n b .sh hb (by omega) (by omega)
  have okr := rdV_ok b hb
  obtain ⟨l, e, hB, hl1, hl2⟩ := bytV_form x okx
  rw [hB] at k1 k2
  generalize (rdV b).2 = g at *
  generalize (rdV b).1 = f at *
  have k6 := ref01_Same_c n l l .sh .sh (by omega) (by omega)
  have k7 := ref03_Same_c n f f .sh .sh okr (by omega)
  have k8 := rtu_Same_c n x y .sh .sh okx oky (by omega)
  have k9 := ref03_Same_c n x y .sh .sh okx (by omega)
  simp only [decide_true, Bool.and_self] at k6 k7
  generalize (decide (x.u = y.u) && decide (x.p = y.p)) = r at k8 k9
  unfold fmE at *
  exact ⟨_, by unfold s_triunelaw03_RtuTells; simp -implicitDefEqProofs (disch := first | omega | (simp only [List.length_set, List.length_append, List.length_cons, List.length_nil, List.length_take, List.length_drop, List.length_map]; omega) | simp) [wrap_i64, wrap_u16_id, wrap_u8_id, tdiv_pos, tmod_pos, -getElem?_pos, -getElem?_neg, -List.length_eq_zero_iff, -List.getElem_cons_drop, up, c1, c2, c3, k1, k2, k3, k4, k6, k7, k8, k9]; rfl⟩
theorem RtuTells_all (e0 e1 e2 : List DV) (h0 : Shp Try.prog 8 97 e0) (h1 : Shp Try.prog 8 97 e1) (h2 : Shp Try.prog 8 82 e2) :
    ∃ H', callG Try.prog ENV 4000 9 [elOf (isAgT Try.prog 97) e0, elOf (isAgT Try.prog 97) e1, elOf (isAgT Try.prog 82) e2] [] 0 = some (.flat (.bool true), H') := by
  obtain ⟨x, r0, x1, x2⟩ := shp_fm (d := 5) h0
  obtain ⟨y, r1, y1, y2⟩ := shp_fm (d := 5) h1
  obtain ⟨b, rfl, _, hb⟩ := shp_ints (k := .u8) Try.underlying82 Try.underlying5 (by kernel_rfl) h2
  obtain ⟨H', h⟩ := RtuTells_run 3999 awake03 (by omega) x y b x1 x2 y1 y2 (bytesOf hb)
  have r2 : elOf (isAgT Try.prog 82) [LV 1 (I .u8) b .sh] = LV 1 (I .u8) b .sh := by kernel_rfl
  rw [r0, r1, r2]
  exact ⟨H', (s_triunelaw03_RtuTells_eq 3999 [] 0 _ _ _).trans h⟩
end Go.Proofs.Ytigfninpflemnab
