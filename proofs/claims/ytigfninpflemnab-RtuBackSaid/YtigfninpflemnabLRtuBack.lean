/- The law RtuBack: it answers true. -/
import Derived.Test.YtigfninpflemnabFLRtuBack
import Derived.Test.YtigfninpflemnabGRtuL
-- NEEDS: triunelaw03.RtuBack
namespace Go.Proofs.Ytigfninpflemnab
open Go
set_option linter.unusedSimpArgs false
set_option linter.unusedVariables false
theorem RtuBack_run (n : Nat) (up : cP n 42 false [] = some (Bo true)) (hn : 3000 ≤ n) (x : Fm) (b : List Int) (hx : 0 ≤ x.u ∧ x.u < 256) (hxp : Bytes x.p) (hb : Bytes b) :
    ∃ H', s_triunelaw03_RtuBack n [] 0 (fmE x .sh) (LV 1 (I .u8) b .sh) = some (Bo true, H') := by
  by_cases c1 : 400 < x.p.length
  · exact ⟨_, by unfold s_triunelaw03_RtuBack fmE; simp -implicitDefEqProofs (disch := first | omega | (simp only [List.length_set, List.length_append, List.length_cons, List.length_nil, List.length_take, List.length_drop, List.length_map]; omega) | simp) [wrap_i64, wrap_u16_id, wrap_u8_id, tdiv_pos, tmod_pos, -getElem?_pos, -getElem?_neg, -List.length_eq_zero_iff, -List.getElem_cons_drop, up, c1]; rfl⟩
  by_cases c3 : 400 < b.length
  · exact ⟨_, by unfold s_triunelaw03_RtuBack fmE; simp -implicitDefEqProofs (disch := first | omega | (simp only [List.length_set, List.length_append, List.length_cons, List.length_nil, List.length_take, List.length_drop, List.length_map]; omega) | simp) [wrap_i64, wrap_u16_id, wrap_u8_id, tdiv_pos, tmod_pos, -getElem?_pos, -getElem?_neg, -List.length_eq_zero_iff, -List.getElem_cons_drop, up, c1, c3]; rfl⟩
  have okx : FmOk x := ⟨hx, hxp, by omega⟩
  have k1 := rtu_Bytes_c n x .sh okx (by omega)
  have k3 := rtu_Read_c n b .sh hb (by omega) (by omega)
  have okr := rdV_ok b hb
  have kb := rtu_Bytes_c n (rdV b).1 .sh okr (by omega)
  have kS := ref01_Same_c n b b .sh .sh (by omega) (by omega)
  simp only [decide_true] at kS
  have hno := rdV_no b
  have hbk := rdV_back b hb
  generalize (rdV b).2 = g at *
  generalize (rdV b).1 = f at *
  by_cases c4 : g = 0
  · subst c4
    obtain ⟨f1, f2, f3⟩ := hbk rfl
    unfold bytV at kb
    rw [if_neg (by omega), if_neg (by omega), f3] at kb
    by_cases c5 : x.p.length < 1
    · unfold bytV at k1
      rw [if_pos c5] at k1
      unfold fmE at *
      exact ⟨_, by unfold s_triunelaw03_RtuBack; simp -implicitDefEqProofs (disch := first | omega | (simp only [List.length_set, List.length_append, List.length_cons, List.length_nil, List.length_take, List.length_drop, List.length_map]; omega) | simp) [wrap_i64, wrap_u16_id, wrap_u8_id, tdiv_pos, tmod_pos, -getElem?_pos, -getElem?_neg, -List.length_eq_zero_iff, -List.getElem_cons_drop, up, c1, c3, k1, k3, kb, kS]; rfl⟩
    by_cases c6 : 253 < x.p.length
    · unfold bytV at k1
      rw [if_neg c5, if_pos c6] at k1
      unfold fmE at *
      exact ⟨_, by unfold s_triunelaw03_RtuBack; simp -implicitDefEqProofs (disch := first | omega | (simp only [List.length_set, List.length_append, List.length_cons, List.length_nil, List.length_take, List.length_drop, List.length_map]; omega) | simp) [wrap_i64, wrap_u16_id, wrap_u8_id, tdiv_pos, tmod_pos, -getElem?_pos, -getElem?_neg, -List.length_eq_zero_iff, -List.getElem_cons_drop, up, c1, c3, k1, k3, kb, kS]; rfl⟩
    · unfold bytV at k1
      rw [if_neg c5, if_neg c6] at k1
      have hl : (putI (x.u :: x.p)).length = x.p.length + 3 := by rw [putI_length]; simp
      have kr := rtu_Read_c n (putI (x.u :: x.p)) .sh (putI_bytes okx.all) (by omega) (by omega)
      rw [rdV_put x (by omega) (by omega)] at kr
      have k8 := rtu_Same_c n x x .sh .sh okx okx (by omega)
      simp only [decide_true, Bool.and_self] at k8
      generalize putI (x.u :: x.p) = pp at *
      unfold fmE at *
      exact ⟨_, by unfold s_triunelaw03_RtuBack; simp -implicitDefEqProofs (disch := first | omega | (simp only [List.length_set, List.length_append, List.length_cons, List.length_nil, List.length_take, List.length_drop, List.length_map]; omega) | simp) [wrap_i64, wrap_u16_id, wrap_u8_id, tdiv_pos, tmod_pos, -getElem?_pos, -getElem?_neg, -List.length_eq_zero_iff, -List.getElem_cons_drop, up, c1, c3, k1, k3, kb, kS, kr, k8, hl]; rfl⟩
  · have hf := hno c4
    subst hf
    by_cases c5 : x.p.length < 1
    · unfold bytV at k1
      rw [if_pos c5] at k1
      unfold fmE at *
      exact ⟨_, by unfold s_triunelaw03_RtuBack; simp -implicitDefEqProofs (disch := first | omega | (simp only [List.length_set, List.length_append, List.length_cons, List.length_nil, List.length_take, List.length_drop, List.length_map]; omega) | simp) [wrap_i64, wrap_u16_id, wrap_u8_id, tdiv_pos, tmod_pos, -getElem?_pos, -getElem?_neg, -List.length_eq_zero_iff, -List.getElem_cons_drop, up, c1, c3, c4, k1, k3]; rfl⟩
    by_cases c6 : 253 < x.p.length
    · unfold bytV at k1
      rw [if_neg c5, if_pos c6] at k1
      unfold fmE at *
      exact ⟨_, by unfold s_triunelaw03_RtuBack; simp -implicitDefEqProofs (disch := first | omega | (simp only [List.length_set, List.length_append, List.length_cons, List.length_nil, List.length_take, List.length_drop, List.length_map]; omega) | simp) [wrap_i64, wrap_u16_id, wrap_u8_id, tdiv_pos, tmod_pos, -getElem?_pos, -getElem?_neg, -List.length_eq_zero_iff, -List.getElem_cons_drop, up, c1, c3, c4, k1, k3]; rfl⟩
    · unfold bytV at k1
      rw [if_neg c5, if_neg c6] at k1
      have hl : (putI (x.u :: x.p)).length = x.p.length + 3 := by rw [putI_length]; simp
      have kr := rtu_Read_c n (putI (x.u :: x.p)) .sh (putI_bytes okx.all) (by omega) (by omega)
      rw [rdV_put x (by omega) (by omega)] at kr
      have k8 := rtu_Same_c n x x .sh .sh okx okx (by omega)
      simp only [decide_true, Bool.and_self] at k8
      generalize putI (x.u :: x.p) = pp at *
      unfold fmE at *
      exact ⟨_, by unfold s_triunelaw03_RtuBack; simp -implicitDefEqProofs (disch := first | omega | (simp only [List.length_set, List.length_append, List.length_cons, List.length_nil, List.length_take, List.length_drop, List.length_map]; omega) | simp) [wrap_i64, wrap_u16_id, wrap_u8_id, tdiv_pos, tmod_pos, -getElem?_pos, -getElem?_neg, -List.length_eq_zero_iff, -List.getElem_cons_drop, up, c1, c3, c4, k1, k3, kr, k8, hl]; rfl⟩
theorem RtuBack_all (e0 e1 : List DV) (h0 : Shp Try.prog 8 97 e0) (h1 : Shp Try.prog 8 82 e1) :
    ∃ H', callG Try.prog ENV 4000 10 [elOf (isAgT Try.prog 97) e0, elOf (isAgT Try.prog 82) e1] [] 0 = some (.flat (.bool true), H') := by
  obtain ⟨x, r0, x1, x2⟩ := shp_fm (d := 5) h0
  obtain ⟨b, rfl, _, hb⟩ := shp_ints (k := .u8) Try.underlying82 Try.underlying5 (by kernel_rfl) h1
  obtain ⟨H', h⟩ := RtuBack_run 3999 awake03 (by omega) x b x1 x2 (bytesOf hb)
  have r2 : elOf (isAgT Try.prog 82) [LV 1 (I .u8) b .sh] = LV 1 (I .u8) b .sh := by kernel_rfl
  rw [r0, r2]
  exact ⟨H', (s_triunelaw03_RtuBack_eq 3999 [] 0 _ _).trans h⟩
end Go.Proofs.Ytigfninpflemnab
