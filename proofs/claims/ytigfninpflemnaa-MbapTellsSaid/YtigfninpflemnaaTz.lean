/- The law MbapTells: it answers true. -/
import Derived.Test.YtigfninpflemnaaTy
namespace Go.Proofs.Ytigfninpflemnaa
open Go
set_option linter.unusedSimpArgs false
theorem ref04_Read_c (n : Nat) (l : List Int) (t : Tag) (hb : Bytes l) (hl : l.length ≤ 100000) (hn : 3 ≤ n) : cP n 56 false [LV 1 (I .u8) l t] = some (rdV l) := by
  obtain ⟨n, rfl⟩ : ∃ m, n = m + 1 := ⟨n - 1, by omega⟩
  have fin : ∀ e : Int, e ≠ 0 → rdErr l = e → s_triuneref04_Read n [] 0 (LV 1 (I .u8) l .sh) = some (.tup [.agg [I .u16 0, I .u8 0, .list 0 [] .ti], I .i64 0, I .i64 e], [.cells 72 [I .u16 0, I .u8 0, .list 0 [] .ti]]) → cP (n + 1) 56 false [LV 1 (I .u8) l t] = some (rdV l) := by
    intro e h0 hE h
    rw [rdV_err l e hE h0]
    exact cP_of (args' := [LV 1 (I .u8) l .sh]) (by simp [argEl_eq]) ((s_triuneref04_Read_eq _ _ _ _).trans h) (by simp)
  by_cases c4 : 4 ≤ l.length
  · have g2 := hb _ (List.getElem_mem (show 2 < l.length by omega))
    have g3 := hb _ (List.getElem_mem (show 3 < l.length by omega))
    have d2 : l.getD 2 0 = l[2] := getD_e l 2 (by omega)
    have d3 : l.getD 3 0 = l[3] := getD_e l 3 (by omega)
    by_cases z2 : l[2] = 0
    · by_cases z3 : l[3] = 0
      · by_cases c6 : 6 ≤ l.length
        · have g4 := hb _ (List.getElem_mem (show 4 < l.length by omega))
          have g5 := hb _ (List.getElem_mem (show 5 < l.length by omega))
          have hN : rdN l = (256 : Int) * l[4] + l[5] := by unfold rdN; rw [getD_e l 4 (by omega), getD_e l 5 (by omega)]; try rfl
          by_cases c7 : (256 : Int) * l[4] + l[5] < 2
          · refine fin 2 (by omega) (by unfold rdErr; rw [if_neg (by omega), if_pos (by omega)]) ?_
            unfold s_triuneref04_Read; simp -implicitDefEqProofs (disch := first | omega | simp) [wrap_i64, wrap_u16_id, wrap_u8_id, tdiv_pos, tmod_pos, -List.length_eq_zero_iff, -List.getElem_cons_drop, z2, z3]
          by_cases c8 : (254 : Int) < (256 : Int) * l[4] + l[5]
          · refine fin 2 (by omega) (by unfold rdErr; rw [if_neg (by omega), if_pos (by omega)]) ?_
            unfold s_triuneref04_Read; simp -implicitDefEqProofs (disch := first | omega | simp) [wrap_i64, wrap_u16_id, wrap_u8_id, tdiv_pos, tmod_pos, -List.length_eq_zero_iff, -List.getElem_cons_drop, z2, z3]
          by_cases c9 : (l.length : Int) < (6 : Int) + ((256 : Int) * l[4] + l[5])
          · refine fin 3 (by omega) (by unfold rdErr; rw [if_neg (by omega), if_neg (by omega), if_pos (by omega)]) ?_
            by_cases c10 : l.length < 7
            · unfold s_triuneref04_Read; simp -implicitDefEqProofs (disch := first | omega | simp) [wrap_i64, wrap_u16_id, wrap_u8_id, tdiv_pos, tmod_pos, -List.length_eq_zero_iff, -List.getElem_cons_drop, z2, z3]
            · unfold s_triuneref04_Read; simp -implicitDefEqProofs (disch := first | omega | simp) [wrap_i64, wrap_u16_id, wrap_u8_id, tdiv_pos, tmod_pos, -List.length_eq_zero_iff, -List.getElem_cons_drop, z2, z3]
          have hE : rdErr l = 0 := by unfold rdErr; rw [if_neg (by omega), if_neg (by omega), if_neg (by omega)]
          have g0 := hb _ (List.getElem_mem (show 0 < l.length by omega))
          have g1 := hb _ (List.getElem_mem (show 1 < l.length by omega))
          have e2 : buildL false 1 0 (I .u8 0) [] = some (LV 1 (I .u8) [] .ti) := rfl
          have hl0 : (l.take ((6 : Int) + ((256 : Int) * l[4] + l[5])).toNat).drop 7 ≠ [] := by
            intro h
            have := congrArg List.length h
            simp at this
            omega
          have e3 : ∀ H, appG 5 false 1 1 (LV 1 (I .u8) [] .ti) (LV 1 (I .u8) ((l.take ((6 : Int) + ((256 : Int) * l[4] + l[5])).toNat).drop 7) .sh) H 0 = some (LV 1 (I .u8) ([] ++ (l.take ((6 : Int) + ((256 : Int) * l[4] + l[5])).toNat).drop 7) (.own H.length), H ++ [.token 5 1 (([] : List Int).length + ((l.take ((6 : Int) + ((256 : Int) * l[4] + l[5])).toNat).drop 7).length)]) := fun H =>
            appG_ti hl0 rfl (by simp; omega) (by simp; omega)
          refine cP_of (args' := [LV 1 (I .u8) l .sh]) (by simp [argEl_eq]) ((s_triuneref04_Read_eq _ _ _ _).trans (by unfold s_triuneref04_Read; simp -implicitDefEqProofs (disch := first | omega | simp) [wrap_i64, wrap_u16_id, wrap_u8_id, tdiv_pos, tmod_pos, -List.length_eq_zero_iff, -List.getElem_cons_drop, z2, z3, e2, e3]; first | exact rfl | exact ⟨rfl, rfl⟩)) ?_
          simp only [rdV, rdTid, rdUnit, rdPdu, rdLen, hE, if_true, hN, getD_e l 0 (by omega), getD_e l 1 (by omega), getD_e l 6 (by omega)]
          simp [frameV]
        · refine fin 3 (by omega) (by unfold rdErr; rw [if_neg (by omega), if_neg (by omega), if_pos (by omega)]) ?_
          unfold s_triuneref04_Read; simp -implicitDefEqProofs (disch := first | omega | simp) [wrap_i64, wrap_u16_id, wrap_u8_id, tdiv_pos, tmod_pos, -List.length_eq_zero_iff, -List.getElem_cons_drop, z2, z3]
      · refine fin 2 (by omega) (by unfold rdErr; rw [if_pos (by omega)]) ?_
        unfold s_triuneref04_Read; simp -implicitDefEqProofs (disch := first | omega | simp) [wrap_i64, wrap_u16_id, wrap_u8_id, tdiv_pos, tmod_pos, -List.length_eq_zero_iff, -List.getElem_cons_drop, z2, z3]
    · refine fin 2 (by omega) (by unfold rdErr; rw [if_pos (by omega)]) ?_
      unfold s_triuneref04_Read; simp -implicitDefEqProofs (disch := first | omega | simp) [wrap_i64, wrap_u16_id, wrap_u8_id, tdiv_pos, tmod_pos, -List.length_eq_zero_iff, -List.getElem_cons_drop, z2]
  · refine fin 3 (by omega) (by unfold rdErr; rw [if_neg (by omega), if_neg (by omega), if_pos (by omega)]) ?_
    unfold s_triuneref04_Read; simp -implicitDefEqProofs (disch := first | omega | simp) [wrap_i64, wrap_u16_id, wrap_u8_id, tdiv_pos, tmod_pos, -List.length_eq_zero_iff, -List.getElem_cons_drop]
end Go.Proofs.Ytigfninpflemnaa
