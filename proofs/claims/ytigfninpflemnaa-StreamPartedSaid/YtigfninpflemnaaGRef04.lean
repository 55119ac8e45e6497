/- The reference of frames. -/
import Derived.Test.YtigfninpflemnaaFRef04
import Derived.Test.YtigfninpflemnaaEv
import Derived.Test.YtigfninpflemnaaGFrame
import Derived.Test.YtigfninpflemnaaGSame01
-- NEEDS: triuneref04.Bytes; triuneref04.Read; triuneref04.Same
namespace Go.Proofs.Ytigfninpflemnaa
open Go
set_option linter.unusedSimpArgs false
theorem buildL_i7 (k : IntKind) (z a b c d e f g : Int) : buildL false 1 7 (.flat (.int k z)) [(0, .flat (.int k a)), (1, .flat (.int k b)), (2, .flat (.int k c)), (3, .flat (.int k d)), (4, .flat (.int k e)), (5, .flat (.int k f)), (6, .flat (.int k g))] = some (LV 1 (I k) [a, b, c, d, e, f, g] .ti) := by kernel_rfl
theorem ref04_Bytes_c (n : Nat) (hn : 3 ≤ n) (t u : Int) (p : List Int) (g : Tag) (h0 : 0 ≤ t) (h1 : t < 65536) (hl : p.length ≤ 1000) :
    cP n 54 false [frameV t u p g] = some (.tup [LV 1 (I .u8) (frameOut t u p) .sh, I .i64 (frameErr p.length)]) := by
  obtain ⟨n, rfl⟩ : ∃ m, n = m + 1 := ⟨n - 1, by omega⟩
  by_cases c0 : p.length = 0
  · refine cP_of (by simp [argEl_eq, frameV]; rfl) ((s_triuneref04_Bytes_eq _ _ _ _).trans (by unfold s_triuneref04_Bytes; simp -implicitDefEqProofs (disch := first | omega | (simp only [List.length_set, List.length_append, List.length_cons, List.length_nil, List.length_take, List.length_drop, List.length_map]; omega) | simp) [wrap_i64, wrap_u16_id, wrap_u8_id, tdiv_pos, tmod_pos, -getElem?_pos, -getElem?_neg, -List.length_eq_zero_iff, -List.getElem_cons_drop]; first | exact rfl | exact ⟨rfl, rfl⟩)) ?_
    simp [frameOut, frameErr, c0]; rfl
  by_cases c1 : 253 < p.length
  · refine cP_of (by simp [argEl_eq, frameV]; rfl) ((s_triuneref04_Bytes_eq _ _ _ _).trans (by unfold s_triuneref04_Bytes; simp -implicitDefEqProofs (disch := first | omega | (simp only [List.length_set, List.length_append, List.length_cons, List.length_nil, List.length_take, List.length_drop, List.length_map]; omega) | simp) [wrap_i64, wrap_u16_id, wrap_u8_id, tdiv_pos, tmod_pos, -getElem?_pos, -getElem?_neg, -List.length_eq_zero_iff, -List.getElem_cons_drop]; first | exact rfl | exact ⟨rfl, rfl⟩)) ?_
    simp [frameOut, frameErr, c0, c1]; rfl
  have e3 : ∀ (xs : List Int) H, xs.length = 7 → appG 5 false 1 1 (LV 1 (I .u8) xs .ti) (LV 1 (I .u8) p .sh) H 0 = some (LV 1 (I .u8) (xs ++ p) (.own H.length), H ++ [.token 5 1 (xs.length + p.length)]) := fun xs H hx =>
    appG_ti (by intro h; simp [h] at c0) rfl (by omega) (by omega)
  refine cP_of (by simp [argEl_eq, frameV]; rfl) ((s_triuneref04_Bytes_eq _ _ _ _).trans (by unfold s_triuneref04_Bytes; simp -implicitDefEqProofs (disch := first | omega | (simp only [List.length_set, List.length_append, List.length_cons, List.length_nil, List.length_take, List.length_drop, List.length_map]; omega) | simp) [wrap_i64, wrap_u16_id, wrap_u8_id, tdiv_pos, tmod_pos, -getElem?_pos, -getElem?_neg, -List.length_eq_zero_iff, -List.getElem_cons_drop, buildL_i7, e3]; first | exact rfl | exact ⟨rfl, rfl⟩)) ?_
  have hf : frameErr p.length = 0 := by simp [frameErr, c0, c1]
  simp [frameOut, hf, frameBytes]
theorem ref04_Same_c (n : Nat) (a b c d : Int) (p q : List Int) (t1 t2 : Tag) (hp : p.length ≤ 1000000) (hn : p.length + 4 ≤ n) : cP n 57 false [frameV a b p t1, frameV c d q t2] = some (Bo (decide (a = c ∧ b = d ∧ p = q))) := by
  obtain ⟨n, rfl⟩ : ∃ m, n = m + 1 := ⟨n - 1, by omega⟩
  have hE := ref01_Same_c n p q .sh .sh hp (by omega)
  by_cases e1 : a = c
  · by_cases e2 : b = d
    · refine cP_of (args' := [frameV a b p .sh, frameV c d q .sh]) (by simp [argEl_eq, frameV]) ((s_triuneref04_Same_eq _ _ _ _ _).trans (by unfold s_triuneref04_Same frameV; simp -implicitDefEqProofs (disch := first | omega | (simp only [List.length_set, List.length_append, List.length_cons, List.length_nil, List.length_take, List.length_drop, List.length_map]; omega) | simp) [wrap_i64, wrap_u16_id, wrap_u8_id, tdiv_pos, tmod_pos, -getElem?_pos, -getElem?_neg, -List.length_eq_zero_iff, -List.getElem_cons_drop, hE, e1, e2]; first | exact rfl | exact ⟨rfl, rfl⟩)) ?_
      simp [e1, e2]
    · refine cP_of (args' := [frameV a b p .sh, frameV c d q .sh]) (by simp [argEl_eq, frameV]) ((s_triuneref04_Same_eq _ _ _ _ _).trans (by unfold s_triuneref04_Same frameV; simp -implicitDefEqProofs (disch := first | omega | (simp only [List.length_set, List.length_append, List.length_cons, List.length_nil, List.length_take, List.length_drop, List.length_map]; omega) | simp) [wrap_i64, wrap_u16_id, wrap_u8_id, tdiv_pos, tmod_pos, -getElem?_pos, -getElem?_neg, -List.length_eq_zero_iff, -List.getElem_cons_drop, e1, e2]; first | exact rfl | exact ⟨rfl, rfl⟩)) ?_
      simp [e1, e2]
  · refine cP_of (args' := [frameV a b p .sh, frameV c d q .sh]) (by simp [argEl_eq, frameV]) ((s_triuneref04_Same_eq _ _ _ _ _).trans (by unfold s_triuneref04_Same frameV; simp -implicitDefEqProofs (disch := first | omega | (simp only [List.length_set, List.length_append, List.length_cons, List.length_nil, List.length_take, List.length_drop, List.length_map]; omega) | simp) [wrap_i64, wrap_u16_id, wrap_u8_id, tdiv_pos, tmod_pos, -getElem?_pos, -getElem?_neg, -List.length_eq_zero_iff, -List.getElem_cons_drop, e1]; first | exact rfl | exact ⟨rfl, rfl⟩)) ?_
    simp [e1]
theorem ref04_Read_c (n : Nat) (l : List Int) (t : Tag) (hb : Bytes l) (hl : l.length ≤ 100000) (hn : 3 ≤ n) : cP n 56 false [LV 1 (I .u8) l t] = some (rdV l) := by
  obtain ⟨n, rfl⟩ : ∃ m, n = m + 1 := ⟨n - 1, by omega⟩
  have fin : ∀ e : Int, e ≠ 0 → rdErr l = e → s_triuneref04_Read n [] 0 (LV 1 (I .u8) l .sh) = some (.tup [.agg [I .u16 0, I .u8 0, .list 0 [] .ti], I .i64 0, I .i64 e], [.cells 72 [I .u16 0, I .u8 0, .list 0 [] .ti]]) → cP (n + 1) 56 false [LV 1 (I .u8) l t] = some (rdV l) := by
    intro e h0 hE h
    rw [rdV_err l e hE h0]
    exact cP_of (args' := [LV 1 (I .u8) l .sh]) (by simp [argEl_eq]) ((s_triuneref04_Read_eq _ _ _ _).trans h) (by simp)
  by_cases c4 : 4 ≤ l.length
  · have g2 := hb _ (List.getElem_mem (show 2 < l.length by omega))
    have g3 := hb _ (List.getElem_mem (show 3 < l.length by omega))
    have d2 : l.getD 2 0 = l[2] := getD_e l 2 (by omega)
    have d3 : l.getD 3 0 = l[3] := getD_e l 3 (by omega)
    by_cases z2 : l[2] = 0
    · by_cases z3 : l[3] = 0
      · by_cases c6 : 6 ≤ l.length
        · have g4 := hb _ (List.getElem_mem (show 4 < l.length by omega))
          have g5 := hb _ (List.getElem_mem (show 5 < l.length by omega))
          have hN : rdN l = (256 : Int) * l[4] + l[5] := by unfold rdN; rw [getD_e l 4 (by omega), getD_e l 5 (by omega)]; try rfl
          by_cases c7 : (256 : Int) * l[4] + l[5] < 2
          · refine fin 2 (by omega) (by unfold rdErr; rw [if_neg (by omega), if_pos (by omega)]) ?_
            unfold s_triuneref04_Read; simp -implicitDefEqProofs (disch := first | omega | (simp only [List.length_set, List.length_append, List.length_cons, List.length_nil, List.length_take, List.length_drop, List.length_map]; omega) | simp) [wrap_i64, wrap_u16_id, wrap_u8_id, tdiv_pos, tmod_pos, -getElem?_pos, -getElem?_neg, -List.length_eq_zero_iff, -List.getElem_cons_drop, z2, z3]
          by_cases c8 : (254 : Int) < (256 : Int) * l[4] + l[5]
          · refine fin 2 (by omega) (by unfold rdErr; rw [if_neg (by omega), if_pos (by omega)]) ?_
            unfold s_triuneref04_Read; simp -implicitDefEqProofs (disch := first | omega | (simp only [List.length_set, List.length_append, List.length_cons, List.length_nil, List.length_take, List.length_drop, List.length_map]; omega) | simp) [wrap_i64, wrap_u16_id, wrap_u8_id, tdiv_pos, tmod_pos, -getElem?_pos, -getElem?_neg, -List.length_eq_zero_iff, -List.getElem_cons_drop, z2, z3]
          by_cases c9 : (l.length : Int) < (6 : Int) + ((256 : Int) * l[4] + l[5])
          · refine fin 3 (by omega) (by unfold rdErr; rw [if_neg (by omega), if_neg (by omega), if_pos (by omega)]) ?_
            by_cases c10 : l.length < 7
            · unfold s_triuneref04_Read; simp -implicitDefEqProofs (disch := first | omega | (simp only [List.length_set, List.length_append, List.length_cons, List.length_nil, List.length_take, List.length_drop, List.length_map]; omega) | simp) [wrap_i64, wrap_u16_id, wrap_u8_id, tdiv_pos, tmod_pos, -getElem?_pos, -getElem?_neg, -List.length_eq_zero_iff, -List.getElem_cons_drop, z2, z3]
            · unfold s_triuneref04_Read; simp -implicitDefEqProofs (disch := first | omega | (simp only [List.length_set, List.length_append, List.length_cons, List.length_nil, List.length_take, List.length_drop, List.length_map]; omega) | simp) [wrap_i64, wrap_u16_id, wrap_u8_id, tdiv_pos, tmod_pos, -getElem?_pos, -getElem?_neg, -List.length_eq_zero_iff, -List.getElem_cons_drop, z2, z3]
          have hE : rdErr l = 0 := by unfold rdErr; rw [if_neg (by omega), if_neg (by omega), if_neg (by omega)]
          have g0 := hb _ (List.getElem_mem (show 0 < l.length by omega))
          have g1 := hb _ (List.getElem_mem (show 1 < l.length by omega))
          have e2 : buildL false 1 0 (I .u8 0) [] = some (LV 1 (I .u8) [] .ti) := rfl
          have hl0 : (l.take ((6 : Int) + ((256 : Int) * l[4] + l[5])).toNat).drop 7 ≠ [] := by
            intro h
            have := congrArg List.length h
            simp at this
            omega
          have e3 : ∀ H, appG 5 false 1 1 (LV 1 (I .u8) [] .ti) (LV 1 (I .u8) ((l.take ((6 : Int) + ((256 : Int) * l[4] + l[5])).toNat).drop 7) .sh) H 0 = some (LV 1 (I .u8) ([] ++ (l.take ((6 : Int) + ((256 : Int) * l[4] + l[5])).toNat).drop 7) (.own H.length), H ++ [.token 5 1 (([] : List Int).length + ((l.take ((6 : Int) + ((256 : Int) * l[4] + l[5])).toNat).drop 7).length)]) := fun H =>
            appG_ti hl0 rfl (by simp; omega) (by simp; omega)
          refine cP_of (args' := [LV 1 (I .u8) l .sh]) (by simp [argEl_eq]) ((s_triuneref04_Read_eq _ _ _ _).trans (by unfold s_triuneref04_Read; simp -implicitDefEqProofs (disch := first | omega | (simp only [List.length_set, List.length_append, List.length_cons, List.length_nil, List.length_take, List.length_drop, List.length_map]; omega) | simp) [wrap_i64, wrap_u16_id, wrap_u8_id, tdiv_pos, tmod_pos, -getElem?_pos, -getElem?_neg, -List.length_eq_zero_iff, -List.getElem_cons_drop, z2, z3, e2, e3]; first | exact rfl | exact ⟨rfl, rfl⟩)) ?_
          simp only [rdV, rdTid, rdUnit, rdPdu, rdLen, hE, if_true, hN, getD_e l 0 (by omega), getD_e l 1 (by omega), getD_e l 6 (by omega)]
          simp [frameV]
        · refine fin 3 (by omega) (by unfold rdErr; rw [if_neg (by omega), if_neg (by omega), if_pos (by omega)]) ?_
          unfold s_triuneref04_Read; simp -implicitDefEqProofs (disch := first | omega | (simp only [List.length_set, List.length_append, List.length_cons, List.length_nil, List.length_take, List.length_drop, List.length_map]; omega) | simp) [wrap_i64, wrap_u16_id, wrap_u8_id, tdiv_pos, tmod_pos, -getElem?_pos, -getElem?_neg, -List.length_eq_zero_iff, -List.getElem_cons_drop, z2, z3]
      · refine fin 2 (by omega) (by unfold rdErr; rw [if_pos (by omega)]) ?_
        unfold s_triuneref04_Read; simp -implicitDefEqProofs (disch := first | omega | (simp only [List.length_set, List.length_append, List.length_cons, List.length_nil, List.length_take, List.length_drop, List.length_map]; omega) | simp) [wrap_i64, wrap_u16_id, wrap_u8_id, tdiv_pos, tmod_pos, -getElem?_pos, -getElem?_neg, -List.length_eq_zero_iff, -List.getElem_cons_drop, z2, z3]
    · refine fin 2 (by omega) (by unfold rdErr; rw [if_pos (by omega)]) ?_
      unfold s_triuneref04_Read; simp -implicitDefEqProofs (disch := first | omega | (simp only [List.length_set, List.length_append, List.length_cons, List.length_nil, List.length_take, List.length_drop, List.length_map]; omega) | simp) [wrap_i64, wrap_u16_id, wrap_u8_id, tdiv_pos, tmod_pos, -getElem?_pos, -getElem?_neg, -List.length_eq_zero_iff, -List.getElem_cons_drop, z2]
  · refine fin 3 (by omega) (by unfold rdErr; rw [if_neg (by omega), if_neg (by omega), if_pos (by omega)]) ?_
    unfold s_triuneref04_Read; simp -implicitDefEqProofs (disch := first | omega | (simp only [List.length_set, List.length_append, List.length_cons, List.length_nil, List.length_take, List.length_drop, List.length_map]; omega) | simp) [wrap_i64, wrap_u16_id, wrap_u8_id, tdiv_pos, tmod_pos, -getElem?_pos, -getElem?_neg, -List.length_eq_zero_iff, -List.getElem_cons_drop]
end Go.Proofs.Ytigfninpflemnaa
