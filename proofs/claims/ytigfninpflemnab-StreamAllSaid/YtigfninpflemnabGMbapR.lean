/- The frame that bytes begin with. -/
import Derived.Test.YtigfninpflemnabFMbapR
import Derived.Test.YtigfninpflemnabEv
import Derived.Test.YtigfninpflemnabGNumber
import Derived.Test.YtigfninpflemnabGFrame
import Derived.Test.YtigfninpflemnabGBytes
-- NEEDS: mbap.Read
namespace Go.Proofs.Ytigfninpflemnab
open Go
set_option linter.unusedSimpArgs false
theorem num_e (n : Nat) (l : List Int) (t : Tag) (i : Nat) (hb : Bytes l) (hl : l.length ≤ 1000000) (hi : i ≤ 100) (hn : l.length + 8 ≤ n) (h : i + 2 ≤ l.length) :
    cP n 87 false [LV 1 (I .u8) l t, I .i64 i] = some (.tup [I .i64 (256 * l.getD i 0 + l.getD (i + 1) 0), Bo true]) := by
  rw [mbap_number_c n l t i hb hl hi hn, dif_pos h, getD_e l i (by omega), getD_e l (i + 1) (by omega)]
theorem num_n (n : Nat) (l : List Int) (t : Tag) (i : Nat) (hb : Bytes l) (hl : l.length ≤ 1000000) (hi : i ≤ 100) (hn : l.length + 8 ≤ n) (h : ¬ i + 2 ≤ l.length) :
    cP n 87 false [LV 1 (I .u8) l t, I .i64 i] = some (.tup [I .i64 0, Bo false]) := by
  rw [mbap_number_c n l t i hb hl hi hn, dif_neg h]
set_option maxHeartbeats 4000000 in
theorem mbap_Read_c (n : Nat) (l : List Int) (t : Tag) (hb : Bytes l) (hl : l.length ≤ 100000) (hn : l.length + 20 ≤ n) : cP n 81 false [LV 1 (I .u8) l t] = some (rdV l) := by
  obtain ⟨n, rfl⟩ : ∃ m, n = m + 1 := ⟨n - 1, by omega⟩
  have g2 := hb.getD 2
  have g3 := hb.getD 3
  have g4 := hb.getD 4
  have g5 := hb.getD 5
  have g0 := hb.getD 0
  have g1 := hb.getD 1
  have a2 : 2 + 2 ≤ l.length → cP n 87 false [LV 1 (I .u8) l .sh, I .i64 2] = _ := num_e n l .sh 2 hb (by omega) (by omega) (by omega)
  have b2 : ¬ 2 + 2 ≤ l.length → cP n 87 false [LV 1 (I .u8) l .sh, I .i64 2] = _ := num_n n l .sh 2 hb (by omega) (by omega) (by omega)
  have a4 : 4 + 2 ≤ l.length → cP n 87 false [LV 1 (I .u8) l .sh, I .i64 4] = _ := num_e n l .sh 4 hb (by omega) (by omega) (by omega)
  have b4 : ¬ 4 + 2 ≤ l.length → cP n 87 false [LV 1 (I .u8) l .sh, I .i64 4] = _ := num_n n l .sh 4 hb (by omega) (by omega) (by omega)
  have a0 : 0 + 2 ≤ l.length → cP n 87 false [LV 1 (I .u8) l .sh, I .i64 0] = _ := num_e n l .sh 0 hb (by omega) (by omega) (by omega)
  generalize hz : 256 * l.getD 2 0 + l.getD 3 0 = z at a2
  generalize hN : 256 * l.getD 4 0 + l.getD 5 0 = N at a4
  generalize hT : 256 * l.getD 0 0 + l.getD 1 0 = T at a0
  have hN' : rdN l = N := hN
  by_cases c1 : 4 ≤ l.length ∧ z ≠ 0
  · have hE : rdErr l = 2 := by unfold rdErr; rw [hz, if_pos c1]
    rw [rdV_err l 2 hE (by omega)]
    have a2 := a2 (by omega)
    have c1' := c1.2
    by_cases c4 : 6 ≤ l.length
    · have a4 := a4 (by omega)
      refine cP_of (args' := [LV 1 (I .u8) l .sh]) (by simp [argEl_eq]) ((s_mbap_Read_eq _ _ _ _).trans (by unfold s_mbap_Read; simp -implicitDefEqProofs (disch := first | omega | (simp only [List.length_set, List.length_append, List.length_cons, List.length_nil, List.length_take, List.length_drop, List.length_map]; omega) | simp) [wrap_i64, wrap_u16_id, wrap_u8_id, tdiv_pos, tmod_pos, -getElem?_pos, -getElem?_neg, -List.length_eq_zero_iff, -List.getElem_cons_drop, a2, a4]; first | exact rfl | exact ⟨rfl, rfl⟩)) ?_
      simp
    · have b4 := b4 (by omega)
      refine cP_of (args' := [LV 1 (I .u8) l .sh]) (by simp [argEl_eq]) ((s_mbap_Read_eq _ _ _ _).trans (by unfold s_mbap_Read; simp -implicitDefEqProofs (disch := first | omega | (simp only [List.length_set, List.length_append, List.length_cons, List.length_nil, List.length_take, List.length_drop, List.length_map]; omega) | simp) [wrap_i64, wrap_u16_id, wrap_u8_id, tdiv_pos, tmod_pos, -getElem?_pos, -getElem?_neg, -List.length_eq_zero_iff, -List.getElem_cons_drop, a2, b4]; first | exact rfl | exact ⟨rfl, rfl⟩)) ?_
      simp
  by_cases c4 : 6 ≤ l.length
  · have a4 := a4 (by omega)
    have a2 := a2 (by omega)
    have hz0 : z = 0 := by omega
    subst hz0
    by_cases c5 : N < 2
    · have hE : rdErr l = 2 := by unfold rdErr; rw [hz, hN', if_neg (by omega), if_pos ⟨c4, .inl c5⟩]
      rw [rdV_err l 2 hE (by omega)]
      refine cP_of (args' := [LV 1 (I .u8) l .sh]) (by simp [argEl_eq]) ((s_mbap_Read_eq _ _ _ _).trans (by unfold s_mbap_Read; simp -implicitDefEqProofs (disch := first | omega | (simp only [List.length_set, List.length_append, List.length_cons, List.length_nil, List.length_take, List.length_drop, List.length_map]; omega) | simp) [wrap_i64, wrap_u16_id, wrap_u8_id, tdiv_pos, tmod_pos, -getElem?_pos, -getElem?_neg, -List.length_eq_zero_iff, -List.getElem_cons_drop, a2, a4]; first | exact rfl | exact ⟨rfl, rfl⟩)) ?_
      simp
    by_cases c6 : 254 < N
    · have hE : rdErr l = 2 := by unfold rdErr; rw [hz, hN', if_neg (by omega), if_pos ⟨c4, .inr c6⟩]
      rw [rdV_err l 2 hE (by omega)]
      refine cP_of (args' := [LV 1 (I .u8) l .sh]) (by simp [argEl_eq]) ((s_mbap_Read_eq _ _ _ _).trans (by unfold s_mbap_Read; simp -implicitDefEqProofs (disch := first | omega | (simp only [List.length_set, List.length_append, List.length_cons, List.length_nil, List.length_take, List.length_drop, List.length_map]; omega) | simp) [wrap_i64, wrap_u16_id, wrap_u8_id, tdiv_pos, tmod_pos, -getElem?_pos, -getElem?_neg, -List.length_eq_zero_iff, -List.getElem_cons_drop, a2, a4]; first | exact rfl | exact ⟨rfl, rfl⟩)) ?_
      simp
    by_cases c7 : (l.length : Int) < 6 + N
    · have hE : rdErr l = 3 := by unfold rdErr; rw [hz, hN', if_neg (by omega), if_neg (by omega), if_pos (by omega)]
      rw [rdV_err l 3 hE (by omega)]
      refine cP_of (args' := [LV 1 (I .u8) l .sh]) (by simp [argEl_eq]) ((s_mbap_Read_eq _ _ _ _).trans (by unfold s_mbap_Read; simp -implicitDefEqProofs (disch := first | omega | (simp only [List.length_set, List.length_append, List.length_cons, List.length_nil, List.length_take, List.length_drop, List.length_map]; omega) | simp) [wrap_i64, wrap_u16_id, wrap_u8_id, tdiv_pos, tmod_pos, -getElem?_pos, -getElem?_neg, -List.length_eq_zero_iff, -List.getElem_cons_drop, a2, a4]; first | exact rfl | exact ⟨rfl, rfl⟩)) ?_
      simp
    have hE : rdErr l = 0 := by unfold rdErr; rw [hz, hN', if_neg (by omega), if_neg (by omega), if_neg (by omega)]
    have a0 := a0 (by omega)
    have hl0 : (l.take (6 + N).toNat).drop 7 ≠ [] := by
      intro h
      have := congrArg List.length h
      simp at this
      omega
    have hC := bytes_Clone_c n ((l.take (6 + N).toNat).drop 7) .sh hl0 (by simp; omega) (by omega)
    have h6 : l.getD 6 0 = l[6] := getD_e l 6 (by omega)
    refine cP_of (args' := [LV 1 (I .u8) l .sh]) (by simp [argEl_eq]) ((s_mbap_Read_eq _ _ _ _).trans (by unfold s_mbap_Read; simp -implicitDefEqProofs (disch := first | omega | (simp only [List.length_set, List.length_append, List.length_cons, List.length_nil, List.length_take, List.length_drop, List.length_map]; omega) | simp) [wrap_i64, wrap_u16_id, wrap_u8_id, tdiv_pos, tmod_pos, -getElem?_pos, -getElem?_neg, -List.length_eq_zero_iff, -List.getElem_cons_drop, a2, a4, a0, hC]; first | exact rfl | exact ⟨rfl, rfl⟩)) ?_
    simp only [rdV, rdTid, rdUnit, rdPdu, rdLen, hE, if_true, hT, hN', h6]
    simp [frameV]
  · have b4 := b4 (by omega)
    have hE : rdErr l = 3 := by unfold rdErr; rw [hz, if_neg c1, if_neg (by omega), if_pos (by omega)]
    rw [rdV_err l 3 hE (by omega)]
    by_cases c3 : 4 ≤ l.length
    · have a2 := a2 (by omega)
      have hz0 : z = 0 := by omega
      subst hz0
      refine cP_of (args' := [LV 1 (I .u8) l .sh]) (by simp [argEl_eq]) ((s_mbap_Read_eq _ _ _ _).trans (by unfold s_mbap_Read; simp -implicitDefEqProofs (disch := first | omega | (simp only [List.length_set, List.length_append, List.length_cons, List.length_nil, List.length_take, List.length_drop, List.length_map]; omega) | simp) [wrap_i64, wrap_u16_id, wrap_u8_id, tdiv_pos, tmod_pos, -getElem?_pos, -getElem?_neg, -List.length_eq_zero_iff, -List.getElem_cons_drop, a2, b4]; first | exact rfl | exact ⟨rfl, rfl⟩)) ?_
      simp
    · have b2 := b2 (by omega)
      refine cP_of (args' := [LV 1 (I .u8) l .sh]) (by simp [argEl_eq]) ((s_mbap_Read_eq _ _ _ _).trans (by unfold s_mbap_Read; simp -implicitDefEqProofs (disch := first | omega | (simp only [List.length_set, List.length_append, List.length_cons, List.length_nil, List.length_take, List.length_drop, List.length_map]; omega) | simp) [wrap_i64, wrap_u16_id, wrap_u8_id, tdiv_pos, tmod_pos, -getElem?_pos, -getElem?_neg, -List.length_eq_zero_iff, -List.getElem_cons_drop, b2, b4]; first | exact rfl | exact ⟨rfl, rfl⟩)) ?_
      simp
end Go.Proofs.Ytigfninpflemnab
