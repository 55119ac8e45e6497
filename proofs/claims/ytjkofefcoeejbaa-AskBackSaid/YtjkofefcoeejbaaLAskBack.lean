/- The law AskBack: it answers true. -/
import Derived.Test.YtjkofefcoeejbaaFLAskBack
import Derived.Test.YtjkofefcoeejbaaKA7
-- NEEDS: triunelaw06.AskBack
namespace Go.Proofs.Ytjkofefcoeejbaa
open Go
set_option linter.unusedSimpArgs false
set_option linter.unusedVariables false
set_option maxRecDepth 100000
theorem AskBack_run (n : Nat) (up : cP n 12 false [] = some (Bo true)) (hn : 39000 ≤ n) (x : Rq) (hx : RqTy x) (b : List Int) (hb : Bytes b) (cut : Int) :
    ∃ H', s_triunelaw06_AskBack n [] 0 (rqE x .sh .sh) (LV 1 (I .u8) b .sh) (I .i64 cut) = some (Bo true, H') := by
  have l1 := ref06_Large_c n x .sh .sh (by omega)
  cases h1 : lgV x with
  | true =>
    rw [h1] at l1
    unfold rqE at *
    exact ⟨_, by unfold s_triunelaw06_AskBack; simp -implicitDefEqProofs (disch := first | omega | (simp only [List.length_set, List.length_append, List.length_cons, List.length_nil, List.length_take, List.length_drop, List.length_map]; omega) | simp) [wrap_i64, wrap_u16_id, wrap_u8_id, tdiv_pos, tmod_pos, -getElem?_pos, -getElem?_neg, -List.length_eq_zero_iff, -List.getElem_cons_drop, up, l1]; rfl⟩
  | false =>
    rw [h1] at l1
    by_cases h2 : 600 < b.length
    · unfold rqE at *
      exact ⟨_, by unfold s_triunelaw06_AskBack; simp -implicitDefEqProofs (disch := first | omega | (simp only [List.length_set, List.length_append, List.length_cons, List.length_nil, List.length_take, List.length_drop, List.length_map]; omega) | simp) [wrap_i64, wrap_u16_id, wrap_u8_id, tdiv_pos, tmod_pos, -getElem?_pos, -getElem?_neg, -List.length_eq_zero_iff, -List.getElem_cons_drop, up, l1, h2]; rfl⟩
    · have okx := hx.ok h1
      have k1 := Bytes_c n (by omega) x okx .sh .sh
      have k3 := Parse_c n (by omega) b hb (by omega) .sh
      have ok := parse_ok b hb (by omega)
      have k7 := Right_c n (by omega) x .sh .sh
      -- what comes behind: b is parsed, and has its own bytes
      have q1 := Bytes_c n (by omega) (parseV b).1 ok .sh .sh
      have q2 := ref01_Same_c n b b .sh .sh (by omega) (by omega)
      simp only [decide_true] at q2
      have back := parse_back b
      have zero := parse_zero b
      generalize (parseV b).1 = y at *
      generalize (parseV b).2 = e at *
      have fine : e = 0 → RightP y ∧ textV y = b := fun h => ⟨(back h).1, (back h).2.1⟩
      have none : e ≠ 0 → y = rqZ := zero
      clear back zero
      by_cases hr : RightP x
      · rw [if_pos hr] at k1
        rw [decide_eq_true hr] at k7
        have hm := text_most x hr.1
        have hbt := text_bytes x
        have k4 := Parse_c n (by omega) (textV x) hbt (by omega) .sh
        rw [parse_text x hr okx] at k4
        have k5 := ask_Same_c n x x .sh .sh .sh .sh okx okx (by omega)
        simp only [decide_true] at k5
        simp only at k4
        by_cases hc : 1 ≤ cut ∧ cut < (textV x).length
        · obtain ⟨c1, c2⟩ := hc
          have k6 := Parse_c n (by omega) ((textV x).take cut.toNat) (fun z hz => hbt z (List.mem_of_mem_take hz)) (by simp; omega) .sh
          rw [cut_none x hr.1 okx cut.toNat (by omega) (by omega)] at k6
          simp only at k6
          by_cases h0 : e = 0
          · obtain ⟨f1, f2⟩ := fine h0
            rw [if_pos f1, f2] at q1
            subst h0
            unfold rqE at *
            exact ⟨_, by unfold s_triunelaw06_AskBack; simp -implicitDefEqProofs (disch := first | omega | (simp only [List.length_set, List.length_append, List.length_cons, List.length_nil, List.length_take, List.length_drop, List.length_map]; omega) | simp) [wrap_i64, wrap_u16_id, wrap_u8_id, tdiv_pos, tmod_pos, -getElem?_pos, -getElem?_neg, -List.length_eq_zero_iff, -List.getElem_cons_drop, up, l1, h2, k1, k3, k4, k5, k6, k7, hm, c1, c2, q1, q2]; rfl⟩
          · have hz := none h0
            subst hz
            unfold rqE at *
            exact ⟨_, by unfold s_triunelaw06_AskBack; simp -implicitDefEqProofs (disch := first | omega | (simp only [List.length_set, List.length_append, List.length_cons, List.length_nil, List.length_take, List.length_drop, List.length_map]; omega) | simp) [wrap_i64, wrap_u16_id, wrap_u8_id, tdiv_pos, tmod_pos, -getElem?_pos, -getElem?_neg, -List.length_eq_zero_iff, -List.getElem_cons_drop, up, l1, h2, k1, k3, k4, k5, k6, k7, hm, c1, c2, h0, rqZ]; rfl⟩
        · have hd : (decide (1 ≤ cut) && decide (cut < (textV x).length)) = false := by
            rw [Bool.and_eq_false_iff, decide_eq_false_iff_not, decide_eq_false_iff_not]
            omega
          by_cases c1 : 1 ≤ cut
          · have c2 : ¬ cut < (textV x).length := by omega
            by_cases h0 : e = 0
            · obtain ⟨f1, f2⟩ := fine h0
              rw [if_pos f1, f2] at q1
              subst h0
              unfold rqE at *
              exact ⟨_, by unfold s_triunelaw06_AskBack; simp -implicitDefEqProofs (disch := first | omega | (simp only [List.length_set, List.length_append, List.length_cons, List.length_nil, List.length_take, List.length_drop, List.length_map]; omega) | simp) [wrap_i64, wrap_u16_id, wrap_u8_id, tdiv_pos, tmod_pos, -getElem?_pos, -getElem?_neg, -List.length_eq_zero_iff, -List.getElem_cons_drop, up, l1, h2, k1, k3, k4, k5, k7, hm, c1, c2, q1, q2]; rfl⟩
            · have hz := none h0
              subst hz
              unfold rqE at *
              exact ⟨_, by unfold s_triunelaw06_AskBack; simp -implicitDefEqProofs (disch := first | omega | (simp only [List.length_set, List.length_append, List.length_cons, List.length_nil, List.length_take, List.length_drop, List.length_map]; omega) | simp) [wrap_i64, wrap_u16_id, wrap_u8_id, tdiv_pos, tmod_pos, -getElem?_pos, -getElem?_neg, -List.length_eq_zero_iff, -List.getElem_cons_drop, up, l1, h2, k1, k3, k4, k5, k7, hm, c1, c2, h0, rqZ]; rfl⟩
          · by_cases h0 : e = 0
            · obtain ⟨f1, f2⟩ := fine h0
              rw [if_pos f1, f2] at q1
              subst h0
              unfold rqE at *
              exact ⟨_, by unfold s_triunelaw06_AskBack; simp -implicitDefEqProofs (disch := first | omega | (simp only [List.length_set, List.length_append, List.length_cons, List.length_nil, List.length_take, List.length_drop, List.length_map]; omega) | simp) [wrap_i64, wrap_u16_id, wrap_u8_id, tdiv_pos, tmod_pos, -getElem?_pos, -getElem?_neg, -List.length_eq_zero_iff, -List.getElem_cons_drop, up, l1, h2, k1, k3, k4, k5, k7, hm, c1, q1, q2]; rfl⟩
            · have hz := none h0
              subst hz
              unfold rqE at *
              exact ⟨_, by unfold s_triunelaw06_AskBack; simp -implicitDefEqProofs (disch := first | omega | (simp only [List.length_set, List.length_append, List.length_cons, List.length_nil, List.length_take, List.length_drop, List.length_map]; omega) | simp) [wrap_i64, wrap_u16_id, wrap_u8_id, tdiv_pos, tmod_pos, -getElem?_pos, -getElem?_neg, -List.length_eq_zero_iff, -List.getElem_cons_drop, up, l1, h2, k1, k3, k4, k5, k7, hm, c1, h0, rqZ]; rfl⟩
      · rw [if_neg hr] at k1
        rw [decide_eq_false hr] at k7
        by_cases h0 : e = 0
        · obtain ⟨f1, f2⟩ := fine h0
          rw [if_pos f1, f2] at q1
          subst h0
          unfold rqE at *
          exact ⟨_, by unfold s_triunelaw06_AskBack; simp -implicitDefEqProofs (disch := first | omega | (simp only [List.length_set, List.length_append, List.length_cons, List.length_nil, List.length_take, List.length_drop, List.length_map]; omega) | simp) [wrap_i64, wrap_u16_id, wrap_u8_id, tdiv_pos, tmod_pos, -getElem?_pos, -getElem?_neg, -List.length_eq_zero_iff, -List.getElem_cons_drop, up, l1, h2, k1, k3, k7, q1, q2]; rfl⟩
        · have hz := none h0
          subst hz
          unfold rqE at *
          exact ⟨_, by unfold s_triunelaw06_AskBack; simp -implicitDefEqProofs (disch := first | omega | (simp only [List.length_set, List.length_append, List.length_cons, List.length_nil, List.length_take, List.length_drop, List.length_map]; omega) | simp) [wrap_i64, wrap_u16_id, wrap_u8_id, tdiv_pos, tmod_pos, -getElem?_pos, -getElem?_neg, -List.length_eq_zero_iff, -List.getElem_cons_drop, up, l1, h2, k1, k3, k7, h0, rqZ]; rfl⟩
theorem AskBack_all (e0 e1 e2 : List DV) (h0 : Shp Try.prog 8 26 e0) (h1 : Shp Try.prog 8 27 e1) (h2 : Shp Try.prog 8 3 e2) :
    ∃ H', callG Try.prog ENV 40000 4 [elOf (isAgT Try.prog 26) e0, elOf (isAgT Try.prog 27) e1, elOf (isAgT Try.prog 3) e2] [] 0 = some (.flat (.bool true), H') := by
  obtain ⟨x, r0, x1⟩ := shp_rq (d := 5) h0
  obtain ⟨b, rfl, _, hb⟩ := shp_ints (k := .u8) Try.underlying27 Try.underlying5 (by kernel_rfl) h1
  obtain ⟨c, rfl, _⟩ := shp_int (k := .i64) Try.underlying3 h2
  obtain ⟨H', h⟩ := AskBack_run 39999 awake06 (by omega) x x1 b (fun x hx => wf_u8 (hb x hx)) c
  have r1 : elOf (isAgT Try.prog 27) [LV 1 (I .u8) b .sh] = LV 1 (I .u8) b .sh := by kernel_rfl
  have r2 : elOf (isAgT Try.prog 3) [I .i64 c] = I .i64 c := by kernel_rfl
  rw [r0, r1, r2]
  exact ⟨H', (s_triunelaw06_AskBack_eq 39999 [] 0 _ _ _).trans h⟩
end Go.Proofs.Ytjkofefcoeejbaa
