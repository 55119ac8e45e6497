/- The law AnswerExcept: it answers true. -/
import Derived.Test.YtjkofefcoeejbaaKX9
import Derived.Test.YtjkofefcoeejbaaFLAnswerExcept
-- NEEDS: triunelaw07.AnswerExcept
-- ENV2
namespace Go.Proofs.Ytjkofefcoeejbaa
open Go
set_option linter.unusedSimpArgs false
set_option linter.unusedVariables false
set_option maxRecDepth 100000
theorem AnswerExcept_run (n : Nat) (up : cP2 n 25 false [] = some (Bo true)) (hn : 39000 ≤ n) (x : Rq) (hx : RqTy x) (k : Int) :
    ∃ H', s_triunelaw07_AnswerExcept n [] 0 (rqE x .sh .sh) (I .i64 k) = some (Bo true, H') := by
  have l1 := cP_up (ref06_Large_c n x .sh .sh (by omega))
  have l2 := cP_up (Right_c n (by omega) x .sh .sh)
  cases h1 : lgV x with
  | true =>
    rw [h1] at l1
    unfold rqE at *
    exact ⟨_, by unfold s_triunelaw07_AnswerExcept; simp -implicitDefEqProofs (disch := first | omega | (simp only [List.length_set, List.length_append, List.length_cons, List.length_nil, List.length_take, List.length_drop, List.length_map]; omega) | simp) [wrap_i64, wrap_u16_id, wrap_u8_id, tdiv_pos, tmod_pos, -getElem?_pos, -getElem?_neg, -List.length_eq_zero_iff, -List.getElem_cons_drop, up, l1]; rfl⟩
  | false =>
    rw [h1] at l1
    have okx := hx.ok h1
    by_cases hr : RightP x
    case neg =>
      rw [decide_eq_false hr] at l2
      unfold rqE at *
      exact ⟨_, by unfold s_triunelaw07_AnswerExcept; simp -implicitDefEqProofs (disch := first | omega | (simp only [List.length_set, List.length_append, List.length_cons, List.length_nil, List.length_take, List.length_drop, List.length_map]; omega) | simp) [wrap_i64, wrap_u16_id, wrap_u8_id, tdiv_pos, tmod_pos, -getElem?_pos, -getElem?_neg, -List.length_eq_zero_iff, -List.getElem_cons_drop, up, l1, l2]; rfl⟩
    rw [decide_eq_true hr] at l2
    have hcode := code_le hr
    obtain ⟨z, hz⟩ : ∃ z : An, z = ⟨k, [], [], []⟩ := ⟨_, rfl⟩
    have ok : AnOk z := by rw [hz]; exact ⟨(by intro x hx; cases hx), (by intro x hx; cases hx), Nat.zero_le _⟩
    have k1 : cP2 n 27 false [rqE x .sh .sh, .agg [.flat (.int .i64 k), .list 0 [] .ti, .list 0 [] .ti, .list 0 [] .ti]] = some (ansBytV x z) := by
      have := cP_up (ansBytes_c n (by omega) x okx z ok .sh .sh .ti .ti .ti)
      have e : anE z .ti .ti .ti = .agg [.flat (.int .i64 k), .list 0 [] .ti, .list 0 [] .ti, .list 0 [] .ti] := by rw [hz]; rfl
      rw [e] at this
      exact this
    by_cases hk : 0 ≤ k ∧ k ≤ 255
    · by_cases h0 : k = 0
      · have hv : ansV x z = ansV x anZ := by rw [hz, h0]; rfl
        subst h0
        cases hv2 : ansBytV x z with
        | tup l =>
          rw [hv2] at k1
          have hl : ∃ d e, l = [d, e] := by
            unfold ansBytV at hv2
            rw [if_pos hr] at hv2
            split at hv2 <;> (cases hv2; exact ⟨_, _, rfl⟩)
          obtain ⟨d, e, rfl⟩ := hl
          unfold rqE at *
          exact ⟨_, by unfold s_triunelaw07_AnswerExcept; simp -implicitDefEqProofs (disch := first | omega | (simp only [List.length_set, List.length_append, List.length_cons, List.length_nil, List.length_take, List.length_drop, List.length_map]; omega) | simp) [wrap_i64, wrap_u16_id, wrap_u8_id, tdiv_pos, tmod_pos, -getElem?_pos, -getElem?_neg, -List.length_eq_zero_iff, -List.getElem_cons_drop, up, l1, l2, k1]; rfl⟩
        | _ =>
          exfalso
          unfold ansBytV at hv2
          rw [if_pos hr] at hv2
          split at hv2 <;> cases hv2
      · have hv : ansV x z = true := by
          have hd : decide (k = 0) = false := by simpa using h0
          unfold ansV ansB
          rw [hz]
          simp only [hd, Bool.and_false, Bool.false_eq_true, if_false]
          simp [hr, hk.1, hk.2]
        have e1 : ansBytV x z = .tup [LV 1 (I .u8) [x.code + 128, k] .sh, I .i64 0] := by
          unfold ansBytV
          rw [if_pos hr, if_pos hv]
          unfold ansTextV
          rw [hz]
          simp only
          rw [if_pos (by omega)]
        have e2 : ansTextV x z = [x.code + 128, k] := by
          unfold ansTextV
          rw [hz]
          simp only
          rw [if_pos (by omega)]
        rw [e1] at k1
        have hb : Bytes [x.code + 128, k] := cons_bytes (by omega) (cons_bytes (by omega) nil_bytes)
        have k2 := Read_c n (by omega) x okx [x.code + 128, k] hb .sh .sh .sh
        have e3 := read_text x z ok hv
        rw [e2] at e3
        rw [e3] at k2
        rw [hz] at k2
        unfold rqE anE at *
        have h3 : ¬ k < 0 := by omega
        have h4 : ¬ 255 < k := by omega
        have h5 : 128 ≤ x.code + 128 := by omega
        exact ⟨_, by unfold s_triunelaw07_AnswerExcept; simp -implicitDefEqProofs (disch := first | omega | (simp only [List.length_set, List.length_append, List.length_cons, List.length_nil, List.length_take, List.length_drop, List.length_map]; omega) | simp) [wrap_i64, wrap_u16_id, wrap_u8_id, tdiv_pos, tmod_pos, -getElem?_pos, -getElem?_neg, -List.length_eq_zero_iff, -List.getElem_cons_drop, up, l1, l2, k1, k2, h3, h4, h5, h0]; rfl⟩
    · have hv : ansV x z = false := by
        unfold ansV ansB
        rw [hz]
        rw [Bool.eq_false_iff]
        intro h
        simp only [Bool.and_eq_true, decide_eq_true_eq] at h
        omega
      have e1 : ansBytV x z = .tup [.list 0 [] .sh, I .i64 2] := by
        unfold ansBytV
        rw [if_pos hr, hv]
        rfl
      rw [e1] at k1
      unfold rqE at *
      by_cases h3 : k < 0
      · exact ⟨_, by unfold s_triunelaw07_AnswerExcept; simp -implicitDefEqProofs (disch := first | omega | (simp only [List.length_set, List.length_append, List.length_cons, List.length_nil, List.length_take, List.length_drop, List.length_map]; omega) | simp) [wrap_i64, wrap_u16_id, wrap_u8_id, tdiv_pos, tmod_pos, -getElem?_pos, -getElem?_neg, -List.length_eq_zero_iff, -List.getElem_cons_drop, up, l1, l2, k1, h3]; rfl⟩
      · have h4 : 255 < k := by omega
        exact ⟨_, by unfold s_triunelaw07_AnswerExcept; simp -implicitDefEqProofs (disch := first | omega | (simp only [List.length_set, List.length_append, List.length_cons, List.length_nil, List.length_take, List.length_drop, List.length_map]; omega) | simp) [wrap_i64, wrap_u16_id, wrap_u8_id, tdiv_pos, tmod_pos, -getElem?_pos, -getElem?_neg, -List.length_eq_zero_iff, -List.getElem_cons_drop, up, l1, l2, k1, h3, h4]; rfl⟩
theorem AnswerExcept_all (e0 e1 : List DV) (h0 : Shp Try.prog 8 26 e0) (h1 : Shp Try.prog 8 3 e1) :
    ∃ H', callG Try.prog ENV2 40000 8 [elOf (isAgT Try.prog 26) e0, elOf (isAgT Try.prog 3) e1] [] 0 = some (.flat (.bool true), H') := by
  obtain ⟨x, r0, x1⟩ := shp_rq (d := 5) h0
  obtain ⟨c, rfl, _⟩ := shp_int (k := .i64) Try.underlying3 h1
  obtain ⟨H', h⟩ := AnswerExcept_run 39999 (awake07 39998 rfl) (by omega) x x1 c
  have r2 : elOf (isAgT Try.prog 3) [I .i64 c] = I .i64 c := by kernel_rfl
  rw [r0, r2]
  exact ⟨H', (s_triunelaw07_AnswerExcept_eq 39999 [] 0 _ _).trans h⟩
end Go.Proofs.Ytjkofefcoeejbaa
