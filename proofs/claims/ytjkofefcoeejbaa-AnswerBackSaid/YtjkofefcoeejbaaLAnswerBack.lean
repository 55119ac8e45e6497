/- The law AnswerBack: it answers true. -/
import Derived.Test.YtjkofefcoeejbaaKX9
import Derived.Test.YtjkofefcoeejbaaFLAnswerBack
-- NEEDS: triunelaw07.AnswerBack
-- ENV2
namespace Go.Proofs.Ytjkofefcoeejbaa
open Go
set_option linter.unusedSimpArgs false
set_option linter.unusedVariables false
set_option maxRecDepth 100000
theorem AnswerBack_run (n : Nat) (up : cP2 n 25 false [] = some (Bo true)) (hn : 39000 ≤ n) (a : Rq) (ha : RqTy a) (x : An) (hx : AnTy x) (b : List Int) (hb : Bytes b) :
    ∃ H', s_triunelaw07_AnswerBack n [] 0 (rqE a .sh .sh) (anE x .sh .sh .sh) (LV 1 (I .u8) b .sh) = some (Bo true, H') := by
  have l1 := cP_up (ref06_Large_c n a .sh .sh (by omega))
  have l2 := cP_up (ref07_Large_c n x .sh .sh .sh hx.s (by omega))
  cases h1 : lgV a with
  | true =>
    rw [h1] at l1
    unfold rqE anE at *
    exact ⟨_, by unfold s_triunelaw07_AnswerBack; simp -implicitDefEqProofs (disch := first | omega | (simp only [List.length_set, List.length_append, List.length_cons, List.length_nil, List.length_take, List.length_drop, List.length_map]; omega) | simp) [wrap_i64, wrap_u16_id, wrap_u8_id, tdiv_pos, tmod_pos, -getElem?_pos, -getElem?_neg, -List.length_eq_zero_iff, -List.getElem_cons_drop, up, l1]; rfl⟩
  | false =>
    rw [h1] at l1
    cases h2 : anLarge x with
    | true =>
      rw [h2] at l2
      unfold rqE anE at *
      exact ⟨_, by unfold s_triunelaw07_AnswerBack; simp -implicitDefEqProofs (disch := first | omega | (simp only [List.length_set, List.length_append, List.length_cons, List.length_nil, List.length_take, List.length_drop, List.length_map]; omega) | simp) [wrap_i64, wrap_u16_id, wrap_u8_id, tdiv_pos, tmod_pos, -getElem?_pos, -getElem?_neg, -List.length_eq_zero_iff, -List.getElem_cons_drop, up, l1, l2]; rfl⟩
    | false =>
      rw [h2] at l2
      by_cases h3 : 600 < b.length
      · unfold rqE anE at *
        exact ⟨_, by unfold s_triunelaw07_AnswerBack; simp -implicitDefEqProofs (disch := first | omega | (simp only [List.length_set, List.length_append, List.length_cons, List.length_nil, List.length_take, List.length_drop, List.length_map]; omega) | simp) [wrap_i64, wrap_u16_id, wrap_u8_id, tdiv_pos, tmod_pos, -getElem?_pos, -getElem?_neg, -List.length_eq_zero_iff, -List.getElem_cons_drop, up, l1, l2, h3]; rfl⟩
      · have oka := ha.ok h1
        have ok := hx.ok h2
        obtain ⟨g1, g2, g3, g4⟩ := large_open h2
        have k1 := cP_up (ansBytes_c n (by omega) a oka x ok .sh .sh .sh .sh .sh)
        have k2 := cP_up (ansRight_c n (by omega) a x ok .sh .sh .sh .sh .sh)
        have k4 := Read_c n (by omega) a oka b hb .sh .sh .sh
        have hrb := read_back a b
        have hrz := read_zero a b
        have hrw := read_words a b
        generalize (ansReadV a b).1 = y at *
        generalize (ansReadV a b).2 = e at *
        have k5 := cP_up (ref01_Same_c n b b .sh .sh (by omega) (by omega))
        rw [decide_eq_true rfl] at k5
        by_cases he : e = 0
        · subst he
          obtain ⟨hv, ht⟩ := hrb rfl
          have hy := ansV_ok hv hrw
          have k6 := cP_up (ansBytes_c n (by omega) a oka y hy .sh .sh .sh .sh .sh)
          have e6 : ansBytV a y = .tup [LV 1 (I .u8) b .sh, I .i64 0] := by
            unfold ansBytV
            rw [if_pos (ansV_open hv).1, if_pos hv, ht]
          rw [e6] at k6
          cases hvx : ansV a x with
          | true =>
            rw [hvx] at k2
            have e1 : ansBytV a x = .tup [LV 1 (I .u8) (ansTextV a x) .sh, I .i64 0] := by
              unfold ansBytV
              rw [if_pos (ansV_open hvx).1, if_pos hvx]
            rw [e1] at k1
            obtain ⟨o1, o2, o3, _⟩ := ansV_open hvx
            have hbx := ansText_bytes a x o1 o2 o3 ok
            have k3 := Read_c n (by omega) a oka (ansTextV a x) hbx .sh .sh .sh
            rw [read_text a x ok hvx] at k3
            have k7 := cP_up (ansSame_c n x x .sh .sh .sh .sh .sh .sh (by omega) (by omega) (by omega) (by omega))
            simp only [decide_true, Bool.and_self] at k7
            obtain ⟨m1, m2⟩ := ansText_len a x hvx
            generalize ansTextV a x = T at *
            have m3 : ¬ 253 < T.length := by omega
            have m4 : ¬ T.length < 2 := by omega
            unfold rqE anE at *
            exact ⟨_, by unfold s_triunelaw07_AnswerBack; simp -implicitDefEqProofs (disch := first | omega | (simp only [List.length_set, List.length_append, List.length_cons, List.length_nil, List.length_take, List.length_drop, List.length_map]; omega) | simp) [wrap_i64, wrap_u16_id, wrap_u8_id, tdiv_pos, tmod_pos, -getElem?_pos, -getElem?_neg, -List.length_eq_zero_iff, -List.getElem_cons_drop, up, l1, l2, h3, k1, k2, k3, k4, k5, k6, k7, m3, m4]; rfl⟩
          | false =>
            rw [hvx] at k2
            have e1 : ∃ c : Int, c ≠ 0 ∧ ansBytV a x = .tup [.list 0 [] .sh, I .i64 c] := by
              unfold ansBytV
              rw [hvx]
              split
              · exact ⟨2, by decide, rfl⟩
              · exact ⟨1, by decide, rfl⟩
            obtain ⟨c, c0, e1⟩ := e1
            rw [e1] at k1
            unfold rqE anE at *
            exact ⟨_, by unfold s_triunelaw07_AnswerBack; simp -implicitDefEqProofs (disch := first | omega | (simp only [List.length_set, List.length_append, List.length_cons, List.length_nil, List.length_take, List.length_drop, List.length_map]; omega) | simp) [wrap_i64, wrap_u16_id, wrap_u8_id, tdiv_pos, tmod_pos, -getElem?_pos, -getElem?_neg, -List.length_eq_zero_iff, -List.getElem_cons_drop, up, l1, l2, h3, k1, k2, k4, k5, k6, c0]; rfl⟩
        · obtain rfl := hrz he
          cases hvx : ansV a x with
          | true =>
            rw [hvx] at k2
            have e1 : ansBytV a x = .tup [LV 1 (I .u8) (ansTextV a x) .sh, I .i64 0] := by
              unfold ansBytV
              rw [if_pos (ansV_open hvx).1, if_pos hvx]
            rw [e1] at k1
            obtain ⟨o1, o2, o3, _⟩ := ansV_open hvx
            have hbx := ansText_bytes a x o1 o2 o3 ok
            have k3 := Read_c n (by omega) a oka (ansTextV a x) hbx .sh .sh .sh
            rw [read_text a x ok hvx] at k3
            have k7 := cP_up (ansSame_c n x x .sh .sh .sh .sh .sh .sh (by omega) (by omega) (by omega) (by omega))
            simp only [decide_true, Bool.and_self] at k7
            obtain ⟨m1, m2⟩ := ansText_len a x hvx
            generalize ansTextV a x = T at *
            have m3 : ¬ 253 < T.length := by omega
            have m4 : ¬ T.length < 2 := by omega
            unfold rqE anE anZ at *
            exact ⟨_, by unfold s_triunelaw07_AnswerBack; simp -implicitDefEqProofs (disch := first | omega | (simp only [List.length_set, List.length_append, List.length_cons, List.length_nil, List.length_take, List.length_drop, List.length_map]; omega) | simp) [wrap_i64, wrap_u16_id, wrap_u8_id, tdiv_pos, tmod_pos, -getElem?_pos, -getElem?_neg, -List.length_eq_zero_iff, -List.getElem_cons_drop, up, l1, l2, h3, k1, k2, k3, k4, k7, m3, m4, he]; rfl⟩
          | false =>
            rw [hvx] at k2
            have e1 : ∃ c : Int, c ≠ 0 ∧ ansBytV a x = .tup [.list 0 [] .sh, I .i64 c] := by
              unfold ansBytV
              rw [hvx]
              split
              · exact ⟨2, by decide, rfl⟩
              · exact ⟨1, by decide, rfl⟩
            obtain ⟨c, c0, e1⟩ := e1
            rw [e1] at k1
            unfold rqE anE anZ at *
            exact ⟨_, by unfold s_triunelaw07_AnswerBack; simp -implicitDefEqProofs (disch := first | omega | (simp only [List.length_set, List.length_append, List.length_cons, List.length_nil, List.length_take, List.length_drop, List.length_map]; omega) | simp) [wrap_i64, wrap_u16_id, wrap_u8_id, tdiv_pos, tmod_pos, -getElem?_pos, -getElem?_neg, -List.length_eq_zero_iff, -List.getElem_cons_drop, up, l1, l2, h3, k1, k2, k4, c0, he]; rfl⟩
theorem AnswerBack_all (e0 e1 e2 : List DV) (h0 : Shp Try.prog 8 26 e0) (h1 : Shp Try.prog 8 47 e1) (h2 : Shp Try.prog 8 27 e2) :
    ∃ H', callG Try.prog ENV2 40000 7 [elOf (isAgT Try.prog 26) e0, elOf (isAgT Try.prog 47) e1, elOf (isAgT Try.prog 27) e2] [] 0 = some (.flat (.bool true), H') := by
  obtain ⟨a, r0, a1⟩ := shp_rq (d := 5) h0
  obtain ⟨x, r1, x1⟩ := shp_an (d := 5) h1
  obtain ⟨b, rfl, _, hb⟩ := shp_ints (k := .u8) Try.underlying27 Try.underlying5 (by kernel_rfl) h2
  obtain ⟨H', h⟩ := AnswerBack_run 39999 (awake07 39998 rfl) (by omega) a a1 x x1 b (fun x hx => wf_u8 (hb x hx))
  have r2 : elOf (isAgT Try.prog 27) [LV 1 (I .u8) b .sh] = LV 1 (I .u8) b .sh := by kernel_rfl
  rw [r0, r1, r2]
  exact ⟨H', (s_triunelaw07_AnswerBack_eq 39999 [] 0 _ _ _).trans h⟩
end Go.Proofs.Ytjkofefcoeejbaa
