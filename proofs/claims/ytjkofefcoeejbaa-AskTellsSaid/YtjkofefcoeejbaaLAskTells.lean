/- The law AskTells: it answers true. -/
import Derived.Test.YtjkofefcoeejbaaFLAskTells
import Derived.Test.YtjkofefcoeejbaaKA7
-- NEEDS: triunelaw06.AskTells
namespace Go.Proofs.Ytjkofefcoeejbaa
open Go
set_option linter.unusedSimpArgs false
set_option linter.unusedVariables false
set_option maxRecDepth 100000
theorem AskTells_run (n : Nat) (up : cP n 12 false [] = some (Bo true)) (hn : 39000 ≤ n) (x : Rq) (hx : RqTy x) (b : List Int) (hb : Bytes b) (code : Int) :
    ∃ H', s_triunelaw06_AskTells n [] 0 (rqE x .sh .sh) (LV 1 (I .u8) b .sh) (I .i64 code) = some (Bo true, H') := by
  have l1 := ref06_Large_c n x .sh .sh (by omega)
  cases h1 : lgV x with
  | true =>
    rw [h1] at l1
    unfold rqE at *
    exact ⟨_, by unfold s_triunelaw06_AskTells; simp -implicitDefEqProofs (disch := first | omega | (simp only [List.length_set, List.length_append, List.length_cons, List.length_nil, List.length_take, List.length_drop, List.length_map]; omega) | simp) [wrap_i64, wrap_u16_id, wrap_u8_id, tdiv_pos, tmod_pos, -getElem?_pos, -getElem?_neg, -List.length_eq_zero_iff, -List.getElem_cons_drop, up, l1]; rfl⟩
  | false =>
    rw [h1] at l1
    by_cases h2 : 600 < b.length
    · unfold rqE at *
      exact ⟨_, by unfold s_triunelaw06_AskTells; simp -implicitDefEqProofs (disch := first | omega | (simp only [List.length_set, List.length_append, List.length_cons, List.length_nil, List.length_take, List.length_drop, List.length_map]; omega) | simp) [wrap_i64, wrap_u16_id, wrap_u8_id, tdiv_pos, tmod_pos, -getElem?_pos, -getElem?_neg, -List.length_eq_zero_iff, -List.getElem_cons_drop, up, l1, h2]; rfl⟩
    · have okx := hx.ok h1
      have k1 := Bytes_c n (by omega) x okx .sh .sh
      have k2 := ref06_Bytes_c n (by omega) x okx .sh .sh
      have k3 := Parse_c n (by omega) b hb (by omega) .sh
      have k4 := ref06_Parse_c n (by omega) b hb (by omega) .sh
      rw [parse_same b hb (by omega)] at k4
      have ok := parse_ok b hb (by omega)
      have k6 := ref06_Same_c n (parseV b).1 (parseV b).1 .sh .sh .sh .sh ok ok (by omega)
      simp only [decide_true] at k6
      have k7 := Right_c n (by omega) x .sh .sh
      have k8 := ref06_Right_c n (by omega) x .sh .sh
      have k9 := Writes_c n (by omega) code
      have k10 := ref06_Writes_c n (by omega) code
      have hl := text_len x okx
      have k5 := ref01_Same_c n (textV x) (textV x) .sh .sh (by omega) (by omega)
      have k5' := ref01_Same_c n [] [] .sh .sh (by simp) (by simp; omega)
      simp only [decide_true] at k5 k5'
      generalize (parseV b).1 = y at *
      generalize (parseV b).2 = e at *
      generalize writesV code = w at *
      by_cases hr : RightP x
      · rw [if_pos hr] at k1 k2
        rw [decide_eq_true hr] at k7 k8
        unfold rqE at *
        cases w <;> exact ⟨_, by unfold s_triunelaw06_AskTells; simp -implicitDefEqProofs (disch := first | omega | (simp only [List.length_set, List.length_append, List.length_cons, List.length_nil, List.length_take, List.length_drop, List.length_map]; omega) | simp) [wrap_i64, wrap_u16_id, wrap_u8_id, tdiv_pos, tmod_pos, -getElem?_pos, -getElem?_neg, -List.length_eq_zero_iff, -List.getElem_cons_drop, up, l1, h2, k1, k2, k3, k4, k5, k6, k7, k8, k9, k10]; rfl⟩
      · rw [if_neg hr] at k1 k2
        rw [decide_eq_false hr] at k7 k8
        unfold rqE at *
        cases w <;> exact ⟨_, by unfold s_triunelaw06_AskTells; simp -implicitDefEqProofs (disch := first | omega | (simp only [List.length_set, List.length_append, List.length_cons, List.length_nil, List.length_take, List.length_drop, List.length_map]; omega) | simp) [wrap_i64, wrap_u16_id, wrap_u8_id, tdiv_pos, tmod_pos, -getElem?_pos, -getElem?_neg, -List.length_eq_zero_iff, -List.getElem_cons_drop, up, l1, h2, k1, k2, k3, k4, k5', k6, k7, k8, k9, k10]; rfl⟩
theorem AskTells_all (e0 e1 e2 : List DV) (h0 : Shp Try.prog 8 26 e0) (h1 : Shp Try.prog 8 27 e1) (h2 : Shp Try.prog 8 3 e2) :
    ∃ H', callG Try.prog ENV 40000 3 [elOf (isAgT Try.prog 26) e0, elOf (isAgT Try.prog 27) e1, elOf (isAgT Try.prog 3) e2] [] 0 = some (.flat (.bool true), H') := by
  obtain ⟨x, r0, x1⟩ := shp_rq (d := 5) h0
  obtain ⟨b, rfl, _, hb⟩ := shp_ints (k := .u8) Try.underlying27 Try.underlying5 (by kernel_rfl) h1
  obtain ⟨c, rfl, _⟩ := shp_int (k := .i64) Try.underlying3 h2
  obtain ⟨H', h⟩ := AskTells_run 39999 awake06 (by omega) x x1 b (fun x hx => wf_u8 (hb x hx)) c
  have r1 : elOf (isAgT Try.prog 27) [LV 1 (I .u8) b .sh] = LV 1 (I .u8) b .sh := by kernel_rfl
  have r2 : elOf (isAgT Try.prog 3) [I .i64 c] = I .i64 c := by kernel_rfl
  rw [r0, r1, r2]
  exact ⟨H', (s_triunelaw06_AskTells_eq 39999 [] 0 _ _ _).trans h⟩
end Go.Proofs.Ytjkofefcoeejbaa
