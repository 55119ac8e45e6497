/- The law AskSame: it answers true. -/
import Derived.Test.YtjkofefcoeejbaaFLAskSame
import Derived.Test.YtjkofefcoeejbaaGAskL
-- NEEDS: triunelaw06.AskSame
namespace Go.Proofs.Ytjkofefcoeejbaa
open Go
set_option linter.unusedSimpArgs false
set_option linter.unusedVariables false
set_option maxRecDepth 100000
theorem AskSame_run (n : Nat) (up : cP n 12 false [] = some (Bo true)) (hn : 39000 ≤ n) (x y : Rq) (hx : RqTy x) (hy : RqTy y) :
    ∃ H', s_triunelaw06_AskSame n [] 0 (rqE x .sh .sh) (rqE y .sh .sh) = some (Bo true, H') := by
  have l1 := ref06_Large_c n x .sh .sh (by omega)
  have l2 := ref06_Large_c n y .sh .sh (by omega)
  cases h1 : lgV x with
  | true =>
    rw [h1] at l1
    unfold rqE at *
    exact ⟨_, by unfold s_triunelaw06_AskSame; simp -implicitDefEqProofs (disch := first | omega | (simp only [List.length_set, List.length_append, List.length_cons, List.length_nil, List.length_take, List.length_drop, List.length_map]; omega) | simp) [wrap_i64, wrap_u16_id, wrap_u8_id, tdiv_pos, tmod_pos, -getElem?_pos, -getElem?_neg, -List.length_eq_zero_iff, -List.getElem_cons_drop, up, l1]; rfl⟩
  | false =>
    rw [h1] at l1
    cases h2 : lgV y with
    | true =>
      rw [h2] at l2
      unfold rqE at *
      exact ⟨_, by unfold s_triunelaw06_AskSame; simp -implicitDefEqProofs (disch := first | omega | (simp only [List.length_set, List.length_append, List.length_cons, List.length_nil, List.length_take, List.length_drop, List.length_map]; omega) | simp) [wrap_i64, wrap_u16_id, wrap_u8_id, tdiv_pos, tmod_pos, -getElem?_pos, -getElem?_neg, -List.length_eq_zero_iff, -List.getElem_cons_drop, up, l1, l2]; rfl⟩
    | false =>
      rw [h2] at l2
      have okx := hx.ok h1
      have oky := hy.ok h2
      have k1 := ask_Same_c n x y .sh .sh .sh .sh okx oky (by omega)
      have k2 := ask_Same_c n y x .sh .sh .sh .sh oky okx (by omega)
      have k3 := ask_Same_c n x x .sh .sh .sh .sh okx okx (by omega)
      have k4 := ref06_Same_c n x y .sh .sh .sh .sh okx oky (by omega)
      have e : decide (y = x) = decide (x = y) := by
        by_cases h : x = y
        · simp [h]
        · rw [decide_eq_false h, decide_eq_false (fun h' => h h'.symm)]
      rw [e] at k2
      simp only [decide_true] at k3
      generalize decide (x = y) = r at *
      unfold rqE at *
      cases r <;> exact ⟨_, by unfold s_triunelaw06_AskSame; simp -implicitDefEqProofs (disch := first | omega | (simp only [List.length_set, List.length_append, List.length_cons, List.length_nil, List.length_take, List.length_drop, List.length_map]; omega) | simp) [wrap_i64, wrap_u16_id, wrap_u8_id, tdiv_pos, tmod_pos, -getElem?_pos, -getElem?_neg, -List.length_eq_zero_iff, -List.getElem_cons_drop, up, l1, l2, k1, k2, k3, k4]; rfl⟩
theorem AskSame_all (e0 e1 : List DV) (h0 : Shp Try.prog 8 26 e0) (h1 : Shp Try.prog 8 26 e1) :
    ∃ H', callG Try.prog ENV 40000 5 [elOf (isAgT Try.prog 26) e0, elOf (isAgT Try.prog 26) e1] [] 0 = some (.flat (.bool true), H') := by
  obtain ⟨x, r0, x1⟩ := shp_rq (d := 5) h0
  obtain ⟨y, r1, y1⟩ := shp_rq (d := 5) h1
  obtain ⟨H', h⟩ := AskSame_run 39999 awake06 (by omega) x y x1 y1
  rw [r0, r1]
  exact ⟨H', (s_triunelaw06_AskSame_eq 39999 [] 0 _ _).trans h⟩
end Go.Proofs.Ytjkofefcoeejbaa
