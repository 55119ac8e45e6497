/- The reference of frames: are they the same? -/
import Derived.Test.YtigfninpflemnabFRef04S
import Derived.Test.YtigfninpflemnabEv
import Derived.Test.YtigfninpflemnabGFrame
import Derived.Test.YtigfninpflemnabGSame01
-- NEEDS: triuneref04.Same
namespace Go.Proofs.Ytigfninpflemnab
open Go
set_option linter.unusedSimpArgs false
theorem ref04_Same_c (n : Nat) (a b c d : Int) (p q : List Int) (t1 t2 : Tag) (hp : p.length ≤ 1000000) (hn : p.length + 4 ≤ n) : cP n 67 false [frameV a b p t1, frameV c d q t2] = some (Bo (decide (a = c ∧ b = d ∧ p = q))) := by
  obtain ⟨n, rfl⟩ : ∃ m, n = m + 1 := ⟨n - 1, by omega⟩
  have hE := ref01_Same_c n p q .sh .sh hp (by omega)
  by_cases e1 : a = c
  · by_cases e2 : b = d
    · refine cP_of (args' := [frameV a b p .sh, frameV c d q .sh]) (by simp [argEl_eq, frameV]) ((s_triuneref04_Same_eq _ _ _ _ _).trans (by unfold s_triuneref04_Same frameV; simp -implicitDefEqProofs (disch := first | omega | (simp only [List.length_set, List.length_append, List.length_cons, List.length_nil, List.length_take, List.length_drop, List.length_map]; omega) | simp) [wrap_i64, wrap_u16_id, wrap_u8_id, tdiv_pos, tmod_pos, -getElem?_pos, -getElem?_neg, -List.length_eq_zero_iff, -List.getElem_cons_drop, hE, e1, e2]; first | exact rfl | exact ⟨rfl, rfl⟩)) ?_
      simp [e1, e2]
    · refine cP_of (args' := [frameV a b p .sh, frameV c d q .sh]) (by simp [argEl_eq, frameV]) ((s_triuneref04_Same_eq _ _ _ _ _).trans (by unfold s_triuneref04_Same frameV; simp -implicitDefEqProofs (disch := first | omega | (simp only [List.length_set, List.length_append, List.length_cons, List.length_nil, List.length_take, List.length_drop, List.length_map]; omega) | simp) [wrap_i64, wrap_u16_id, wrap_u8_id, tdiv_pos, tmod_pos, -getElem?_pos, -getElem?_neg, -List.length_eq_zero_iff, -List.getElem_cons_drop, e1, e2]; first | exact rfl | exact ⟨rfl, rfl⟩)) ?_
      simp [e1, e2]
  · refine cP_of (args' := [frameV a b p .sh, frameV c d q .sh]) (by simp [argEl_eq, frameV]) ((s_triuneref04_Same_eq _ _ _ _ _).trans (by unfold s_triuneref04_Same frameV; simp -implicitDefEqProofs (disch := first | omega | (simp only [List.length_set, List.length_append, List.length_cons, List.length_nil, List.length_take, List.length_drop, List.length_map]; omega) | simp) [wrap_i64, wrap_u16_id, wrap_u8_id, tdiv_pos, tmod_pos, -getElem?_pos, -getElem?_neg, -List.length_eq_zero_iff, -List.getElem_cons_drop, e1]; first | exact rfl | exact ⟨rfl, rfl⟩)) ?_
    simp [e1]
end Go.Proofs.Ytigfninpflemnab
