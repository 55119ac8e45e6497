/- Frames handed on: the law's own. -/
import Derived.Test.YtigfninpflemnabFOwn05
import Derived.Test.YtigfninpflemnabGSame05
-- NEEDS: triunelaw05.own
namespace Go.Proofs.Ytigfninpflemnab
open Go
set_option linter.unusedSimpArgs false
set_option linter.unusedVariables false
theorem own05_L (n fl n0 : Nat) (hn0 : fl ≤ n0) (K : Ex → KF) (l : List Fr) (tl : Tag) (hl : l.length ≤ 200000) : ∀ (m i : Nat) (t : Tag) (H : Heap), l.length < m + i → i ≤ l.length → TgOk t 132 3 n0 i H → n0 ≤ H.length →
    ∃ t' H', s_triunelaw05_own_L0 n fl K m (LV 3 frE l tl) (LV 3 frE (l.take i) t) (I .i64 i) H = K (.exit 0) (s_triunelaw05_own_O0 (LV 3 frE l t')) H' ∧ TgOk t' 132 3 n0 l.length H' ∧ n0 ≤ H'.length ∧ (∀ j, j < n0 → H'[j]? = H[j]?) ∧ (WfH H → WfH H') := by
  intro m
  induction m with
  | zero => intro i t H h; omega
  | succ m ih =>
    intro i t H hm hi ht hfl
    unfold s_triunelaw05_own_L0 s_triunelaw05_own_B0
    by_cases h : i < l.length
    · have hb1 := buildL_fr l[i].1 l[i].2.1 l[i].2.2
      have he : (l[i].1, l[i].2.1, l[i].2.2) = l[i] := rfl
      rw [he] at hb1
      obtain ⟨t3, H3, ha, ht3, hl3, hj3, hw3, _⟩ := appG_fr (e := 132) (ag := true) (sz := 3) (by_ := 32) (n0 := n0) (enc := frE) (xs := l.take i) (ys := [l[i]]) (t := t) (t' := .ti) (H := H) (fl := fl) hn0 hfl (by simpa [Nat.min_eq_left hi] using ht) (by simp) rfl (by simp; omega) (by simp; omega)
      have htk : l.take i ++ [l[i]] = l.take (i + 1) := by rw [List.take_succ_eq_append_getElem h]
      rw [htk] at ha ht3
      have hlen : (l.take (i + 1)).length = i + 1 := by simp; omega
      rw [hlen] at ht3
      obtain ⟨t', H', q, q2, q3, q4, q5⟩ := ih (i + 1) t3 H3 (by omega) (by omega) ht3 (by omega)
      have hi2 : ((i + 1 : Nat) : Int) = (i : Int) + 1 := by omega
      rw [hi2] at q
      exact ⟨t', H', by simp -implicitDefEqProofs (disch := first | omega | (simp only [List.length_set, List.length_append, List.length_cons, List.length_nil, List.length_take, List.length_drop, List.length_map]; omega) | simp) [wrap_i64, wrap_u16_id, wrap_u8_id, tdiv_pos, tmod_pos, -getElem?_pos, -getElem?_neg, -List.length_eq_zero_iff, -List.getElem_cons_drop, h, frE_cells, hb1, ha, q], q2, q3, fun j hj => (q4 j hj).trans (hj3 j hj), fun w => q5 (hw3 w)⟩
    · have : i = l.length := by omega
      subst this
      rw [List.take_length]
      exact ⟨t, H, by simp -implicitDefEqProofs (disch := first | omega | (simp only [List.length_set, List.length_append, List.length_cons, List.length_nil, List.length_take, List.length_drop, List.length_map]; omega) | simp) [wrap_i64, wrap_u16_id, wrap_u8_id, tdiv_pos, tmod_pos, -getElem?_pos, -getElem?_neg, -List.length_eq_zero_iff, -List.getElem_cons_drop], ht, hfl, fun _ _ => rfl, id⟩
end Go.Proofs.Ytigfninpflemnab
