/- A word as two bytes. -/
import Derived.Test.YtigfninpflemnabFPut
import Derived.Test.YtigfninpflemnabEv
-- NEEDS: word.Put
namespace Go.Proofs.Ytigfninpflemnab
open Go
set_option linter.unusedSimpArgs false
theorem word_Put_c (n : Nat) (hn : 1 ≤ n) (x : Int) (h0 : 0 ≤ x) (h1 : x < 65536) : cP n 64 false [I .u16 x] = some (.agg [I .u8 (x / 256), I .u8 (x % 256)]) := by
  obtain ⟨n, rfl⟩ : ∃ m, n = m + 1 := ⟨n - 1, by omega⟩
  refine cP_of rfl ((s_word_Put_eq _ _ _ _).trans (by unfold s_word_Put; simp -implicitDefEqProofs (disch := first | omega | (simp only [List.length_set, List.length_append, List.length_cons, List.length_nil, List.length_take, List.length_drop, List.length_map]; omega) | simp) [wrap_i64, wrap_u16_id, wrap_u8_id, tdiv_pos, tmod_pos, -getElem?_pos, -getElem?_neg, -List.length_eq_zero_iff, -List.getElem_cons_drop]; first | exact rfl | exact ⟨rfl, rfl⟩)) ?_
  have : x / 256 % 256 = x / 256 := by omega
  simp [shrI_w8, wrap_u8, this]
end Go.Proofs.Ytigfninpflemnab
