/- The law VoteBetween, with the median's contract as a premise. -/
import Derived.Test.YtjkofefcoeejbaaFLVoteBetween
import Derived.Test.YtjkofefcoeejbaaKV5
-- NEEDS: triunelaw12.VoteBetween
namespace Go.Proofs.Ytjkofefcoeejbaa
open Go
set_option linter.unusedSimpArgs false
set_option linter.unusedVariables false
set_option maxRecDepth 100000
theorem buildL_w3 (a b c : Int) : buildL false 1 3 (I .u16 0) [(0, I .u16 a), (1, I .u16 b), (2, I .u16 c)] = some (LV 1 (I .u16) [a, b, c] .ti) := by kernel_rfl
theorem buildL_v22 (a b : Int) : buildL false 1 2 (I .u16 0) [(0, I .u16 a), (1, I .u16 b)] = some (LV 1 (I .u16) [a, b] .ti) := rfl
theorem maj_two (a c : Int) (h : 0 ≤ a) (hc : 0 ≤ c) : majV [a % 2, a % 2, c % 2] = (a % 2, true) := by
  have hs : sumI [a % 2, a % 2, c % 2] = a % 2 + (a % 2 + (c % 2 + 0)) := rfl
  have hl : ([a % 2, a % 2, c % 2].length : Int) = 3 := rfl
  unfold majV
  rw [hs, hl, if_neg]
  · rcases (by omega : a % 2 = 0 ∨ a % 2 = 1) with e | e
    · rw [e, if_neg (by omega)]
    · rw [e, if_pos (by omega)]
  · rintro (k | ⟨x, hx, k⟩ | k)
    · simp at k
    · simp at hx; omega
    · omega
theorem VoteBetween_run (n : Nat) (up : cP n 35 false [] = some (Bo true)) (hM : MedC) (hn : 2000 ≤ n) (a b c : Int) (ha : 0 ≤ a ∧ a < 65536) (hb : 0 ≤ b ∧ b < 65536) (hc : 0 ≤ c ∧ c < 65536) :
    ∃ H', s_triunelaw12_VoteBetween n [] 0 (.agg [I .u16 a, I .u16 b, I .u16 c]) = some (Bo true, H') := by
  have w3 : Words [a, b, c] := by intro x hx; simp at hx; omega
  have w2 : Words [a, b] := by intro x hx; simp at hx; omega
  have wm : Words [a % 2, a % 2, c % 2] := by intro x hx; simp at hx; omega
  have k1 := hM n [a, b, c] .ti (by omega) w3 (by simp)
  have k2 := hM n [a, b] .ti (by omega) w2 (by simp)
  have k3 := Majority_c n [a % 2, a % 2, c % 2] wm .ti (by simp) (by omega)
  rw [maj_two a c ha.1 hc.1] at k3
  have m3 : medV [a, b, c] = (max (min a b) (min (max a b) c), true) := rfl
  have m2 : medV [a, b] = ((a + b) / 2, true) := rfl
  rw [m3] at k1
  rw [m2] at k2
  simp only at k1 k2 k3
  have v1 := buildL_w3 a b c
  have v2 := buildL_v22 a b
  have v3 := buildL_w3 (a % 2) (a % 2) (c % 2)
  have q1 : min a b ≤ max (min a b) (min (max a b) c) := by omega
  have q2 : max (min a b) (min (max a b) c) ≤ max a b := by omega
  have q3 : min a b ≤ (a + b) / 2 := by omega
  have q4 : (a + b) / 2 ≤ max a b := by omega
  generalize max (min a b) (min (max a b) c) = x at *
  generalize (a + b) / 2 = y at *
  exact ⟨_, by unfold s_triunelaw12_VoteBetween; simp -implicitDefEqProofs (disch := first | omega | (simp only [List.length_set, List.length_append, List.length_cons, List.length_nil, List.length_take, List.length_drop, List.length_map]; omega) | simp) [wrap_i64, wrap_u16_id, wrap_u8_id, tdiv_pos, tmod_pos, -getElem?_pos, -getElem?_neg, -List.length_eq_zero_iff, -List.getElem_cons_drop, up, k1, k2, k3, v1, v2, v3, q1, q2, q3, q4]; first | rfl | exact ⟨rfl, rfl⟩⟩
theorem VoteBetween_all (e0 : List DV) (h0 : Shp Try.prog 8 74 e0) :
    ∃ H', callG Try.prog ENV 4000 11 [elOf (isAgT Try.prog 74) e0] [] 0 = some (.flat (.bool true), H') := by
  obtain ⟨a, b, c, r0, ha, hb, hc⟩ := vshp_w3 h0
  obtain ⟨H', h⟩ := VoteBetween_run 3999 awake12 medC (by omega) a b c ha hb hc
  rw [r0]
  exact ⟨H', (s_triunelaw12_VoteBetween_eq 3999 [] 0 _).trans h⟩
end Go.Proofs.Ytjkofefcoeejbaa
