/- Frames of a bus that come in; and plain facts of them. -/
import Derived.Test.YtbmjflieedadkaaGRtu
import Derived.Test.YtbmjflieedadkaaShp
namespace Go.Proofs.Ytbmjflieedadkaa
open Go
set_option linter.unusedSimpArgs false
set_option linter.unusedVariables false
theorem bytesOf {l : List Int} (h : ∀ a ∈ l, (Lit.int .u8 a).wf = true) : Bytes l := fun x hx => wf_u8 (h x hx)
theorem shp_fm {d : Nat} {e : List DV} (h : Shp Try.prog (d + 3) 24 e) : ∃ x : Fm, elOf (isAgT Try.prog 24) e = fmE x .sh ∧ (0 ≤ x.u ∧ x.u < 256) ∧ Bytes x.p := by
  have h := shp_struct Try.underlying24 h
  simp only [List.map_cons, List.map_nil, ShpFs] at h
  obtain ⟨a, _, rfl, ha, b, _, rfl, hb, rfl⟩ := h
  obtain ⟨u, rfl, hu⟩ := shp_int (k := .u8) Try.underlying5 ha
  obtain ⟨p, rfl, _, hp⟩ := shp_ints (k := .u8) Try.underlying22 Try.underlying5 (by kernel_rfl) hb
  exact ⟨⟨u, p⟩, by kernel_rfl, wf_u8 hu, bytesOf hp⟩
theorem awake03 : cP 3999 9 false [] = some (Bo true) := by kernel_rfl
theorem bytV_form (x : Fm) (ok : FmOk x) : ∃ (l : List Int) (e : Int), bytV x = .tup [LV 1 (I .u8) l .sh, I .i64 e] ∧ Bytes l ∧ l.length ≤ 1100 := by
  unfold bytV
  split
  · exact ⟨[], 3, rfl, fun x hx => by simp at hx, by simp⟩
  split
  · exact ⟨[], 4, rfl, fun x hx => by simp at hx, by simp⟩
  · exact ⟨_, 0, rfl, putI_bytes ok.all, by rw [putI_length]; simp; omega⟩
theorem rdV_ok (b : List Int) (hb : Bytes b) : FmOk (rdV b).1 := by
  have z : FmOk ⟨0, []⟩ := ⟨by simp, fun x hx => by simp at hx, by simp⟩
  unfold rdV
  split
  · exact z
  split
  · exact z
  split
  · exact z
  · rename_i h1 h2 h3
    cases b with
    | nil => simp at h1
    | cons x b =>
      refine ⟨hb x (by simp), fun y hy => hb y (List.mem_of_mem_take (List.mem_of_mem_drop hy)), ?_⟩
      simp only [List.length_drop, List.length_take]
      omega
theorem rdV_put (x : Fm) (h1 : 1 ≤ x.p.length) (h2 : x.p.length ≤ 253) : rdV (putI (x.u :: x.p)) = (x, 0) := by
  have hl : (putI (x.u :: x.p)).length = x.p.length + 3 := by rw [putI_length]; simp
  unfold rdV
  rw [if_neg (by omega), if_neg (by omega), if_neg (by rw [putI_zero]; simp), hl]
  have e : x.p.length + 3 - 2 = (x.u :: x.p).length := by simp
  have e2 : (putI (x.u :: x.p)).take (x.u :: x.p).length = x.u :: x.p := by unfold putI; simp
  rw [e, e2]
  rfl
theorem rdV_back (b : List Int) (hb : Bytes b) (h : (rdV b).2 = 0) : 1 ≤ (rdV b).1.p.length ∧ (rdV b).1.p.length ≤ 253 ∧ putI ((rdV b).1.u :: (rdV b).1.p) = b := by
  unfold rdV at h ⊢
  by_cases c1 : b.length < 4
  · rw [if_pos c1] at h; cases h
  by_cases c2 : 256 < b.length
  · rw [if_neg c1, if_pos c2] at h; cases h
  by_cases c3 : sumN b ≠ 0
  · rw [if_neg c1, if_neg c2, if_pos c3] at h; cases h
  rw [if_neg c1, if_neg c2, if_neg c3]
  have c3 : sumN b = 0 := Classical.byContradiction c3
  have hp := (putI_take b hb (by omega)).2 c3
  simp only [List.length_drop, List.length_take]
  refine ⟨by omega, by omega, ?_⟩
  have e : b.headD 0 :: (b.take (b.length - 2)).drop 1 = b.take (b.length - 2) := by
    cases b with
    | nil => simp at c1
    | cons x b =>
      have : (x :: b).length - 2 = (b.length - 2) + 1 := by simp at c1 ⊢; omega
      rw [this]
      rfl
  rw [e]
  exact hp
theorem rdV_no (b : List Int) (h : (rdV b).2 ≠ 0) : (rdV b).1 = ⟨0, []⟩ := by
  unfold rdV at h ⊢
  split
  · rfl
  split
  · rfl
  split
  · rfl
  · rename_i h1 h2 h3
    rw [if_neg h1, if_neg h2, if_neg h3] at h
    exact absurd rfl h
end Go.Proofs.Ytbmjflieedadkaa
