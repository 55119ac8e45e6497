/- scan: New; the document's scan; awake. -/
import Derived.Test.YtbhnkdnfmlnajaaScanC
import Derived.Deep.RegionHeld3
import Derived.Deep.QuietTactic
import Derived.BigQuiet
namespace Go.Proofs.Ytbhnkdnfmlnajaa
open Go Go.RowKit Go.Maps
set_option linter.unusedSimpArgs false
set_option linter.unusedVariables false
def op (g p : Int) : Option Int := if p < g then some p else none
theorem op_some {g p v : Int} (h : op g p = some v) : p = v ∧ p < g := by
  unfold op at h
  split at h
  · cases h; exact ⟨rfl, by assumption⟩
  · cases h
theorem op_none {g p : Int} (h : op g p = none) : ¬ p < g := by
  unfold op at h
  split at h
  · cases h
  · assumption
set_option maxRecDepth 20000 in
theorem New_w (w : World) (g : Int) (hg : 1 ≤ g ∧ g ≤ 48) :
    Calls Try.prog 12 #[.int .i64 g] w fun e w' => ∃ s m, e = .returned (.tuple #[.pointer (some ⟨s, 0, none⟩), .int .i64 0]) ∧ Sc w' s m g 1 (some 0) (some 0) (some 0) ∧ w.heap.size ≤ s ∧ w.heap.size ≤ m ∧ s < w'.heap.size ∧ Below w.heap.size w w' := by
  have h1 : ¬ g < 1 := by omega
  have h2 : ¬ 48 < g := by omega
  go_enter Try.func12, Try.ntmps12
  go_wp2_with fail
  refine (begin_w _ w.heap.size g 0 none (BX.made rfl) (by omega)).mono ?_
  rintro e w1 ⟨rfl, m, hS, hm, hG⟩
  have hB : Below w.heap.size w w1 := belowG (belowA (Below.refl _ w) _) hG (by rintro k hk; obtain rfl := Option.some.inj hk; exact Nat.le_refl _)
  have hS := Lib.hid hS
  have hB := Lib.hid hB
  clear hG
  go_wp2
  go_ret2
  exact ⟨w.heap.size, m, rfl, hS.out, Nat.le_refl _, by simp at hm; omega, hS.out.1.lt, hB.out⟩
theorem New_no (w : World) (g : Int) (hg : g < 1 ∨ 48 < g) :
    Calls Try.prog 12 #[.int .i64 g] w fun e w' => e = .returned (.tuple #[.pointer none, .int .i64 1]) ∧ w' = w := by
  by_cases h1 : g < 1
  · go_enter Try.func12, Try.ntmps12
    go_wp2
    go_ret2
    exact ⟨rfl, rfl⟩
  · have h2 : 48 < g := by omega
    clear hg
    go_enter Try.func12, Try.ntmps12
    go_wp2
    go_ret2
    exact ⟨rfl, rfl⟩
theorem rNew_w (w : World) (g : Int) (hg : 1 ≤ g ∧ g ≤ 48) :
    Calls Try.prog 13 #[.int .i64 g] w fun e w' => e = .returned (.tuple #[.pointer (some ⟨w.heap.size, 0, none⟩), .int .i64 0]) ∧ BX w' w.heap.size 38 #[.int .i64 g, .int .i64 1, .int .i64 0, .int .i64 0, .int .i64 0] ∧ Below w.heap.size w w' := by
  have h1 : ¬ g < 1 := by omega
  have h2 : ¬ 48 < g := by omega
  go_enter Try.func13, Try.ntmps13
  go_wp2
  go_ret2
  exact ⟨rfl, BX.made rfl, belowA (Below.refl _ w) _⟩
theorem rNew_no (w : World) (g : Int) (hg : g < 1 ∨ 48 < g) :
    Calls Try.prog 13 #[.int .i64 g] w fun e w' => e = .returned (.tuple #[.pointer none, .int .i64 1]) ∧ w' = w := by
  by_cases h1 : g < 1
  · go_enter Try.func13, Try.ntmps13
    go_wp2
    go_ret2
    exact ⟨rfl, rfl⟩
  · have h2 : 48 < g := by omega
    clear hg
    go_enter Try.func13, Try.ntmps13
    go_wp2
    go_ret2
    exact ⟨rfl, rfl⟩
theorem rNext_w (w : World) (t : Nat) (g n p0 p1 p2 : Int) (h : BX w t 38 #[.int .i64 g, .int .i64 n, .int .i64 p0, .int .i64 p1, .int .i64 p2]) (c : Int) :
    Calls Try.prog 19 #[.pointer (some ⟨t, 0, none⟩), .int .i64 c] w fun e w' => e = .returned (.tuple #[.int .i64 ((lk (op g p0) (op g p1) (op g p2) c).getD 0), .bool (lk (op g p0) (op g p1) (op g p2) c).isSome]) ∧ Below w.heap.size w w' := by
  have c0 := h.cell 0 rfl
  have c2 := h.cell 2 rfl
  have c3 := h.cell 3 rfl
  have c4 := h.cell 4 rfl
  clear h
  obtain ⟨q, hq⟩ : ∃ q, Hid (q = lk (op g p0) (op g p1) (op g p2) c) := ⟨_, Lib.hid rfl⟩
  rw [← hq.out]
  by_cases h1 : c < 0
  · have : q = none := by rw [hq.out]; unfold lk; rw [if_neg (by omega), if_neg (by omega), if_neg (by omega)]
    clear hq
    subst this
    have b1 : decide (c < 0) = true := by simpa using h1
    go_enter Try.func19, Try.ntmps19
    go_wp2
    go_quiet (fail)
    go_wp2
    go_ret2
    exact ⟨rfl, ⟨rfl, rfl, rfl, Nat.le_refl _, fun _ _ => rfl⟩⟩
  by_cases h2 : 2 < c
  · have : q = none := by rw [hq.out]; unfold lk; rw [if_neg (by omega), if_neg (by omega), if_neg (by omega)]
    clear hq
    subst this
    have b1 : decide (c < 0) = false := by simpa using h1
    have b2 : decide (2 < c) = true := by simpa using h2
    go_enter Try.func19, Try.ntmps19
    go_wp2
    go_quiet (fail)
    go_wp2
    go_ret2
    exact ⟨rfl, ⟨rfl, rfl, rfl, Nat.le_refl _, fun _ _ => rfl⟩⟩
  have h3 : c = 0 ∨ c = 1 ∨ c = 2 := by omega
  rcases h3 with rfl | rfl | rfl
  · by_cases h : p0 < g
    · have : q = some p0 := by rw [hq.out]; exact if_pos h
      clear hq
      subst this
      have h' : decide (g ≤ p0) = false := by simp; omega
      go_enter Try.func19, Try.ntmps19
      go_wp2
      go_quiet (fail)
      go_wp2
      go_ret2
      exact ⟨rfl, ⟨rfl, rfl, rfl, Nat.le_refl _, fun _ _ => rfl⟩⟩
    · have : q = none := by rw [hq.out]; exact if_neg h
      clear hq
      subst this
      have h' : decide (g ≤ p0) = true := by simp; omega
      go_enter Try.func19, Try.ntmps19
      go_wp2
      go_quiet (fail)
      go_wp2
      go_ret2
      exact ⟨rfl, ⟨rfl, rfl, rfl, Nat.le_refl _, fun _ _ => rfl⟩⟩
  · by_cases h : p1 < g
    · have : q = some p1 := by rw [hq.out]; exact if_pos h
      clear hq
      subst this
      have h' : decide (g ≤ p1) = false := by simp; omega
      go_enter Try.func19, Try.ntmps19
      go_wp2
      go_quiet (fail)
      go_wp2
      go_ret2
      exact ⟨rfl, ⟨rfl, rfl, rfl, Nat.le_refl _, fun _ _ => rfl⟩⟩
    · have : q = none := by rw [hq.out]; exact if_neg h
      clear hq
      subst this
      have h' : decide (g ≤ p1) = true := by simp; omega
      go_enter Try.func19, Try.ntmps19
      go_wp2
      go_quiet (fail)
      go_wp2
      go_ret2
      exact ⟨rfl, ⟨rfl, rfl, rfl, Nat.le_refl _, fun _ _ => rfl⟩⟩
  · by_cases h : p2 < g
    · have : q = some p2 := by rw [hq.out]; exact if_pos h
      clear hq
      subst this
      have h' : decide (g ≤ p2) = false := by simp; omega
      go_enter Try.func19, Try.ntmps19
      go_wp2
      go_quiet (fail)
      go_wp2
      go_ret2
      exact ⟨rfl, ⟨rfl, rfl, rfl, Nat.le_refl _, fun _ _ => rfl⟩⟩
    · have : q = none := by rw [hq.out]; exact if_neg h
      clear hq
      subst this
      have h' : decide (g ≤ p2) = true := by simp; omega
      go_enter Try.func19, Try.ntmps19
      go_wp2
      go_quiet (fail)
      go_wp2
      go_ret2
      exact ⟨rfl, ⟨rfl, rfl, rfl, Nat.le_refl _, fun _ _ => rfl⟩⟩
end Go.Proofs.Ytbhnkdnfmlnajaa
