/- Lists of scalars, as the old contracts read them. -/
import Derived.Test.YtbhnkdnfmlnajaaPrimB
import Derived.Test.YtbhnkdnfmlnajaaBase
namespace Go.Proofs.Ytbhnkdnfmlnajaa
open Go Go.RowKit
set_option linter.unusedSimpArgs false
set_option linter.unusedVariables false
theorem mapO_length {α β : Type} {f : α → Option β} : ∀ {l : List α} {r : List β}, mapO f l = some r → r.length = l.length
  | [], r, h => by cases h; rfl
  | x :: l, r, h => by
    unfold mapO at h
    split at h
    · split at h
      · rename_i h2
        cases h
        rw [List.length_cons, List.length_cons, mapO_length h2]
      · cases h
    · cases h
theorem mapO_cons' {α β : Type} {f : α → Option β} {x : α} {l : List α} {r : List β} (h : mapO f (x :: l) = some r) : ∃ y s, f x = some y ∧ mapO f l = some s ∧ r = y :: s := by
  unfold mapO at h
  split at h
  · rename_i y h1
    split at h
    · rename_i s h2
      cases h
      exact ⟨y, s, h1, h2, rfl⟩
    · cases h
  · cases h
theorem repE_cells {α : Type} {d : DV → Option α} {enc : α → Value} (hd : ∀ x a, d x = some a → x = .flat (enc a)) (h1 : ∀ a, (enc a).cells = #[enc a]) {I : Nat → Nat → Prop} {w : World} {sz b : Nat} : ∀ (xs : List DV) (l : List α) (o : Nat), mapO d xs = some l → RepE I w sz xs b o → (xs ≠ [] → sz = 1) ∧ ∀ j (h : j < l.length), w.cell? ⟨b, o + j, none⟩ = some (enc l[j])
  | [], l, o, hm, _ => by cases hm; exact ⟨fun h => absurd rfl h, fun j h => by simp at h⟩
  | x :: xs, l, o, hm, hE => by
    obtain ⟨a, l, ha, hl, rfl⟩ := mapO_cons' hm
    rw [hd _ _ ha] at hE
    simp only [RepE, Rep] at hE
    obtain ⟨⟨_, V, rfl, hs, hc⟩, hE⟩ := hE
    rw [h1] at hs hc
    simp at hs
    subst hs
    obtain ⟨_, ih⟩ := repE_cells hd h1 xs l (o + 1) hl hE
    refine ⟨fun _ => rfl, fun j hj => ?_⟩
    cases j with
    | zero => exact (hc 0 (enc a) (by simp)).1
    | succ j =>
      have := ih j (by simpa using hj)
      rw [show o + (j + 1) = o + 1 + j by omega]
      exact this
/-- a list of scalars, as the old contracts read it -/
theorem list_rd {α : Type} {d : DV → Option α} {enc : α → Value} (hd : ∀ x a, d x = some a → x = .flat (enc a)) (h1 : ∀ a, (enc a).cells = #[enc a]) {I : Nat → Nat → Prop} {w : World} {G : Gh} {sz : Nat} {xs : List DV} {t : Tag} {V : Value} {l : List α} (h : Rep I w G (.list sz xs t) V) (hl : mapO d xs = some l) : RdV enc w V l := by
  simp only [Rep] at h
  obtain ⟨A, c, rfl, h2, h3, h4, _⟩ := h
  have hlen := mapO_length hl
  refine ⟨A, c, by rw [hlen], by omega, by omega, by simp, ?_⟩
  rcases h4 with rfl | ⟨b, o, rfl, hE⟩
  · exact .inl (by simpa using hlen)
  · obtain ⟨_, hc⟩ := repE_cells hd h1 xs l o hl hE
    refine .inr ⟨b, o, rfl, fun j u hu => ?_⟩
    rw [List.getElem?_map] at hu
    obtain ⟨a, ha, rfl⟩ := Option.map_eq_some_iff.1 hu
    obtain ⟨hj, rfl⟩ := List.getElem?_eq_some_iff.1 ha
    exact hc j hj
end Go.Proofs.Ytbhnkdnfmlnajaa
