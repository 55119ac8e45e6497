/- Points, as they are told. -/
import Derived.Test.YtigfninpflemnabHp
namespace Go.Proofs.Ytigfninpflemnab
open Go
set_option linter.unusedSimpArgs false
set_option linter.unusedVariables false
structure Pt where
  kind : Int
  addr : Int
  at_ : Int
  band : Int
  safe : Int
  deriving DecidableEq
def ptE (p : Pt) : DV := .agg [I .i64 p.kind, I .i64 p.addr, I .i64 p.at_, I .i64 p.band, I .i64 p.safe]
theorem ptE_cells (p : Pt) : (ptE p).cells = [I .i64 p.kind, I .i64 p.addr, I .i64 p.at_, I .i64 p.band, I .i64 p.safe] := rfl
/-- the first place, from i on, at which something is so; -1: there is none -/
def findI (q : Pt → Bool) : List Pt → Int → Int
  | [], _ => -1
  | p :: l, i => if q p = true then i else findI q l (i + 1)
theorem findI_range (q : Pt → Bool) : ∀ (l : List Pt) (i : Int), 0 ≤ i → findI q l i = -1 ∨ (i ≤ findI q l i ∧ findI q l i < i + l.length)
  | [], i, h => .inl rfl
  | p :: l, i, h => by
    unfold findI
    split
    · exact .inr ⟨Int.le_refl _, by simp; omega⟩
    · rcases findI_range q l (i + 1) (by omega) with h2 | ⟨h2, h3⟩
      · exact .inl h2
      · exact .inr ⟨by omega, by simp only [List.length_cons]; omega⟩
def isPt (kind at_ : Int) (p : Pt) : Bool := decide (p.kind = kind ∧ p.at_ = at_)
def findP (l : List Pt) (kind at_ : Int) : Int := findI (isPt kind at_) l 0
theorem findP_range (l : List Pt) (kind at_ : Int) : findP l kind at_ = -1 ∨ (0 ≤ findP l kind at_ ∧ findP l kind at_ < l.length) := by
  rcases findI_range (isPt kind at_) l 0 (by omega) with h | ⟨h, h2⟩
  · exact .inl h
  · exact .inr ⟨h, by unfold findP; omega⟩
theorem findI_none (q : Pt → Bool) : ∀ (l : List Pt) (i : Int), (∀ p ∈ l, q p = false) → findI q l i = -1
  | [], _, _ => rfl
  | p :: l, i, h => by unfold findI; rw [if_neg (by rw [h p (by simp)]; decide)]; exact findI_none q l (i + 1) (fun p hp => h p (by simp [hp]))
theorem findP_none (l : List Pt) (kind at_ : Int) (h : ∀ p ∈ l, p.at_ ≠ at_) : findP l kind at_ = -1 :=
  findI_none _ l 0 fun p hp => by unfold isPt; exact decide_eq_false fun hh => h p hp hh.2
/-- what is found is so -/
theorem findI_get (q : Pt → Bool) : ∀ (l : List Pt) (i : Int) (k : Nat), 0 ≤ i → findI q l i = i + k → ∃ h : k < l.length, q l[k] = true
  | [], i, k, h0, h => by unfold findI at h; omega
  | p :: l, i, k, h0, h => by
    unfold findI at h
    split at h
    · rename_i hq
      have : k = 0 := by omega
      subst this
      exact ⟨by simp, hq⟩
    · rename_i hq
      cases k with
      | zero => rcases findI_range q l (i + 1) (by omega) with h2 | ⟨h2, _⟩ <;> omega
      | succ k =>
        obtain ⟨h1, h2⟩ := findI_get q l (i + 1) k (by omega) (by omega)
        exact ⟨by simpa using h1, by simpa using h2⟩
theorem findI_first (q : Pt → Bool) : ∀ (l : List Pt) (i : Int) (k : Nat) (h : k < l.length), q l[k] = true → (∀ j (hj : j < k), q l[j] = false) → findI q l i = i + k
  | [], i, k, h, _, _ => by simp at h
  | p :: l, i, 0, h, h1, _ => by unfold findI; rw [if_pos (by simpa using h1)]; simp
  | p :: l, i, k + 1, h, h1, h2 => by
    unfold findI
    rw [if_neg (by have := h2 0 (by omega); simp at this; rw [this]; decide), findI_first q l (i + 1) k (by simpa using h) (by simpa using h1) (fun j hj => by have := h2 (j + 1) (by omega); simpa using this)]
    omega
end Go.Proofs.Ytigfninpflemnab
