/- Opening the arguments of a law: what reads as data reads as a list. -/
import Derived.Test.YtigfninpflemnaaBase
import Derived.SizedLaws
import Derived.ChangeSlices
import Derived.OpenShut
namespace Go.Proofs.Ytigfninpflemnaa
open Go.RowKit Go.ChangeShapes Go.WideShapes

theorem list_three {α : Type} (L : List α) (h : L.length = 3) : ∃ a b c, L = [a, b, c] := by
  match L, h with
  | [a, b, c], _ => exact ⟨a, b, c, rfl⟩
theorem exists_list {α : Type} (Q : Nat → α → Prop) (n : Nat) (h : ∀ i, i < n → ∃ y, Q i y) : ∃ L : List α, L.length = n ∧ ∀ i (hi : i < L.length), Q i L[i] := by
  induction n with
  | zero => exact ⟨[], rfl, fun i hi => by simp at hi⟩
  | succ n ih =>
    obtain ⟨L, rfl, hL⟩ := ih (fun i hi => h i (by omega))
    obtain ⟨y, hy⟩ := h L.length (by omega)
    refine ⟨L ++ [y], by simp, fun i hi => ?_⟩
    by_cases hlt : i < L.length
    · rw [List.getElem_append_left hlt]; exact hL i hlt
    · have : i = L.length := by simp at hi; omega
      subst this
      simpa using hy

section
variable {H : Type} {enc' : TypeId × Value → H} {P : Program} {W : World} {spare : Nat → Bool} {held : Bool} {t e : TypeId}

theorem addr_plain {w : World} {a : Addr} {v : Value} (h : w.cell? a = some v) : a = ⟨a.block, a.off, none⟩ := by
  obtain ⟨b, o, s⟩ := a
  unfold World.cell? at h
  split at h
  · cases s with
    | none => rfl
    | some s => simp at h
  · cases h

/-- a slice of scalars -/
theorem open_scal {α : Type} (enc : α → Value) {v : Value} {d : DataW H} {ps : List MemPlace} (hu : P.underlying t = some (.slice e)) (hc : P.cellsOf e = 1)
    (hdec : ∀ (n : Nat) (cs : List Value) x, DataW.trod enc' P W 0 spare held n e cs = some x → ∃ a : α, cs = [enc a])
    {B : Nat} (hB : P.bytesOf e = B) (hB0 : 0 < B) {a : Option Addr} {len cap : Nat} (hv : v = .slice a len cap)
    (h : DataW.Trod enc' P W 0 spare held t v d ps) (hsz : ∀ es rs, d = .slice es rs → (es.length + rs.length) * P.bytesOf e ≤ reachBytes) :
    ∃ l : List α, RdV enc W v l ∧ l.length * B ≤ 140737488351232 := by
  subst hv
  obtain ⟨fuel, hf⟩ := h
  rcases DataW.trod_slice hu hf with ⟨hcs, _⟩ | ⟨x, l, c, elems, rest, n, _, hcs, hx, _, hl, hm, hlen, hel, _, _⟩
  · simp [Value.cells] at hcs
    obtain ⟨rfl, rfl, rfl⟩ := hcs
    exact ⟨[], RdV.nil enc W, by simp⟩
  · simp [Value.cells] at hcs
    obtain ⟨rfl, rfl, rfl⟩ := hcs
    obtain ⟨rfl, _⟩ := Prod.mk.inj hx
    have hz := hsz _ _ rfl
    rw [hB] at hz
    simp only [List.length_map, reachBytes] at hz
    have hz2 : len * B ≤ 140737488351232 := Nat.le_trans (Nat.mul_le_mul_right _ (by omega)) hz
    have hlen2 : len ≤ 140737488351232 := Nat.le_trans (Nat.le_mul_of_pos_right _ hB0) hz2
    have each : ∀ i, i < len → ∃ y : α, W.cell? (x.add i) = some (enc y) := by
      intro i hi
      have h1 := hel i hi
      rw [hc, Nat.mul_one] at h1
      have h2 : elems[i]? = some elems[i] := List.getElem?_eq_getElem (by omega)
      rw [h2, Option.bind_eq_some_iff] at h1
      obtain ⟨cs, h3, h4⟩ := h1
      obtain ⟨y, rfl⟩ := hdec _ _ _ h4
      exact ⟨y, cell_of_cells?_one h3⟩
    obtain ⟨L, hL, hLc⟩ := exists_list (fun i y => W.cell? (x.add i) = some (enc y)) len each
    subst hL
    refine ⟨L, ⟨some x, _, rfl, hl, by omega, by simp, ?_⟩, hz2⟩
    by_cases h0 : L.length = 0
    · exact .inl h0
    · have hx0 := hLc 0 (by omega)
      have hx1 : x.add 0 = x := by simp [Addr.add]
      rw [hx1] at hx0
      have hp := addr_plain hx0
      refine .inr ⟨x.block, x.off, by rw [← hp], fun j u hu => ?_⟩
      have hj : j < L.length := by
        rcases Nat.lt_or_ge j L.length with h | h
        · exact h
        · simp [List.getElem?_eq_none (by simpa using h : (L.map enc).length ≤ j)] at hu
      have := hLc j hj
      rw [hp, addr_add] at this
      rw [this]
      simpa [hj] using hu
theorem dec_u8 (he : P.underlying e = some (.int .u8)) (n : Nat) (cs : List Value) (x) (h : DataW.trod enc' P W 0 spare held n e cs = some x) : ∃ a : UInt8, cs = [encB a] := by
  obtain ⟨m, rfl, _, hw⟩ := DataW.trod_int he h
  have := bounds_u8 hw
  exact ⟨lowB m, by rw [← encB_low m (by omega) (by omega)]⟩
theorem dec_u16 (he : P.underlying e = some (.int .u16)) (n : Nat) (cs : List Value) (x) (h : DataW.trod enc' P W 0 spare held n e cs = some x) : ∃ a : UInt16, cs = [encW a] := by
  obtain ⟨m, rfl, _, hw⟩ := DataW.trod_int he h
  have := bounds_u16 hw
  exact ⟨lowW m, by rw [← encW_low m (by omega) (by omega)]⟩
/-- an array of integers, by value -/
theorem open_arr_ints {n : Nat} {k : IntKind} (ht : P.underlying t = some (.array n e)) (he : P.underlying e = some (.int k)) (hc : P.cellsOf e = 1) (hn : P.cellsOf t = n) {r : Reach} {B : Nat} {v : Value} {d : DataW H} {ps : List MemPlace}
    (hval : Value.okWide P W r B t v) (h : DataW.Trod enc' P W 0 spare held t v d ps) : ∃ zs : List Int, v = .agg (zs.map (Value.int k)).toArray ∧ zs.length = n ∧ ∀ z ∈ zs, (Lit.int k z).wf = true := by
  have hv : ∃ cs, v = .agg cs ∧ cs.size = P.cellsOf t := by
    unfold Value.okWide at hval
    rw [ht] at hval
    obtain ⟨cs, h1, h2, _⟩ := hval
    exact ⟨cs, h1, h2⟩
  obtain ⟨cs, rfl, hcs⟩ := hv
  rw [hn] at hcs
  obtain ⟨fuel, hf⟩ := h
  obtain ⟨xs, m, _, _, _, hxs, hel⟩ := DataW.trod_array ht hf
  have each : ∀ i, i < n → ∃ z : Int, cs[i]? = some (.int k z) ∧ (Lit.int k z).wf = true := by
    intro i hi
    have h1 := hel i hi
    rw [hc, Nat.mul_one, List.getElem?_eq_getElem (by omega)] at h1
    obtain ⟨z, hz, _, hw⟩ := DataW.trod_int he h1
    refine ⟨z, ?_, hw⟩
    have hi2 : i < cs.toList.length := by simpa [hcs] using hi
    simp only [Value.cells] at hz
    rw [List.drop_eq_getElem_cons hi2] at hz
    simp at hz
    rw [Array.getElem?_eq_getElem (by omega), hz]
  obtain ⟨L, hL, hLc⟩ := exists_list (fun i z => cs[i]? = some (.int k z) ∧ (Lit.int k z).wf = true) n each
  refine ⟨L, ?_, hL, fun z hz => ?_⟩
  · congr 1
    apply Array.ext_getElem?
    intro i
    by_cases hi : i < L.length
    · rw [(hLc i hi).1]; simp [hi]
    · rw [Array.getElem?_eq_none (by omega), List.getElem?_toArray, List.getElem?_eq_none (by simpa using hi)]
  · obtain ⟨i, hi, rfl⟩ := List.getElem_of_mem hz
    exact (hLc i hi).2
theorem dec_bool (he : P.underlying e = some .bool) (n : Nat) (cs : List Value) (x) (h : DataW.trod enc' P W 0 spare held n e cs = some x) : ∃ a : Bool, cs = [encT a] := by
  obtain ⟨m, rfl, _⟩ := DataW.trod_bool he h
  exact ⟨m, rfl⟩
end
end Go.Proofs.Ytigfninpflemnaa
