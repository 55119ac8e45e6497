/- Shapes of arguments, word by word; and the way from a run of the front evaluator to a law's row. -/
import Derived.Test.YtbhnkdnfmlnajaaOp
import Derived.Test.YtbhnkdnfmlnajaaEv
import Derived.Test.YtbhnkdnfmlnajaaPrimS
namespace Go.Proofs.Ytbhnkdnfmlnajaa
open Go Go.RowKit

theorem wf_u8 {n : Int} (h : (Lit.int .u8 n).wf = true) : 0 ≤ n ∧ n < 256 := by
  simp [Lit.wf, IntKind.min, IntKind.max, IntKind.signed, IntKind.bits] at h; omega
theorem wf_u16 {n : Int} (h : (Lit.int .u16 n).wf = true) : 0 ≤ n ∧ n < 65536 := by
  simp [Lit.wf, IntKind.min, IntKind.max, IntKind.signed, IntKind.bits] at h; omega
theorem wf_i64 {n : Int} (h : (Lit.int .i64 n).wf = true) : -9223372036854775808 ≤ n ∧ n < 9223372036854775808 := by
  simp [Lit.wf, IntKind.min, IntKind.max, IntKind.signed, IntKind.bits] at h; omega
section
variable {P : Program} {d : Nat} {t e : TypeId} {ds : List DV}
theorem shp_int {k : IntKind} (hu : P.underlying t = some (.int k)) (h : Shp P (d + 1) t ds) : ∃ n, ds = [.flat (.int k n)] ∧ (Lit.int k n).wf = true := by
  unfold Shp at h; rw [hu] at h; exact h
theorem shp_bool (hu : P.underlying t = some .bool) (h : Shp P (d + 1) t ds) : ∃ b, ds = [.flat (.bool b)] := by
  unfold Shp at h; rw [hu] at h; exact h
theorem shp_string (hu : P.underlying t = some .string) (h : Shp P (d + 1) t ds) : ∃ s : ByteArray, ds = [.flat (.string s)] ∧ s.size ≤ reachBytes := by
  unfold Shp at h; rw [hu] at h; exact h
theorem shp_struct {fs : Array Field} (hu : P.underlying t = some (.struct fs)) (h : Shp P (d + 1) t ds) : ShpFs (Shp P d) (fs.toList.map (·.type)) ds := by
  unfold Shp at h; rw [hu] at h; exact h
theorem pick_list {α β : Type} (f : α → β → Prop) (l : List α) (h : ∀ x ∈ l, ∃ a, f x a) : ∃ L : List β, L.length = l.length ∧ ∀ i (h1 : i < l.length) (h2 : i < L.length), f l[i] L[i] := by
  induction l with
  | nil => exact ⟨[], rfl, fun i h => by simp at h⟩
  | cons x l ih =>
    obtain ⟨a, ha⟩ := h x (by simp)
    obtain ⟨L, h1, h2⟩ := ih (fun x hx => h x (by simp [hx]))
    refine ⟨a :: L, by simp [h1], fun i hi hi2 => ?_⟩
    cases i with
    | zero => exact ha
    | succ i => exact h2 i (by simpa using hi) (by simpa using hi2)
theorem shp_slice {α : Type} (enc : α → DV) (Q : α → Prop) {sz : Nat} (hu : P.underlying t = some (.slice e)) (hsz : P.cellsOf e = sz) (hel : ∀ x, Shp P d e x → ∃ a, elOf (isAgT P e) x = enc a ∧ Q a) (h : Shp P (d + 1) t ds) :
    ∃ l : List α, ds = [LV sz enc l .sh] ∧ l.length * P.bytesOf e ≤ reachBytes ∧ ∀ a ∈ l, Q a := by
  unfold Shp at h; rw [hu] at h
  obtain ⟨l, h1, h2, h3⟩ := h
  obtain ⟨L, hL, hLc⟩ := pick_list (fun (x : List DV) (a : α) => elOf (isAgT P e) x = enc a ∧ Q a) l (fun x hx => hel x (h3 x hx))
  refine ⟨L, ?_, by rw [hL]; exact h2, fun a ha => ?_⟩
  · rw [h1, hsz]
    congr 2
    refine List.ext_getElem (by simp [hL]) fun i h4 h5 => ?_
    simp only [List.getElem_map]
    exact (hLc i (by simpa using h4) (by simpa using h5)).1
  · obtain ⟨i, hi, rfl⟩ := List.mem_iff_getElem.mp ha
    exact (hLc i (by omega) hi).2
theorem shp_array {α : Type} (enc : α → List DV) (Q : α → Prop) {n : Nat} (hu : P.underlying t = some (.array n e)) (hel : ∀ x, Shp P d e x → ∃ a, x = enc a ∧ Q a) (h : Shp P (d + 1) t ds) :
    ∃ l : List α, l.length = n ∧ ds = (l.map enc).flatten ∧ ∀ a ∈ l, Q a := by
  unfold Shp at h; rw [hu] at h
  obtain ⟨l, h1, h2, h3⟩ := h
  obtain ⟨L, hL, hLc⟩ := pick_list (fun (x : List DV) (a : α) => x = enc a ∧ Q a) l (fun x hx => hel x (h3 x hx))
  refine ⟨L, by omega, ?_, fun a ha => ?_⟩
  · rw [h2]
    congr 1
    refine List.ext_getElem (by simp [hL]) fun i h4 h5 => ?_
    simp only [List.getElem_map]
    exact (hLc i (by simpa using h4) (by simpa using h5)).1
  · obtain ⟨i, hi, rfl⟩ := List.mem_iff_getElem.mp ha
    exact (hLc i (by omega) hi).2
theorem shp_ints {k : IntKind} (hu : P.underlying t = some (.slice e)) (he : P.underlying e = some (.int k)) (hsz : P.cellsOf e = 1) (h : Shp P (d + 2) t ds) :
    ∃ l : List Int, ds = [LV 1 (I k) l .sh] ∧ l.length * P.bytesOf e ≤ reachBytes ∧ ∀ a ∈ l, (Lit.int k a).wf = true :=
  shp_slice (I k) _ hu hsz (fun x hx => by
    obtain ⟨n, rfl, hn⟩ := shp_int he hx
    refine ⟨n, ?_, hn⟩
    simp [elOf, isAgT, he]) h
end
theorem mixed : Try.prog.follows .mixedOrders = true := by kernel_rfl
theorem noOwn : NoOwn Try.prog := by unfold NoOwn; kernel_rfl
theorem primSound : PrimSound Try.prog ENV := fun f g args H d H' h h2 => primOk f g args H d H' h h2
/-- a law that the front evaluator answers with true -/
theorem law_call {n f : Nat} {args : List DV} {H' : Heap} (h : callG Try.prog ENV n f args [] 0 = some (.flat (.bool true), H')) {w : World} {vs : Array Value} (hr : RepL Any w [] args vs.toList) :
    Calls Try.prog f vs w fun e w' => e = .returned (.bool true) ∧ Below w.heap.size w w' :=
  (pure_call mixed noOwn primSound (callG_ok _ _ _ _ _ _ _ _ h) hr).mono fun e w' ⟨V, he, hb, I, G, hV⟩ => by
    simp only [Rep] at hV
    subst hV
    exact ⟨he, hb⟩
end Go.Proofs.Ytbhnkdnfmlnajaa
