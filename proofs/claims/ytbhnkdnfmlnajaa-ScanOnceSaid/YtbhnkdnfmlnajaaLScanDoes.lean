/- The law ScanDoes: for every input it returns true. -/
import Derived.Test.YtbhnkdnfmlnajaaScanL
import Derived.Test.YtbhnkdnfmlnajaaShp
import Derived.Test.YtbhnkdnfmlnajaaPrimL
namespace Go.Proofs.Ytbhnkdnfmlnajaa
open Go Go.RowKit
set_option linter.unusedSimpArgs false
set_option linter.unusedVariables false
def dN : DV → Option Int
  | .flat (.int .i64 n) => some n
  | _ => none
theorem dN_some (x : DV) (a : Int) (h : dN x = some a) : x = .flat (encN a) := by
  unfold dN at h
  split at h
  · cases h; rfl
  · cases h
theorem mapO_dN (l : List Int) : mapO dN (l.map (I .i64)) = some l := by
  induction l with
  | nil => rfl
  | cons a l ih => rw [List.map_cons, mapO_cons, ih]; rfl
theorem ints_rd {w : World} {G : Gh} {J : Nat → Nat → Prop} {l : List Int} {t : Tag} {V : Value} (h : Rep J w G (LV 1 (I .i64) l t) V) : RdV encN w V l := by
  obtain ⟨s, e, _⟩ := LV_list 1 (I .i64) l t
  rw [e] at h
  exact list_rd dN_some (fun a => rfl) h (mapO_dN l)
theorem ScanDoes_all (e0 e1 : List DV) (h0 : Shp Try.prog 8 3 e0) (h1 : Shp Try.prog 8 22 e1) {w : World} {vs : Array Value}
    (hr : RepL Any w [] [elOf (isAgT Try.prog 3) e0, elOf (isAgT Try.prog 22) e1] vs.toList) :
    Calls Try.prog 3 vs w fun e w' => e = .returned (.bool true) ∧ Below w.heap.size w w' := by
  obtain ⟨g, rfl, hg⟩ := shp_int (k := .i64) Try.underlying3 h0
  obtain ⟨l, rfl, _, hl⟩ := shp_ints (k := .i64) Try.underlying22 Try.underlying3 (by kernel_rfl) h1
  have r1 : elOf (isAgT Try.prog 3) [.flat (.int .i64 g)] = .flat (.int .i64 g) := by kernel_rfl
  have r2 : elOf (isAgT Try.prog 22) [LV 1 (I .i64) l .sh] = LV 1 (I .i64) l .sh := by kernel_rfl
  rw [r1, r2] at hr
  simp only [RepL] at hr
  obtain ⟨v0, s0, e0, hv0, v1, s1, rfl, hv1, rfl⟩ := hr
  simp only [Rep] at hv0
  subst hv0
  have hv : vs = #[.int .i64 g, v1] := by apply Array.ext'; simpa using e0
  subst hv
  exact ScanDoes_w w g v1 l (ints_rd hv1) hl
end Go.Proofs.Ytbhnkdnfmlnajaa
