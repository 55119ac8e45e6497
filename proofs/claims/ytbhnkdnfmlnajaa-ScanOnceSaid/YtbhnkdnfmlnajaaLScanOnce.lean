/- The law ScanOnce: for every input it returns true. -/
import Derived.Test.YtbhnkdnfmlnajaaScanO
import Derived.Test.YtbhnkdnfmlnajaaLScanDoes
namespace Go.Proofs.Ytbhnkdnfmlnajaa
open Go Go.RowKit
set_option linter.unusedSimpArgs false
set_option linter.unusedVariables false
theorem ScanOnce_all (e0 e1 e2 : List DV) (h0 : Shp Try.prog 8 3 e0) (h1 : Shp Try.prog 8 3 e1) (h2 : Shp Try.prog 8 22 e2) {w : World} {vs : Array Value}
    (hr : RepL Any w [] [elOf (isAgT Try.prog 3) e0, elOf (isAgT Try.prog 3) e1, elOf (isAgT Try.prog 22) e2] vs.toList) :
    Calls Try.prog 4 vs w fun e w' => e = .returned (.bool true) ∧ Below w.heap.size w w' := by
  obtain ⟨g, rfl, hg⟩ := shp_int (k := .i64) Try.underlying3 h0
  obtain ⟨n, rfl, hn⟩ := shp_int (k := .i64) Try.underlying3 h1
  obtain ⟨l, rfl, _, hl⟩ := shp_ints (k := .i64) Try.underlying22 Try.underlying3 (by kernel_rfl) h2
  have r1 : ∀ g, elOf (isAgT Try.prog 3) [.flat (.int .i64 g)] = .flat (.int .i64 g) := fun g => by kernel_rfl
  have r2 : elOf (isAgT Try.prog 22) [LV 1 (I .i64) l .sh] = LV 1 (I .i64) l .sh := by kernel_rfl
  rw [r1, r1, r2] at hr
  simp only [RepL] at hr
  obtain ⟨v0, s0, e0, hv0, v1, s1, rfl, hv1, v2, s2, rfl, hv2, rfl⟩ := hr
  simp only [Rep] at hv0 hv1
  subst hv0; subst hv1
  have hv : vs = #[.int .i64 g, .int .i64 n, v2] := by apply Array.ext'; simpa using e0
  subst hv
  exact ScanOnce_w w g n v2 l (ints_rd hv2) (wf_i64 hn)
end Go.Proofs.Ytbhnkdnfmlnajaa
