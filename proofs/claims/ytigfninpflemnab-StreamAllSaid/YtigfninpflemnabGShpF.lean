/- A frame that comes in. -/
import Derived.Test.YtigfninpflemnabShp
import Derived.Test.YtigfninpflemnabGFrame
namespace Go.Proofs.Ytigfninpflemnab
open Go
theorem bytes_of {l : List Int} (h : ∀ a ∈ l, (Lit.int .u8 a).wf = true) : Bytes l := fun x hx => wf_u8 (h x hx)
theorem shp_frame {e : List DV} (h : Shp Try.prog 8 84 e) : ∃ t u p, elOf (isAgT Try.prog 84) e = frameV t u p .sh ∧ (0 ≤ t ∧ t < 65536) ∧ (0 ≤ u ∧ u < 256) ∧ Bytes p := by
  have h := shp_struct Try.underlying84 h
  simp only [List.map_cons, List.map_nil, ShpFs] at h
  obtain ⟨a, _, rfl, ha, b, _, rfl, hb, c, _, rfl, hc, rfl⟩ := h
  obtain ⟨t, rfl, ht⟩ := shp_int (k := .u16) Try.underlying45 ha
  obtain ⟨u, rfl, hu⟩ := shp_int (k := .u8) Try.underlying5 hb
  obtain ⟨p, rfl, _, hp⟩ := shp_ints (k := .u8) Try.underlying82 Try.underlying5 (by kernel_rfl) hc
  exact ⟨t, u, p, by kernel_rfl, wf_u16 ht, wf_u8 hu, bytes_of hp⟩
end Go.Proofs.Ytigfninpflemnab
