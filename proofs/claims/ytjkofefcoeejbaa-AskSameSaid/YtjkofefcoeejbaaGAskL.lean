/- Requests that come in. -/
import Derived.Test.YtjkofefcoeejbaaGAskE
import Derived.Test.YtjkofefcoeejbaaShp
namespace Go.Proofs.Ytjkofefcoeejbaa
open Go
set_option linter.unusedSimpArgs false
set_option linter.unusedVariables false
structure RqTy (x : Rq) : Prop where
  w : Words x.words
  a : 0 ≤ x.and_ ∧ x.and_ < 65536
  o : 0 ≤ x.or_ ∧ x.or_ < 65536
  c : -9223372036854775808 ≤ x.code ∧ x.code < 9223372036854775808
  ad : -9223372036854775808 ≤ x.addr ∧ x.addr < 9223372036854775808
  cn : -9223372036854775808 ≤ x.cnt ∧ x.cnt < 9223372036854775808
  t : -9223372036854775808 ≤ x.to_ ∧ x.to_ < 9223372036854775808
theorem RqTy.ok {x : Rq} (h : RqTy x) (hl : lgV x = false) : RqOk x := by
  unfold lgV at hl
  simp only [decide_eq_false_iff_not] at hl
  exact ⟨h.w, h.a, h.o, by omega, by omega⟩
theorem shp_bo {d : Nat} {e : List DV} (h : Shp Try.prog (d + 1) 4 e) : ∃ b : Bool, elOf (isAgT Try.prog 4) e = Bo b ∧ True := by
  obtain ⟨b, rfl⟩ := shp_bool Try.underlying4 h
  exact ⟨b, by kernel_rfl, trivial⟩
theorem shp_rq {d : Nat} {e : List DV} (h : Shp Try.prog (d + 3) 26 e) : ∃ x : Rq, elOf (isAgT Try.prog 26) e = rqE x .sh .sh ∧ RqTy x := by
  have h := shp_struct Try.underlying26 h
  simp only [List.map_cons, List.map_nil, ShpFs] at h
  obtain ⟨a, _, rfl, ha, b, _, rfl, hb, c, _, rfl, hc, f, _, rfl, hf, g, _, rfl, hg, i, _, rfl, hi, j, _, rfl, hj, k, _, rfl, hk, rfl⟩ := h
  obtain ⟨a, rfl, wa⟩ := shp_int (k := .i64) Try.underlying3 ha
  obtain ⟨b, rfl, wb⟩ := shp_int (k := .i64) Try.underlying3 hb
  obtain ⟨c, rfl, wc⟩ := shp_int (k := .i64) Try.underlying3 hc
  obtain ⟨f, rfl, wf⟩ := shp_int (k := .i64) Try.underlying3 hf
  obtain ⟨g, rfl, _, wg⟩ := shp_ints (k := .u16) Try.underlying22 Try.underlying24 (by kernel_rfl) hg
  obtain ⟨i, rfl, _, _⟩ := shp_slice (e := 4) Bo (fun _ => True) (sz := 1) Try.underlying23 (by kernel_rfl) (fun x hx => shp_bo hx) hi
  obtain ⟨j, rfl, wj⟩ := shp_int (k := .u16) Try.underlying24 hj
  obtain ⟨k, rfl, wk⟩ := shp_int (k := .u16) Try.underlying24 hk
  exact ⟨⟨a, b, c, f, g, i, j, k⟩, by kernel_rfl, ⟨fun x hx => wf_u16 (wg x hx), wf_u16 wj, wf_u16 wk, wf_i64 wa, wf_i64 wb, wf_i64 wc, wf_i64 wf⟩⟩
theorem awake06 : cP 39999 12 false [] = some (Bo true) := by kernel_rfl
end Go.Proofs.Ytjkofefcoeejbaa
