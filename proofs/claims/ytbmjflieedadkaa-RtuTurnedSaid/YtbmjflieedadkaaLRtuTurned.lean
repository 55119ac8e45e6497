/- The law RtuTurned: it answers true. -/
import Derived.Test.YtbmjflieedadkaaFLRtuTurned
import Derived.Test.YtbmjflieedadkaaTurned
-- NEEDS: triunelaw03.RtuTurned
namespace Go.Proofs.Ytbmjflieedadkaa
open Go Go.RowKit
set_option linter.unusedSimpArgs false
set_option linter.unusedVariables false
def byteD : DV → Option UInt8
  | .flat (.int .u8 n) => if 0 ≤ n ∧ n < 256 then some (lowB n) else none
  | _ => none
theorem byteD_some (x : DV) (a : UInt8) (h : byteD x = some a) : x = .flat (encB a) := by
  unfold byteD at h
  split at h
  · split at h
    · rename_i hn
      cases h
      rw [encB_low _ hn.1 hn.2]
    · cases h
  · cases h
theorem byteD_map (l : List Int) (h : Bytes l) : mapO byteD (l.map (I .u8)) = some (l.map lowB) := by
  induction l with
  | nil => rfl
  | cons a l ih =>
    rw [List.map_cons, mapO_cons, ih (fun x hx => h x (by simp [hx]))]
    have : byteD (I .u8 a) = some (lowB a) := by unfold byteD I; simp only; rw [if_pos (h a (by simp))]
    rw [this]; rfl
theorem lv_rd {w : World} {l : List Int} {V : Value} (hb : Bytes l) (h : Rep Any w [] (LV 1 (I .u8) l .sh) V) : RdV encB w V (l.map lowB) := by
  have hm := byteD_map l hb
  unfold LV mkl at h
  cases l with
  | nil => exact list_rd byteD_some (fun a => rfl) h rfl
  | cons a l => exact list_rd byteD_some (fun a => rfl) h (by simpa using hm)
theorem RtuTurned_no (n : Nat) (up : cP n 9 false [] = some (Bo true)) (hn : 3000 ≤ n) (x : Fm) (at_ turn : Int) (hx : 0 ≤ x.u ∧ x.u < 256) (hxp : Bytes x.p) (ht : 0 ≤ turn ∧ turn < 65536) (ha : -9223372036854775808 ≤ at_ ∧ at_ ≤ 9223372036854775807)
    (hno : x.p.length < 1 ∨ 253 < x.p.length ∨ turn = 0 ∨ at_ < 0 ∨ 8 * ((x.p.length : Int) + 3) - 16 < at_) :
    ∃ H', s_triunelaw03_RtuTurned n [] 0 (fmE x .sh) (I .i64 at_) (I .u16 turn) = some (Bo true, H') := by
  by_cases c1 : 400 < x.p.length
  · exact ⟨_, by unfold s_triunelaw03_RtuTurned fmE; simp -implicitDefEqProofs (disch := first | omega | (simp only [List.length_set, List.length_append, List.length_cons, List.length_nil, List.length_take, List.length_drop, List.length_map]; omega) | simp) [wrap_i64, wrap_u16_id, wrap_u8_id, tdiv_pos, tmod_pos, -getElem?_pos, -getElem?_neg, -List.length_eq_zero_iff, -List.getElem_cons_drop, up, c1]; rfl⟩
  have okx : FmOk x := ⟨hx, hxp, by omega⟩
  have k1 := rtu_Bytes_c n x .sh okx (by omega)
  by_cases c5 : x.p.length < 1
  · unfold bytV at k1
    rw [if_pos c5] at k1
    unfold fmE at *
    exact ⟨_, by unfold s_triunelaw03_RtuTurned; simp -implicitDefEqProofs (disch := first | omega | (simp only [List.length_set, List.length_append, List.length_cons, List.length_nil, List.length_take, List.length_drop, List.length_map]; omega) | simp) [wrap_i64, wrap_u16_id, wrap_u8_id, tdiv_pos, tmod_pos, -getElem?_pos, -getElem?_neg, -List.length_eq_zero_iff, -List.getElem_cons_drop, up, c1, k1]; rfl⟩
  by_cases c6 : 253 < x.p.length
  · unfold bytV at k1
    rw [if_neg c5, if_pos c6] at k1
    unfold fmE at *
    exact ⟨_, by unfold s_triunelaw03_RtuTurned; simp -implicitDefEqProofs (disch := first | omega | (simp only [List.length_set, List.length_append, List.length_cons, List.length_nil, List.length_take, List.length_drop, List.length_map]; omega) | simp) [wrap_i64, wrap_u16_id, wrap_u8_id, tdiv_pos, tmod_pos, -getElem?_pos, -getElem?_neg, -List.length_eq_zero_iff, -List.getElem_cons_drop, up, c1, k1]; rfl⟩
  unfold bytV at k1
  rw [if_neg c5, if_neg c6] at k1
  have hl : (putI (x.u :: x.p)).length = x.p.length + 3 := by rw [putI_length]; simp
  generalize putI (x.u :: x.p) = pp at *
  by_cases c7 : turn = 0
  · subst c7
    unfold fmE at *
    exact ⟨_, by unfold s_triunelaw03_RtuTurned; simp -implicitDefEqProofs (disch := first | omega | (simp only [List.length_set, List.length_append, List.length_cons, List.length_nil, List.length_take, List.length_drop, List.length_map]; omega) | simp) [wrap_i64, wrap_u16_id, wrap_u8_id, tdiv_pos, tmod_pos, -getElem?_pos, -getElem?_neg, -List.length_eq_zero_iff, -List.getElem_cons_drop, up, c1, k1, hl]; rfl⟩
  by_cases c8 : at_ < 0
  · unfold fmE at *
    exact ⟨_, by unfold s_triunelaw03_RtuTurned; simp -implicitDefEqProofs (disch := first | omega | (simp only [List.length_set, List.length_append, List.length_cons, List.length_nil, List.length_take, List.length_drop, List.length_map]; omega) | simp) [wrap_i64, wrap_u16_id, wrap_u8_id, tdiv_pos, tmod_pos, -getElem?_pos, -getElem?_neg, -List.length_eq_zero_iff, -List.getElem_cons_drop, up, c1, k1, hl, c7, c8]; rfl⟩
  have c9 : 8 * ((x.p.length : Int) + 3) - 16 < at_ := by omega
  unfold fmE at *
  exact ⟨_, by unfold s_triunelaw03_RtuTurned; simp -implicitDefEqProofs (disch := first | omega | (simp only [List.length_set, List.length_append, List.length_cons, List.length_nil, List.length_take, List.length_drop, List.length_map]; omega) | simp) [wrap_i64, wrap_u16_id, wrap_u8_id, tdiv_pos, tmod_pos, -getElem?_pos, -getElem?_neg, -List.length_eq_zero_iff, -List.getElem_cons_drop, up, c1, k1, hl, c7, c8, c9]; rfl⟩
theorem RtuTurned_calls (x : Fm) (at_ turn : Int) (hx : 0 ≤ x.u ∧ x.u < 256) (hxp : Bytes x.p) (ht : 0 ≤ turn ∧ turn < 65536) (ha : -9223372036854775808 ≤ at_ ∧ at_ ≤ 9223372036854775807) {w : World} {vs : Array Value} (hr : RepL Any w [] [fmE x .sh, I .i64 at_, I .u16 turn] vs.toList) :
    Calls Try.prog 5 vs w fun e w' => e = .returned (.bool true) ∧ Below w.heap.size w w' := by
  by_cases hno : x.p.length < 1 ∨ 253 < x.p.length ∨ turn = 0 ∨ at_ < 0 ∨ 8 * ((x.p.length : Int) + 3) - 16 < at_
  · obtain ⟨H', h⟩ := RtuTurned_no 3999 awake03 (by omega) x at_ turn hx hxp ht ha hno
    exact law_call ((s_triunelaw03_RtuTurned_eq 3999 [] 0 _ _ _).trans h) hr
  · simp only [not_or] at hno
    obtain ⟨n1, n2, n3, n4, n5⟩ := hno
    obtain ⟨a, rfl⟩ := Int.eq_ofNat_of_zero_le (show 0 ≤ at_ by omega)
    obtain ⟨t, rfl⟩ := Int.eq_ofNat_of_zero_le ht.1
    simp only [RepL, fmE, Rep] at hr
    obtain ⟨v0, r0, e0, ⟨vs2, rfl, u1, s1, e3, hu1, vp, s2, rfl, hvp, rfl⟩, v1, r1, rfl, hv1, v2, r2, rfl, hv2, rfl⟩ := hr
    subst hu1; subst hv1; subst hv2
    obtain rfl : vs2 = #[.int .u8 x.u, vp] := by cases vs2; simp_all
    obtain rfl : vs = #[.agg #[.int .u8 x.u, vp], .int .i64 (a : Int), .int .u16 (t : Int)] := by cases vs; simp_all
    have hrd := lv_rd hxp hvp
    have hl : (x.p.map lowB).length = x.p.length := by simp
    exact RtuTurned_good vp x.u (x.p.map lowB) a t w hx hrd (by omega) (by omega) (by omega) (by omega) (by omega)
theorem RtuTurned_all (e0 e1 e2 : List DV) (h0 : Shp Try.prog 8 24 e0) (h1 : Shp Try.prog 8 3 e1) (h2 : Shp Try.prog 8 40 e2) {w : World} {vs : Array Value}
    (hr : RepL Any w [] [elOf (isAgT Try.prog 24) e0, elOf (isAgT Try.prog 3) e1, elOf (isAgT Try.prog 40) e2] vs.toList) :
    Calls Try.prog 5 vs w fun e w' => e = .returned (.bool true) ∧ Below w.heap.size w w' := by
  obtain ⟨x, r0, x1, x2⟩ := shp_fm (d := 5) h0
  obtain ⟨a, rfl, ha⟩ := shp_int (k := .i64) Try.underlying3 h1
  obtain ⟨t, rfl, ht⟩ := shp_int (k := .u16) Try.underlying40 h2
  have r1 : ∀ a, elOf (isAgT Try.prog 3) [.flat (.int .i64 a)] = I .i64 a := fun a => by kernel_rfl
  have r2 : ∀ a, elOf (isAgT Try.prog 40) [.flat (.int .u16 a)] = I .u16 a := fun a => by kernel_rfl
  rw [r0, r1, r2] at hr
  have ha' := bounds_i64 ha
  have ht' := bounds_u16 ht
  exact RtuTurned_calls x a t x1 x2 ⟨ht'.1, by omega⟩ ⟨by omega, by omega⟩ hr
end Go.Proofs.Ytbmjflieedadkaa
