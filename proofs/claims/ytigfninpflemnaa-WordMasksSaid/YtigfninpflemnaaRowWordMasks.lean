/- The row of the law WordMasks: for every input it returns true. Out of its walk. -/
import Derived.Test.YtigfninpflemnaaRows
import Derived.Test.YtigfninpflemnaaLawW
import Derived.Test.YtigfninpflemnaaOpen
import Derived.WalkKit
import Derived.ProofKit
import Derived.OpenShut
import Derived.ShutString
import Derived.ChangeOld
import Derived.Below
import Derived.SizedLaws
import Derived.Carry
namespace Go.Proofs.Ytigfninpflemnaa.wordMasks
open Go.ChangeShapes Go.WideShapes Go.ChangeAt Go.RowKit
set_option linter.unusedVariables false
theorem own : ownKnob Try.prog.godebug = none := by kernel_rfl
theorem laidOut : laidOutB Try.prog = true := by kernel_rfl
set_option maxRecDepth 100000 in
theorem lifted (os : Os) (started : os.Started) (H : Type) (enc : TypeId × Value → H) :
    ReturnsInHanded {} Try.checked os 8 .any (Rows.wordMasksSpec.pre6 enc Try.prog Try.f8 Rows.wordMasksRow.domain false) (Rows.wordMasksSpec.post enc Try.prog Try.f8 false true false false) := by
  refine returnsInHanded_of_change_sized (C := Try.checked) own started (by kernel_rfl) Try.func8
    (ChangeSpec.witness6 (enc := enc) (C := Try.checked) false ⟨#[], #[.agg #[.int .u16 0, .int .u16 0, .int .u16 0], .slice none 0 0], []⟩ 8 (by kernel_rfl) (by kernel_rfl) (by kernel_rfl) (by kernel_rfl)) ?_
  intro W base args ds gs before hval0 hW hcnd hsz0 _
  have hsz : (DataW.weightsEach Try.prog (Try.f8.params.toList ++ Rows.wordMasksSpec.plain.varTypes Try.prog) (ds ++ gs)).all (· ≤ reachBytes) = true := hsz0
  have hval : ∀ (j : Nat) t v, Try.f8.params[j]? = some t → args[j]? = some v → Value.okWide Try.prog W .any base t v := hval0
  have hW' := hW
  obtain ⟨p, q, hA0, hV, rfl, hfz, hnd⟩ := hW
  have hA : DataW.TrodAll enc Try.prog W 0 (fun _ => true) true Try.f8.params.toList args.toList ds p := hA0
  rw [Try.params8] at hA hval hsz
  obtain ⟨v0, vs0, d0, ds0, p0, q0, hargs, rfl, rfl, h0, r0⟩ := trodAll_cons hA
  obtain ⟨v1, vs1, d1, ds1, p1, q1, rfl, rfl, rfl, h1, r1⟩ := trodAll_cons r0
  obtain ⟨rfl, rfl, rfl⟩ := trodAll_nil r1
  obtain rfl : args = #[v0, v1] := by cases args; simp_all
  obtain ⟨rfl, rfl⟩ := trodVars_none hV
  have k0 := h0
  have lt0 : ∀ x ∈ p0, x.block < W.heap.size := by obtain ⟨m, hm⟩ := k0; exact DataW.trod_lt m _ _ _ hm
  have hval0 := (hval 0 60 v0 rfl rfl)
  obtain ⟨zs, rfl, hz, hw⟩ := open_arr_ints Try.underlying60 Try.underlying22 (by kernel_rfl) (by kernel_rfl) hval0 h0
  obtain ⟨z0, z1, z2, rfl⟩ := list_three zs hz
  have y0 := bounds_u16 (hw z0 (by simp))
  have y1 := bounds_u16 (hw z1 (by simp))
  have y2 := bounds_u16 (hw z2 (by simp))
  obtain ⟨m0, rfl⟩ := Int.eq_ofNat_of_zero_le y0.1
  obtain ⟨m1, rfl⟩ := Int.eq_ofNat_of_zero_le y1.1
  obtain ⟨m2, rfl⟩ := Int.eq_ofNat_of_zero_le y2.1
  have k1 := h1
  have lt1 : ∀ x ∈ p1, x.block < W.heap.size := by obtain ⟨m, hm⟩ := k1; exact DataW.trod_lt m _ _ _ hm
  obtain ⟨a1, len1, cap1, hv1⟩ := okWide_slice Try.underlying54 (hval 1 54 v1 rfl rfl)
  obtain ⟨l1, g1, z1⟩ := open_scal encT Try.underlying54 (by kernel_rfl) (dec_bool Try.underlying4) (B := 1) (by kernel_rfl) (by omega) hv1 h1 (fun es rs hd => by subst hd; exact sized_slice hsz (j := 1) rfl rfl Try.underlying54)
  clear hA0 hval0 hsz0 hsz
  refine (WordMasks_walk m0 m1 m2 v1 l1 W (by omega) (by omega) (by omega) g1).mono fun e W' ⟨he, bel⟩ => ?_
  subst he
  exact ⟨_, rfl, _, _, _, [], _, [], hW', trodAll_mk1 (shut_bool Try.underlying4 _), (trodAll_cons_mk (Below.trod laidOut (by kernel_rfl) (of_decide_eq_true (by kernel_rfl)) k0 bel lt0) (trodAll_cons_mk (Below.trod laidOut (by kernel_rfl) (of_decide_eq_true (by kernel_rfl)) k1 bel lt1) trodAll_mk0)), rfl, bel.frame _, fun h => by cases h⟩
theorem over : Rows.wordMasksRow.holds Try.pinned (OpenSpec.ofChange Rows.wordMasksSpec) :=
  OpenClaim.holds_of_wide 8 Try.f8 rfl rfl rfl rfl rfl rfl rfl ⟨rfl, rfl, rfl, rfl, rfl⟩ rfl rfl rfl rfl rfl (by kernel_rfl) Try.func8 (by kernel_rfl)
    (of_decide_eq_true (by kernel_rfl)) (by unfold Func.isWrapper; first | (rw [if_pos (by decide +kernel)]; kernel_rfl) | (rw [if_neg (by decide +kernel)]; exact ⟨rfl, rfl⟩))
    (fun os started H enc _ => lifted os started H enc)
theorem proved : Rows.WordMasksSaid := over
#print axioms proved
end Go.Proofs.Ytigfninpflemnaa.wordMasks
namespace Go.Proofs.Ytigfninpflemnaa
/-- The row, under a short name, for the claim. -/
theorem wordMasks_holds : Rows.WordMasksSaid := wordMasks.proved
end Go.Proofs.Ytigfninpflemnaa
