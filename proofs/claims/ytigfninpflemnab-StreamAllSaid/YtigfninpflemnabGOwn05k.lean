/- Frames handed on: the law's own, with its room. -/
import Derived.Test.YtigfninpflemnabGOwn05
namespace Go.Proofs.Ytigfninpflemnab
open Go
set_option linter.unusedSimpArgs false
set_option linter.unusedVariables false
theorem own05_k (n fl : Nat) (l : List Fr) (t : Tag) (H : Heap) (hl : l.length ≤ 200000) (hn : l.length + 2 ≤ n) (hfl : fl ≤ H.length) :
    ∃ t' H', cK n 40 [LV 3 frE l t] H fl = some (LV 3 frE l t', H') ∧ TgOk t' 132 3 H.length l.length H' ∧ H.length ≤ H'.length ∧ (∀ j, j < H.length → H'[j]? = H[j]?) ∧ (WfH H → WfH H') := by
  obtain ⟨n, rfl⟩ : ∃ m, n = m + 1 := ⟨n - 1, by omega⟩
  obtain ⟨t', H', e, q⟩ := own05_L n fl H.length hfl (fun x S0 h0 => match x with
    | .normal => none
    | .exit i0 => if i0 = 0 then some (S0.getD 3 .any, h0) else none
    | .ret => some (.any, h0)) l t hl n 0 .ti H (by omega) (by omega) (.inl rfl) (Nat.le_refl _)
  refine ⟨t', H', ?_, q⟩
  unfold cK
  refine (s_triunelaw05_own_eq _ _ _ _).trans ?_
  unfold s_triunelaw05_own
  rw [s_triunelaw05_own_L0_eq, LV_nil 3 frE]
  exact e
end Go.Proofs.Ytigfninpflemnab
