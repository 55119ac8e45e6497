/- Calls that leave all that was. -/
import Derived.Test.YtbhnkdnfmlnajaaPrimD
import Derived.Test.YtbhnkdnfmlnajaaPg
import Derived.WalkKit
import Derived.Below
namespace Go.Proofs.Ytbhnkdnfmlnajaa
open Go Go.RowKit
set_option linter.unusedSimpArgs false
set_option linter.unusedVariables false
theorem Keep.below (G : Gh) {w w' : World} (h : Below w.heap.size w w') : Keep G w G w' :=
  ⟨h.os, h.tape, h.output, h.size, fun b hb _ => h.block b hb, fun k b sz cap hw hg hb j hj => cell_of_blk (h.block b hb) j, Evol.refl G, fun k b hb h => h, fun k b sz cap' hw' hb h => ⟨cap', hw', h, Nat.le_refl _⟩⟩
theorem HR.below {B : Nat → Nat → Prop} {G : Gh} {w w' : World} {H : Heap} (h : HR B G w H) (hb : Below w.heap.size w w') : HR B G w' H := by
  refine ⟨h.len, h.dist, fun k b g hB hg => ?_, h.bb⟩
  have := h.blk k b g hB hg
  cases b <;> cases g <;> simp only [BlkRep] at this ⊢
  · obtain ⟨C, h1, h2, h3⟩ := this
    exact ⟨C, by rw [hb.block _ (h.lt (.inl hg))]; exact h1, RepL.keep (Keep.below G hb) h2, h3⟩
  · obtain ⟨h1, h2, h3, h4, h5, C, h6, h7⟩ := this
    exact ⟨h1, h2, h3, h4, h5, C, by rw [hb.block _ (h.lt (.inr ⟨_, _, _, hg⟩))]; exact h6, h7⟩
/-- a call that leaves all that was, and answers what holds no address -/
theorem callOk_below {P : Program} {f : FuncId} {args : List DV} {r : DV} (h : ∀ (I : Nat → Nat → Prop) (G : Gh) (w : World) (vs : Array Value), RepL I w G args vs.toList → Calls P f vs w fun e w' => ∃ V, e = .returned V ∧ Below w.heap.size w w' ∧ ∀ (I : Nat → Nat → Prop) (G : Gh), Rep I w' G r V) (H : Heap) (fl : Nat) : CallOk P f args H fl r H := by
  intro B G w vs hB hH hr hfl
  refine ⟨(h _ G w vs hr).mono fun e w' ⟨V, he, hb, hV⟩ => ⟨V, G, he, Keep.below G hb, hH.below hb, hV _ _⟩, fun _ _ => rfl, Nat.le_refl _⟩
end Go.Proofs.Ytbhnkdnfmlnajaa
