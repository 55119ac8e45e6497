/- Opening a frame that comes in by value. -/
import Derived.Test.YtigfninpflemnaaOpen
import Derived.Test.YtigfninpflemnaaMbap
namespace Go.Proofs.Ytigfninpflemnaa
open Go.RowKit Go.ChangeShapes Go.WideShapes

section
variable {H : Type} {enc' : TypeId × Value → H} {P : Program} {W : World} {spare : Nat → Bool} {held : Bool} {t : TypeId}
theorem open_frame {g0 g1 g2 : Field} {eW eB eS : TypeId} (hs : P.underlying t = some (.struct #[g0, g1, g2])) (t0 : g0.type = eW) (o0 : g0.offset = 0) (t1 : g1.type = eB) (o1 : g1.offset = 1) (t2 : g2.type = eS) (o2 : g2.offset = 2)
    (uW : P.underlying eW = some (.int .u16)) (uB : P.underlying eB = some (.int .u8)) (uS : P.underlying eS = some (.slice eB)) (ct : P.cellsOf t = 3) (cW : P.cellsOf eW = 1) (cB : P.cellsOf eB = 1) (cS : P.cellsOf eS = 1) (bB : P.bytesOf eB = 1)
    {r : Reach} {B : Nat} {v : Value} {d : DataW H} {ps : List MemPlace} (hval : Value.okWide P W r B t v) (h : DataW.Trod enc' P W 0 spare held t v d ps) (hw : ∀ n ∈ d.weights P t, n ≤ reachBytes) : ∃ f : Fr, RdF W v f := by
  obtain ⟨cs, rfl, hcs⟩ := okWide_struct hs hval
  rw [ct] at hcs
  obtain ⟨fuel, hf⟩ := h
  obtain ⟨xs, m, _, hx, _, hxs, hel⟩ := DataW.trod_struct hs hf
  match xs, hxs with
  | [y0, y1, y2], _ =>
    have e0 := hel 0 g0 rfl
    have e1 := hel 1 g1 rfl
    have e2 := hel 2 g2 rfl
    obtain ⟨c0, c1, c2, hc⟩ := list_three cs.toList (by simpa using hcs)
    have hcs2 : cs = #[c0, c1, c2] := by rw [← Array.toArray_toList (xs := cs), hc]
    subst hcs2
    rw [t0, o0, cW] at e0
    rw [t1, o1, cB] at e1
    rw [t2, o2, cS] at e2
    simp only [Value.cells, List.drop_zero, List.getElem?_cons_zero] at e0
    simp only [Value.cells] at e1 e2
    obtain ⟨z0, hz0, _, w0⟩ := DataW.trod_int uW e0
    obtain ⟨z1, hz1, _, w1⟩ := DataW.trod_int uB e1
    simp at hz0 hz1
    subst hz0 hz1
    have b0 := bounds_u16 w0
    have b1 := bounds_u8 w1
    have e2' : DataW.trod enc' P W 0 spare held m eS [c2] = some y2 := by simpa using e2
    obtain ⟨hd, _⟩ := Prod.mk.inj hx
    have hsl : ∃ a len cap, c2 = .slice a len cap := by
      rcases DataW.trod_slice uS e2' with ⟨hh, _⟩ | ⟨a, len, cap, _, _, _, _, hh, _⟩
      · simp at hh; exact ⟨_, _, _, hh⟩
      · simp at hh; exact ⟨_, _, _, hh⟩
    obtain ⟨a, len, cap, rfl⟩ := hsl
    obtain ⟨l, hl, _⟩ := open_scal (d := y2.1) (ps := y2.2) encB uS cB (dec_u8 uB) (B := 1) bB (by omega) (a := a) (len := len) (cap := cap) rfl ⟨m, e2'⟩ (fun es rs he => by
      refine hw _ ?_
      rw [hd, DataW.weights, hs]
      simp only [List.map_cons, List.map_nil, he]
      refine DataW.weights_mem_each (j := 2) (t := g2.type) rfl rfl _ ?_
      rw [t2]
      simp [DataW.weights, uS])
    refine ⟨⟨lowW z0, lowB z1, l⟩, _, ?_, hl⟩
    simp only
    rw [lowW_nat _ (by omega) (by omega), lowB_nat _ (by omega) (by omega)]
end
end Go.Proofs.Ytigfninpflemnaa
