/- Memory once more: copy into a row of the call's own; bytes as a string; arrays of bytes. -/
import Derived.Test.YtbhnkdnfmlnajaaBase
import Derived.Laws.CopyOwn
import Derived.Laws.BytesString
import Derived.Laws.IdiomStrings
namespace Go.Proofs.Ytbhnkdnfmlnajaa
open Go.RowKit

/-- cs laid over L from place off on -/
def lay {α : Type} (L : List α) (off : Nat) (cs : List α) : List α := L.take off ++ (cs ++ L.drop (off + cs.length))
theorem lay_len {α : Type} (L : List α) (off : Nat) (cs : List α) (h : off + cs.length ≤ L.length) : (lay L off cs).length = L.length := by simp [lay]; omega

section
variable {P : Program} {w : World}
theorem own_copy {α : Type} {enc : α → Value} (henc : ∀ x, (enc x).oneCell' = true) (dT sT ty e : TypeId) (hu : P.underlying dT = some (.slice e)) (hs : (P.info? e).map (·.size) = some 1)
    {base n cap g : Nat} {L : List α} (h : Own enc e w base (.slice (some ⟨g, 0, none⟩) n cap) L) (off dLen dCap : Nat) {y : Value} {m : List α} (hy : RdV enc w y m) (k : Nat) (hk : k = Nat.min m.length dLen) (hfit : off + k ≤ L.length)
    (dp : Option Addr) (hdp : 0 < k → dp = some ⟨g, off, none⟩) :
    ∃ w', (Builtin.copy_ #[dT, sT] ty #[.slice dp dLen dCap, y]).run P w = .ok (goInt k) w' ∧ Own enc e w' base (.slice (some ⟨g, 0, none⟩) n cap) (lay L off (m.take k)) ∧ w.grownBy w' (some g) := by
  have hkm : k ≤ m.length := by rw [hk]; exact Nat.min_le_left _ _
  have hlen : (m.take k).length = k := by simp; omega
  obtain ⟨A, c, rfl, _, _, hA⟩ := hy.open
  by_cases h0 : k = 0
  · subst h0
    refine ⟨w, run_copy_none w dT sT ty e dp A dLen dCap m.length c hu hs hk.symm, by simpa [lay] using h, ⟨rfl, rfl, rfl, Nat.le_refl _, fun _ _ _ => rfl⟩⟩
  · obtain rfl := hdp (by omega)
    obtain ⟨b, o, rfl, hc⟩ := hA.resolve_left (by omega)
    obtain ⟨⟨h1, h2⟩, h3⟩ := h
    rcases h2 with ⟨he, _⟩ | ⟨g', cap', cur, he, hb, hg, hn, hcap, hcs, ht⟩
    · cases he
    · injection he with e1 e2 e3
      injection e1 with e1
      injection e1 with e1
      subst e1; subst e2; subst e3
      rw [Nat.mul_one] at ht hcs
      have hrun := run_copy_row (P := P) w dT sT ty e g off dLen dCap ⟨b, o, none⟩ m.length c cur e ((m.take k).map enc) hu hs hg (by simp; rw [← hk]; omega)
        (fun j v hv => by
          have hj : j < k := by
            rcases Nat.lt_or_ge j k with h | h
            · exact h
            · rw [List.getElem?_eq_none (by simp; omega)] at hv; cases hv
          rw [addr_add, hc j (by omega)]
          rw [List.getElem?_map, List.getElem?_take, if_pos hj, List.getElem?_eq_getElem (by omega)] at hv
          exact hv)
        (by rw [List.length_map, hlen]; omega) (fun v hv => by obtain ⟨x, _, rfl⟩ := List.mem_map.1 hv; exact henc x)
      have hll := lay_len L off (m.take k) (by rw [hlen]; omega)
      refine ⟨w.setRow g (cur.toList.take off ++ (m.take k).map enc ++ cur.toList.drop (off + k)).toArray, by rw [hrun, List.length_map, hlen], ⟨⟨by simp, .inr ⟨g, cap, _, by rw [hll], hb, setRow_heap w g _ _ e _ hg, by rw [hll]; exact hn, hcap, ?_, ?_⟩⟩, by rw [hll]; exact h3⟩, ?_⟩
      · simp; omega
      · have hcl : cur.toList.length = cap := by simpa using hcs
        have e0 : (lay L off (m.take k)).map enc = (cur.toList.take L.length).take off ++ ((m.take k).map enc ++ (cur.toList.take L.length).drop (off + k)) := by
          unfold lay
          rw [List.map_append, List.map_append, List.map_take (i := off), List.map_drop, ← ht, hlen]
        have e1 : (List.take off cur.toList).length = off := by simp; omega
        have e2 : ((m.take k).map enc).length = k := by simp; omega
        rw [Nat.mul_one, hll, e0, List.take_take, Nat.min_eq_left (by omega), List.append_assoc, List.take_append, List.take_append, e1, e2, List.take_of_length_le (by omega : (List.take off cur.toList).length ≤ _), List.take_of_length_le (by omega : ((m.take k).map enc).length ≤ _),
          List.drop_take, Nat.sub_sub]
      · exact ⟨rfl, rfl, rfl, by simp [World.setRow], fun j hj hne => setRow_other w g j _ (fun h => hne (by rw [h]))⟩
variable {ops : Array Oper} {rest : List Oper} {o : Oper} {a : Act} {Q : Exit → Act → World → Prop}
theorem wp_copy {α : Type} {enc : α → Value} (henc : ∀ x, (enc x).oneCell' = true) (hgd : o.guard = none) (d s : Operand) (dT sT : TypeId)
    (ho : o.op = .call { callee := .builtin .copy, args := #[d, s], argTypes := #[dT, sT] }) (e : TypeId) (hu : P.underlying dT = some (.slice e)) (hs : (P.info? e).map (·.size) = some 1)
    (base n cap g : Nat) (L : List α) (hown : Own enc e w base (.slice (some ⟨g, 0, none⟩) n cap) L) (off dLen dCap : Nat) (dp : Option Addr) (hd : a.eval d = .slice dp dLen dCap)
    (y : Value) (m : List α) (hx : a.eval s = y) (hy : RdV enc w y m) (k : Nat) (hk : k = Nat.min m.length dLen) (hfit : off + k ≤ L.length) (hdp : 0 < k → dp = some ⟨g, off, none⟩)
    (h : ∀ w', Own enc e w' base (.slice (some ⟨g, 0, none⟩) n cap) (lay L off (m.take k)) → w.grownBy w' (some g) → wpList P ops Q rest (a.put o.dst (goInt k)) w') : wpList P ops Q (o :: rest) a w := by
  obtain ⟨w', hr, g1, g2⟩ := own_copy (P := P) henc dT sT o.type e hu hs hown off dLen dCap hy k hk hfit dp hdp
  refine wpList_plain hgd fun K hK => ?_
  have q := hK _ _ (h w' g1 g2)
  unfold Oper.wp execOp
  simp only [ho, resolve, invoke, builtin, Sem.run_bind, Sem.run_pure, Result.andThen_ok, List.map_toArray, List.map_cons, List.map_nil, hd, hx, hr]
  exact q
theorem step_copy {α : Type} {enc : α → Value} {K : Act → World → Prop} {E : Prop} (henc : ∀ x, (enc x).oneCell' = true) (hgd : o.guard = none) (d s : Operand) (dT sT : TypeId)
    (ho : o.op = .call { callee := .builtin .copy, args := #[d, s], argTypes := #[dT, sT] }) (e : TypeId) (hu : P.underlying dT = some (.slice e)) (hs : (P.info? e).map (·.size) = some 1)
    (base n cap g : Nat) (L : List α) (hown : Own enc e w base (.slice (some ⟨g, 0, none⟩) n cap) L) (off dLen dCap : Nat) (dp : Option Addr) (hd : a.eval d = .slice dp dLen dCap)
    (y : Value) (m : List α) (hx : a.eval s = y) (hy : RdV enc w y m) (k : Nat) (hk : k = Nat.min m.length dLen) (hfit : off + k ≤ L.length) (hdp : 0 < k → dp = some ⟨g, off, none⟩)
    (h : ∀ w', Own enc e w' base (.slice (some ⟨g, 0, none⟩) n cap) (lay L off (m.take k)) → w.grownBy w' (some g) → K (a.put o.dst (goInt k)) w') :
    if Region.wanted o (yielded ops a.tmps) = true then Oper.wp P o a w K Q else E := by
  have hw : Region.wanted o (yielded ops a.tmps) = true := by simp [Region.wanted, hgd]
  rw [if_pos hw]
  obtain ⟨w', hr, g1, g2⟩ := own_copy (P := P) henc dT sT o.type e hu hs hown off dLen dCap hy k hk hfit dp hdp
  have q := h w' g1 g2
  unfold Oper.wp execOp
  simp only [ho, resolve, invoke, builtin, Sem.run_bind, Sem.run_pure, Result.andThen_ok, List.map_toArray, List.map_cons, List.map_nil, hd, hx, hr]
  exact q
/-- a slice of bytes as a string -/
theorem run_str (src dst e : TypeId) (hs : P.underlying src = some (.slice e)) (he : P.underlying e = some (.int .u8)) (hd : P.underlying dst = some .string) {v : Value} {l : List UInt8} (h : RdV encB w v l) :
    (convert src dst v).run P w = .ok (.string ⟨l.toArray⟩) w := by
  obtain ⟨A, c, rfl, _, _, hA⟩ := h.open
  cases A with
  | none =>
    have : l = [] := h.none
    subst this
    rw [run_convert_bytes_string w src dst e none _ c hs he hd]
    simp [Conv.bytesToString]
    rfl
  | some ad =>
    refine run_convert_bytes_back w src dst e ad c l hs he hd fun j hj => ?_
    obtain ⟨b, o, hb, hc⟩ := hA.resolve_left (by omega)
    obtain rfl := Option.some.inj hb
    rw [addr_add, hc j hj]
    rfl
end
end Go.Proofs.Ytbhnkdnfmlnajaa
