/- scan's functions, in the old style: a map of three channels at most. -/
import Derived.Test.YtbhnkdnfmlnajaaMem
import Derived.Maps.OwnSet
import Derived.Maps.OwnOps
import Derived.Carry
namespace Go.Proofs.Ytbhnkdnfmlnajaa
open Go Go.RowKit Go.Maps
set_option linter.unusedSimpArgs false
set_option linter.unusedVariables false
/-- a block of cells, whole -/
def BX (w : World) (b : Nat) (t : TypeId) (cs : Array Value) : Prop := w.heap[b]? = some (.cells cs t)
theorem BX.lt {w : World} {b : Nat} {t : TypeId} {cs : Array Value} (h : BX w b t cs) : b < w.heap.size := by
  unfold BX at h
  exact (Array.getElem?_eq_some_iff.1 h).1
theorem BX.made {w : World} {b : Nat} {t : TypeId} {cs : Array Value} (hb : b = w.heap.size) : BX (w.alloc (.cells cs t)) b t cs := by
  subst hb
  exact heap_alloc_new w _
theorem BX.cell {w : World} {b : Nat} {t : TypeId} {cs : Array Value} (h : BX w b t cs) (k : Nat) {v : Value} (hv : cs[k]? = some v) : w.cell? ⟨b, k, none⟩ = some v := by
  unfold BX at h
  simp only [World.cell?, h]
  exact hv
theorem BX.frozen {w : World} {b : Nat} {t : TypeId} {cs : Array Value} (h : BX w b t cs) (k : Nat) : w.frozen? ⟨b, k, none⟩ = false := by
  unfold World.frozen?
  rw [show w.heap[b]? = some (.cells cs t) from h]
  simp
theorem BX.blk {w w' : World} {b : Nat} {t : TypeId} {cs : Array Value} (h : BX w b t cs) (hw : w'.heap[b]? = w.heap[b]?) : BX w' b t cs := hw.trans h
theorem BX.alloc {w : World} {b : Nat} {t : TypeId} {cs : Array Value} (h : BX w b t cs) (o : Obj) : BX (w.alloc o) b t cs := h.blk (Below.heap_alloc w o b h.lt)
theorem BX.below {w w' : World} {b : Nat} {t : TypeId} {cs : Array Value} (h : BX w b t cs) (hw : Below w.heap.size w w') : BX w' b t cs := h.blk (hw.block b h.lt)
theorem BX.grown {w w' : World} {b : Nat} {t : TypeId} {cs : Array Value} {r : Option Nat} (h : BX w b t cs) (hw : w.grownBy w' r) (hr : some b ≠ r) : BX w' b t cs := by
  obtain ⟨_, _, _, _, h5⟩ := hw
  exact h.blk (h5 b h.lt hr)
theorem BX.drew {w : World} {b : Nat} {t : TypeId} {cs : Array Value} (h : BX w b t cs) : BX w.drew b t cs := h
theorem BX.set {w : World} {b : Nat} {t : TypeId} {cs : Array Value} (h : BX w b t cs) (k : Nat) (v : Value) : BX (w.setCell ⟨b, k, none⟩ v) b t (cs.setIfInBounds k v) := by
  unfold BX at h ⊢
  simp [World.setCell, Array.getElem?_modify, h]
theorem BX.other {w : World} {b c : Nat} {t : TypeId} {cs : Array Value} (h : BX w b t cs) (hne : b ≠ c) (k : Nat) (v : Value) : BX (w.setCell ⟨c, k, none⟩ v) b t cs := h.blk (Below.heap_setCell _ _ _ _ hne)
theorem gr_trans {w w1 w2 : World} {r : Option Nat} (h : w.grownBy w1 r) (k : w1.grownBy w2 r) : w.grownBy w2 r := by
  obtain ⟨h1, h2, h3, h4, h5⟩ := h
  obtain ⟨k1, k2, k3, k4, k5⟩ := k
  exact ⟨k1.trans h1, k2.trans h2, k3.trans h3, Nat.le_trans h4 k4, fun i hi hr => (k5 i (Nat.lt_of_lt_of_le hi h4) hr).trans (h5 i hi hr)⟩
theorem gr_set {w : World} {b k : Nat} {v : Value} : w.grownBy (w.setCell ⟨b, k, none⟩ v) (some b) := ⟨rfl, rfl, rfl, by simp [World.setCell], fun i _ hi => Below.heap_setCell _ _ _ _ (fun e => hi (by rw [e]))⟩
theorem gr_same (w : World) (r : Option Nat) : w.grownBy w r := ⟨rfl, rfl, rfl, Nat.le_refl _, fun _ _ _ => rfl⟩
theorem gr_new {w w1 w2 : World} {r : Option Nat} {m : Nat} (h : w.grownBy w1 r) (k : w1.grownBy w2 (some m)) (hm : w.heap.size ≤ m) : w.grownBy w2 r := by
  obtain ⟨h1, h2, h3, h4, h5⟩ := h
  obtain ⟨k1, k2, k3, k4, k5⟩ := k
  exact ⟨k1.trans h1, k2.trans h2, k3.trans h3, Nat.le_trans h4 k4, fun i hi hr => (k5 i (Nat.lt_of_lt_of_le hi h4) (by intro e; have := Option.some.inj e; omega)).trans (h5 i hi hr)⟩
/-! a map of three keys -/
def ent (c : Int) : Option Int → List (Lit × DataW Unit)
  | none => []
  | some v => [(.int .i64 c, .lit (.int .i64 v))]
def MD (o0 o1 o2 : Option Int) : DataW Unit := .map (ent 0 o0 ++ ent 1 o1 ++ ent 2 o2)
def lk (o0 o1 o2 : Option Int) (c : Int) : Option Int := if c = 0 then o0 else if c = 1 then o1 else if c = 2 then o2 else none
def st (i c : Int) (v o : Option Int) : Option Int := if c = i then v else o
def cnt3 (o0 o1 o2 : Option Int) : Int := (if o0.isSome then 1 else 0) + (if o1.isSome then 1 else 0) + (if o2.isSome then 1 else 0)
theorem md_put (o0 o1 o2 : Option Int) (c v : Int) (hc : c = 0 ∨ c = 1 ∨ c = 2) : (MD o0 o1 o2).put (.int .i64 c) (.lit (.int .i64 v)) = MD (st 0 c (some v) o0) (st 1 c (some v) o1) (st 2 c (some v) o2) := by
  rcases hc with rfl | rfl | rfl <;> cases o0 <;> cases o1 <;> cases o2 <;> rfl
theorem md_del (o0 o1 o2 : Option Int) (c : Int) (hc : c = 0 ∨ c = 1 ∨ c = 2) : (MD o0 o1 o2).del (.int .i64 c) = MD (st 0 c none o0) (st 1 c none o1) (st 2 c none o2) := by
  rcases hc with rfl | rfl | rfl <;> cases o0 <;> cases o1 <;> cases o2 <;> rfl
theorem md_size (o0 o1 o2 : Option Int) : (Maps.size (MD o0 o1 o2) : Int) = cnt3 o0 o1 o2 := by
  cases o0 <;> cases o1 <;> cases o2 <;> rfl
theorem md_look (o0 o1 o2 : Option Int) (c : Int) : Maps.has (MD o0 o1 o2) (.int .i64 c) = (lk o0 o1 o2 c).isSome ∧ (MD o0 o1 o2).atKey (.int .i64 c) (.lit (.int .i64 0)) = .lit (.int .i64 ((lk o0 o1 o2 c).getD 0)) := by
  by_cases h0 : c = 0
  · subst h0
    cases o0 <;> cases o1 <;> cases o2 <;> exact ⟨rfl, rfl⟩
  by_cases h1 : c = 1
  · subst h1
    cases o0 <;> cases o1 <;> cases o2 <;> exact ⟨rfl, rfl⟩
  by_cases h2 : c = 2
  · subst h2
    cases o0 <;> cases o1 <;> cases o2 <;> exact ⟨rfl, rfl⟩
  have e : lk o0 o1 o2 c = none := by unfold lk; rw [if_neg h0, if_neg h1, if_neg h2]
  rw [e]
  have hh : Maps.has (MD o0 o1 o2) (.int .i64 c) = false := by
    have hk : ∀ i : Int, c ≠ i → ∀ o, (ent i o).any (fun p => p.1.sameKey (.int .i64 c)) = false := by
      intro i hi o
      cases o with
      | none => rfl
      | some v => show ((Lit.int .i64 i).sameKey (.int .i64 c) || false) = false; rw [Maps.sameKey_ne (by intro e; injection e with _ e; exact hi e.symm)]; rfl
    unfold MD
    rw [Maps.has_eq, List.any_append, List.any_append, hk 0 h0, hk 1 h1, hk 2 h2]
    rfl
  exact ⟨hh, Maps.atKey_of_not_has hh _⟩
abbrev own3 (w : World) (m : Nat) (D : DataW Unit) : Prop := w.ownsMap Try.prog 3 (plainElem Try.prog 3) m 10 D
theorem own_fit {w : World} {m n : Nat} {D : DataW Unit} (h : w.ownsMap Try.prog 3 (plainElem Try.prog 3) m n D) (hs : Maps.size D ≤ 10) : own3 w m D := by
  obtain ⟨es, clock, h1, h2, h3, h4⟩ := h
  refine ⟨es, clock, h1, h2, ?_, h4⟩
  subst h4
  rw [Maps.size_eq, length_read] at hs
  exact hs
theorem zeroInt (w : World) : (zeroValue 3).run Try.prog w = .ok (.int .i64 0) w := by kernel_rfl
section
variable (w : World) {ops : Array Oper} {rest : List Oper} {o : Oper} {a : Act} {Q : Exit → Act → World → Prop}
theorem wp_look3 (hg : o.guard = none) (m x : Operand) (hop : o.op = Op.lookup 125 m x true) (b : Nat) (o0 o1 o2 : Option Int) (hm : a.eval m = .map (some b)) (hown : own3 w b (MD o0 o1 o2)) (c : Int) (hc : (Lit.int .i64 c).wf = true) (hx : a.eval x = .int .i64 c)
    (hK : wpList Try.prog ops Q rest (a.put o.dst (.tuple #[.int .i64 ((lk o0 o1 o2 c).getD 0), .bool (lk o0 o1 o2 c).isSome])) w) : wpList Try.prog ops Q (o :: rest) a w := by
  refine wpList_lookup_own_ok_int w hg m x 125 hop 3 3 .i64 (int_keyed Try.underlying3) Try.underlying125 Try.underlying3 (zeroInt w) b 10 (MD o0 o1 o2) hm hown _ _ hx (keyOf_int_mk Try.underlying3 hc) ?_
  intro v hat _
  obtain ⟨e1, e2⟩ := md_look o0 o1 o2 c
  rw [e2] at hat
  injection hat with hat
  injection hat with _ hat
  rw [e1, ← hat]
  exact hK
theorem wp_upd3 (hg : o.guard = none) (m x v : Operand) (hop : o.op = Op.mapUpdate 125 m x v) (b : Nat) (o0 o1 o2 : Option Int) (hm : a.eval m = .map (some b)) (hown : own3 w b (MD o0 o1 o2)) (c : Int) (hc : c = 0 ∨ c = 1 ∨ c = 2) (y : Int) (hy : (Lit.int .i64 y).wf = true) (hx : a.eval x = .int .i64 c) (hv : a.eval v = .int .i64 y)
    (hK : ∀ w', own3 w' b (MD (st 0 c (some y) o0) (st 1 c (some y) o1) (st 2 c (some y) o2)) → w.grownBy w' (some b) → wpList Try.prog ops Q rest (a.put o.dst undef) w') : wpList Try.prog ops Q (o :: rest) a w := by
  have hwf : (Lit.int .i64 c).wf = true := by rcases hc with rfl | rfl | rfl <;> decide
  refine wpList_mapUpdate_own w hg m x v 125 hop 3 3 (int_keyed Try.underlying3) Try.underlying125 (plainElem Try.prog 3) b 10 (MD o0 o1 o2) hm hown (by unfold maxLen; omega) _ _ _ hx hv (keyOf_int_mk Try.underlying3 hwf) (.lit (.int .i64 y)) [] (plainElem_int Try.underlying3 hy) ?_
  intro w' h1 h2
  rw [md_put o0 o1 o2 c y hc] at h1
  refine hK w' (own_fit h1 ?_) h2
  have := md_size (st 0 c (some y) o0) (st 1 c (some y) o1) (st 2 c (some y) o2)
  unfold cnt3 at this
  split at this <;> split at this <;> split at this <;> omega
theorem wp_del3 (hg : o.guard = none) (m x : Operand) (hop : o.op = Op.call { callee := Callee.builtin Builtin.delete, args := #[m, x], argTypes := #[125, 3] }) (b : Nat) (o0 o1 o2 : Option Int) (hm : a.eval m = .map (some b)) (hown : own3 w b (MD o0 o1 o2)) (c : Int) (hc : c = 0 ∨ c = 1 ∨ c = 2) (hx : a.eval x = .int .i64 c)
    (hK : ∀ w', own3 w' b (MD (st 0 c none o0) (st 1 c none o1) (st 2 c none o2)) → w.grownBy w' (some b) → wpList Try.prog ops Q rest (a.put o.dst (.tuple #[])) w') : wpList Try.prog ops Q (o :: rest) a w := by
  have hwf : (Lit.int .i64 c).wf = true := by rcases hc with rfl | rfl | rfl <;> decide
  refine wpList_delete_own w hg m x 125 3 hop 3 (int_keyed Try.underlying3) Try.underlying125 (plainElem Try.prog 3) b 10 (MD o0 o1 o2) hm hown _ _ hx (keyOf_int_mk Try.underlying3 hwf) ?_
  intro w' h1 h2
  rw [md_del o0 o1 o2 c hc] at h1
  exact hK w' h1 h2.grown
theorem wp_len3 (hg : o.guard = none) (m : Operand) (hop : o.op = Op.call { callee := Callee.builtin Builtin.len, args := #[m], argTypes := #[125] }) (b : Nat) (o0 o1 o2 : Option Int) (hm : a.eval m = .map (some b)) (hown : own3 w b (MD o0 o1 o2))
    (hK : wpList Try.prog ops Q rest (a.put o.dst (.int .i64 (cnt3 o0 o1 o2))) w) : wpList Try.prog ops Q (o :: rest) a w := by
  refine wpList_len_own w hg m 125 hop 3 3 Try.underlying125 (plainElem Try.prog 3) b 10 (MD o0 o1 o2) hm hown ?_
  rw [md_size]
  exact hK
end
/-- a scan: its groups, its round, its map -/
def Sc (w : World) (s m : Nat) (g r : Int) (o0 o1 o2 : Option Int) : Prop := BX w s 127 #[.int .i64 g, .int .i64 r, .map (some m)] ∧ own3 w m (MD o0 o1 o2) ∧ s ≠ m
theorem Sc.grown {w w' : World} {s m : Nat} {g r : Int} {o0 o1 o2 : Option Int} {x : Option Nat} (h : Sc w s m g r o0 o1 o2) (hw : w.grownBy w' x) (h1 : some s ≠ x) (h2 : some m ≠ x) : Sc w' s m g r o0 o1 o2 :=
  ⟨h.1.grown hw h1, h.2.1.kept hw h2, h.2.2⟩
end Go.Proofs.Ytbhnkdnfmlnajaa
