/- Deep values: each operation's step is what the machine does (first part: what makes and reads values). -/
import Derived.Test.YtbhnkdnfmlnajaaPm
namespace Go.Proofs.Ytbhnkdnfmlnajaa
open Go Go.RowKit

variable {P : Program}
theorem pureRun_run {α : Type} (s : Sem α) : ∀ (x : α), pureRun P s = some x → ∀ w, s.run P w = .ok x w := by
  induction s with
  | pure a => intro x h w; simp only [pureRun] at h; cases h; rfl
  | program k ih => intro x h w; simp only [pureRun] at h; exact ih P x h w
  | mark m k ih => intro x h w; simp only [pureRun] at h; exact ih x h w
  | _ => intro x h w; simp [pureRun] at h
theorem pureV_run {s : Sem Value} {d : DV} (h : pureV P s = some d) : ∃ v, d = ofVal v ∧ ∀ w, s.run P w = .ok v w := by
  unfold pureV at h
  cases hs : pureRun P s with
  | none => simp [hs] at h
  | some v => simp [hs] at h; exact ⟨v, h.symm, fun w => pureRun_run s v hs w⟩
theorem mapO_some {α β : Type} {f : α → Option β} : ∀ {l : List α} {r : List β}, mapO f l = some r → r.length = l.length ∧ ∀ (i : Nat) (x : α), l[i]? = some x → ∃ y, r[i]? = some y ∧ f x = some y
  | [], r, h => by simp only [mapO] at h; cases h; simp
  | x :: l, r, h => by
    simp only [mapO] at h
    split at h
    · rename_i y hy
      split at h
      · rename_i r' hr
        cases h
        obtain ⟨h1, h2⟩ := mapO_some hr
        refine ⟨by simp [h1], fun i z hz => ?_⟩
        cases i with
        | zero => simp at hz; subst hz; exact ⟨y, rfl, hy⟩
        | succ i => simpa using h2 i z (by simpa using hz)
      · cases h
    · cases h
section
variable {I : Nat → Nat → Prop} {w : World} {G : Gh}
theorem rep_flatV {d : DV} {v V : Value} (h : flatV d = some v) (k : Rep I w G d V) : V = v := by
  unfold flatV at h
  split at h
  · cases h; simpa only [Rep] using k
  · cases h
theorem rep_toVal {d : DV} {v V : Value} (h : toVal d = some v) (k : Rep I w G d V) : V = v := by
  unfold toVal at h
  split at h
  · cases h; simpa only [Rep] using k
  · rename_i cs
    cases hm : mapO flatV cs with
    | none => simp [hm] at h
    | some vs =>
      simp [hm] at h
      subst h
      simp only [Rep] at k
      obtain ⟨us, rfl, k⟩ := k
      congr 1
      apply Array.ext'
      obtain ⟨h1, h2⟩ := mapO_some hm
      refine List.ext_getElem? fun i => ?_
      cases hc : cs[i]? with
      | none =>
        have := List.getElem?_eq_none_iff.1 hc
        rw [List.getElem?_eq_none (by rw [k.length]; exact this), List.getElem?_eq_none (by simp [h1]; exact this)]
      | some d =>
        obtain ⟨v, hv, hr⟩ := k.get i d hc
        obtain ⟨y, hy, hf⟩ := h2 i d hc
        rw [hv]; simp only [hy]
        rw [rep_flatV hf hr]
  · cases h
theorem Rep.nil {d : DV} {V : Value} (h : Rep I w [] d V) : Rep I w G d V := Rep.stay (fun _ _ _ hi hc => ⟨hc, hi⟩) (Evol.nil G) d V h
theorem RepL.nil' {d : List DV} {V : List Value} (h : RepL I w [] d V) : RepL I w G d V := RepL.stay (fun _ _ _ hi hc => ⟨hc, hi⟩) (Evol.nil G) d V h
/-- a leaf is one cell -/
theorem rep_leaf {d : DV} {V : Value} (h : d.leaf = true) (k : Rep I w G d V) : isOne V = true := by
  cases d with
  | flat v => simp only [Rep] at k; subst k; exact h
  | list sz xs t => simp only [Rep] at k; obtain ⟨A, c, rfl, _⟩ := k; rfl
  | ptr k' off => simp only [Rep] at k; obtain ⟨b, _, rfl⟩ := k; rfl
  | row ag sz k' off n c => simp only [Rep] at k; obtain ⟨b, _, rfl⟩ := k; rfl
  | elem x off => simp only [Rep] at k; obtain ⟨_, b, o, E, rfl, _⟩ := k; rfl
  | clo fn f c => simp only [Rep] at k; obtain ⟨f, c, rfl, _⟩ := k; rfl
  | iface t d => simp only [Rep] at k; obtain ⟨v, rfl, _⟩ := k; rfl
  | any => simp [DV.leaf] at h
  | agg cs => simp [DV.leaf] at h
  | tup cs => simp [DV.leaf] at h
theorem isOne_cells {V : Value} (h : isOne V = true) : V.cells = #[V] := by cases V <;> simp_all [isOne, Value.cells]
theorem rep_cells {d : DV} {V : Value} (h : d.cells.all DV.leaf = true) (k : Rep I w G d V) : RepL I w G d.cells V.cells.toList ∧ ∀ v ∈ V.cells.toList, isOne v = true := by
  have key : ∀ d : DV, d.leaf = true → d.cells = [d] → Rep I w G d V → RepL I w G d.cells V.cells.toList ∧ ∀ v ∈ V.cells.toList, isOne v = true := by
    intro d hl hc k
    have h1 := rep_leaf hl k
    rw [hc, isOne_cells h1]
    refine ⟨?_, by simpa using h1⟩
    simp only [RepL]
    exact ⟨V, [], rfl, k, rfl⟩
  cases d with
  | agg cs =>
    simp only [Rep] at k
    obtain ⟨vs, rfl, k⟩ := k
    refine ⟨k, fun v hv => ?_⟩
    obtain ⟨i, hi⟩ := List.mem_iff_getElem?.1 hv
    have hlt : i < cs.length := by rw [← k.length]; exact (List.getElem?_eq_some_iff.1 hi).1
    obtain ⟨v', hv', hr⟩ := k.get i _ (List.getElem?_eq_getElem hlt)
    simp only [Value.cells] at hi
    rw [hv'] at hi; cases hi
    refine rep_leaf ?_ hr
    simp only [DV.cells, List.all_eq_true] at h
    exact h _ (List.getElem_mem hlt)
  | any => simp [DV.cells, DV.leaf] at h
  | tup cs => simp [DV.cells, DV.leaf] at h
  | flat v => exact key _ (by simpa [DV.cells] using h) rfl k
  | list sz xs t => exact key _ rfl rfl k
  | ptr k' off => exact key _ rfl rfl k
  | row ag sz k' off n c => exact key _ rfl rfl k
  | elem x off => exact key _ rfl rfl k
  | clo fn f c => exact key _ rfl rfl k
  | iface t d => exact key _ rfl rfl k
end
/-- what is to be shown of an operation -/
def OpOk (P : Program) (B : Nat → Nat → Prop) (G : Gh) (w : World) (Hr : Heap) (o : Oper) (a : Act) (d : DV) (e : Eff) : Prop :=
  ∀ (K : Act → World → Prop) (Q : Exit → Act → World → Prop),
    (∀ V w' G', Keep G w G' w' → HR B G' w' (e.heap Hr) → Rep (ImmB B G') w' G' d V → K (a.put o.dst V) w') → o.wp P a w K Q
section
variable {B : Nat → Nat → Prop} {G G' : Gh} {w w' : World} {Hr : Heap} {o : Oper} {a : Act} {d : DV} {e : Eff} {V : Value}
theorem OpOk.val (hrun : (execOp a.eval o).run P w = .ok (.value V) w') (hK : Keep G w G' w') (hH : HR B G' w' (e.heap Hr)) (hd : Rep (ImmB B G') w' G' d V) : OpOk P B G w Hr o a d e := by
  intro K Q h
  unfold Oper.wp
  rw [hrun]
  exact h V w' G' hK hH hd
theorem OpOk.skip (hrun : (execOp a.eval o).run P w = .ok .skip w') (hK : Keep G w G' w') (hH : HR B G' w' (e.heap Hr)) : OpOk P B G w Hr o a (.flat undef) e := by
  intro K Q h
  unfold Oper.wp
  rw [hrun]
  exact h undef w' G' hK hH (by simp [Rep])
theorem OpOk.still (hH : HR B G w Hr) (hrun : (execOp a.eval o).run P w = .ok (.value V) w) (hd : Rep (ImmB B G) w G d V) (he : e.heap Hr = Hr) : OpOk P B G w Hr o a d e :=
  OpOk.val hrun (Keep.refl G w) (he.symm ▸ hH) hd
end
theorem qv_some {x : Option DV} {d : DV} {e : Eff} (h : qv x = some (d, e)) : x = some d ∧ e = .q := by
  unfold qv at h
  cases x with
  | none => simp at h
  | some y => simp at h; exact ⟨by rw [h.1], h.2.symm⟩
theorem rv_some {x : Option DV} {d : DV} {e : Eff} (h : rv x = some (d, e)) : x = some d ∧ e = .rd := by
  unfold rv at h
  cases x with
  | none => simp at h
  | some y => simp at h; exact ⟨by rw [h.1], h.2.symm⟩
theorem aggSz_some {t : TypeId} {ag : Bool} {sz : Nat} (h : aggSz P t = some (ag, sz)) : ∃ i, P.info? t = some i ∧ i.size = sz ∧ ∀ w, (isAgg t).run P w = .ok ag w := by
  unfold aggSz at h
  split at h
  · rename_i d i hu hi
    injection h with h
    injection h with h1 h2
    refine ⟨i, hi, h2, fun w => ?_⟩
    unfold isAgg
    simp only [Sem.run_bind, run_underlying hu, Result.andThen_ok]
    cases d <;> simp_all
  · cases h
theorem size_run {t : TypeId} {i : TypeInfo} (h : P.info? t = some i) (w : World) : (sizeOf t).run P w = .ok i.size w := by
  simp [sizeOf, run_typeInfo w h]
theorem zeroD_some {t : TypeId} {d : DV} (h : zeroD P t = some d) : ∃ z, d = ofVal1 z ∧ ∀ w, (zeroValue t).run P w = .ok z w := by
  unfold zeroD at h
  cases hi : P.info? t with
  | none => simp [hi] at h
  | some i =>
    simp only [hi, Option.bind_some] at h
    cases hz : i.zero with
    | none => simp [hz] at h
    | some z =>
      simp [hz] at h
      exact ⟨z, h.symm, fun w => by simp [zeroValue, run_typeInfo w hi, hz]⟩
theorem addr_at (b o j : Nat) : (⟨b, o, none⟩ : Addr).add j = ⟨b, o + j, none⟩ := by
  unfold Addr.add; split <;> simp_all
theorem loadCells_run {w : World} {b o n : Nat} {vs : List Value} (hn : vs.length = n) (h : ∀ (j : Nat) (v : Value), vs[j]? = some v → w.cell? ⟨b, o + j, none⟩ = some v) : (loadCells ⟨b, o, none⟩ n).run P w = .ok vs.toArray w := by
  subst hn
  exact run_loadCells_list w _ vs fun j v hj => by rw [addr_at]; exact h j v hj
/-- a value is loaded out of cells -/
theorem loadVar_run {w : World} {I : Nat → Nat → Prop} {G : Gh} {t : TypeId} {ag : Bool} {sz b o off : Nat} {cs : List DV} {vs : List Value} {d : DV} (ht : aggSz P t = some (ag, sz))
    (hr : RepL I w G cs vs) (hc : ∀ (j : Nat) (v : Value), vs[j]? = some v → w.cell? ⟨b, o + j, none⟩ = some v) (hp : partD ag sz off cs = some d) :
    ∃ V, (loadVar t ⟨b, o + off, none⟩).run P w = .ok V w ∧ Rep I w G d V := by
  obtain ⟨i, hi, rfl, hag⟩ := aggSz_some ht
  unfold loadVar
  simp only [Sem.run_bind, hag, Result.andThen_ok]
  cases ag with
  | false =>
    simp only [partD, Bool.false_eq_true, if_false] at hp ⊢
    obtain ⟨v, hv, hd⟩ := hr.get off d hp
    refine ⟨v, ?_, hd⟩
    have := hc off v hv
    simp [this]
  | true =>
    simp only [partD, if_true] at hp ⊢
    split at hp
    · rename_i hle
      cases hp
      simp only [Sem.run_bind, size_run hi, Result.andThen_ok]
      rw [loadCells_run (vs := (vs.drop off).take i.size) (by simp [hr.length]; omega)]
      · refine ⟨_, rfl, ?_⟩
        simp only [Rep]
        exact ⟨_, rfl, by simpa using (hr.drop off).take i.size⟩
      · intro j v hj
        have : vs[off + j]? = some v := by
          rw [List.getElem?_take] at hj
          split at hj
          · rwa [List.getElem?_drop] at hj
          · cases hj
        rw [Nat.add_assoc]
        exact hc _ v this
    · cases hp
theorem cells_at {w : World} {b : Nat} {C : Array Value} {e : TypeId} {f : Nat × Nat} (h : w.heap[b]? = some (.cells C e f)) (j : Nat) (v : Value) (hv : C.toList[j]? = some v) : w.cell? ⟨b, 0 + j, none⟩ = some v := by
  simp only [World.cell?, h, Nat.zero_add]
  simpa using hv
/-- how the heap that an operation was reckoned with is to the heap that it meets -/
def Agree (e : Eff) (H Hr : Heap) : Prop :=
  match e with
  | .q => True
  | .rd => ∀ (k : Nat) (t : TypeId) (cs : List DV), H[k]? = some (.cells t cs) → Hr[k]? = some (.cells t cs) ∨ Hr[k]? = some .hole
  | .ro => Hr = H
  | .ch _ => Hr = H
  | .tk _ => Hr = H
  | .al k _ => Hr[k]? = some .hole
theorem Agree.refl_rd (H : Heap) : Agree .rd H H := fun _ _ _ h => .inl h
end Go.Proofs.Ytbhnkdnfmlnajaa
