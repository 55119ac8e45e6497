/- Deep values: regions in the order of the text; holes. -/
import Derived.Test.YtbhnkdnfmlnajaaPy
namespace Go.Proofs.Ytbhnkdnfmlnajaa
open Go Go.RowKit

variable {P : Program} {B : Nat → Nat → Prop} {G : Gh} {w : World} {H Hr : Heap} {o : Oper} {a : Act} {slots : List DV} {d : DV} {e : Eff}

theorem hole_set {k i : Nat} {x : DBlk} (h : H[k]? = some .hole) (hk : k ≠ i) : (H.set i x)[k]? = some .hole := by rw [List.getElem?_set_ne (Ne.symm hk)]; exact h
theorem hole_push {k : Nat} {x : DBlk} (h : H[k]? = some .hole) : (H ++ [x])[k]? = some .hole := by rw [List.getElem?_append_left (List.getElem?_eq_some_iff.1 h).1]; exact h
/-- only an operation that makes a block fills a hole, and its own one -/
theorem evalO_holes {cf : CF} {md : FuncId → CM} {fl nid : Nat} (hcf : CFSound P cf) (h : evalO P cf md fl nid o slots H = some (d, e)) {k : Nat} (hk : H[k]? = some .hole) (hn : k ≠ nid) : (e.heap H)[k]? = some .hole := by
  have q : ∀ {x : Option DV}, qv x = some (d, e) → (e.heap H)[k]? = some .hole := by
    intro x h
    obtain ⟨_, rfl⟩ := qv_some h
    exact hk
  have al : ∀ {et : TypeId} {x : DV}, allocD et x nid = some (d, e) → (e.heap H)[k]? = some .hole := by
    intro et x h
    unfold allocD at h
    split at h
    · cases h; exact hole_set hk hn
    · cases h
  unfold evalO at h
  simp only [] at h
  split at h
  · cases h; exact hk
  · cases h; exact hk
  · exact q h
  · rename_i et _
    cases hz : zeroD P et with
    | none => simp [hz] at h
    | some z => simp only [hz, Option.bind_some] at h; exact al h
  · exact al h
  · split at h
    · split at h
      · exact q h
      · cases h
    · split at h
      · exact q h
      · cases h
    · cases h
  · split at h
    · split at h
      · exact q h
      · cases h
    · cases h
  · split at h
    · unfold loadD at h
      split at h
      · split at h
        · obtain ⟨_, rfl⟩ := rv_some h; exact hk
        · cases h
      · exact q h
      · cases h
    · cases h
  · split at h
    · unfold storeD at h
      split at h
      · split at h
        · rename_i e' cs hc
          split at h
          · cases h
            refine hole_set hk fun e => ?_
            subst e
            rw [hk] at hc; cases hc
          · cases h
        · cases h
      · cases h
    · cases h
  · exact q h
  · exact q h
  · exact q h
  · exact q h
  · split at h
    · cases h
    · cases h; exact hk
    · cases h
  · cases h; exact hk
  · split at h
    · split at h
      · unfold makeD at h
        split at h
        · split at h
          · cases h; exact hole_set hk hn
          · cases h
        · cases h
      · cases h
    · cases h
  · split at h
    · split at h
      · exact q h
      · cases h
    · split at h
      · exact q h
      · cases h
    · cases h
  · split at h
    · split at h
      · split at h
        · exact q h
        · cases h
      · cases h
    · cases h
  · split at h
    · split at h
      · split at h
        · exact q h
        · cases h
      · cases h
    · cases h
  · split at h
    · split at h
      · exact q h
      · cases h
    · split at h
      · exact q h
      · cases h
    · cases h
  · split at h
    · split at h
      · exact q h
      · cases h
    · cases h
  · exact q h
  · unfold callOp at h
    split at h
    · split at h
      · exact q h
      · cases h
    · split at h
      · exact q h
      · cases h
    · split at h
      · split at h
        · split at h
          · split at h
            · split at h
              · unfold appendD at h
                split at h
                · split at h
                  · cases h; exact hk
                  · split at h
                    · split at h
                      · cases h; exact hole_push hk
                      · split at h
                        · rename_i k' _ _ _ hc
                          split at h
                          · cases h
                            refine hole_set hk fun e => ?_
                            subst e
                            rw [hk] at hc; cases hc
                          · cases h
                        · cases h
                      · cases h
                    · cases h
                · cases h
              · cases h
            · cases h
          · cases h
        · cases h
      · cases h
    · split at h
      · split at h
        · split at h
          · unfold copyD at h
            split at h
            · split at h
              · split at h
                · rename_i e' cs hc
                  simp only [] at h
                  split at h
                  · cases h
                    refine hole_set hk fun e => ?_
                    subst e
                    rw [hk] at hc; cases hc
                  · cases h
                · cases h
              · cases h
            · cases h
          · cases h
        · cases h
      · cases h
    · exact q h
    · unfold callV at h
      split at h
      · rename_i g cap _
        unfold callD at h
        split at h
        · cases hm : mapO argEl _ with
          | none => rw [hm] at h; cases h
          | some bs =>
            rw [hm, Option.bind_some] at h
            cases hc : cf g bs [] 0 with
            | none => rw [hc] at h; cases h
            | some r => rw [hc, Option.bind_some] at h; exact q h
        · cases hc : cf g _ H H.length with
          | none => rw [hc] at h; cases h
          | some r =>
            rw [hc, Option.bind_some] at h
            unfold ov at h
            cases ho : oldD H.length r.2 r.1 with
            | none => rw [ho] at h; cases h
            | some d' => rw [ho] at h; cases h; exact hk
        · cases hc : cf g _ H fl with
          | none => rw [hc] at h; cases h
          | some r =>
            obtain ⟨r, H1⟩ := r
            rw [hc, Option.bind_some] at h
            simp only [] at h
            cases ho : oldD H.length H1 r with
            | none => rw [ho] at h; cases h
            | some d' =>
              rw [ho, Option.bind_some] at h
              cases hcut : cutH H.length H1 with
              | none => rw [hcut] at h; cases h
              | some H2 =>
                rw [hcut] at h
                cases h
                have h1 := (hcf _ _ _ _ _ _ hc).2.2 k hk
                have hlt := (List.getElem?_eq_some_iff.1 hk).1
                obtain ⟨y, hy, hf⟩ := (mapO_some hcut).2 k .hole (by rw [List.getElem?_take_of_lt hlt]; exact h1)
                simp only [oldBlk] at hf
                cases hf
                exact hy
        · cases hc : cf g _ H fl with
          | none => rw [hc] at h; cases h
          | some r =>
            obtain ⟨r, H1⟩ := r
            rw [hc] at h
            cases h
            exact (hcf _ _ _ _ _ _ hc).2.2 k hk
      · cases h
    · cases h
  · cases h
/-- one step of a region: the state ahead of it, what is put, what becomes of the heap -/
structure Stp where
  S : St
  nid : Nat
  d : DV
  e : Eff
def StepOk (X : Ctx) (ops : Array Oper) (o : Oper) (s : Stp) : Prop :=
  (wantD ops o s.S.slots = some true ∧ evalO X.P X.cf X.md X.fl s.nid o s.S.slots s.S.heap = some (s.d, s.e)) ∨ (wantD ops o s.S.slots = some false ∧ s.d = .flat undef ∧ s.e = .q)
def nextId (o : Oper) (nid : Nat) : Nat := if isAl o then nid + 1 else nid
def TraceOk (X : Ctx) (ops : Array Oper) : List Oper → Nat → St → List Stp → St → Prop
  | [], _, S, [], S' => S' = S
  | o :: l, nid, S, s :: tr, S' => s.S = S ∧ s.nid = nid ∧ StepOk X ops o s ∧ TraceOk X ops l (nextId o nid) ⟨putD S.slots o.dst s.d, s.e.heap S.heap⟩ tr S'
  | _, _, _, _, _ => False
theorem trace_of {X : Ctx} {ops : Array Oper} {k : List Nat → St → R} {r : DV × Heap} : ∀ (l : List Oper) (nid : Nat) (cs : List Nat) (S : St), opsK X ops l nid cs S k = some r →
    ∃ tr S', TraceOk X ops l nid S tr S' ∧ k ((tr.map fun s => s.e.cls).reverse ++ cs) S' = some r
  | [], nid, cs, S, h => ⟨[], S, rfl, h⟩
  | o :: l, nid, cs, S, h => by
    simp only [opsK, opK] at h
    cases hw : wantD ops o S.slots with
    | none => rw [hw] at h; cases h
    | some b =>
      rw [hw] at h
      cases b with
      | true =>
        simp only [wantE] at h
        cases hv : evalO X.P X.cf X.md X.fl nid o S.slots S.heap with
        | none => rw [hv] at h; cases h
        | some p =>
          rw [hv, Option.bind_some] at h
          obtain ⟨tr, S', ht, hk⟩ := trace_of l _ _ _ h
          refine ⟨⟨S, nid, p.1, p.2⟩ :: tr, S', ⟨rfl, rfl, .inl ⟨hw, hv⟩, ht⟩, ?_⟩
          simpa using hk
      | false =>
        simp only [wantE, Option.bind_some] at h
        obtain ⟨tr, S', ht, hk⟩ := trace_of l _ _ _ h
        refine ⟨⟨S, nid, .flat undef, .q⟩ :: tr, S', ⟨rfl, rfl, .inr ⟨hw, rfl, rfl⟩, ht⟩, ?_⟩
        simpa [Eff.cls] using hk
theorem want_eq {I : Nat → Nat → Prop} {ops : Array Oper} {b : Bool} (h : wantD ops o slots = some b) (hs : SR I w G slots a) : Region.wanted o (yielded ops a.tmps) = b := by
  unfold wantD at h
  unfold Region.wanted
  split at h
  · rename_i hg
    cases h
    simp [hg]
  · rename_i j want hg
    simp only [hg]
    split at h
    · rename_i t ht
      unfold guardD at h
      have key : ∀ v, slots.getD t .any = .flat v → a.tmps[t]? = some v := by
        intro v hv
        cases hd : slots[t]? with
        | none => simp [List.getD, hd] at hv
        | some x =>
          simp [List.getD, hd] at hv
          subst hv
          obtain ⟨v', hv', hr⟩ := hs.2.get t _ hd
          simp only [Rep] at hr
          subst hr
          simpa using hv'
      split at h
      · rename_i b' hb
        cases h
        have := key _ hb
        simp only [yielded, ht, Option.bind_some, this]
        cases b' <;> cases want <;> rfl
      · rename_i x hb
        cases h
        have := key _ hb
        simp only [yielded, ht, Option.bind_some, this]
        rfl
      · cases h
    · cases h
/-- one operation of a region, done -/
theorem step_sound {X : Ctx} {ops : Array Oper} {s : Stp} {i : Nat} (hP : NoOwn X.P) (hcf : CFSound X.P X.cf) (ho : ops[i]? = some o) (hstep : StepOk X ops o s) (hB : ∀ b j, w.heap.size ≤ b → B b j) (hH : HR B G w Hr) (hs : SR (ImmB B G) w G slots a)
    (hw : wantD ops o slots = wantD ops o s.S.slots) (he : evalO X.P X.cf X.md X.fl s.nid o slots s.S.heap = evalO X.P X.cf X.md X.fl s.nid o s.S.slots s.S.heap) (hag : Agree s.e s.S.heap Hr) (hfl : s.e.wr → X.fl ≤ s.S.heap.length) (hnid : X.fl ≤ s.nid)
    {K : Act → World → Prop} {Q : Exit → Act → World → Prop} (h : ∀ V w' G', Keep G w G' w' → HR B G' w' (s.e.heap Hr) → Rep (ImmB B G') w' G' s.d V → K (a.put o.dst V) w') : wpOp X.P ops Q i K a w := by
  unfold wpOp
  simp only [ho]
  rcases hstep with ⟨h1, h2⟩ | ⟨h1, h2, h3⟩
  · rw [want_eq (hw.trans h1) hs, if_pos rfl]
    exact .inl ((op_sound hP hcf (he.trans h2) hB hH hs hag hfl hnid).1 K Q h)
  · rw [want_eq (hw.trans h1) hs]
    simp only [Bool.false_eq_true, if_false]
    refine h undef w G (Keep.refl G w) ?_ ?_
    · rw [h3]; exact hH
    · rw [h2]; simp [Rep]
theorem al_is {cf : CF} {md : FuncId → CM} {fl nid k : Nat} {b : DBlk} (h : evalO P cf md fl nid o slots H = some (d, .al k b)) : k = nid ∧ isAl o = true := by
  have q : ∀ {x : Option DV}, qv x = some (d, .al k b) → k = nid ∧ isAl o = true := by
    intro x h
    obtain ⟨_, h⟩ := qv_some h
    cases h
  have al : ∀ {et : TypeId} {x : DV}, isAl o = true → allocD et x nid = some (d, .al k b) → k = nid ∧ isAl o = true := by
    intro et x ho h
    unfold allocD at h
    split at h
    · cases h; exact ⟨rfl, ho⟩
    · cases h
  cases hop : o.op with
  | alloc et =>
    simp only [evalO, hop] at h
    cases hz : zeroD P et with
    | none => simp [hz] at h
    | some z => simp only [hz, Option.bind_some] at h; exact al (by simp [isAl, hop]) h
  | box et x =>
    simp only [evalO, hop] at h
    exact al (by simp [isAl, hop]) h
  | makeSlice t l c =>
    simp only [evalO, hop] at h
    split at h
    · split at h
      · unfold makeD at h
        split at h
        · split at h
          · cases h; exact ⟨rfl, by simp [isAl, hop]⟩
          · cases h
        · cases h
      · cases h
    · cases h
  | load t x =>
    simp only [evalO, hop] at h
    split at h
    · unfold loadD at h
      split at h
      · split at h
        · obtain ⟨_, h⟩ := rv_some h; cases h
        · cases h
      · exact q h
      · cases h
    · cases h
  | store t x y =>
    simp only [evalO, hop] at h
    split at h
    · unfold storeD at h
      split at h
      · split at h
        · split at h
          · cases h
          · cases h
        · cases h
      · cases h
    · cases h
  | makeInterface t x =>
    simp only [evalO, hop] at h
    split at h <;> cases h
  | call c =>
    simp only [evalO, hop] at h
    unfold callOp at h
    split at h
    · split at h
      · exact q h
      · cases h
    · split at h
      · exact q h
      · cases h
    · split at h
      · split at h
        · split at h
          · split at h
            · split at h
              · unfold appendD at h
                split at h
                · split at h
                  · cases h
                  · split at h
                    · split at h
                      · cases h
                      · split at h
                        · split at h <;> cases h
                        · cases h
                      · cases h
                    · cases h
                · cases h
              · cases h
            · cases h
          · cases h
        · cases h
      · cases h
    · split at h
      · split at h
        · split at h
          · unfold copyD at h
            split at h
            · split at h
              · split at h
                · simp only [] at h
                  split at h <;> cases h
                · cases h
              · cases h
            · cases h
          · cases h
        · cases h
      · cases h
    · exact q h
    · unfold callV at h
      split at h
      · rename_i g cap _
        unfold callD at h
        split at h
        · cases hm : mapO argEl _ with
          | none => rw [hm] at h; cases h
          | some bs =>
            rw [hm, Option.bind_some] at h
            cases hc : cf g bs [] 0 with
            | none => rw [hc] at h; cases h
            | some r => rw [hc, Option.bind_some] at h; exact q h
        · cases hc : cf g _ H H.length with
          | none => rw [hc] at h; cases h
          | some r =>
            rw [hc, Option.bind_some] at h
            unfold ov at h
            cases ho : oldD H.length r.2 r.1 with
            | none => rw [ho] at h; cases h
            | some d' => rw [ho] at h; cases h
        · cases hc : cf g _ H fl with
          | none => rw [hc] at h; cases h
          | some r =>
            obtain ⟨r, H1⟩ := r
            rw [hc, Option.bind_some] at h
            simp only [] at h
            cases ho : oldD H.length H1 r with
            | none => rw [ho] at h; cases h
            | some d' =>
              rw [ho, Option.bind_some] at h
              cases hcut : cutH H.length H1 with
              | none => rw [hcut] at h; cases h
              | some H2 => rw [hcut] at h; cases h
        · cases hc : cf g _ H fl with
          | none => rw [hc] at h; cases h
          | some r => rw [hc] at h; cases h
      · cases h
    · cases h
  | _ =>
    simp only [evalO, hop] at h
    first
      | exact q h
      | cases h
      | (repeat' split at h) <;> first | exact q h | cases h
/-- what an append turns is no cells -/
def TkOk (H H' : Heap) : Prop := ∀ (k : Nat) (t : TypeId) (cs : List DV), H'[k]? = some (.cells t cs) → H[k]? = some (.cells t cs)
theorem tk_push (H : Heap) (e : TypeId) (s n : Nat) : TkOk H (H ++ [.token e s n]) := by
  intro k t cs h
  rcases Nat.lt_or_ge k H.length with hk | hk
  · rwa [List.getElem?_append_left hk] at h
  · rw [List.getElem?_append_right hk] at h
    cases hj : k - H.length with
    | zero => rw [hj] at h; cases h
    | succ j => rw [hj] at h; simp at h
theorem tk_set (H : Heap) (i : Nat) (e : TypeId) (s n : Nat) : TkOk H (H.set i (.token e s n)) := by
  intro k t cs h
  rw [List.getElem?_set] at h
  split at h
  · split at h
    · cases h
    · cases h
  · exact h
theorem tk_cells {cf : CF} {md : FuncId → CM} {fl nid : Nat} {H' : Heap} (h : evalO P cf md fl nid o slots H = some (d, .tk H')) : TkOk H H' := by
  have q : ∀ {x : Option DV}, qv x = some (d, .tk H') → TkOk H H' := by
    intro x h
    obtain ⟨_, h⟩ := qv_some h
    cases h
  have al : ∀ {et : TypeId} {x : DV}, allocD et x nid = some (d, .tk H') → TkOk H H' := by
    intro et x h
    unfold allocD at h
    split at h <;> cases h
  cases hop : o.op with
  | alloc et =>
    simp only [evalO, hop] at h
    cases hz : zeroD P et with
    | none => simp [hz] at h
    | some z => simp only [hz, Option.bind_some] at h; exact al h
  | box et x =>
    simp only [evalO, hop] at h
    exact al h
  | makeSlice t l c =>
    simp only [evalO, hop] at h
    split at h
    · split at h
      · unfold makeD at h
        split at h
        · split at h
          · cases h
          · cases h
        · cases h
      · cases h
    · cases h
  | load t x =>
    simp only [evalO, hop] at h
    split at h
    · unfold loadD at h
      split at h
      · split at h
        · obtain ⟨_, h⟩ := rv_some h; cases h
        · cases h
      · exact q h
      · cases h
    · cases h
  | store t x y =>
    simp only [evalO, hop] at h
    split at h
    · unfold storeD at h
      split at h
      · split at h
        · split at h
          · cases h
          · cases h
        · cases h
      · cases h
    · cases h
  | makeInterface t x =>
    simp only [evalO, hop] at h
    split at h <;> cases h
  | call c =>
    simp only [evalO, hop] at h
    unfold callOp at h
    split at h
    · split at h
      · exact q h
      · cases h
    · split at h
      · exact q h
      · cases h
    · split at h
      · split at h
        · split at h
          · split at h
            · split at h
              · unfold appendD at h
                split at h
                · split at h
                  · cases h; exact fun k t cs hh => hh
                  · split at h
                    · split at h
                      · cases h; exact tk_push _ _ _ _
                      · split at h
                        · split at h
                          · cases h; exact tk_set _ _ _ _ _
                          · cases h
                        · cases h
                      · cases h
                    · cases h
                · cases h
              · cases h
            · cases h
          · cases h
        · cases h
      · cases h
    · split at h
      · split at h
        · split at h
          · unfold copyD at h
            split at h
            · split at h
              · split at h
                · simp only [] at h
                  split at h <;> cases h
                · cases h
              · cases h
            · cases h
          · cases h
        · cases h
      · cases h
    · exact q h
    · unfold callV at h
      split at h
      · rename_i g cap _
        unfold callD at h
        split at h
        · cases hm : mapO argEl _ with
          | none => rw [hm] at h; cases h
          | some bs =>
            rw [hm, Option.bind_some] at h
            cases hc : cf g bs [] 0 with
            | none => rw [hc] at h; cases h
            | some r => rw [hc, Option.bind_some] at h; exact q h
        · cases hc : cf g _ H H.length with
          | none => rw [hc] at h; cases h
          | some r =>
            rw [hc, Option.bind_some] at h
            unfold ov at h
            cases ho : oldD H.length r.2 r.1 with
            | none => rw [ho] at h; cases h
            | some d' => rw [ho] at h; cases h
        · cases hc : cf g _ H fl with
          | none => rw [hc] at h; cases h
          | some r =>
            obtain ⟨r, H1⟩ := r
            rw [hc, Option.bind_some] at h
            simp only [] at h
            cases ho : oldD H.length H1 r with
            | none => rw [ho] at h; cases h
            | some d' =>
              rw [ho, Option.bind_some] at h
              cases hcut : cutH H.length H1 with
              | none => rw [hcut] at h; cases h
              | some H2 => rw [hcut] at h; cases h
        · cases hc : cf g _ H fl with
          | none => rw [hc] at h; cases h
          | some r => rw [hc] at h; cases h
      · cases h
    · cases h
  | _ =>
    simp only [evalO, hop] at h
    first
      | exact q h
      | cases h
      | (repeat' split at h) <;> first | exact q h | cases h
/-- holes ahead of an operation are there behind it, but its own one -/
theorem step_holes {X : Ctx} {ops : Array Oper} {s : Stp} (hcf : CFSound X.P X.cf) (hstep : StepOk X ops o s) {k : Nat} (hk : s.S.heap[k]? = some .hole) (hn : isAl o = true → k ≠ s.nid) : (s.e.heap s.S.heap)[k]? = some .hole := by
  rcases hstep with ⟨_, h2⟩ | ⟨_, _, h3⟩
  · by_cases hkn : k = s.nid
    · have hna : isAl o = false := by
        cases hb : isAl o with
        | true => exact absurd hkn (hn hb)
        | false => rfl
      cases he : s.e with
      | al k' b =>
        rw [he] at h2
        have := (al_is h2).2
        rw [hna] at this; cases this
      | q => exact hk
      | rd => exact hk
      | ro => exact hk
      | ch H' =>
        rw [he] at h2
        -- reckoned with another number the same comes out: the operation makes no block
        have := evalO_holes (nid := s.nid + 1) hcf (d := s.d) (e := .ch H') (o := o) (slots := s.S.slots) (md := X.md) (fl := X.fl) (by
          rw [← h2]
          unfold isAl at hna
          unfold evalO
          cases hop : o.op <;> simp_all) hk (by omega)
        exact this
      | tk H' =>
        rw [he] at h2
        -- reckoned with another number the same comes out: the operation makes no block
        have := evalO_holes (nid := s.nid + 1) hcf (d := s.d) (e := .tk H') (o := o) (slots := s.S.slots) (md := X.md) (fl := X.fl) (by
          rw [← h2]
          unfold isAl at hna
          unfold evalO
          cases hop : o.op <;> simp_all) hk (by omega)
        exact this
    · exact evalO_holes hcf h2 hk hkn
  · rw [h3]; exact hk
end Go.Proofs.Ytbhnkdnfmlnajaa
