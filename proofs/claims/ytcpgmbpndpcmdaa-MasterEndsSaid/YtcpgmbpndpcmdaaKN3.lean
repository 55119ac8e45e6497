/- Texts of mine, laid together: Pz, Pd, Pe, Pf, Pg, Pk, Pl, Pn. -/
import Derived.Test.YtcpgmbpndpcmdaaKN2
namespace Go.Proofs.Ytcpgmbpndpcmdaa
open Go Go.RowKit
variable {P : Program} {B : Nat → Nat → Prop} {G : Gh} {w : World} {H Hr : Heap} {o : Oper} {a : Act} {slots : List DV} {d : DV} {e : Eff}
theorem hole_set {k i : Nat} {x : DBlk} (h : H[k]? = some .hole) (hk : k ≠ i) : (H.set i x)[k]? = some .hole := by rw [List.getElem?_set_ne (Ne.symm hk)]; exact h
theorem hole_push {k : Nat} {x : DBlk} (h : H[k]? = some .hole) : (H ++ [x])[k]? = some .hole := by rw [List.getElem?_append_left (List.getElem?_eq_some_iff.1 h).1]; exact h
theorem evalO_holes {cf : CF} {md : FuncId → CM} {fl nid : Nat} (hcf : CFSound P cf) (h : evalO P cf md fl nid o slots H = some (d, e)) {k : Nat} (hk : H[k]? = some .hole) (hn : k ≠ nid) : (e.heap H)[k]? = some .hole := by
  have q : ∀ {x : Option DV}, qv x = some (d, e) → (e.heap H)[k]? = some .hole := by
    intro x h
    obtain ⟨_, rfl⟩ := qv_some h
    exact hk
  have al : ∀ {et : TypeId} {x : DV}, allocD et x nid = some (d, e) → (e.heap H)[k]? = some .hole := by
    intro et x h
    unfold allocD at h
    split at h
    · cases h; exact hole_set hk hn
    · cases h
  unfold evalO at h
  simp only [] at h
  split at h
  · cases h; exact hk
  · cases h; exact hk
  · exact q h
  · rename_i et _
    cases hz : zeroD P et with
    | none => simp [hz] at h
    | some z => simp only [hz, Option.bind_some] at h; exact al h
  · split at h
    · exact q h
    · exact al h
  · split at h
    · split at h
      · exact q h
      · cases h
    · split at h
      · exact q h
      · cases h
    · cases h
  · split at h
    · split at h
      · exact q h
      · cases h
    · cases h
  · split at h
    · unfold loadD at h
      split at h
      · split at h
        · obtain ⟨_, rfl⟩ := rv_some h; exact hk
        · cases h
      · exact q h
      · cases h
    · cases h
  · split at h
    · unfold storeD at h
      split at h
      · split at h
        · rename_i e' cs hc
          split at h
          · cases h
            refine hole_set hk fun e => ?_
            subst e
            rw [hk] at hc; cases hc
          · cases h
        · cases h
      · cases h
    · cases h
  · exact q h
  · exact q h
  · exact q h
  · exact q h
  · split at h
    · cases h
    · cases h; exact hk
    · cases h
  · cases h; exact hk
  · split at h
    · split at h
      · unfold makeD at h
        split at h
        · split at h
          · cases h; exact hole_set hk hn
          · cases h
        · cases h
      · cases h
    · cases h
  · split at h
    · split at h
      · exact q h
      · cases h
    · split at h
      · exact q h
      · cases h
    · cases h
  · split at h
    · split at h
      · split at h
        · exact q h
        · cases h
      · cases h
    · cases h
  · split at h
    · split at h
      · split at h
        · exact q h
        · cases h
      · cases h
    · cases h
  · split at h
    · split at h
      · exact q h
      · cases h
    · split at h
      · exact q h
      · cases h
    · cases h
  · split at h
    · split at h
      · exact q h
      · cases h
    · cases h
  · exact q h
  · unfold callOp at h
    split at h
    · split at h
      · exact q h
      · cases h
    · split at h
      · exact q h
      · cases h
    · split at h
      · split at h
        · split at h
          · split at h
            · split at h
              · unfold appendD at h
                split at h
                · split at h
                  · cases h; exact hk
                  · split at h
                    · split at h
                      · cases h; exact hole_push hk
                      · split at h
                        · rename_i k' _ _ _ hc
                          split at h
                          · cases h
                            refine hole_set hk fun e => ?_
                            subst e
                            rw [hk] at hc; cases hc
                          · cases h
                        · cases h
                      · cases h
                    · cases h
                · cases h
              · cases h
            · cases h
          · cases h
        · cases h
      · cases h
    · split at h
      · split at h
        · split at h
          · unfold copyD at h
            split at h
            · split at h
              · split at h
                · rename_i e' cs hc
                  simp only [] at h
                  split at h
                  · cases h
                    refine hole_set hk fun e => ?_
                    subst e
                    rw [hk] at hc; cases hc
                  · cases h
                · cases h
              · cases h
            · cases h
          · cases h
        · cases h
      · cases h
    · exact q h
    · obtain ⟨g, as_, h⟩ := callV_eq h
      · unfold callD at h
        split at h
        · cases hm : mapO argEl _ with
          | none => rw [hm] at h; cases h
          | some bs =>
            rw [hm, Option.bind_some] at h
            cases hc : cf g bs [] 0 with
            | none => rw [hc] at h; cases h
            | some r => rw [hc, Option.bind_some] at h; exact q h
        · cases hc : cf g _ H H.length with
          | none => rw [hc] at h; cases h
          | some r =>
            rw [hc, Option.bind_some] at h
            unfold ov at h
            cases ho : oldD H.length r.2 r.1 with
            | none => rw [ho] at h; cases h
            | some d' => rw [ho] at h; cases h; exact hk
        · cases hc : cf g _ H fl with
          | none => rw [hc] at h; cases h
          | some r =>
            obtain ⟨r, H1⟩ := r
            rw [hc, Option.bind_some] at h
            simp only [] at h
            cases ho : oldD H.length H1 r with
            | none => rw [ho] at h; cases h
            | some d' =>
              rw [ho, Option.bind_some] at h
              cases hcut : cutH H.length H1 with
              | none => rw [hcut] at h; cases h
              | some H2 =>
                rw [hcut] at h
                cases h
                have h1 := (hcf _ _ _ _ _ _ hc).2.2 k hk
                have hlt := (List.getElem?_eq_some_iff.1 hk).1
                obtain ⟨y, hy, hf⟩ := (mapO_some hcut).2 k .hole (by rw [List.getElem?_take_of_lt hlt]; exact h1)
                simp only [oldBlk] at hf
                cases hf
                exact hy
        · cases hc : cf g _ H fl with
          | none => rw [hc] at h; cases h
          | some r =>
            obtain ⟨r, H1⟩ := r
            rw [hc] at h
            cases h
            exact (hcf _ _ _ _ _ _ hc).2.2 k hk
    · cases h
  · cases h
structure Stp where
  S : St
  nid : Nat
  d : DV
  e : Eff
def StepOk (X : Ctx) (ops : Array Oper) (o : Oper) (s : Stp) : Prop :=
  (wantD ops o s.S.slots = some true ∧ evalO X.P X.cf X.md X.fl s.nid o s.S.slots s.S.heap = some (s.d, s.e)) ∨ (wantD ops o s.S.slots = some false ∧ s.d = .flat undef ∧ s.e = .q)
def nextId (o : Oper) (nid : Nat) : Nat := if isAl o then nid + 1 else nid
def TraceOk (X : Ctx) (ops : Array Oper) : List Oper → Nat → St → List Stp → St → Prop
  | [], _, S, [], S' => S' = S
  | o :: l, nid, S, s :: tr, S' => s.S = S ∧ s.nid = nid ∧ StepOk X ops o s ∧ TraceOk X ops l (nextId o nid) ⟨putD S.slots o.dst s.d, s.e.heap S.heap⟩ tr S'
  | _, _, _, _, _ => False
theorem trace_of {X : Ctx} {ops : Array Oper} {k : List Nat → St → R} {r : DV × Heap} : ∀ (l : List Oper) (nid : Nat) (cs : List Nat) (S : St), opsK X ops l nid cs S k = some r →
    ∃ tr S', TraceOk X ops l nid S tr S' ∧ k ((tr.map fun s => s.e.cls).reverse ++ cs) S' = some r
  | [], nid, cs, S, h => ⟨[], S, rfl, h⟩
  | o :: l, nid, cs, S, h => by
    simp only [opsK, opK] at h
    cases hw : wantD ops o S.slots with
    | none => rw [hw] at h; cases h
    | some b =>
      rw [hw] at h
      cases b with
      | true =>
        simp only [wantE] at h
        cases hv : evalO X.P X.cf X.md X.fl nid o S.slots S.heap with
        | none => rw [hv] at h; cases h
        | some p =>
          rw [hv, Option.bind_some] at h
          obtain ⟨tr, S', ht, hk⟩ := trace_of l _ _ _ h
          refine ⟨⟨S, nid, p.1, p.2⟩ :: tr, S', ⟨rfl, rfl, .inl ⟨hw, hv⟩, ht⟩, ?_⟩
          simpa using hk
      | false =>
        simp only [wantE, Option.bind_some] at h
        obtain ⟨tr, S', ht, hk⟩ := trace_of l _ _ _ h
        refine ⟨⟨S, nid, .flat undef, .q⟩ :: tr, S', ⟨rfl, rfl, .inr ⟨hw, rfl, rfl⟩, ht⟩, ?_⟩
        simpa [Eff.cls] using hk
theorem want_eq {I : Nat → Nat → Prop} {ops : Array Oper} {b : Bool} (h : wantD ops o slots = some b) (hs : SR I w G slots a) : Region.wanted o (yielded ops a.tmps) = b := by
  unfold wantD at h
  unfold Region.wanted
  split at h
  · rename_i hg
    cases h
    simp [hg]
  · rename_i j want hg
    simp only [hg]
    split at h
    · rename_i t ht
      unfold guardD at h
      have key : ∀ v, slots.getD t .any = .flat v → a.tmps[t]? = some v := by
        intro v hv
        cases hd : slots[t]? with
        | none => simp [List.getD, hd] at hv
        | some x =>
          simp [List.getD, hd] at hv
          subst hv
          obtain ⟨v', hv', hr⟩ := hs.2.get t _ hd
          simp only [Rep] at hr
          subst hr
          simpa using hv'
      split at h
      · rename_i b' hb
        cases h
        have := key _ hb
        simp only [yielded, ht, Option.bind_some, this]
        cases b' <;> cases want <;> rfl
      · rename_i x hb
        cases h
        have := key _ hb
        simp only [yielded, ht, Option.bind_some, this]
        rfl
      · cases h
    · cases h
theorem step_sound {X : Ctx} {ops : Array Oper} {s : Stp} {i : Nat} (hP : NoOwn X.P) (hcf : CFSound X.P X.cf) (ho : ops[i]? = some o) (hstep : StepOk X ops o s) (hB : ∀ b j, w.heap.size ≤ b → B b j) (hH : HR B G w Hr) (hs : SR (ImmB B G) w G slots a)
    (hw : wantD ops o slots = wantD ops o s.S.slots) (he : evalO X.P X.cf X.md X.fl s.nid o slots s.S.heap = evalO X.P X.cf X.md X.fl s.nid o s.S.slots s.S.heap) (hag : Agree s.e s.S.heap Hr) (hfl : s.e.wr → X.fl ≤ s.S.heap.length) (hnid : X.fl ≤ s.nid)
    {K : Act → World → Prop} {Q : Exit → Act → World → Prop} (h : ∀ V w' G', Keep G w G' w' → HR B G' w' (s.e.heap Hr) → Rep (ImmB B G') w' G' s.d V → K (a.put o.dst V) w') : wpOp X.P ops Q i K a w := by
  unfold wpOp
  simp only [ho]
  rcases hstep with ⟨h1, h2⟩ | ⟨h1, h2, h3⟩
  · rw [want_eq (hw.trans h1) hs, if_pos rfl]
    exact .inl ((op_sound hP hcf (he.trans h2) hB hH hs hag hfl hnid).1 K Q h)
  · rw [want_eq (hw.trans h1) hs]
    simp only [Bool.false_eq_true, if_false]
    refine h undef w G (Keep.refl G w) ?_ ?_
    · rw [h3]; exact hH
    · rw [h2]; simp [Rep]
theorem al_is {cf : CF} {md : FuncId → CM} {fl nid k : Nat} {b : DBlk} (h : evalO P cf md fl nid o slots H = some (d, .al k b)) : k = nid ∧ isAl o = true := by
  have q : ∀ {x : Option DV}, qv x = some (d, .al k b) → k = nid ∧ isAl o = true := by
    intro x h
    obtain ⟨_, h⟩ := qv_some h
    cases h
  have al : ∀ {et : TypeId} {x : DV}, isAl o = true → allocD et x nid = some (d, .al k b) → k = nid ∧ isAl o = true := by
    intro et x ho h
    unfold allocD at h
    split at h
    · cases h; exact ⟨rfl, ho⟩
    · cases h
  cases hop : o.op with
  | alloc et =>
    simp only [evalO, hop] at h
    cases hz : zeroD P et with
    | none => simp [hz] at h
    | some z => simp only [hz, Option.bind_some] at h; exact al (by simp [isAl, hop]) h
  | box et x =>
    simp only [evalO, hop] at h
    split at h
    · exact q h
    · exact al (by simp [isAl, hop]) h
  | makeSlice t l c =>
    simp only [evalO, hop] at h
    split at h
    · split at h
      · unfold makeD at h
        split at h
        · split at h
          · cases h; exact ⟨rfl, by simp [isAl, hop]⟩
          · cases h
        · cases h
      · cases h
    · cases h
  | load t x =>
    simp only [evalO, hop] at h
    split at h
    · unfold loadD at h
      split at h
      · split at h
        · obtain ⟨_, h⟩ := rv_some h; cases h
        · cases h
      · exact q h
      · cases h
    · cases h
  | store t x y =>
    simp only [evalO, hop] at h
    split at h
    · unfold storeD at h
      split at h
      · split at h
        · split at h
          · cases h
          · cases h
        · cases h
      · cases h
    · cases h
  | makeInterface t x =>
    simp only [evalO, hop] at h
    split at h <;> cases h
  | call c =>
    simp only [evalO, hop] at h
    unfold callOp at h
    split at h
    · split at h
      · exact q h
      · cases h
    · split at h
      · exact q h
      · cases h
    · split at h
      · split at h
        · split at h
          · split at h
            · split at h
              · unfold appendD at h
                split at h
                · split at h
                  · cases h
                  · split at h
                    · split at h
                      · cases h
                      · split at h
                        · split at h <;> cases h
                        · cases h
                      · cases h
                    · cases h
                · cases h
              · cases h
            · cases h
          · cases h
        · cases h
      · cases h
    · split at h
      · split at h
        · split at h
          · unfold copyD at h
            split at h
            · split at h
              · split at h
                · simp only [] at h
                  split at h <;> cases h
                · cases h
              · cases h
            · cases h
          · cases h
        · cases h
      · cases h
    · exact q h
    · obtain ⟨g, as_, h⟩ := callV_eq h
      · unfold callD at h
        split at h
        · cases hm : mapO argEl _ with
          | none => rw [hm] at h; cases h
          | some bs =>
            rw [hm, Option.bind_some] at h
            cases hc : cf g bs [] 0 with
            | none => rw [hc] at h; cases h
            | some r => rw [hc, Option.bind_some] at h; exact q h
        · cases hc : cf g _ H H.length with
          | none => rw [hc] at h; cases h
          | some r =>
            rw [hc, Option.bind_some] at h
            unfold ov at h
            cases ho : oldD H.length r.2 r.1 with
            | none => rw [ho] at h; cases h
            | some d' => rw [ho] at h; cases h
        · cases hc : cf g _ H fl with
          | none => rw [hc] at h; cases h
          | some r =>
            obtain ⟨r, H1⟩ := r
            rw [hc, Option.bind_some] at h
            simp only [] at h
            cases ho : oldD H.length H1 r with
            | none => rw [ho] at h; cases h
            | some d' =>
              rw [ho, Option.bind_some] at h
              cases hcut : cutH H.length H1 with
              | none => rw [hcut] at h; cases h
              | some H2 => rw [hcut] at h; cases h
        · cases hc : cf g _ H fl with
          | none => rw [hc] at h; cases h
          | some r => rw [hc] at h; cases h
    · cases h
  | _ =>
    simp only [evalO, hop] at h
    first
      | exact q h
      | cases h
      | (repeat' split at h) <;> first | exact q h | cases h
def TkOk (H H' : Heap) : Prop := ∀ (k : Nat) (t : TypeId) (cs : List DV), H'[k]? = some (.cells t cs) → H[k]? = some (.cells t cs)
theorem tk_push (H : Heap) (e : TypeId) (s n : Nat) : TkOk H (H ++ [.token e s n]) := by
  intro k t cs h
  rcases Nat.lt_or_ge k H.length with hk | hk
  · rwa [List.getElem?_append_left hk] at h
  · rw [List.getElem?_append_right hk] at h
    cases hj : k - H.length with
    | zero => rw [hj] at h; cases h
    | succ j => rw [hj] at h; simp at h
theorem tk_set (H : Heap) (i : Nat) (e : TypeId) (s n : Nat) : TkOk H (H.set i (.token e s n)) := by
  intro k t cs h
  rw [List.getElem?_set] at h
  split at h
  · split at h
    · cases h
    · cases h
  · exact h
theorem tk_cells {cf : CF} {md : FuncId → CM} {fl nid : Nat} {H' : Heap} (h : evalO P cf md fl nid o slots H = some (d, .tk H')) : TkOk H H' := by
  have q : ∀ {x : Option DV}, qv x = some (d, .tk H') → TkOk H H' := by
    intro x h
    obtain ⟨_, h⟩ := qv_some h
    cases h
  have al : ∀ {et : TypeId} {x : DV}, allocD et x nid = some (d, .tk H') → TkOk H H' := by
    intro et x h
    unfold allocD at h
    split at h <;> cases h
  cases hop : o.op with
  | alloc et =>
    simp only [evalO, hop] at h
    cases hz : zeroD P et with
    | none => simp [hz] at h
    | some z => simp only [hz, Option.bind_some] at h; exact al h
  | box et x =>
    simp only [evalO, hop] at h
    split at h
    · exact q h
    · exact al h
  | makeSlice t l c =>
    simp only [evalO, hop] at h
    split at h
    · split at h
      · unfold makeD at h
        split at h
        · split at h
          · cases h
          · cases h
        · cases h
      · cases h
    · cases h
  | load t x =>
    simp only [evalO, hop] at h
    split at h
    · unfold loadD at h
      split at h
      · split at h
        · obtain ⟨_, h⟩ := rv_some h; cases h
        · cases h
      · exact q h
      · cases h
    · cases h
  | store t x y =>
    simp only [evalO, hop] at h
    split at h
    · unfold storeD at h
      split at h
      · split at h
        · split at h
          · cases h
          · cases h
        · cases h
      · cases h
    · cases h
  | makeInterface t x =>
    simp only [evalO, hop] at h
    split at h <;> cases h
  | call c =>
    simp only [evalO, hop] at h
    unfold callOp at h
    split at h
    · split at h
      · exact q h
      · cases h
    · split at h
      · exact q h
      · cases h
    · split at h
      · split at h
        · split at h
          · split at h
            · split at h
              · unfold appendD at h
                split at h
                · split at h
                  · cases h; exact fun k t cs hh => hh
                  · split at h
                    · split at h
                      · cases h; exact tk_push _ _ _ _
                      · split at h
                        · split at h
                          · cases h; exact tk_set _ _ _ _ _
                          · cases h
                        · cases h
                      · cases h
                    · cases h
                · cases h
              · cases h
            · cases h
          · cases h
        · cases h
      · cases h
    · split at h
      · split at h
        · split at h
          · unfold copyD at h
            split at h
            · split at h
              · split at h
                · simp only [] at h
                  split at h <;> cases h
                · cases h
              · cases h
            · cases h
          · cases h
        · cases h
      · cases h
    · exact q h
    · obtain ⟨g, as_, h⟩ := callV_eq h
      · unfold callD at h
        split at h
        · cases hm : mapO argEl _ with
          | none => rw [hm] at h; cases h
          | some bs =>
            rw [hm, Option.bind_some] at h
            cases hc : cf g bs [] 0 with
            | none => rw [hc] at h; cases h
            | some r => rw [hc, Option.bind_some] at h; exact q h
        · cases hc : cf g _ H H.length with
          | none => rw [hc] at h; cases h
          | some r =>
            rw [hc, Option.bind_some] at h
            unfold ov at h
            cases ho : oldD H.length r.2 r.1 with
            | none => rw [ho] at h; cases h
            | some d' => rw [ho] at h; cases h
        · cases hc : cf g _ H fl with
          | none => rw [hc] at h; cases h
          | some r =>
            obtain ⟨r, H1⟩ := r
            rw [hc, Option.bind_some] at h
            simp only [] at h
            cases ho : oldD H.length H1 r with
            | none => rw [ho] at h; cases h
            | some d' =>
              rw [ho, Option.bind_some] at h
              cases hcut : cutH H.length H1 with
              | none => rw [hcut] at h; cases h
              | some H2 => rw [hcut] at h; cases h
        · cases hc : cf g _ H fl with
          | none => rw [hc] at h; cases h
          | some r => rw [hc] at h; cases h
    · cases h
  | _ =>
    simp only [evalO, hop] at h
    first
      | exact q h
      | cases h
      | (repeat' split at h) <;> first | exact q h | cases h
theorem step_holes {X : Ctx} {ops : Array Oper} {s : Stp} (hcf : CFSound X.P X.cf) (hstep : StepOk X ops o s) {k : Nat} (hk : s.S.heap[k]? = some .hole) (hn : isAl o = true → k ≠ s.nid) : (s.e.heap s.S.heap)[k]? = some .hole := by
  rcases hstep with ⟨_, h2⟩ | ⟨_, _, h3⟩
  · by_cases hkn : k = s.nid
    · have hna : isAl o = false := by
        cases hb : isAl o with
        | true => exact absurd hkn (hn hb)
        | false => rfl
      cases he : s.e with
      | al k' b =>
        rw [he] at h2
        have := (al_is h2).2
        rw [hna] at this; cases this
      | q => exact hk
      | rd => exact hk
      | ro => exact hk
      | ch H' =>
        rw [he] at h2
        -- reckoned with another number the same comes out: the operation makes no block
        have := evalO_holes (nid := s.nid + 1) hcf (d := s.d) (e := .ch H') (o := o) (slots := s.S.slots) (md := X.md) (fl := X.fl) (by
          rw [← h2]
          unfold isAl at hna
          unfold evalO
          cases hop : o.op <;> simp_all) hk (by omega)
        exact this
      | tk H' =>
        rw [he] at h2
        -- reckoned with another number the same comes out: the operation makes no block
        have := evalO_holes (nid := s.nid + 1) hcf (d := s.d) (e := .tk H') (o := o) (slots := s.S.slots) (md := X.md) (fl := X.fl) (by
          rw [← h2]
          unfold isAl at hna
          unfold evalO
          cases hop : o.op <;> simp_all) hk (by omega)
        exact this
    · exact evalO_holes hcf h2 hk hkn
  · rw [h3]; exact hk
end Go.Proofs.Ytcpgmbpndpcmdaa
namespace Go.Proofs.Ytcpgmbpndpcmdaa
open Go Go.RowKit
abbrev Zip := List (Oper × Stp)
def foldS (L : Nat → Bool) : Zip → Nat → List DV → List DV
  | [], _, acc => acc
  | p :: z, i, acc => foldS L z (i + 1) (if L i then putD acc p.1.dst p.2.d else acc)
def foldH (L : Nat → Bool) : Zip → Nat → Heap → Heap
  | [], _, acc => acc
  | p :: z, i, acc => foldH L z (i + 1) (if L i then p.2.e.heap acc else acc)
theorem putD_len (acc : List DV) (dst : Option Tmp) (d : DV) : (putD acc dst d).length = acc.length := by cases dst <;> simp [putD]
theorem putD_get (acc : List DV) (dst : Option Tmp) (d : DV) (t : Nat) : (putD acc dst d)[t]? = if dst = some t ∧ t < acc.length then some d else acc[t]? := by
  cases dst with
  | none => simp [putD]
  | some u =>
    simp only [putD, Option.some.injEq]
    by_cases h : u = t
    · subst h
      by_cases hl : u < acc.length
      · simp [hl]
      · simp [hl]
    · simp [h]
theorem foldS_len (L : Nat → Bool) : ∀ (z : Zip) (i : Nat) (acc : List DV), (foldS L z i acc).length = acc.length
  | [], _, _ => rfl
  | p :: z, i, acc => by
    simp only [foldS]
    rw [foldS_len L z]
    split
    · exact putD_len _ _ _
    · rfl
theorem foldS_congr {L L' : Nat → Bool} (t : Nat) : ∀ (z : Zip) (i : Nat) (acc acc' : List DV), acc.length = acc'.length → acc[t]? = acc'[t]? → (∀ j p, z[j]? = some p → p.1.dst = some t → L (i + j) = L' (i + j)) → (foldS L z i acc)[t]? = (foldS L' z i acc')[t]?
  | [], _, _, _, _, h, _ => h
  | p :: z, i, acc, acc', hl, h, hL => by
    simp only [foldS]
    refine foldS_congr t z (i + 1) _ _ ?_ ?_ fun j q hq hd => by have := hL (j + 1) q (by simpa using hq) hd; rwa [← Nat.add_assoc, Nat.add_right_comm] at this
    · split <;> split <;> simp [putD_len, hl]
    · by_cases hd : p.1.dst = some t
      · have := hL 0 p rfl hd
        rw [Nat.add_zero] at this
        rw [← this]
        split
        · rw [putD_get, putD_get, hl, h]
        · exact h
      · have e1 : ∀ (b : Bool) (acc : List DV), (if b then putD acc p.1.dst p.2.d else acc)[t]? = acc[t]? := by
          intro b acc
          cases b
          · rfl
          · simp only [if_true]; rw [putD_get, if_neg (by simp [hd])]
        rw [e1, e1, h]
theorem foldS_last {L : Nat → Bool} (t : Nat) : ∀ (z : Zip) (i j : Nat) (p : Oper × Stp) (acc : List DV), z[j]? = some p → p.1.dst = some t → L (i + j) = true → (∀ j' q, j < j' → z[j']? = some q → q.1.dst = some t → L (i + j') = false) → t < acc.length → (foldS L z i acc)[t]? = some p.2.d
  | [], _, j, _, _, h, _, _, _, _ => by simp at h
  | q :: z, i, 0, p, acc, h, hd, hL, hl, ht => by
    simp at h
    subst h
    simp only [foldS]
    rw [Nat.add_zero] at hL
    rw [hL, if_pos rfl]
    have := foldS_congr (L := L) (L' := fun _ => false) t z (i + 1) (putD acc q.1.dst q.2.d) (putD acc q.1.dst q.2.d) rfl rfl (fun j x hx hxd => by
      have := hl (j + 1) x (by omega) (by simpa using hx) hxd
      rwa [← Nat.add_assoc, Nat.add_right_comm] at this)
    rw [this]
    have none : ∀ (z : Zip) (i : Nat) (acc : List DV), foldS (fun _ => false) z i acc = acc := by
      intro z
      induction z with
      | nil => intro i acc; rfl
      | cons p z ih => intro i acc; simp only [foldS, Bool.false_eq_true, if_false]; exact ih _ _
    rw [none, putD_get, if_pos ⟨hd, ht⟩]
  | q :: z, i, j + 1, p, acc, h, hd, hL, hl, ht => by
    simp only [foldS]
    refine foldS_last t z (i + 1) j p _ (by simpa using h) hd (by rwa [← Nat.add_assoc, Nat.add_right_comm] at hL) (fun j' x hj hx hxd => by
      have := hl (j' + 1) x (by omega) (by simpa using hx) hxd
      rwa [← Nat.add_assoc, Nat.add_right_comm] at this) ?_
    split
    · rw [putD_len]; exact ht
    · exact ht
def loud : Eff → Bool
  | .ch _ => true
  | .tk _ => true
  | .al .. => true
  | _ => false
theorem quiet_heap {e : Eff} (h : loud e = false) (H : Heap) : e.heap H = H := by cases e <;> simp_all [loud, Eff.heap]
theorem abs_heap {e : Eff} {H' : Heap} (h : e.abs = some H') (H : Heap) : e.heap H = H' := by cases e <;> simp_all [Eff.abs, Eff.heap]
theorem foldH_congr {L L' : Nat → Bool} : ∀ (z : Zip) (i : Nat) (acc : Heap), (∀ j p, z[j]? = some p → loud p.2.e = true → L (i + j) = L' (i + j)) → foldH L z i acc = foldH L' z i acc
  | [], _, _, _ => rfl
  | p :: z, i, acc, h => by
    simp only [foldH]
    have e1 : (if L i then p.2.e.heap acc else acc) = if L' i then p.2.e.heap acc else acc := by
      cases hl : loud p.2.e with
      | false => rw [quiet_heap hl]; simp
      | true =>
        have := h 0 p rfl hl
        rw [Nat.add_zero] at this
        rw [this]
    rw [e1]
    exact foldH_congr z (i + 1) _ fun j q hq hl => by have := h (j + 1) q (by simpa using hq) hl; rwa [← Nat.add_assoc, Nat.add_right_comm] at this
def HolesIn (z : Zip) (acc : Heap) : Prop := ∀ (j : Nat) (p : Oper × Stp) (k : Nat) (b : DBlk), z[j]? = some p → p.2.e = .al k b → acc[k]? = some .hole
def Zok : Zip → Prop
  | [] => True
  | p :: z => (∀ H', p.2.e.abs = some H' → HolesIn z H') ∧ (∀ k b, p.2.e = .al k b → ∀ (j : Nat) (q : Oper × Stp) (k' : Nat) (b' : DBlk), z[j]? = some q → q.2.e = .al k' b' → k' ≠ k) ∧ Zok z
theorem HolesIn.tail {p : Oper × Stp} {z : Zip} {acc : Heap} (h : HolesIn (p :: z) acc) : HolesIn z acc := fun j q k b hq he => h (j + 1) q k b (by simpa using hq) he
theorem HolesIn.step {p : Oper × Stp} {z : Zip} {acc : Heap} (hz : Zok (p :: z)) (h : HolesIn (p :: z) acc) (b : Bool) : HolesIn z (if b then p.2.e.heap acc else acc) := by
  obtain ⟨h1, h2, _⟩ := hz
  cases b with
  | false => exact h.tail
  | true =>
    simp only [if_true]
    cases he : p.2.e with
    | ch H' => exact h1 H' (by rw [he]; rfl)
    | tk H' => exact h1 H' (by rw [he]; rfl)
    | al k x =>
      intro j q k' b' hq hq'
      exact hole_set (h.tail j q k' b' hq hq') (h2 k x he j q k' b' hq hq')
    | q => exact h.tail
    | rd => exact h.tail
    | ro => exact h.tail
def Near (acc acc' : Heap) : Prop := ∀ (k : Nat) (t : TypeId) (cs : List DV), acc'[k]? = some (.cells t cs) → acc[k]? = some (.cells t cs) ∨ acc[k]? = some .hole
set_option linter.unusedSimpArgs false in
theorem foldH_near {L L' : Nat → Bool} : ∀ (z : Zip) (i : Nat) (acc acc' : Heap), Zok z → HolesIn z acc → HolesIn z acc' → Near acc acc' → (∀ j p H', z[j]? = some p → p.2.e = .ch H' → L (i + j) = L' (i + j)) →
    (∀ j p H', z[j]? = some p → p.2.e = .tk H' → L (i + j) = true → L' (i + j) = true) → (∀ j p H', z[j]? = some p → p.2.e = .tk H' → L' (i + j) = true → ∀ (k : Nat) (t : TypeId) (cs : List DV), H'[k]? = some (.cells t cs) → (foldH L' (z.take j) i acc')[k]? = some (.cells t cs)) →
    Near (foldH L z i acc) (foldH L' z i acc')
  | [], _, _, _, _, _, _, h, _, _, _ => h
  | p :: z, i, acc, acc', hz, ha, ha', h, hL, hT, hS => by
    simp only [foldH]
    refine foldH_near z (i + 1) _ _ hz.2.2 (ha.step hz (L i)) (ha'.step hz (L' i)) ?_ (fun j q H' hq he => by have := hL (j + 1) q H' (by simpa using hq) he; rwa [← Nat.add_assoc, Nat.add_right_comm] at this) (fun j q H' hq he => by have := hT (j + 1) q H' (by simpa using hq) he; rwa [← Nat.add_assoc, Nat.add_right_comm] at this) (fun j q H' hq he hl => by
      have := hS (j + 1) q H' (by simpa using hq) he (by rwa [← Nat.add_assoc, Nat.add_right_comm])
      simpa only [List.take_succ_cons, foldH] using this)
    cases he : p.2.e with
    | ch H' =>
      have := hL 0 p H' rfl he
      rw [Nat.add_zero] at this
      rw [← this]
      cases L i
      · exact h
      · exact fun k t cs hx => .inl hx
    | tk H' =>
      have h1 := hT 0 p H' rfl he
      have h2 := hS 0 p H' rfl he
      rw [Nat.add_zero] at h1 h2
      cases hLi : L i <;> cases hLi' : L' i
      · exact h
      · simp only [Bool.false_eq_true, if_false, if_true, Eff.heap]
        intro k t cs hx
        exact h k t cs (by have := h2 hLi' k t cs hx; simpa only [List.take_zero, foldH] using this)
      · rw [h1 hLi] at hLi'; cases hLi'
      · exact fun k t cs hx => .inl hx
    | al k b =>
      have h1 := ha 0 p k b rfl he
      have h2 := ha' 0 p k b rfl he
      have hk1 := (List.getElem?_eq_some_iff.1 h1).1
      have hk2 := (List.getElem?_eq_some_iff.1 h2).1
      intro k' t cs hx
      by_cases hk : k' = k
      · subst hk
        cases hLi : L i <;> cases hLi' : L' i <;> simp only [hLi, hLi', if_true, if_false, Bool.false_eq_true, Eff.heap] at hx ⊢
        · exact h k' t cs hx
        · exact .inr h1
        · rw [h2] at hx; cases hx
        · rw [List.getElem?_set_self hk2] at hx
          rw [List.getElem?_set_self hk1]
          exact .inl hx
      · have e1 : ∀ (c : Bool) (acc : Heap), (if c = true then (Eff.al k b).heap acc else acc)[k']? = acc[k']? := by
          intro c acc
          cases c
          · rfl
          · simp only [if_true, Eff.heap]; exact List.getElem?_set_ne (Ne.symm hk)
        rw [e1] at hx ⊢
        exact h k' t cs hx
    | q => simp only [Eff.heap, ite_self]; exact h
    | rd => simp only [Eff.heap, ite_self]; exact h
    | ro => simp only [Eff.heap, ite_self]; exact h
theorem foldH_upto {L L' : Nat → Bool} : ∀ (z : Zip) (i j : Nat) (acc : Heap), (∀ j', j' < j → L (i + j') = L' (i + j')) → (∀ j', j ≤ j' → L (i + j') = false) → foldH L z i acc = foldH L' (z.take j) i acc
  | [], _, _, _, _, _ => by simp [foldH]
  | p :: z, i, 0, acc, h1, h2 => by
    rw [List.take_zero]
    simp only [foldH]
    have h0 := h2 0 (Nat.le_refl _)
    rw [Nat.add_zero] at h0
    rw [h0]
    simp only [Bool.false_eq_true, if_false]
    have := foldH_upto (L := L) (L' := L') z (i + 1) 0 acc (fun j' hj => by omega) (fun j' _ => by have := h2 (j' + 1) (by omega); rwa [← Nat.add_assoc, Nat.add_right_comm] at this)
    rw [this, List.take_zero]
    rfl
  | p :: z, i, j + 1, acc, h1, h2 => by
    rw [List.take_succ_cons]
    simp only [foldH]
    have h0 := h1 0 (by omega)
    rw [Nat.add_zero] at h0
    rw [h0]
    exact foldH_upto z (i + 1) j _ (fun j' hj => by have := h1 (j' + 1) (by omega); rwa [← Nat.add_assoc, Nat.add_right_comm] at this) (fun j' hj => by have := h2 (j' + 1) (by omega); rwa [← Nat.add_assoc, Nat.add_right_comm] at this)
theorem foldH_hole {L : Nat → Bool} {k : Nat} : ∀ (z : Zip) (i : Nat) (acc : Heap), acc[k]? = some .hole → (∀ j p H', z[j]? = some p → p.2.e.abs = some H' → L (i + j) = false) → (∀ (j : Nat) (p : Oper × Stp) (k' : Nat) (b' : DBlk), z[j]? = some p → p.2.e = .al k' b' → k' ≠ k) → (foldH L z i acc)[k]? = some .hole
  | [], _, _, h, _, _ => h
  | p :: z, i, acc, h, hc, ha => by
    simp only [foldH]
    refine foldH_hole z (i + 1) _ ?_ (fun j q H' hq he => by have := hc (j + 1) q H' (by simpa using hq) he; rwa [← Nat.add_assoc, Nat.add_right_comm] at this) (fun j q k' b' hq he => ha (j + 1) q k' b' (by simpa using hq) he)
    split
    · rename_i hL
      cases he : p.2.e with
      | ch H' =>
        have := hc 0 p H' rfl (by rw [he]; rfl)
        rw [Nat.add_zero, hL] at this; cases this
      | tk H' =>
        have := hc 0 p H' rfl (by rw [he]; rfl)
        rw [Nat.add_zero, hL] at this; cases this
      | al k' b' => exact hole_set h (Ne.symm (ha 0 p k' b' rfl he))
      | q => exact h
      | rd => exact h
      | ro => exact h
    · exact h
theorem foldH_alhole {L : Nat → Bool} {k : Nat} {b : DBlk} : ∀ (z : Zip) (i j : Nat) (p : Oper × Stp) (acc : Heap), Zok z → HolesIn z acc → z[j]? = some p → p.2.e = .al k b → L (i + j) = false → (∀ j' q H', j < j' → z[j']? = some q → q.2.e.abs = some H' → L (i + j') = false) → (foldH L z i acc)[k]? = some .hole
  | [], _, _, _, _, _, _, h, _, _, _ => by simp at h
  | q :: z, i, 0, p, acc, hz, ha, h, he, hL, hc => by
    simp at h
    subst h
    simp only [foldH]
    rw [Nat.add_zero] at hL
    rw [hL]
    simp only [Bool.false_eq_true, if_false]
    exact foldH_hole z (i + 1) _ (ha 0 q k b rfl he) (fun j x H' hx hxe => by have := hc (j + 1) x H' (by omega) (by simpa using hx) hxe; rwa [← Nat.add_assoc, Nat.add_right_comm] at this) (hz.2.1 k b he)
  | q :: z, i, j + 1, p, acc, hz, ha, h, he, hL, hc => by
    simp only [foldH]
    exact foldH_alhole z (i + 1) j p _ hz.2.2 (ha.step hz (L i)) (by simpa using h) he (by rwa [← Nat.add_assoc, Nat.add_right_comm] at hL) (fun j' x H' hj hx hxe => by have := hc (j' + 1) x H' (by omega) (by simpa using hx) hxe; rwa [← Nat.add_assoc, Nat.add_right_comm] at this)
theorem foldH_setk {L : Nat → Bool} {k : Nat} {b : DBlk} : ∀ (z : Zip) (i : Nat) (acc : Heap), (∀ j p H', z[j]? = some p → p.2.e.abs = some H' → L (i + j) = false) → (∀ (j : Nat) (p : Oper × Stp) (k' : Nat) (b' : DBlk), z[j]? = some p → p.2.e = .al k' b' → k' ≠ k) → foldH L z i (acc.set k b) = (foldH L z i acc).set k b
  | [], _, _, _, _ => rfl
  | p :: z, i, acc, hc, ha => by
    simp only [foldH]
    have e1 : (if L i then p.2.e.heap (acc.set k b) else acc.set k b) = (if L i then p.2.e.heap acc else acc).set k b := by
      split
      · rename_i hL
        cases he : p.2.e with
        | ch H' =>
          have := hc 0 p H' rfl (by rw [he]; rfl)
          rw [Nat.add_zero, hL] at this; cases this
        | tk H' =>
          have := hc 0 p H' rfl (by rw [he]; rfl)
          rw [Nat.add_zero, hL] at this; cases this
        | al k' b' => exact List.set_comm _ _ (Ne.symm (ha 0 p k' b' rfl he))
        | q => rfl
        | rd => rfl
        | ro => rfl
      · rfl
    rw [e1]
    exact foldH_setk z (i + 1) _ (fun j q H' hq he => by have := hc (j + 1) q H' (by simpa using hq) he; rwa [← Nat.add_assoc, Nat.add_right_comm] at this) (fun j q k' b' hq he => ha (j + 1) q k' b' (by simpa using hq) he)
theorem foldH_addal {L L' : Nat → Bool} {k : Nat} {b : DBlk} : ∀ (z : Zip) (i j : Nat) (p : Oper × Stp) (acc : Heap), Zok z → z[j]? = some p → p.2.e = .al k b → L (i + j) = false → L' (i + j) = true → (∀ j', j' ≠ j → L' (i + j') = L (i + j')) →
    (∀ j' q H', j < j' → z[j']? = some q → q.2.e.abs = some H' → L (i + j') = false) → foldH L' z i acc = (foldH L z i acc).set k b
  | [], _, _, _, _, _, h, _, _, _, _, _ => by simp at h
  | q :: z, i, 0, p, acc, hz, h, he, hL, hL', hs, hc => by
    simp at h
    subst h
    simp only [foldH]
    rw [Nat.add_zero] at hL hL'
    rw [hL, hL', he]
    simp only [Bool.false_eq_true, if_false, if_true, Eff.heap]
    rw [foldH_congr (L := L') (L' := L) z (i + 1) _ (fun j x _ _ => by have := hs (j + 1) (by omega); rwa [← Nat.add_assoc, Nat.add_right_comm] at this)]
    exact foldH_setk z (i + 1) _ (fun j x H' hx hxe => by have := hc (j + 1) x H' (by omega) (by simpa using hx) hxe; rwa [← Nat.add_assoc, Nat.add_right_comm] at this) (hz.2.1 k b he)
  | q :: z, i, j + 1, p, acc, hz, h, he, hL, hL', hs, hc => by
    simp only [foldH]
    have := hs 0 (by omega)
    rw [Nat.add_zero] at this
    rw [this]
    exact foldH_addal z (i + 1) j p _ hz.2.2 (by simpa using h) he (by rwa [← Nat.add_assoc, Nat.add_right_comm] at hL) (by rwa [← Nat.add_assoc, Nat.add_right_comm] at hL')
      (fun j' hj => by have := hs (j' + 1) (by omega); rwa [← Nat.add_assoc, Nat.add_right_comm] at this) (fun j' x H' hj hx hxe => by have := hc (j' + 1) x H' (by omega) (by simpa using hx) hxe; rwa [← Nat.add_assoc, Nat.add_right_comm] at this)
theorem foldH_last {L : Nat → Bool} {H' : Heap} : ∀ (z : Zip) (i j : Nat) (p : Oper × Stp) (acc : Heap), z[j]? = some p → p.2.e.abs = some H' → L (i + j) = true → (∀ j' q, j < j' → z[j']? = some q → loud q.2.e = true → L (i + j') = false) → foldH L z i acc = H'
  | [], _, _, _, _, h, _, _, _ => by simp at h
  | q :: z, i, 0, p, acc, h, he, hL, hc => by
    simp at h
    subst h
    simp only [foldH]
    rw [Nat.add_zero] at hL
    rw [hL]
    simp only [if_true, abs_heap he]
    rw [foldH_congr (L := L) (L' := fun _ => false) z (i + 1) _ (fun j x hx hl => by have := hc (j + 1) x (by omega) (by simpa using hx) hl; rwa [← Nat.add_assoc, Nat.add_right_comm] at this)]
    have none : ∀ (z : Zip) (i : Nat) (acc : Heap), foldH (fun _ => false) z i acc = acc := by
      intro z
      induction z with
      | nil => intro i acc; rfl
      | cons p z ih => intro i acc; simp only [foldH, Bool.false_eq_true, if_false]; exact ih _ _
    exact none _ _ _
  | q :: z, i, j + 1, p, acc, h, he, hL, hc => by
    simp only [foldH]
    exact foldH_last z (i + 1) j p _ (by simpa using h) he (by rwa [← Nat.add_assoc, Nat.add_right_comm] at hL) (fun j' x hj hx hl => by have := hc (j' + 1) x (by omega) (by simpa using hx) hl; rwa [← Nat.add_assoc, Nat.add_right_comm] at this)
theorem trace_at {X : Ctx} {ops : Array Oper} : ∀ {l : List Oper} {nid : Nat} {S S' : St} {tr : List Stp}, TraceOk X ops l nid S tr S' → tr.length = l.length ∧
    (∀ (i : Nat) (o : Oper) (s : Stp), l[i]? = some o → tr[i]? = some s → StepOk X ops o s ∧ nid ≤ s.nid ∧ (∀ (i0 : Nat), s.S.slots = foldS (fun j => decide (j < i0 + i)) (l.zip tr) i0 S.slots ∧ s.S.heap = foldH (fun j => decide (j < i0 + i)) (l.zip tr) i0 S.heap)) ∧
    (∀ i0, S'.slots = foldS (fun _ => true) (l.zip tr) i0 S.slots ∧ S'.heap = foldH (fun _ => true) (l.zip tr) i0 S.heap)
  | [], nid, S, S', [], h => by
    simp only [TraceOk] at h
    subst h
    exact ⟨rfl, fun i o s ho => by simp at ho, fun _ => ⟨rfl, rfl⟩⟩
  | [], _, _, _, _ :: _, h => h.elim
  | _ :: _, _, _, _, [], h => h.elim
  | o :: l, nid, S, S', s :: tr, h => by
    obtain ⟨h1, h2, h3, h4⟩ := h
    obtain ⟨k1, k2, k3⟩ := trace_at h4
    refine ⟨by simp [k1], fun i o' s' ho hs => ?_, fun i0 => ?_⟩
    · cases i with
      | zero =>
        simp at ho hs
        subst ho; subst hs
        refine ⟨h3, Nat.le_of_eq h2.symm, fun i0 => ?_⟩
        have noneS : ∀ (z : Zip) (i : Nat) (acc : List DV), i0 ≤ i → foldS (fun j => decide (j < i0 + 0)) z i acc = acc := by
          intro z
          induction z with
          | nil => intro i acc _; rfl
          | cons p z ih =>
            intro i acc hi
            simp only [foldS]
            rw [if_neg (by simp; omega)]
            exact ih _ _ (by omega)
        have noneH : ∀ (z : Zip) (i : Nat) (acc : Heap), i0 ≤ i → foldH (fun j => decide (j < i0 + 0)) z i acc = acc := by
          intro z
          induction z with
          | nil => intro i acc _; rfl
          | cons p z ih =>
            intro i acc hi
            simp only [foldH]
            rw [if_neg (by simp; omega)]
            exact ih _ _ (by omega)
        rw [noneS _ _ _ (Nat.le_refl _), noneH _ _ _ (Nat.le_refl _), h1]
        exact ⟨rfl, rfl⟩
      | succ i =>
        obtain ⟨q1, q2, q3⟩ := k2 i o' s' (by simpa using ho) (by simpa using hs)
        refine ⟨q1, ?_, fun i0 => ?_⟩
        · have : nid ≤ nextId o nid := by unfold nextId; split <;> omega
          omega
        · have := q3 (i0 + 1)
          simp only [List.zip_cons_cons, foldS, foldH]
          rw [if_pos (by simp), if_pos (by simp)]
          rw [show i0 + 1 + i = i0 + (i + 1) by omega] at this
          exact this
    · have := k3 (i0 + 1)
      simp only [List.zip_cons_cons, foldS, foldH, if_true]
      exact this
def alCount (l : List Oper) : Nat := (l.filter isAl).length
theorem trace_holes {X : Ctx} {ops : Array Oper} (hcf : CFSound X.P X.cf) : ∀ {l : List Oper} {nid : Nat} {S S' : St} {tr : List Stp}, TraceOk X ops l nid S tr S' → (∀ k, nid ≤ k → k < nid + alCount l → S.heap[k]? = some .hole) →
    Zok (l.zip tr) ∧ HolesIn (l.zip tr) S.heap ∧ ∀ (j : Nat) (p : Oper × Stp) (k : Nat) (b : DBlk), (l.zip tr)[j]? = some p → p.2.e = .al k b → nid ≤ k ∧ k < nid + alCount l
  | [], nid, S, S', [], h, _ => ⟨by simp [Zok], fun j p k b hp => by simp at hp, fun j p k b hp => by simp at hp⟩
  | [], _, _, _, _ :: _, h, _ => h.elim
  | _ :: _, _, _, _, [], h, _ => h.elim
  | o :: l, nid, S, S', s :: tr, h, hh => by
    obtain ⟨h1, h2, h3, h4⟩ := h
    have hcount : nextId o nid + alCount l = nid + alCount (o :: l) := by
      unfold nextId alCount
      cases ho : isAl o <;> simp [ho]
      omega
    have hle : nid ≤ nextId o nid := by unfold nextId; split <;> omega
    have hnext : ∀ k, nextId o nid ≤ k → k < nextId o nid + alCount l → (s.e.heap S.heap)[k]? = some .hole := by
      intro k hk1 hk2
      rw [← h1]
      refine step_holes hcf h3 (by rw [h1]; exact hh k (by omega) (by omega)) fun ho => ?_
      unfold nextId at hk1
      rw [if_pos ho] at hk1
      omega
    obtain ⟨k1, k2, k3⟩ := trace_holes hcf h4 hnext
    have hal : ∀ k b, s.e = .al k b → k = nid ∧ isAl o = true := by
      intro k b he
      rcases h3 with ⟨_, h⟩ | ⟨_, _, h⟩
      · rw [he] at h
        obtain ⟨e1, e2⟩ := al_is h
        exact ⟨e1.trans h2, e2⟩
      · rw [he] at h; cases h
    refine ⟨⟨fun H' he j q k b hq hqe => ?_, fun k b he j q k' b' hq hqe => ?_, k1⟩, fun j p k b hp he => ?_, fun j p k b hp he => ?_⟩
    · have := k2 j q k b hq hqe
      simp only [] at he
      rw [abs_heap he] at this
      exact this
    · obtain ⟨e1, e2⟩ := hal k b he
      have := (k3 j q k' b' hq hqe).1
      unfold nextId at this
      rw [if_pos e2] at this
      omega
    · cases j with
      | zero =>
        simp at hp
        subst hp
        obtain ⟨e1, e2⟩ := hal k b he
        refine hh k (by omega) ?_
        unfold alCount
        simp [e2]; omega
      | succ j =>
        obtain ⟨q1, q2⟩ := k3 j p k b (by simpa using hp) he
        exact hh k (by omega) (by omega)
    · cases j with
      | zero =>
        simp at hp
        subst hp
        obtain ⟨e1, e2⟩ := hal k b he
        unfold alCount
        simp [e2]; omega
      | succ j =>
        obtain ⟨q1, q2⟩ := k3 j p k b (by simpa using hp) he
        omega
end Go.Proofs.Ytcpgmbpndpcmdaa
namespace Go.Proofs.Ytcpgmbpndpcmdaa
open Go Go.RowKit
variable {B : Nat → Nat → Prop} {G : Gh} {w : World} {Hr : Heap} {o : Oper} {a : Act} {slots : List DV}
def Facts (fl : Nat) (H H' : Heap) : Prop := (∀ k, k < fl → H'[k]? = H[k]?) ∧ H.length ≤ H'.length
theorem Facts.refl (fl : Nat) (H : Heap) : Facts fl H H := ⟨fun _ _ => rfl, Nat.le_refl _⟩
theorem Facts.trans {fl : Nat} {H H' H'' : Heap} (h : Facts fl H H') (k : Facts fl H' H'') : Facts fl H H'' := ⟨fun i hi => (k.1 i hi).trans (h.1 i hi), Nat.le_trans h.2 k.2⟩
theorem step_facts {X : Ctx} {ops : Array Oper} {s : Stp} (hP : NoOwn X.P) (hcf : CFSound X.P X.cf) (hstep : StepOk X ops o s) (hB : ∀ b j, w.heap.size ≤ b → B b j) (hH : HR B G w Hr) (hs : SR (ImmB B G) w G slots a)
    (he : evalO X.P X.cf X.md X.fl s.nid o slots s.S.heap = evalO X.P X.cf X.md X.fl s.nid o s.S.slots s.S.heap) (hag : Agree s.e s.S.heap Hr) (hfl : s.e.wr → X.fl ≤ s.S.heap.length) (hnid : X.fl ≤ s.nid) : Facts X.fl s.S.heap (s.e.heap s.S.heap) := by
  rcases hstep with ⟨h1, h2⟩ | ⟨h1, h2, h3⟩
  · exact (op_sound hP hcf (he.trans h2) hB hH hs hag hfl hnid).2
  · rw [h3]; exact Facts.refl _ _
theorem agree_self {X : Ctx} {ops : Array Oper} {s : Stp} (hstep : StepOk X ops o s) (hh : isAl o = true → s.S.heap[s.nid]? = some .hole) : Agree s.e s.S.heap s.S.heap := by
  cases he : s.e with
  | q => trivial
  | rd => exact Agree.refl_rd _
  | ro => rfl
  | ch H => rfl
  | tk H => rfl
  | al k b =>
    rcases hstep with ⟨_, h⟩ | ⟨_, _, h⟩
    · rw [he] at h
      obtain ⟨rfl, h2⟩ := al_is h
      exact hh h2
    · rw [he] at h; cases h
theorem seq_sound {X : Ctx} {ops : Array Oper} (hP : NoOwn X.P) (hcf : CFSound X.P X.cf) {Q : Exit → Act → World → Prop} : ∀ (l : List Oper) (i nid : Nat) (S S' : St) (tr : List Stp), ops.toList.drop i = l → TraceOk X ops l nid S tr S' →
    ∀ (G : Gh) (w : World) (a : Act), (∀ b j, w.heap.size ≤ b → B b j) → HR B G w S.heap → SR (ImmB B G) w G S.slots a → X.fl ≤ S.heap.length → X.fl ≤ nid → (∀ k, nid ≤ k → k < nid + alCount l → S.heap[k]? = some .hole) →
    (∀ a' w' G', Keep G w G' w' → HR B G' w' S'.heap → SR (ImmB B G') w' G' S'.slots a' → Facts X.fl S.heap S'.heap → Q .normal a' w') → wpOps X.P ops Q (List.range' i l.length) a w
  | [], i, nid, S, S', [], hd, h => by
    intro G w a hB hH hs hfl hnid hh hQ
    simp only [TraceOk] at h
    subst h
    simp only [List.length_nil, List.range'_zero, wpOps]
    exact hQ a w G (Keep.refl G w) hH hs (Facts.refl _ _)
  | [], _, _, _, _, _ :: _, _, h => h.elim
  | _ :: _, _, _, _, _, [], _, h => h.elim
  | o :: l, i, nid, S, S', s :: tr, hd, h => by
    intro G w a hB hH hs hfl hnid hh hQ
    obtain ⟨h1, h2, h3, h4⟩ := h
    subst h1
    subst h2
    have ho : ops[i]? = some o := by
      have : (ops.toList.drop i)[0]? = some o := by rw [hd]; rfl
      rw [List.getElem?_drop] at this
      simpa using this
    have hd' : ops.toList.drop (i + 1) = l := by
      rw [← List.drop_drop, hd]; rfl
    have hhole : isAl o = true → s.S.heap[s.nid]? = some .hole := fun h => hh s.nid (Nat.le_refl _) (by unfold alCount; simp [h])
    have hag := agree_self h3 hhole
    have hf := step_facts hP hcf h3 hB hH hs rfl hag (fun _ => hfl) hnid
    rw [List.length_cons, List.range'_succ, wpOps_cons]
    refine step_sound hP hcf ho h3 hB hH hs rfl rfl hag (fun _ => hfl) hnid fun V w' G' hK hH' hr => ?_
    have hcount : nextId o s.nid + alCount l = s.nid + alCount (o :: l) := by
      unfold nextId alCount
      cases ho : isAl o <;> simp [ho]
      omega
    have hle : s.nid ≤ nextId o s.nid := by unfold nextId; split <;> omega
    refine seq_sound hP hcf l (i + 1) (nextId o s.nid) _ S' tr hd' h4 G' w' _ (fun b j hb => hB b j (Nat.le_trans hK.size hb)) hH' ((hs.keep hK).put o.dst hr) (Nat.le_trans hfl hf.2) (Nat.le_trans hnid hle) (fun k hk1 hk2 => ?_) fun a2 w2 G2 hK2 hH2 hs2 hf2 => ?_
    · refine step_holes hcf h3 (hh k (by omega) (by omega)) fun ho => ?_
      unfold nextId at hk1
      rw [if_pos ho] at hk1
      omega
    · exact hQ a2 w2 G2 (Keep.trans hH.dist hK hK2) hH2 hs2 (hf.trans hf2)
theorem hr_holes {H : Heap} (h : HR B G w H) (n : Nat) : HR B (G ++ List.replicate n GK.hole) w (H ++ List.replicate n DBlk.hole) ∧ Keep G w (G ++ List.replicate n GK.hole) w := by
  have key : ∀ (k : Nat) (g : GK), (G ++ List.replicate n GK.hole)[k]? = some g → g ≠ .hole → G[k]? = some g := by
    intro k g hg hne
    rcases Nat.lt_or_ge k G.length with hk | hk
    · rwa [List.getElem?_append_left hk] at hg
    · rw [List.getElem?_append_right hk, List.getElem?_replicate] at hg
      split at hg
      · cases hg; exact absurd rfl hne
      · cases hg
  have live : ∀ k b, liveAt (G ++ List.replicate n GK.hole) k b → liveAt G k b := by
    rintro k b (hl | ⟨s, c, m, hl⟩)
    · exact .inl (key k _ hl (by simp))
    · exact .inr ⟨s, c, m, key k _ hl (by simp)⟩
  have hK : Keep G w (G ++ List.replicate n GK.hole) w := by
    refine ⟨rfl, rfl, rfl, Nat.le_refl _, fun _ _ _ => rfl, fun _ _ _ _ _ _ _ _ _ => rfl, fun k g hg => ⟨g, ?_, evol_refl g⟩, fun k b _ hg => key k _ hg (by simp), fun k b s c m _ hg => ⟨c, m, key k _ hg (by simp), Nat.le_refl _⟩⟩
    rw [List.getElem?_append_left (List.getElem?_eq_some_iff.1 hg).1]; exact hg
  refine ⟨⟨by simp [h.len], fun k k' b h1 h2 => h.dist k k' b (live k b h1) (live k' b h2), fun k x g hx hg => ?_, fun k b hl => h.bb k b (live k b hl), h.lay⟩, hK⟩
  rcases Nat.lt_or_ge k G.length with hk | hk
  · rw [List.getElem?_append_left hk] at hg
    rw [List.getElem?_append_left (by rw [h.len]; exact hk)] at hx
    exact blk_keep hK (h.blk k x g hx hg) fun _ _ => rfl
  · rw [List.getElem?_append_right hk, List.getElem?_replicate] at hg
    rw [List.getElem?_append_right (by rw [h.len]; exact hk), List.getElem?_replicate] at hx
    split at hg
    · cases hg
      split at hx
      · cases hx; simp [BlkRep]
      · cases hx
    · cases hg
theorem holes_eq (l : List Oper) : holes l = List.replicate (alCount l) DBlk.hole := by
  unfold holes alCount
  rw [List.map_const']
theorem region_sound {X : Ctx} {ops : Array Oper} {id : Nat} (hP : NoOwn X.P) (hcf : CFSound X.P X.cf) {Q : Exit → Act → World → Prop} {S S' : St} {tr : List Stp} (ht : TraceOk X ops ops.toList S.heap.length ⟨S.slots, S.heap ++ holes ops.toList⟩ tr S')
    (hB : ∀ b j, w.heap.size ≤ b → B b j) (hH : HR B G w S.heap) (hs : SR (ImmB B G) w G S.slots a) (hfl : X.fl ≤ S.heap.length)
    (hQ : ∀ a' w' G', Keep G w G' w' → HR B G' w' S'.heap → SR (ImmB B G') w' G' S'.slots a' → Facts X.fl S.heap S'.heap → Q .normal a' w') : (Code.region id ops false).wp X.P Q a w := by
  refine wp_region ?_
  rw [holes_eq] at ht
  obtain ⟨h1, h2⟩ := hr_holes hH (alCount ops.toList)
  have hf0 : Facts X.fl S.heap (S.heap ++ List.replicate (alCount ops.toList) DBlk.hole) := ⟨fun k hk => List.getElem?_append_left (by omega), by simp⟩
  have := seq_sound (B := B) (Q := Q) hP hcf ops.toList 0 S.heap.length _ S' tr rfl ht _ w a hB h1 (hs.keep h2) (Nat.le_trans hfl hf0.2) hfl (fun k hk1 hk2 => by
    simp only []
    rw [List.getElem?_append_right hk1, List.getElem?_replicate, if_pos (by omega)]) fun a' w' G' hK hH' hs' hf => hQ a' w' G' (Keep.trans hH.dist h2 hK) hH' hs' (hf0.trans hf)
  rw [List.range_eq_range']
  simpa using this
theorem evalD_congr {slots slots' : List DV} (x : Operand) (h : ∀ t, x = .tmp t → slots[t]? = slots'[t]?) : evalD slots x = evalD slots' x := by
  cases x with
  | tmp t => simp [evalD, List.getD, h t rfl]
  | _ => rfl
theorem map_congr {slots slots' : List DV} : ∀ (l : List Operand), (∀ t, Operand.tmp t ∈ l → slots[t]? = slots'[t]?) → l.map (evalD slots) = l.map (evalD slots')
  | [], _ => rfl
  | x :: l, h => by
    rw [List.map_cons, List.map_cons, evalD_congr x (fun t e => h t (by simp [e])), map_congr l (fun t ht => h t (by simp [ht]))]
theorem map2_congr {slots slots' : List DV} : ∀ (l : List (Nat × Operand)), (∀ t, Operand.tmp t ∈ l.map (·.2) → slots[t]? = slots'[t]?) → l.map (fun p => (p.1, evalD slots p.2)) = l.map (fun p => (p.1, evalD slots' p.2))
  | [], _ => rfl
  | x :: l, h => by
    rw [List.map_cons, List.map_cons, evalD_congr x.2 (fun t e => h t (by simp [e])), map2_congr l (fun t ht => h t (by simp at ht ⊢; exact .inr ht))]
theorem evalO_congr {P : Program} {cf : CF} {md : FuncId → CM} {fl nid : Nat} {H : Heap} {slots slots' : List DV} (h : ∀ t, Operand.tmp t ∈ o.op.operands.toList → slots[t]? = slots'[t]?) : evalO P cf md fl nid o slots H = evalO P cf md fl nid o slots' H := by
  have ev : ∀ x, x ∈ o.op.operands.toList → evalD slots x = evalD slots' x := fun x hx => evalD_congr x fun t e => h t (by rw [← e]; exact hx)
  unfold evalO
  cases hop : o.op with
  | build t parts =>
    rw [hop] at h
    simp only [Op.operands] at h
    simp only [map2_congr parts.toList (fun t ht => h t (by simpa using ht))]
  | buildSlice t n parts =>
    rw [hop] at h
    simp only [Op.operands] at h
    simp only [map2_congr parts.toList (fun t ht => h t (by simpa using ht))]
  | makeFunc fn first cap =>
    rw [hop] at h
    simp only [Op.operands, Array.toList_append, List.mem_append] at h
    simp only [map_congr first.toList (fun t ht => h t (.inl ht)), map_congr cap.toList (fun t ht => h t (.inr ht))]
  | call c =>
    rw [hop] at h
    simp only [Op.operands, Call.operands, Array.toList_append, List.mem_append] at h
    have hargs := map_congr c.args.toList (fun t ht => h t (.inr ht))
    simp only []
    unfold callOp
    cases hc : c.callee with
    | value f =>
      rw [hc] at h
      have hf : evalD slots f = evalD slots' f := evalD_congr f fun t e => h t (.inl (by simp [e]))
      simp only [hf, hargs]
    | invoke r m => rfl
    | builtin b =>
      have harg : ∀ x, x ∈ c.args.toList → evalD slots x = evalD slots' x := fun x hx => evalD_congr x fun t e => h t (.inr (by rw [← e]; exact hx))
      have hb := congrArg (fun l => qv (builtD P b c.argTypes o.type l)) hargs
      cases hl : c.args.toList with
      | nil =>
        rw [hl] at hb
        cases b <;> first | exact hb | rfl
      | cons x r =>
        have h1 := harg x (by rw [hl]; simp)
        rw [hl] at hb
        cases r with
        | nil =>
          cases b <;> first
            | exact hb
            | (rcases c.argTypes.toList with _ | ⟨t, _ | ⟨t', r'⟩⟩ <;> first | rfl | simp only [h1])
        | cons y r =>
          have h2 := harg y (by rw [hl]; simp)
          cases r with
          | nil =>
            cases b <;> first
              | exact hb
              | (rcases c.argTypes.toList with _ | ⟨t, _ | ⟨t', _ | ⟨t'', r'⟩⟩⟩ <;> first | rfl | simp only [h1, h2])
          | cons z r => cases b <;> first | exact hb | rfl
  | slice t x lo hi mx =>
    rw [hop] at h
    simp only [Op.operands] at h
    have o1 : ∀ y : Option Operand, (∀ t, Operand.tmp t ∈ y.toArray.toList → slots[t]? = slots'[t]?) → y.map (evalD slots) = y.map (evalD slots') := by
      intro y hy
      cases y with
      | none => rfl
      | some y => simp only [Option.map_some]; rw [evalD_congr y fun t e => hy t (by simp [e])]
    simp only [evalD_congr x fun t e => h t (by simp [e]), o1 lo fun t ht => h t (by simp at ht ⊢; simp [ht]), o1 hi fun t ht => h t (by simp at ht ⊢; simp [ht]), o1 mx fun t ht => h t (by simp at ht ⊢; simp [ht])]
  | _ =>
    simp only [hop, Op.operands] at ev
    first
      | rfl
      | simp only [ev _ (List.mem_cons_self), ev _ (List.mem_cons_of_mem _ (List.mem_cons_self)), ev _ (List.mem_cons_of_mem _ (List.mem_cons_of_mem _ (List.mem_cons_self)))]
      | simp only [ev _ (List.mem_cons_self), ev _ (List.mem_cons_of_mem _ (List.mem_cons_self))]
      | simp only [ev _ (List.mem_cons_self)]
theorem wantD_congr {ops : Array Oper} {slots slots' : List DV} (h : ∀ t, t ∈ namesOf ops o → slots[t]? = slots'[t]?) : wantD ops o slots = wantD ops o slots' := by
  unfold wantD
  cases hg : o.guard with
  | none => rfl
  | some p =>
    obtain ⟨j, want⟩ := p
    simp only []
    cases ht : (ops[j]?).bind (·.dst) with
    | none => rfl
    | some t =>
      simp only []
      have : slots.getD t .any = slots'.getD t .any := by
        simp only [List.getD]
        rw [h t (by simp [namesOf, hg, ht])]
      rw [this]
end Go.Proofs.Ytcpgmbpndpcmdaa
namespace Go.Proofs.Ytcpgmbpndpcmdaa
open Go Go.RowKit
variable {B : Nat → Nat → Prop} {G : Gh} {w : World} {o : Oper} {a : Act}
theorem trace_facts {X : Ctx} {ops : Array Oper} {fl : Nat} : ∀ {l : List Oper} {nid : Nat} {S S' : St} {tr : List Stp} (m : Nat), TraceOk X ops l nid S tr S' →
    (∀ (j : Nat) (s : Stp), tr[j]? = some s → loud s.e = true → j < m → Facts fl s.S.heap (s.e.heap s.S.heap)) → (∀ s, tr[m]? = some s → Facts fl S.heap s.S.heap) ∧ (l.length ≤ m → Facts fl S.heap S'.heap)
  | [], nid, S, S', [], m, h, _ => by
    simp only [TraceOk] at h
    subst h
    exact ⟨fun s hs => by simp at hs, fun _ => Facts.refl _ _⟩
  | [], _, _, _, _ :: _, _, h, _ => h.elim
  | _ :: _, _, _, _, [], _, h, _ => h.elim
  | o :: l, nid, S, S', s :: tr, m, h, hf => by
    obtain ⟨h1, h2, h3, h4⟩ := h
    cases m with
    | zero =>
      refine ⟨fun s' hs => ?_, fun hl => by simp at hl⟩
      simp at hs
      subst hs
      rw [h1]; exact Facts.refl _ _
    | succ m =>
      have h0 : Facts fl S.heap (s.e.heap S.heap) := by
        cases hl : loud s.e with
        | false => rw [quiet_heap hl]; exact Facts.refl _ _
        | true => rw [← h1]; exact hf 0 s rfl hl (by omega)
      obtain ⟨k1, k2⟩ := trace_facts m h4 (fun j s' hs hl hj => hf (j + 1) s' (by simpa using hs) hl (by omega))
      exact ⟨fun s' hs => h0.trans (k1 s' (by simpa using hs)), fun hl => h0.trans (k2 (by simp at hl; omega))⟩
theorem masks_get : ∀ (l : List Oper) (acc : List Nat) (j : Nat) (o : Oper), l[j]? = some o → ∃ acc' : List Nat, acc'.length = acc.length + j ∧ (masks l acc)[acc.length + j]? = some (maskOf o acc') ∧ ∀ i, i < acc.length + j → (masks l acc)[i]? = acc'[i]?
  | [], acc, j, o, h => by simp at h
  | x :: l, acc, 0, o, h => by
    simp at h
    subst h
    have pre : ∀ (l : List Oper) (acc : List Nat) (i : Nat), i < acc.length → (masks l acc)[i]? = acc[i]? := by
      intro l
      induction l with
      | nil => intro acc i _; rfl
      | cons y l ih =>
        intro acc i hi
        simp only [masks]
        rw [ih _ _ (by simp; omega), List.getElem?_append_left hi]
    refine ⟨acc, by simp, ?_, fun i hi => ?_⟩
    · simp only [masks, Nat.add_zero]
      rw [pre _ _ _ (by simp)]
      simp
    · simp only [masks]
      rw [pre _ _ _ (by simp; omega), List.getElem?_append_left (by omega)]
  | x :: l, acc, j + 1, o, h => by
    obtain ⟨acc', h1, h2, h3⟩ := masks_get l (acc ++ [maskOf x acc]) j o (by simpa using h)
    simp only [List.length_append, List.length_cons, List.length_nil] at h1 h2 h3
    refine ⟨acc', by omega, ?_, fun i hi => ?_⟩
    · simp only [masks]
      rw [show acc.length + (j + 1) = acc.length + (0 + 1) + j by omega]
      exact h2
    · simp only [masks]
      exact h3 i (by omega)
theorem mask_bit (o : Oper) (acc : List Nat) (i : Nat) : (maskOf o acc).testBit i = true → ∃ e, e ∈ o.after ∧ Region.binds .any e = true ∧ (i = e.on ∨ (acc.getD e.on 0).testBit i = true) := by
  have key : ∀ (l : List Edge) (s : Nat), (l.foldl (fun s e => if Region.binds .any e then s ||| (2 ^ e.on ||| acc.getD e.on 0) else s) s).testBit i = true → s.testBit i = true ∨ ∃ e, e ∈ l ∧ Region.binds .any e = true ∧ (i = e.on ∨ (acc.getD e.on 0).testBit i = true) := by
    intro l
    induction l with
    | nil => intro s h; exact .inl h
    | cons e l ih =>
      intro s h
      rw [List.foldl_cons] at h
      rcases ih _ h with h1 | ⟨e', h1, h2, h3⟩
      · split at h1
        · rename_i hb
          rw [Nat.testBit_or, Nat.testBit_or, Bool.or_eq_true, Bool.or_eq_true] at h1
          rcases h1 with h1 | h1 | h1
          · exact .inl h1
          · right
            refine ⟨e, by simp, hb, .inl ?_⟩
            rw [Nat.testBit_two_pow] at h1
            exact (by simpa using h1 : e.on = i).symm
          · exact .inr ⟨e, by simp, hb, .inr h1⟩
        · exact .inl h1
      · exact .inr ⟨e', by simp [h1], h2, h3⟩
  intro h
  rcases key _ _ h with h1 | ⟨e, h1, h2, h3⟩
  · simp at h1
  · exact ⟨e, by simpa using h1, h2, h3⟩
def Down (ops : Array Oper) (L : Nat → Bool) : Prop := ∀ (j : Nat) (o : Oper), ops[j]? = some o → L j = true → ∀ e ∈ o.after, Region.binds .any e = true → L e.on = true
theorem anc {ops : Array Oper} {L : Nat → Bool} (hD : Down ops L) (hE : ∀ (j : Nat) (o : Oper), ops[j]? = some o → ∀ e ∈ o.after, Region.binds .any e = true → e.on < j) : ∀ (j : Nat) (o : Oper) (i : Nat), ops[j]? = some o → (∀ e ∈ o.after, Region.binds .any e = true → L e.on = true) →
    ((masks ops.toList []).getD j 0).testBit i = true → L i = true := by
  intro j
  induction j using Nat.strongRecOn with
  | _ j ih =>
    intro o i ho hd hb
    obtain ⟨acc, h1, h2, h3⟩ := masks_get ops.toList [] j o (by simpa using ho)
    simp only [List.length_nil, Nat.zero_add] at h1 h2 h3
    simp only [List.getD, h2, Option.getD_some] at hb
    obtain ⟨e, he, hbd, hc⟩ := mask_bit o acc i hb
    have hlt := hE j o ho e he hbd
    rcases hc with rfl | hc
    · exact hd e he hbd
    · have hon : ∃ o', ops[e.on]? = some o' := by
        have : j < ops.size := (Array.getElem?_eq_some_iff.1 ho).1
        exact ⟨ops[e.on], by simp⟩
      obtain ⟨o', ho'⟩ := hon
      refine ih e.on hlt o' i ho' (hD e.on o' ho' (hd e he hbd)) ?_
      simp only [List.getD, h3 e.on hlt]
      exact hc
theorem drawOk_spec {ops : Array Oper} {cs : List Nat} (h : drawOk ops cs = true) :
    (∀ (j : Nat) (o : Oper), ops[j]? = some o → ∀ e ∈ o.after, Region.binds .any e = true → e.on < j) ∧
    (∀ (i j : Nat) (oi oj : Oper), ops[i]? = some oi → ops[j]? = some oj → i < j → clash ops oi oj (cs.getD i 2) (cs.getD j 2) = true → ((masks ops.toList []).getD j 0).testBit i = true) := by
  unfold drawOk at h
  simp only [List.all_eq_true, List.mem_range, Bool.and_eq_true, Bool.or_eq_true, Bool.not_eq_true', decide_eq_true_eq] at h
  refine ⟨fun j o ho e he hb => ?_, fun i j oi oj hi hj hij hc => ?_⟩
  · have hlt : j < ops.size := (Array.getElem?_eq_some_iff.1 ho).1
    have := (h j (by simpa using hlt)).1 e (by simp [List.getD, ho]; exact he)
    rcases this with h1 | h1
    · rw [hb] at h1; cases h1
    · exact h1
  · have hlt : j < ops.size := (Array.getElem?_eq_some_iff.1 hj).1
    have := (h j (by simpa using hlt)).2 i hij
    simp only [List.getD, Array.getElem?_toList, hi, hj, Option.getD_some] at this hc
    rcases this with h1 | h1
    · rw [hc] at h1; cases h1
    · exact h1
theorem zip_get {ops : Array Oper} {tr : List Stp} {j : Nat} {p : Oper × Stp} (h : (ops.toList.zip tr)[j]? = some p) : ops[j]? = some p.1 ∧ tr[j]? = some p.2 := by
  rw [List.getElem?_zip_eq_some] at h
  simpa using h
theorem zip_mk {ops : Array Oper} {tr : List Stp} {j : Nat} {o : Oper} {s : Stp} (h1 : ops[j]? = some o) (h2 : tr[j]? = some s) : (ops.toList.zip tr)[j]? = some (o, s) := by
  rw [List.getElem?_zip_eq_some]
  simpa using ⟨h1, h2⟩
theorem cls_loud {e : Eff} (h : loud e = true) : e.cls = 2 ∨ e.cls = 3 ∨ e.cls = 5 := by cases e <;> simp_all [loud, Eff.cls]
theorem abs_cls {e : Eff} {H' : Heap} (h : e.abs = some H') : e.cls = 2 ∨ e.cls = 5 := by cases e <;> simp_all [Eff.abs, Eff.cls]
theorem ready_all {ops : Array Oper} {listed : Array Bool} (hE : ∀ (j : Nat) (o : Oper), ops[j]? = some o → ∀ e ∈ o.after, Region.binds .any e = true → e.on < j) (hs : listed.size = ops.size) (hr : Region.ready .any ops listed = []) : ∀ j, j < ops.size → listed.getD j false = true := by
  intro j
  induction j using Nat.strongRecOn with
  | _ j ih =>
    intro hj
    cases hl : listed.getD j false with
    | true => rfl
    | false =>
      have hm : j ∈ Region.ready .any ops listed := by
        rw [mem_ready]
        refine ⟨?_, ops[j], by simp, fun e he hb => ?_⟩
        · simp only [Array.getD, hs, hj, dif_pos] at hl ⊢; exact hl
        · have := hE j ops[j] (by simp) e he hb
          exact ih e.on this (by omega)
      rw [hr] at hm; simp at hm
theorem count_set {listed : Array Bool} {i n : Nat} (hs : listed.size = n) (hi : i < n) (hl : listed.getD i true = false) : (List.range n).countP (fun j => !(listed.setIfInBounds i true).getD j true) + 1 = (List.range n).countP (fun j => !listed.getD j true) := by
  have key : ∀ m, m ≤ n → (List.range m).countP (fun j => !(listed.setIfInBounds i true).getD j true) + (if i < m then 1 else 0) = (List.range m).countP (fun j => !listed.getD j true) := by
    intro m
    induction m with
    | zero => intro _; simp
    | succ m ih =>
      intro hm
      have := ih (by omega)
      have e1 : ∀ f : Nat → Bool, (List.range (m + 1)).countP f = (List.range m).countP f + (if f m = true then 1 else 0) := by
        intro f
        rw [List.range_succ, List.countP_append]
        simp [List.countP_cons]
      rw [e1, e1]
      by_cases hmi : m = i
      · subst hmi
        have h1 : (listed.setIfInBounds m true).getD m true = true := by simp [Array.getD, hs, hi]
        rw [h1, hl]
        rw [if_neg (by omega)] at this
        rw [if_neg (by simp), if_pos (by omega), if_pos (by simp)]
        omega
      · have h1 : (listed.setIfInBounds i true).getD m true = listed.getD m true := getD_set_ne true (Ne.symm hmi)
        rw [h1]
        by_cases him : i < m
        · rw [if_pos him] at this
          rw [if_pos (show i < m + 1 by omega)]
          omega
        · rw [if_neg him] at this
          rw [if_neg (show ¬ i < m + 1 by omega)]
          omega
  have := key n (Nat.le_refl _)
  rw [if_pos hi] at this
  exact this
structure JJ (X : Ctx) (ops : Array Oper) (z : Zip) (S0 : St) (B : Nat → Nat → Prop) (G0 : Gh) (w0 : World) (listed : Array Bool) (a : Act) (w : World) (G : Gh) : Prop where
  size : listed.size = ops.size
  down : Down ops (fun j => listed.getD j false)
  hr : HR B G w (foldH (fun j => listed.getD j false) z 0 S0.heap)
  sr : SR (ImmB B G) w G (foldS (fun j => listed.getD j false) z 0 S0.slots) a
  keep : Keep G0 w0 G w
  facts : ∀ (j : Nat) (p : Oper × Stp), z[j]? = some p → listed.getD j false = true → Facts X.fl p.2.S.heap (p.2.e.heap p.2.S.heap)
theorem draw_any {X : Ctx} {ops : Array Oper} (hP : NoOwn X.P) (hcf : CFSound X.P X.cf) {Q : Exit → Act → World → Prop} {S0 S' : St} {tr : List Stp} {nid : Nat} {G0 : Gh} {w0 : World} (ht : TraceOk X ops ops.toList nid S0 tr S') (hok : drawOk ops (tr.map fun s => s.e.cls) = true)
    (hB : ∀ b j, w0.heap.size ≤ b → B b j) (hD0 : Dist G0) (hfl : X.fl ≤ S0.heap.length) (hnid : X.fl ≤ nid) (hh : ∀ k, nid ≤ k → k < nid + alCount ops.toList → S0.heap[k]? = some .hole)
    (hQ : ∀ a' w' G', Keep G0 w0 G' w' → HR B G' w' S'.heap → SR (ImmB B G') w' G' S'.slots a' → Facts X.fl S0.heap S'.heap → Q .normal a' w') :
    ∀ (fuel : Nat) (listed : Array Bool) (a : Act) (w : World) (G : Gh), JJ X ops (ops.toList.zip tr) S0 B G0 w0 listed a w G → (List.range ops.size).countP (fun j => !listed.getD j true) = fuel → wpAny X.P .any ops Q fuel listed a w := by
  obtain ⟨hE1, hE2⟩ := drawOk_spec hok
  obtain ⟨hlen, hat, hend⟩ := trace_at ht
  obtain ⟨hZ, hHI, hids⟩ := trace_holes hcf ht hh
  have done : ∀ (listed : Array Bool) (a : Act) (w : World) (G : Gh), JJ X ops (ops.toList.zip tr) S0 B G0 w0 listed a w G → Region.ready .any ops listed = [] → Q .normal a w := by
    intro listed a w G J hr
    have hall := ready_all hE1 J.size hr
    have hlt : ∀ (j : Nat) (p : Oper × Stp), (ops.toList.zip tr)[j]? = some p → j < ops.size := fun j p hp => (Array.getElem?_eq_some_iff.1 (zip_get hp).1).1
    have hS : foldS (fun j => listed.getD j false) (ops.toList.zip tr) 0 S0.slots = S'.slots := by
      rw [(hend 0).1]
      refine List.ext_getElem? fun t => foldS_congr t _ 0 _ _ rfl rfl fun j p hp _ => ?_
      rw [Nat.zero_add]; exact hall j (hlt j p hp)
    have hH : foldH (fun j => listed.getD j false) (ops.toList.zip tr) 0 S0.heap = S'.heap := by
      rw [(hend 0).2]
      refine foldH_congr _ 0 _ fun j p hp _ => ?_
      rw [Nat.zero_add]; exact hall j (hlt j p hp)
    have h1 := J.hr
    have h2 := J.sr
    rw [hH] at h1
    rw [hS] at h2
    refine hQ a w G J.keep h1 h2 ((trace_facts ops.toList.length ht fun j s hs _ hj => ?_).2 (Nat.le_refl _))
    have hj' : j < ops.size := by simpa using hj
    exact J.facts j (ops[j], s) (zip_mk (by simp) hs) (hall j hj')
  intro fuel
  induction fuel with
  | zero =>
    intro listed a w G J hc
    have hr : Region.ready .any ops listed = [] := by
      cases hr : Region.ready .any ops listed with
      | nil => rfl
      | cons i r =>
        have hm : i ∈ Region.ready .any ops listed := by rw [hr]; simp
        obtain ⟨h1, o, ho, _⟩ := mem_ready.1 hm
        have hi : i < ops.size := (Array.getElem?_eq_some_iff.1 ho).1
        have := List.countP_eq_zero.1 hc i (by simpa using hi)
        simp [h1] at this
    exact ⟨hr, done listed a w G J hr⟩
  | succ fuel ih =>
    intro listed a w G J hc
    refine ⟨done listed a w G J, fun i hm => ?_⟩
    obtain ⟨h1, o, ho, hdep⟩ := mem_ready.1 hm
    have hi : i < ops.size := (Array.getElem?_eq_some_iff.1 ho).1
    have hLi : listed.getD i false = false := by
      simp only [Array.getD, J.size, hi, dif_pos] at h1 ⊢; exact h1
    obtain ⟨s, hs⟩ : ∃ s, tr[i]? = some s := ⟨tr[i]'(by rw [hlen]; simpa using hi), List.getElem?_eq_getElem _⟩
    have hz := zip_mk ho hs
    obtain ⟨hstep, hsn, hSi⟩ := hat i o s (by simpa using ho) hs
    obtain ⟨hSs, hSh⟩ := hSi 0
    simp only [Nat.zero_add] at hSs hSh
    have hcls : ∀ (j : Nat) (p : Oper × Stp), (ops.toList.zip tr)[j]? = some p → (tr.map fun s => s.e.cls).getD j 2 = p.2.e.cls := by
      intro j p hp
      simp [List.getD, (zip_get hp).2]
    have hci := hcls i _ hz
    simp only [] at hci
    have before : ∀ (j : Nat) (p : Oper × Stp), (ops.toList.zip tr)[j]? = some p → j < i → clash ops p.1 o p.2.e.cls s.e.cls = true → listed.getD j false = true := by
      intro j p hp hj hcl
      have := hE2 j i p.1 o (zip_get hp).1 ho hj (by rw [hcls j p hp, hci]; exact hcl)
      exact anc J.down hE1 i o j ho hdep this
    have after : ∀ (j : Nat) (p : Oper × Stp), (ops.toList.zip tr)[j]? = some p → i < j → clash ops o p.1 s.e.cls p.2.e.cls = true → listed.getD j false = false := by
      intro j p hp hj hcl
      have hb := hE2 i j o p.1 ho (zip_get hp).1 hj (by rw [hcls j p hp, hci]; exact hcl)
      cases hl : listed.getD j false with
      | false => rfl
      | true =>
        have := anc J.down hE1 j p.1 i (zip_get hp).1 (J.down j p.1 (zip_get hp).1 hl) hb
        rw [hLi] at this; cases this
    have slot : ∀ t, t ∈ namesOf ops o → (foldS (fun j => listed.getD j false) (ops.toList.zip tr) 0 S0.slots)[t]? = s.S.slots[t]? := by
      intro t htn
      rw [hSs]
      refine foldS_congr t _ 0 _ _ rfl rfl fun j p hp hd => ?_
      rw [Nat.zero_add]
      rcases Nat.lt_trichotomy j i with hj | hj | hj
      · rw [before j p hp hj (by simp [clash, hd, htn])]
        simp [hj]
      · subst hj; rw [hLi]; simp
      · rw [after j p hp hj (by simp [clash, hd, htn])]
        simp; omega
    have hops : ∀ t, Operand.tmp t ∈ o.op.operands.toList → t ∈ namesOf ops o := by
      intro t ht
      simp only [namesOf, List.mem_append, List.mem_filterMap]
      exact .inl (.inr ⟨_, ht, rfl⟩)
    have hev : ∀ H, evalO X.P X.cf X.md X.fl s.nid o (foldS (fun j => listed.getD j false) (ops.toList.zip tr) 0 S0.slots) H = evalO X.P X.cf X.md X.fl s.nid o s.S.slots H := fun H => evalO_congr fun t ht => slot t (hops t ht)
    have hwant : wantD ops o (foldS (fun j => listed.getD j false) (ops.toList.zip tr) 0 S0.slots) = wantD ops o s.S.slots := wantD_congr slot
    have loudEq : (s.e.cls = 2 ∨ s.e.cls = 4 ∨ s.e.cls = 5) → foldH (fun j => listed.getD j false) (ops.toList.zip tr) 0 S0.heap = s.S.heap := by
      intro hc2
      rw [hSh]
      refine foldH_congr _ 0 _ fun j p hp hl => ?_
      rw [Nat.zero_add]
      have hcl := cls_loud hl
      rcases Nat.lt_trichotomy j i with hj | hj | hj
      · rw [before j p hp hj (by rcases hc2 with h | h | h <;> rcases hcl with h' | h' | h' <;> simp [clash, h, h'])]
        simp [hj]
      · subst hj; rw [hLi]; simp
      · rw [after j p hp hj (by rcases hc2 with h | h | h <;> rcases hcl with h' | h' | h' <;> simp [clash, h, h'])]
        simp; omega
    have hag : Agree s.e s.S.heap (foldH (fun j => listed.getD j false) (ops.toList.zip tr) 0 S0.heap) := by
      cases he : s.e with
      | q => trivial
      | rd =>
        rw [hSh]
        refine foldH_near _ 0 _ _ hZ hHI hHI (fun k t cs hx => .inl hx) (fun j p H' hp hpe => ?_) (fun j p H' hp hpe hl => ?_) (fun j p H' hp hpe hl k t cs hx => ?_)
        · rw [Nat.zero_add]
          rcases Nat.lt_trichotomy j i with hj | hj | hj
          · rw [before j p hp hj (by rw [hpe, he]; simp [clash, Eff.cls])]
            simp [hj]
          · subst hj; rw [hLi]; simp
          · rw [after j p hp hj (by rw [hpe, he]; simp [clash, Eff.cls])]
            simp; omega
        · rw [Nat.zero_add] at hl ⊢
          rcases Nat.lt_trichotomy j i with hj | hj | hj
          · simp [hj]
          · subst hj; rw [hLi] at hl; cases hl
          · rw [after j p hp hj (by rw [hpe, he]; simp [clash, Eff.cls])] at hl
            cases hl
        · rw [Nat.zero_add] at hl
          have hji : j < i := by simpa using hl
          obtain ⟨hst, _, hSj⟩ := hat j p.1 p.2 (by simpa using (zip_get hp).1) (zip_get hp).2
          have hc : TkOk p.2.S.heap H' := by
            rcases hst with ⟨_, h2⟩ | ⟨_, _, h3⟩
            · rw [hpe] at h2
              exact tk_cells h2
            · rw [hpe] at h3; cases h3
          have := hc k t cs hx
          rw [(hSj 0).2, foldH_upto (L' := fun j' => decide (j' < i)) _ 0 j _ (fun j' hj' => by simp; omega) (fun j' hj' => by simp; omega)] at this
          exact this
      | ro => exact loudEq (.inr (.inl (by rw [he]; rfl)))
      | ch H' => exact loudEq (.inl (by rw [he]; rfl))
      | tk H' => exact loudEq (.inr (.inr (by rw [he]; rfl)))
      | al k b =>
        refine foldH_alhole _ 0 i _ _ hZ hHI hz he (by rw [Nat.zero_add]; exact hLi) fun j q H' hj hq hqe => ?_
        rw [Nat.zero_add]
        exact after j q hq hj (by have hc3 : s.e.cls = 3 := (by rw [he]; rfl); rcases abs_cls hqe with h | h <;> simp [clash, hc3, h])
    have hBw : ∀ b j, w.heap.size ≤ b → B b j := fun b j hb => hB b j (Nat.le_trans J.keep.size hb)
    have hflS : s.e.wr → X.fl ≤ s.S.heap.length := by
      intro hc2
      refine Nat.le_trans hfl ((trace_facts (fl := X.fl) i ht fun j s' hs' hl hj => ?_).1 s hs).2
      have hjo : j < ops.size := by omega
      have hp := zip_mk (show ops[j]? = some ops[j] by simp) hs'
      refine J.facts j _ hp (before j _ hp hj ?_)
      rcases hc2 with h | h <;> rcases cls_loud hl with h' | h' | h' <;> simp [clash, h, h']
    have hnidS : X.fl ≤ s.nid := Nat.le_trans hnid hsn
    have hfact := step_facts hP hcf hstep hBw J.hr J.sr (hev _) hag hflS hnidS
    refine step_sound hP hcf ho hstep hBw J.hr J.sr hwant (hev _) hag hflS hnidS fun V w' G' hK hH' hr => ?_
    have hset : ∀ j, (listed.setIfInBounds i true).getD j false = if j = i then true else listed.getD j false := by
      intro j
      by_cases hj : j = i
      · subst hj; simp [Array.getD, J.size, hi]
      · rw [if_neg hj, getD_set_ne false (Ne.symm hj)]
    have hfold : foldS (fun j => (listed.setIfInBounds i true).getD j false) (ops.toList.zip tr) 0 S0.slots = putD (foldS (fun j => listed.getD j false) (ops.toList.zip tr) 0 S0.slots) o.dst s.d := by
      refine List.ext_getElem? fun t => ?_
      rw [putD_get]
      by_cases hd : o.dst = some t
      · by_cases hlt : t < (foldS (fun j => listed.getD j false) (ops.toList.zip tr) 0 S0.slots).length
        · rw [if_pos ⟨hd, hlt⟩]
          refine foldS_last t _ 0 i (o, s) _ hz hd (by rw [Nat.zero_add, hset, if_pos rfl]) (fun j q hj hq hqd => ?_) (by rw [foldS_len] at hlt; exact hlt)
          rw [Nat.zero_add, hset, if_neg (by omega)]
          refine after j q hq hj ?_
          have : t ∈ namesOf ops o := by simp [namesOf, hd]
          simp [clash, hqd, this]
        · rw [if_neg (fun h => hlt h.2)]
          rw [List.getElem?_eq_none (by rw [foldS_len]; rw [foldS_len] at hlt; omega), List.getElem?_eq_none (by omega)]
      · rw [if_neg (fun h => hd h.1)]
        refine foldS_congr t _ 0 _ _ rfl rfl fun j p hp hpd => ?_
        rw [Nat.zero_add, hset]
        by_cases hj : j = i
        · subst hj
          rw [hz] at hp; cases hp
          exact absurd hpd hd
        · rw [if_neg hj]
    have hfoldH : foldH (fun j => (listed.setIfInBounds i true).getD j false) (ops.toList.zip tr) 0 S0.heap = s.e.heap (foldH (fun j => listed.getD j false) (ops.toList.zip tr) 0 S0.heap) := by
      cases hl : loud s.e with
      | false =>
        rw [quiet_heap hl]
        refine foldH_congr _ 0 _ fun j p hp hpl => ?_
        rw [Nat.zero_add, hset]
        by_cases hj : j = i
        · subst hj
          rw [hz] at hp; cases hp
          rw [hl] at hpl; cases hpl
        · rw [if_neg hj]
      | true =>
        cases he : s.e with
        | ch H' =>
          refine foldH_last _ 0 i (o, s) _ hz (by show s.e.abs = _; rw [he]; rfl) (by rw [Nat.zero_add, hset, if_pos rfl]) fun j q hj hq hql => ?_
          rw [Nat.zero_add, hset, if_neg (by omega)]
          refine after j q hq hj ?_
          have hc2 : s.e.cls = 2 := by rw [he]; rfl
          rcases cls_loud hql with h' | h' | h' <;> simp [clash, hc2, h']
        | tk H' =>
          refine foldH_last _ 0 i (o, s) _ hz (by show s.e.abs = _; rw [he]; rfl) (by rw [Nat.zero_add, hset, if_pos rfl]) fun j q hj hq hql => ?_
          rw [Nat.zero_add, hset, if_neg (by omega)]
          refine after j q hq hj ?_
          have hc2 : s.e.cls = 5 := by rw [he]; rfl
          rcases cls_loud hql with h' | h' | h' <;> simp [clash, hc2, h']
        | al k b =>
          refine foldH_addal _ 0 i (o, s) _ hZ hz he (by rw [Nat.zero_add]; exact hLi) (by rw [Nat.zero_add, hset, if_pos rfl]) (fun j hj => by rw [Nat.zero_add, hset, if_neg hj]) fun j q H' hj hq hqe => ?_
          rw [Nat.zero_add]
          exact after j q hq hj (by have hc3 : s.e.cls = 3 := (by rw [he]; rfl); rcases abs_cls hqe with h | h <;> simp [clash, hc3, h])
        | q => rw [he] at hl; cases hl
        | rd => rw [he] at hl; cases hl
        | ro => rw [he] at hl; cases hl
    refine ih _ _ w' G' ⟨by simp [J.size], fun j o' ho' hl e he hb => ?_, by rw [hfoldH]; exact hH', by rw [hfold]; exact (J.sr.keep hK).put o.dst hr, Keep.trans hD0 J.keep hK, fun j p hp hl => ?_⟩ ?_
    · simp only [hset] at hl ⊢
      split at hl
      · rename_i hj
        subst hj
        rw [ho] at ho'; cases ho'
        have := hdep e he hb
        split
        · rfl
        · exact this
      · have := J.down j o' ho' hl e he hb
        split
        · rfl
        · exact this
    · rw [hset] at hl
      split at hl
      · rename_i hj
        subst hj
        rw [hz] at hp; cases hp
        exact hfact
      · exact J.facts j p hp hl
    · have := count_set J.size hi h1
      omega
theorem draw_sound {X : Ctx} {ops : Array Oper} {id : Nat} (hM : X.P.follows .mixedOrders = true) (hP : NoOwn X.P) (hcf : CFSound X.P X.cf) {Q : Exit → Act → World → Prop} {S S' : St} {tr : List Stp} (ht : TraceOk X ops ops.toList S.heap.length ⟨S.slots, S.heap ++ holes ops.toList⟩ tr S') (hok : drawOk ops (tr.map fun s => s.e.cls) = true)
    (hB : ∀ b j, w.heap.size ≤ b → B b j) (hH : HR B G w S.heap) (hs : SR (ImmB B G) w G S.slots a) (hfl : X.fl ≤ S.heap.length)
    (hQ : ∀ a' w' G', Keep G w G' w' → HR B G' w' S'.heap → SR (ImmB B G') w' G' S'.slots a' → Facts X.fl S.heap S'.heap → Q .normal a' w') : (Code.region id ops true).wp X.P Q a w := by
  refine wp_region_any hM ?_
  rw [holes_eq] at ht
  obtain ⟨h1, h2⟩ := hr_holes (hH.draw (w.drawn + 1)) (alCount ops.toList)
  have hkd := Keep.trans hH.dist (Keep.draw G w (w.drawn + 1)) h2
  have hf0 : Facts X.fl S.heap (S.heap ++ List.replicate (alCount ops.toList) DBlk.hole) := ⟨fun k hk => List.getElem?_append_left (by omega), by simp⟩
  have hnone : ∀ j, (Array.replicate ops.size false).getD j false = false := by intro j; simp [Array.getD]
  have noneS : ∀ (z : Zip) (i : Nat) (acc : List DV), foldS (fun j => (Array.replicate ops.size false).getD j false) z i acc = acc := by
    intro z
    induction z with
    | nil => intro i acc; rfl
    | cons p z ih =>
      intro i acc
      simp only [foldS]
      rw [if_neg (by rw [hnone i]; simp)]
      exact ih _ _
  have noneH : ∀ (z : Zip) (i : Nat) (acc : Heap), foldH (fun j => (Array.replicate ops.size false).getD j false) z i acc = acc := by
    intro z
    induction z with
    | nil => intro i acc; rfl
    | cons p z ih =>
      intro i acc
      simp only [foldH]
      rw [if_neg (by rw [hnone i]; simp)]
      exact ih _ _
  refine draw_any (B := B) (G0 := G ++ List.replicate (alCount ops.toList) GK.hole) (w0 := { w with drawn := w.drawn + 1 }) hP hcf ht hok hB h1.dist (Nat.le_trans hfl hf0.2) hfl (fun k hk1 hk2 => by
    simp only []
    rw [List.getElem?_append_right hk1, List.getElem?_replicate, if_pos (by omega)]) (fun a' w' G' hK hH' hs' hf => hQ a' w' G' (Keep.trans hH.dist hkd hK) hH' hs' (hf0.trans hf)) _ _ _ _ (G ++ List.replicate (alCount ops.toList) GK.hole) ⟨by simp, fun j o _ hl => (by have := hnone j; simp only [] at hl; rw [this] at hl; cases hl), (by rw [noneH]; exact h1), (by rw [noneS]; exact hs.keep hkd), Keep.refl _ _, fun j p _ hl => (by rw [hnone] at hl; cases hl)⟩ ?_
  have : ∀ m, m ≤ ops.size → (List.range m).countP (fun j => !(Array.replicate ops.size false).getD j true) = m := by
    intro m hm
    rw [List.countP_eq_length.2]
    · simp
    · intro j hj
      have : j < ops.size := by have := List.mem_range.1 hj; omega
      simp [Array.getD, this]
  exact this _ (Nat.le_refl _)
end Go.Proofs.Ytcpgmbpndpcmdaa
namespace Go.Proofs.Ytcpgmbpndpcmdaa
open Go Go.RowKit
variable {B : Nat → Nat → Prop} {G : Gh} {w : World} {o : Oper} {a : Act}
def toExit : Ex → Exit
  | .normal => .normal
  | .exit id => .exit id
  | .ret => .ret
theorem trace_keep {X : Ctx} {ops : Array Oper} (hcf : CFSound X.P X.cf) : ∀ {l : List Oper} {nid : Nat} {S S' : St} {tr : List Stp}, TraceOk X ops l nid S tr S' → ∀ j : Nat, j < nid → S.heap[j]? = some .hole → S'.heap[j]? = some .hole
  | [], nid, S, S', [], h, j, _, hj => by
    simp only [TraceOk] at h
    subst h
    exact hj
  | [], _, _, _, _ :: _, h, _, _, _ => h.elim
  | _ :: _, _, _, _, [], h, _, _, _ => h.elim
  | o :: l, nid, S, S', s :: tr, h, j, hlt, hj => by
    obtain ⟨h1, h2, h3, h4⟩ := h
    subst h1
    subst h2
    have hle : s.nid ≤ nextId o s.nid := by unfold nextId; split <;> omega
    exact trace_keep hcf h4 j (by omega) (step_holes hcf h3 hj (fun _ => by omega))
theorem region_trace {X : Ctx} {ops : Array Oper} {S : St} {k : Ex → St → R} {r : DV × Heap} {draw : Bool}
    (h : opsK X ops ops.toList S.heap.length [] ⟨S.slots, addHoles ops.toList S.heap⟩ (fun cs S' => drawK draw ops cs (k .normal S')) = some r) :
    ∃ tr S', TraceOk X ops ops.toList S.heap.length ⟨S.slots, S.heap ++ holes ops.toList⟩ tr S' ∧ k .normal S' = some r ∧ (draw = true → drawOk ops (tr.map fun s => s.e.cls) = true) := by
  have ha : addHoles ops.toList S.heap = S.heap ++ holes ops.toList := by unfold addHoles; split <;> simp_all
  rw [ha] at h
  obtain ⟨tr, S', ht, hk⟩ := trace_of _ _ _ _ h
  simp only [drawK, List.append_nil, List.reverse_reverse] at hk
  refine ⟨tr, S', ht, ?_, fun hd => ?_⟩
  · split at hk
    · cases hk
    · exact hk
  · cases hb : drawOk ops (tr.map fun s => s.e.cls) with
    | true => rfl
    | false => rw [hd, hb] at hk; simp at hk
theorem exec_holes {X : Ctx} (hcf : CFSound X.P X.cf) (n : Nat) : ∀ (c : Code) (ks : List (List Nat × List Nat)) (S : St) (k : Ex → St → R) (r : DV × Heap), execD X n c ks S k = some r → ∃ x S', k x S' = some r ∧ ∀ j : Nat, S.heap[j]? = some .hole → S'.heap[j]? = some .hole := by
  intro c
  induction c with
  | skip => intro ks S k r h; exact ⟨_, _, h, fun _ h => h⟩
  | region id ops draw =>
    intro ks S k r h
    obtain ⟨tr, S', ht, hk, _⟩ := region_trace h
    refine ⟨_, _, hk, fun j hj => trace_keep hcf ht j (List.getElem?_eq_some_iff.1 hj).1 ?_⟩
    simp only []
    rw [List.getElem?_append_left (List.getElem?_eq_some_iff.1 hj).1]; exact hj
  | seq x y ihx ihy =>
    intro ks S k r h
    simp only [execD] at h
    obtain ⟨e, S1, h1, hh1⟩ := ihx _ _ _ _ h
    cases e with
    | normal =>
      obtain ⟨e, S2, h2, hh2⟩ := ihy _ _ _ _ h1
      exact ⟨e, S2, h2, fun j hj => hh2 j (hh1 j hj)⟩
    | exit id => exact ⟨_, S1, h1, hh1⟩
    | ret => exact ⟨_, S1, h1, hh1⟩
  | cond c x y ihx ihy =>
    intro ks S k r h
    simp only [execD] at h
    unfold condR at h
    split at h
    · exact ihx _ _ _ _ h
    · exact ihy _ _ _ _ h
    · cases h
  | block id b ih =>
    intro ks S k r h
    simp only [execD] at h
    obtain ⟨e, S1, h1, hh1⟩ := ih _ _ _ _ h
    cases e with
    | normal => exact ⟨_, S1, h1, hh1⟩
    | exit i =>
      simp only [] at h1
      split at h1
      · exact ⟨_, S1, h1, hh1⟩
      · exact ⟨_, S1, h1, hh1⟩
    | ret => exact ⟨_, S1, h1, hh1⟩
  | loop b ih =>
    intro ks S k r h
    simp only [execD] at h
    have key : ∀ (keep out : List Nat) (k : Ex → St → R) (m : Nat) (S : St), loopN keep out X.N (execD X n b ks.tail) m S k = some r → ∃ x S', k x S' = some r ∧ ∀ j : Nat, S.heap[j]? = some .hole → S'.heap[j]? = some .hole := by
      intro keep out k m
      induction m with
      | zero => intro S h; cases h
      | succ m ihm =>
        intro S h
        simp only [loopN] at h
        obtain ⟨e, S1, h1, hh1⟩ := ih _ _ _ _ h
        cases e with
        | normal =>
          obtain ⟨e, S2, h2, hh2⟩ := ihm _ h1
          exact ⟨e, S2, h2, fun j hj => hh2 j (hh1 j hj)⟩
        | exit i => exact ⟨_, _, h1, hh1⟩
        | ret => exact ⟨_, _, h1, hh1⟩
    obtain ⟨x, S1, h1, hh1⟩ := key _ _ _ n _ h
    cases x with
    | normal => cases h1
    | exit i => exact ⟨_, _, h1, hh1⟩
    | ret => exact ⟨_, _, h1, hh1⟩
  | scope b ih => intro ks S k r h; exact ih _ _ _ _ h
  | exit id => intro ks S k r h; exact ⟨_, _, h, fun _ h => h⟩
  | ret => intro ks S k r h; exact ⟨_, _, h, fun _ h => h⟩
  | _ => intro ks S k r h; cases h
theorem forget_rep {I : Nat → Nat → Prop} {slots : List DV} {N : Nat} (keep : List Nat) (hN : slots.length = N) (h : SR I w G slots a) : SR I w G (forget keep N slots) a := by
  refine ⟨h.1, RepL.of (by simp [forget, h.2.length, hN]) fun i d v hd hv => ?_⟩
  unfold forget at hd
  rw [List.getElem?_map] at hd
  have hi : i < N := by
    have := (List.getElem?_eq_some_iff.1 hv).1
    rw [h.2.length, hN] at this; exact this
  rw [List.getElem?_range hi] at hd
  simp at hd
  subst hd
  split
  · have hs := List.getElem?_eq_getElem (show i < slots.length by omega)
    obtain ⟨v', hv', hr⟩ := h.2.get i _ hs
    rw [hv'] at hv; cases hv
    simpa [List.getD, hs] using hr
  · simp [Rep]
theorem forget_len (keep : List Nat) (N : Nat) (slots : List DV) : (forget keep N slots).length = N := by simp [forget]
def After (fl : Nat) (B : Nat → Nat → Prop) (G : Gh) (w : World) (S : St) (k : Ex → St → R) (r : DV × Heap) (Q : Exit → Act → World → Prop) : Prop :=
  ∀ x S' a' w' G', k x S' = some r → Keep G w G' w' → HR B G' w' S'.heap → SR (ImmB B G') w' G' S'.slots a' → Facts fl S.heap S'.heap → S'.slots.length = S.slots.length → Q (toExit x) a' w'
theorem exec_sound {X : Ctx} (hM : X.P.follows .mixedOrders = true) (hP : NoOwn X.P) (hcf : CFSound X.P X.cf) (n : Nat) : ∀ (c : Code) (ks : List (List Nat × List Nat)) (S : St) (k : Ex → St → R) (r : DV × Heap), execD X n c ks S k = some r →
    ∀ (G : Gh) (w : World) (a : Act), (∀ b j, w.heap.size ≤ b → B b j) → HR B G w S.heap → SR (ImmB B G) w G S.slots a → X.fl ≤ S.heap.length → S.slots.length = X.N → ∀ Q, After X.fl B G w S k r Q → c.wp X.P Q a w := by
  intro c
  induction c with
  | skip =>
    intro ks S k r h G w a hB hH hs hfl hN Q hQ
    exact wp_skip (hQ .normal S a w G h (Keep.refl G w) hH hs (Facts.refl _ _) rfl)
  | region id ops draw =>
    intro ks S k r h G w a hB hH hs hfl hN Q hQ
    obtain ⟨tr, S', ht, hk, hd⟩ := region_trace h
    have hlen : S'.slots.length = S.slots.length := by
      have := ((trace_at ht).2.2 0).1
      rw [this, foldS_len]
    cases draw with
    | false => exact region_sound hP hcf ht hB hH hs hfl fun a' w' G' hK hH' hs' hf => hQ .normal S' a' w' G' hk hK hH' hs' hf hlen
    | true => exact draw_sound hM hP hcf ht (hd rfl) hB hH hs hfl fun a' w' G' hK hH' hs' hf => hQ .normal S' a' w' G' hk hK hH' hs' hf hlen
  | seq x y ihx ihy =>
    intro ks S k r h G w a hB hH hs hfl hN Q hQ
    simp only [execD] at h
    refine wp_seq (ihx _ _ _ _ h G w a hB hH hs hfl hN _ fun e S1 a1 w1 G1 hk hK hH1 hs1 hf1 hl1 => ?_)
    cases e with
    | normal =>
      exact ihy _ _ _ _ hk G1 w1 a1 (fun b j hb => hB b j (Nat.le_trans hK.size hb)) hH1 hs1 (Nat.le_trans hfl hf1.2) (hl1.trans hN) Q fun e2 S2 a2 w2 G2 hk2 hK2 hH2 hs2 hf2 hl2 => hQ e2 S2 a2 w2 G2 hk2 (Keep.trans hH.dist hK hK2) hH2 hs2 (hf1.trans hf2) (hl2.trans hl1)
    | exit id => exact hQ (.exit id) S1 a1 w1 G1 hk hK hH1 hs1 hf1 hl1
    | ret => exact hQ .ret S1 a1 w1 G1 hk hK hH1 hs1 hf1 hl1
  | cond c x y ihx ihy =>
    intro ks S k r h G w a hB hH hs hfl hN Q hQ
    simp only [execD] at h
    unfold condR at h
    split at h
    · rename_i ht
      have hc := hs.eval c
      rw [ht] at hc
      simp only [Rep] at hc
      exact wp_cond (t := true) hc (ihx _ _ _ _ h G w a hB hH hs hfl hN Q hQ)
    · rename_i ht
      have hc := hs.eval c
      rw [ht] at hc
      simp only [Rep] at hc
      exact wp_cond (t := false) hc (ihy _ _ _ _ h G w a hB hH hs hfl hN Q hQ)
    · cases h
  | block id b ih =>
    intro ks S k r h G w a hB hH hs hfl hN Q hQ
    simp only [execD] at h
    refine wp_block (ih _ _ _ _ h G w a hB hH hs hfl hN _ fun e S1 a1 w1 G1 hk hK hH1 hs1 hf1 hl1 => ?_)
    cases e with
    | normal => exact hQ .normal S1 a1 w1 G1 hk hK hH1 hs1 hf1 hl1
    | exit i =>
      simp only [toExit, Exit.inBlock]
      simp only [] at hk
      split at hk
      · rename_i hi
        rw [if_pos hi]
        exact hQ .normal S1 a1 w1 G1 hk hK hH1 hs1 hf1 hl1
      · rename_i hi
        rw [if_neg hi]
        exact hQ (.exit i) S1 a1 w1 G1 hk hK hH1 hs1 hf1 hl1
    | ret => exact hQ .ret S1 a1 w1 G1 hk hK hH1 hs1 hf1 hl1
  | loop b ih =>
    intro ks S k r h G w a hB hH hs hfl hN Q hQ
    simp only [execD] at h
    have key : ∀ (keep out : List Nat) (k : Ex → St → R) (m : Nat) (S : St), loopN keep out X.N (execD X n b ks.tail) m S k = some r → ∀ (G : Gh) (w : World) (a : Act), (∀ b j, w.heap.size ≤ b → B b j) → HR B G w S.heap → SR (ImmB B G) w G S.slots a → X.fl ≤ S.heap.length → S.slots.length = X.N → After X.fl B G w S k r Q → Code.rounds X.P b Q m a w := by
      intro keep out k m
      induction m with
      | zero => intro S h; cases h
      | succ m ihm =>
        intro S h G w a hB hH hs hfl hN hQ
        simp only [loopN] at h
        rw [rounds_succ]
        refine ih _ S _ _ h G w a hB hH hs hfl hN _ fun e S1 a1 w1 G1 hk hK hH1 hs1 hf1 hl1 => ?_
        cases e with
        | normal =>
          exact ihm ⟨_, _⟩ hk G1 w1 a1 (fun b j hb => hB b j (Nat.le_trans hK.size hb)) hH1 (forget_rep _ (hl1.trans hN) hs1) (Nat.le_trans hfl hf1.2) (forget_len _ _ _) fun e2 S2 a2 w2 G2 hk2 hK2 hH2 hs2 hf2 hl2 => hQ e2 S2 a2 w2 G2 hk2 (Keep.trans hH.dist hK hK2) hH2 hs2 (hf1.trans hf2) (hl2.trans ((forget_len _ _ _).trans hN.symm))
        | exit id => exact hQ (.exit id) ⟨_, _⟩ a1 w1 G1 hk hK hH1 (forget_rep _ (hl1.trans hN) hs1) hf1 ((forget_len _ _ _).trans hN.symm)
        | ret => exact hQ .ret ⟨_, _⟩ a1 w1 G1 hk hK hH1 (forget_rep _ (hl1.trans hN) hs1) hf1 ((forget_len _ _ _).trans hN.symm)
    refine wp_loop_rounds n (key _ _ _ n ⟨_, _⟩ h G w a hB hH (forget_rep _ hN hs) hfl (forget_len _ _ _) fun e2 S2 a2 w2 G2 hk2 hK2 hH2 hs2 hf2 hl2 => ?_)
    have hl3 : S2.slots.length = X.N := hl2.trans (forget_len _ _ _)
    cases e2 with
    | normal => cases hk2
    | exit i => exact hQ (.exit i) ⟨_, _⟩ a2 w2 G2 hk2 hK2 hH2 (forget_rep _ hl3 hs2) hf2 ((forget_len _ _ _).trans hN.symm)
    | ret => exact hQ .ret ⟨_, _⟩ a2 w2 G2 hk2 hK2 hH2 (forget_rep _ hl3 hs2) hf2 ((forget_len _ _ _).trans hN.symm)
  | scope b ih =>
    intro ks S k r h G w a hB hH hs hfl hN Q hQ
    refine wp_scope_straight (ih _ _ _ _ h G w a hB hH hs hfl hN _ fun e S1 a1 w1 G1 hk hK hH1 hs1 hf1 hl1 => ?_)
    have := hQ e S1 a1 w1 G1 hk hK hH1 hs1 hf1 hl1
    cases e <;> exact this
  | exit id =>
    intro ks S k r h G w a hB hH hs hfl hN Q hQ
    exact wp_exit (hQ (.exit id) S a w G h (Keep.refl G w) hH hs (Facts.refl _ _) rfl)
  | ret =>
    intro ks S k r h G w a hB hH hs hfl hN Q hQ
    exact wp_ret (hQ .ret S a w G h (Keep.refl G w) hH hs (Facts.refl _ _) rfl)
  | _ => intro ks S k r h; cases h
def resSem (tmps : Array Value) : ResultVar → Sem Value
  | .tmp t => pure (tmps.getD t undef)
  | .cell x t => do loadVar t (← asAddr (tmps.getD x undef))
theorem resOne_run {P : Program} {S : St} (hH : HR B G w S.heap) (hs : SR (ImmB B G) w G S.slots a) {v : ResultVar} {d : DV} (h : resOne P S v = some d) :
    ∃ V, (resSem a.tmps v).run P w = .ok V w ∧ Rep (ImmB B G) w G d V := by
  cases v with
  | tmp t =>
    simp only [resOne] at h
    cases h
    have := hs.2.getD t undef
    exact ⟨a.tmps.getD t undef, rfl, by simpa using this⟩
  | cell x t =>
    simp only [resOne] at h
    split at h
    · rename_i ag sz ht
      unfold cellR at h
      split at h
      · rename_i k off hk
        split at h
        · rename_i e cs hc
          have hx := hs.2.getD x undef
          rw [hk] at hx
          simp only [Rep] at hx
          obtain ⟨b, hG, hx⟩ := hx
          obtain ⟨C, h1, h2, _⟩ := hH.cells hc hG
          obtain ⟨V, hrun, hd⟩ := loadVar_run ht h2 (fun j v hj => cells_at h1 j v hj) h
          rw [Nat.zero_add] at hrun
          refine ⟨V, ?_, hd⟩
          have hx' : a.tmps.getD x undef = .pointer (some ⟨b, off, none⟩) := by simpa using hx
          simp only [resSem, hx', Sem.run_bind, asAddr, Sem.run_pure, Result.andThen_ok, hrun]
        · cases h
      · cases h
    · cases h
theorem resL_run {P : Program} {S : St} (hH : HR B G w S.heap) (hs : SR (ImmB B G) w G S.slots a) : ∀ {rs : List ResultVar} {ds : List DV}, seqO (rs.map (resOne P S)) = some ds →
    ∃ vs, (rs.mapM (resSem a.tmps)).run P w = .ok vs w ∧ RepL (ImmB B G) w G ds vs
  | [], ds, h => by
    simp only [List.map_nil, seqO] at h
    cases h
    exact ⟨[], by simp, by simp [RepL]⟩
  | v :: rs, ds, h => by
    simp only [List.map_cons, seqO] at h
    cases hd : resOne P S v with
    | none => rw [hd] at h; cases h
    | some d =>
      rw [hd, Option.bind_some] at h
      cases hds : seqO (rs.map (resOne P S)) with
      | none => rw [hds] at h; cases h
      | some ds' =>
        rw [hds] at h
        cases h
        obtain ⟨V, h1, h2⟩ := resOne_run hH hs hd
        obtain ⟨vs, h3, h4⟩ := resL_run hH hs hds
        refine ⟨V :: vs, ?_, ?_⟩
        · rw [List.mapM_cons]
          simp only [Sem.run_bind, h1, h3, Result.andThen_ok, Sem.run_pure]
        · simp only [RepL]
          exact ⟨V, vs, rfl, h2, h4⟩
theorem res_run {P : Program} {S : St} {fn : Func} {d : DV} (hH : HR B G w S.heap) (hs : SR (ImmB B G) w G S.slots a) (h : resD P fn.results.toList S = some d) : ∃ V, (results fn a.tmps).run P w = .ok V w ∧ Rep (ImmB B G) w G d V := by
  unfold resD at h
  cases hm : seqO (fn.results.toList.map (resOne P S)) with
  | none => simp [hm] at h
  | some ds =>
    simp only [hm, Option.map_some, Option.some.injEq] at h
    obtain ⟨vs, h1, h2⟩ := resL_run hH hs hm
    have hrun : (results fn a.tmps).run P w = .ok (if h : vs.toArray.size = 1 then vs.toArray[0] else .tuple vs.toArray) w := by
      unfold results
      rw [Array.mapM_eq_mapM_toList]
      simp only [Sem.run_bind, Sem.run_map]
      have key : ∀ f : ResultVar → Sem Value, (∀ v, f v = resSem a.tmps v) → (fn.results.toList.mapM f).run P w = .ok vs w := by
        intro f hf
        rw [show f = resSem a.tmps from funext hf]; exact h1
      rw [key _ (fun v => by cases v <;> rfl)]
      rfl
    refine ⟨_, hrun, ?_⟩
    subst h
    have hl := h2.length
    unfold tupD
    split
    · rename_i d
      simp only [RepL] at h2
      obtain ⟨v, r, rfl, hd, rfl⟩ := h2
      simpa using hd
    · rename_i hne
      rw [dif_neg]
      · simp only [Rep]
        exact ⟨_, rfl, h2⟩
      · intro h1
        simp at h1
        rw [hl] at h1
        cases ds with
        | nil => simp at h1
        | cons x ds =>
          have : ds = [] := List.eq_nil_of_length_eq_zero (by simpa using h1)
          subst this
          exact hne x rfl
def PrimSound (P : Program) (E : Env) : Prop := ∀ f g args H d H', E.prim f = some g → g args H = some (d, H') → (∃ fn, P.funcs[f]? = some fn ∧ fn.body.isSome = true) ∧ (∀ fl, CallOk P f args H fl d H') ∧ ∀ k : Nat, H[k]? = some .hole → H'[k]? = some .hole
theorem call_sound {P : Program} {E : Env} (hM : P.follows .mixedOrders = true) (hP : NoOwn P) (hE : PrimSound P E) : ∀ n, CFSound P (callN P E n) := by
  intro n
  induction n with
  | zero => intro f args H fl r H' h; cases h
  | succ n ih =>
    intro f args H fl r H' h
    simp only [callN] at h
    split at h
    · rename_i g hg
      obtain ⟨h1, h2, h3⟩ := hE f g args H r H' hg h
      exact ⟨h2 fl, h1, h3⟩
    · split at h
      · rename_i fn hf
        split at h
        · rename_i c hb
          split at h
          · cases h
          rename_i hnt
          refine ⟨?_, ⟨fn, hf, by rw [hb]; rfl⟩, ?_⟩
          · intro B G w vs hB hH hr hfl
            have hs : SR (ImmB B G) w G (args ++ List.replicate (fn.ntmps - args.length) (.flat undef)) { tmps := vs ++ Array.replicate (fn.ntmps - vs.size) undef, defers := [] } := by
              refine ⟨rfl, ?_⟩
              have hl := hr.length
              simp only [Array.length_toList] at hl
              rw [Array.toList_append, Array.toList_replicate, hl]
              refine hr.app (RepL.of (by simp) fun i d v hd hv => ?_)
              rw [List.getElem?_replicate] at hd hv
              split at hd
              · rename_i hi
                rw [if_pos hi] at hv
                cases hd; cases hv
                simp [Rep]
              · cases hd
            have hcalls : Calls P f vs w fun e w' => (∃ V G', e = .returned V ∧ Keep G w G' w' ∧ HR B G' w' H' ∧ Rep (ImmB B G') w' G' r V) ∧ Facts fl H H' := by
              refine calls_of_wp hf hb ?_
              refine exec_sound (X := ⟨P, callN P E n, E.md, fl, fn.ntmps⟩) hM hP ih n c _ _ _ _ h G w _ hB hH hs hfl (by simp; omega) _ fun x S' a' w' G' hk hK hH' hs' hf' _ => ?_
              have fin : ∀ {d : DV}, resD P fn.results.toList S' = some d → d = r → S'.heap = H' → a'.defers = [] ∧ ∃ v, (results fn a'.tmps).run P w' = .ok v w' ∧ ((∃ V G', Ending.returned v = .returned V ∧ Keep G w G' w' ∧ HR B G' w' H' ∧ Rep (ImmB B G') w' G' r V) ∧ Facts fl H H') := by
                intro d hd e1 e2
                subst e1
                subst e2
                obtain ⟨V, h1, h2⟩ := res_run hH' hs' hd
                exact ⟨hs'.1, V, h1, ⟨V, G', rfl, hK, hH', h2⟩, hf'⟩
              cases x with
              | normal =>
                simp only [] at hk
                cases hd : resD P fn.results.toList S' with
                | none => simp [hd] at hk
                | some d =>
                  simp [hd] at hk
                  exact fin hd hk.1 hk.2
              | exit id => cases hk
              | ret =>
                simp only [] at hk
                cases hd : resD P fn.results.toList S' with
                | none => simp [hd] at hk
                | some d =>
                  simp [hd] at hk
                  exact fin hd hk.1 hk.2
            refine ⟨hcalls.mono fun e w' h => h.1, ?_⟩
            obtain ⟨e, w', fr, h, _⟩ := hcalls []
            exact h.2
          · obtain ⟨x, S', hk, hh⟩ := exec_holes (X := ⟨P, callN P E n, E.md, fl, fn.ntmps⟩) ih n c _ _ _ _ h
            intro j hj
            have := hh j hj
            cases x with
            | exit id => cases hk
            | normal =>
              simp only [] at hk
              cases hd : resD P fn.results.toList S' with
              | none => simp [hd] at hk
              | some d => simp [hd] at hk; rw [← hk.2]; exact this
            | ret =>
              simp only [] at hk
              cases hd : resD P fn.results.toList S' with
              | none => simp [hd] at hk
              | some d => simp [hd] at hk; rw [← hk.2]; exact this
        · cases h
      · cases h
theorem pure_call {P : Program} {E : Env} (hM : P.follows .mixedOrders = true) (hP : NoOwn P) (hE : PrimSound P E) {n : Nat} {f : FuncId} {args : List DV} {r : DV} {H' : Heap} (h : callN P E n f args [] 0 = some (r, H'))
    {w : World} {vs : Array Value} (hr : RepL (fun _ _ => True) w [] args vs.toList) : Calls P f vs w fun e w' => ∃ V, e = .returned V ∧ Below w.heap.size w w' ∧ ∃ (I : Nat → Nat → Prop) (G : Gh), Rep I w' G r V := by
  have hmono : RepL (ImmB (fun _ _ => True) []) w [] args vs.toList := RepL.stay (fun b j v _ hc => ⟨hc, trivial, fun k hk => by simp at hk, fun k s c n hk => by simp at hk⟩) (Evol.refl []) _ _ hr
  refine ((call_sound hM hP hE n _ _ _ _ _ _ h).1 (fun _ _ => True) [] w vs (fun _ _ _ => trivial) (hr_nil _ w) hmono (Nat.zero_le _)).1.mono fun e w' ⟨V, G', he, hK, _, hd⟩ => ?_
  refine ⟨V, he, ⟨hK.os, hK.tape, hK.output, hK.size, fun b hb => hK.blk b hb fun k hk => ?_⟩, _, G', hd⟩
  rcases hk with hk | ⟨_, _, _, hk⟩ <;> simp at hk
end Go.Proofs.Ytcpgmbpndpcmdaa
namespace Go.Proofs.Ytcpgmbpndpcmdaa
open Go
def forceL {β : Type} : List DV → (List DV → β) → β
  | [], k => k []
  | x :: l, k => forceL l fun ys => k (x :: ys)
theorem forceL_eq {β : Type} (l : List DV) (k : List DV → β) : forceL l k = k l := by
  induction l generalizing k with
  | nil => rfl
  | cons x l ih => exact ih _
abbrev KF := List DV → Heap → R
def getF {β : Type} (s : List DV) (t : Nat) (k : DV → β) : β := match s, t with
  | [], _ => k .any
  | x :: _, 0 => k x
  | _ :: s, t + 1 => getF s t k
theorem getF_eq {β : Type} (s : List DV) (t : Nat) (k : DV → β) : getF s t k = k (s.getD t .any) := by
  induction s generalizing t with
  | nil => cases t <;> rfl
  | cons x s ih => cases t with
    | zero => rfl
    | succ t => exact ih t
def evalK {β : Type} (s : List DV) (x : Operand) (k : DV → β) : β := match x with
  | .tmp t => getF s t k
  | .const v => k (ofVal v)
  | .global g => k (.flat (.pointer (some ⟨g, 0, none⟩)))
  | .func f => k (.flat (.func (.func f) #[] #[]))
theorem evalK_eq {β : Type} (s : List DV) (x : Operand) (k : DV → β) : evalK s x k = k (evalD s x) := by
  cases x with
  | tmp t => exact getF_eq s t k
  | _ => rfl
def moveOf (o : Oper) : Option Operand := match o.guard with
  | none => match o.op with
    | .move x => some x
    | .assign x => some x
    | _ => none
  | some _ => none
def holesF (hs : Heap) (H : Heap) (k : Heap → R) : R := match hs with | [] => k H | h :: hs => k (H ++ h :: hs)
theorem holesF_eq (l : List Oper) (H : Heap) (k : Heap → R) : holesF (holes l) H k = k (addHoles l H) := by
  unfold holesF addHoles
  cases holes l <;> rfl
end Go.Proofs.Ytcpgmbpndpcmdaa
namespace Go.Proofs.Ytcpgmbpndpcmdaa
open Go
def bi {α β : Type} (x : Option α) (k : α → Option β) : Option β := match x with | some a => k a | none => none
theorem bi_some {α β : Type} (a : α) (k : α → Option β) : bi (some a) k = k a := rfl
theorem bi_none {α β : Type} (k : α → Option β) : bi none k = none := rfl
theorem bi_eq {α β : Type} {x : Option α} {k : α → Option β} {r : β} (h : bi x k = some r) : ∃ a, x = some a ∧ k a = some r := by
  cases x with
  | none => cases h
  | some a => exact ⟨a, rfl, h⟩
def arI (k : IntKind) (f : Int → Int → Int) (a b : DV) : Option DV := match a, b with
  | .flat (.int k1 x), .flat (.int k2 y) => if k1 = k ∧ k2 = k then some (.flat (.int k (f x y))) else none
  | _, _ => none
def cmI (k : IntKind) (f : Int → Int → Bool) (a b : DV) : Option DV := match a, b with
  | .flat (.int k1 x), .flat (.int k2 y) => if k1 = k ∧ k2 = k then some (.flat (.bool (f x y))) else none
  | _, _ => none
def divI (k : IntKind) (f : Int → Int → Int) (a b : DV) : Option DV := match a, b with
  | .flat (.int k1 x), .flat (.int k2 y) => if k1 = k ∧ k2 = k ∧ y ≠ 0 then some (.flat (.int k (f x y))) else none
  | _, _ => none
def shI (k : IntKind) (f : Int → Nat → Int) (a b : DV) : Option DV := match a, b with
  | .flat (.int k1 x), .flat (.int _ y) => if k1 = k ∧ 0 ≤ y then some (.flat (.int k (f x (min y.toNat k.bits)))) else none
  | _, _ => none
def addK (k : IntKind) := arI k fun x y => k.wrap (x + y)
def subK (k : IntKind) := arI k fun x y => k.wrap (x - y)
def mulK (k : IntKind) := arI k fun x y => k.wrap (x * y)
def andK (k : IntKind) := arI k fun x y => k.wrap (BitVec.ofInt k.bits x &&& BitVec.ofInt k.bits y).toNat
def orK (k : IntKind) := arI k fun x y => k.wrap (BitVec.ofInt k.bits x ||| BitVec.ofInt k.bits y).toNat
def xorK (k : IntKind) := arI k fun x y => k.wrap (BitVec.ofInt k.bits x ^^^ BitVec.ofInt k.bits y).toNat
def andNotK (k : IntKind) := arI k fun x y => k.wrap (BitVec.ofInt k.bits x &&& ~~~BitVec.ofInt k.bits y).toNat
def quoK (k : IntKind) := divI k fun x y => k.wrap (x.tdiv y)
def remK (k : IntKind) := divI k fun x y => x.tmod y
def shlK (k : IntKind) := shI k fun x n => k.wrap (x * 2 ^ n)
def shrK (k : IntKind) := shI k fun x n => x.fdiv (2 ^ n)
def eqK (k : IntKind) := cmI k fun x y => x == y
def neK (k : IntKind) := cmI k fun x y => x != y
def ltK (k : IntKind) := cmI k fun x y => decide (x < y)
def leK (k : IntKind) := cmI k fun x y => decide (x ≤ y)
def gtK (k : IntKind) := cmI k fun x y => decide (x > y)
def geK (k : IntKind) := cmI k fun x y => decide (x ≥ y)
def intF (k : IntKind) (op : BinOp) (a b : DV) : Option DV := match op with
  | .add => addK k a b | .sub => subK k a b | .mul => mulK k a b | .quo => quoK k a b | .rem => remK k a b
  | .and => andK k a b | .or => orK k a b | .xor => xorK k a b | .andNot => andNotK k a b | .shl => shlK k a b | .shr => shrK k a b
  | .eql => eqK k a b | .neq => neK k a b | .lss => ltK k a b | .leq => leK k a b | .gtr => gtK k a b | .geq => geK k a b
def eqB (a b : DV) : Option DV := match a, b with | .flat (.bool x), .flat (.bool y) => some (.flat (.bool (x == y))) | _, _ => none
def neB (a b : DV) : Option DV := match a, b with | .flat (.bool x), .flat (.bool y) => some (.flat (.bool (x != y))) | _, _ => none
def eqS (a b : DV) : Option DV := match a, b with | .flat (.string x), .flat (.string y) => some (.flat (.bool (x.toList == y.toList))) | _, _ => none
def neS (a b : DV) : Option DV := match a, b with | .flat (.string x), .flat (.string y) => some (.flat (.bool (!(x.toList == y.toList)))) | _, _ => none
def binF (P : Program) (op : BinOp) (t : TypeId) (x y : Operand) (a b : DV) : Option DV := match P.underlying t with
  | some (.int k) => intF k op a b
  | some .bool => (match op with | .eql => eqB a b | .neq => neB a b | op => binD P op t x y a b)
  | some .string => (match op with | .eql => eqS a b | .neq => neS a b | op => binD P op t x y a b)
  | _ => binD P op t x y a b
def notD (a : DV) : Option DV := match a with | .flat (.bool x) => some (.flat (.bool !x)) | _ => none
def unF (P : Program) (op : UnOp) (a : DV) : Option DV := match op with | .not => notD a | op => unD P op a
def cvK (k : IntKind) (a : DV) : Option DV := match a with | .flat (.int _ x) => some (.flat (.int k (k.wrap x))) | _ => none
def cvF (P : Program) (s d : TypeId) (a : DV) : Option DV := match P.underlying s, P.underlying d with
  | some (.int _), some (.int k) => cvK k a
  | _, _ => convD P s d a
def maxI (a b : DV) : Option DV := match a, b with | .flat (.int k x), .flat (.int _ y) => some (.flat (.int k (max x y))) | _, _ => none
def minI (a b : DV) : Option DV := match a, b with | .flat (.int k x), .flat (.int _ y) => some (.flat (.int k (min x y))) | _, _ => none
def builtF (P : Program) (b : Builtin) (ts : Array TypeId) (t : TypeId) (args : List DV) : Option DV := match b, args with
  | .max, [x, y] => maxI x y
  | .min, [x, y] => minI x y
  | b, args => builtD P b ts t args
def loadG (ag : Bool) (sz : Nat) (p : DV) (H : Heap) : Option DV := match p with
  | .ptr k off => (match H[k]? with | some (.cells _ cs) => partD ag sz off cs | _ => none)
  | .elem x off => partD ag sz off x.cells
  | _ => none
def loadE (ag : Bool) (sz : Nat) (p : DV) : Option DV := match p with
  | .elem x off => partD ag sz off x.cells
  | _ => none
def elAddr (P : Program) (ops : Array Oper) : Nat → Tmp → Bool
  | 0, _ => false
  | d + 1, t => ops.any fun o' => (o'.dst == some t) && (match o'.op with
    | .indexAddr ty _ _ => (match P.underlying ty with | some (.slice _) => true | _ => false)
    | .fieldAddr _ (.tmp t') _ => elAddr P ops d t'
    | _ => false)
def isElLd (P : Program) (ops : Array Oper) (o : Oper) : Bool := match o.op with
  | .load _ (.tmp t) => elAddr P ops 4 t
  | _ => false
def storeG (sz : Nat) (p d : DV) (H : Heap) (fl : Nat) : Option Heap := match p with
  | .ptr k off => (match H[k]? with
    | some (.cells e cs) => if fl ≤ k ∧ d.cells.length = sz ∧ off + sz ≤ cs.length ∧ d.cells.all DV.leaf = true then some (H.set k (.cells e (splice off d.cells cs))) else none
    | _ => none)
  | _ => none
def allocG (e : TypeId) (d : DV) (nid : Nat) (H : Heap) : Option Heap := if d.cells.all DV.leaf = true then some (H.set nid (.cells e d.cells)) else none
def effH (x : EO) (H : Heap) : Option (DV × Heap) := x.map fun p => (p.1, p.2.heap H)
def appG (e : TypeId) (ag : Bool) (sz bytes : Nat) (x y : DV) (H : Heap) (fl : Nat) : Option (DV × Heap) := effH (appendD e ag sz bytes x y H fl) H
def copyG (ag : Bool) (sz : Nat) (x y : DV) (H : Heap) (fl : Nat) : Option (DV × Heap) := effH (copyD ag sz x y H fl) H
def makeG (ag : Bool) (sz bytes : Nat) (e : TypeId) (zero l c : DV) (nid : Nat) (H : Heap) : Option (DV × Heap) := effH (makeD ag sz bytes e zero l c nid) H
def callP (cf : CF) (f : FuncId) (ti : Bool) (args : List DV) : Option DV := bi (mapO argEl args) fun bs => bi (cf f bs [] 0) fun r => outD ti r.2 r.1
def callO (cf : CF) (f : FuncId) (args : List DV) (H : Heap) : Option DV := bi (cf f args H H.length) fun r => oldD H.length r.2 r.1
def callW (cf : CF) (f : FuncId) (args : List DV) (H : Heap) (fl : Nat) : Option (DV × Heap) :=
  bi (cf f args H fl) fun r => bi (oldD H.length r.2 r.1) fun d => bi (cutH H.length r.2) fun H' => some (d, H')
def callVG (cf : CF) (md : FuncId → CM) (fl : Nat) (f : DV) (args : List DV) (H : Heap) : Option (DV × Heap) := effH (callV cf md fl f args H) H
def vpu (md : FuncId → CM) (t : TypeId) : Bool := match md (1000000 + t) with | .ro => true | .pure _ => false | .rw => false | .keep => false
def callVP (cf : CF) (md : FuncId → CM) (f : DV) (args : List DV) : Option DV := match fnOf f with
  | some (g, cap) => (match md g with | .pure ti => callP cf g ti (args ++ cap) | .ro => none | .rw => none | .keep => none)
  | none => none
inductive OpR where
  | m (d : DV) | a (x : Option DV) | b (x : Option (DV × Heap)) | h (d : DV) (x : Option Heap)
def OpR.out (H : Heap) : OpR → Option (DV × Heap)
  | .m d => some (d, H)
  | .a x => x.map fun d => (d, H)
  | .b x => x
  | .h d x => x.map fun H' => (d, H')
def callR (P : Program) (cf : CF) (md : FuncId → CM) (fl : Nat) (t : TypeId) (c : Call) (ρ : Operand → DV) (H : Heap) : OpR :=
  match c.callee with
  | .builtin .len => match c.args.toList, c.argTypes.toList with
    | [x], [t] => (match P.underlying t with
      | some (.array n _) => .m (.flat (.int .i64 n))
      | some (.slice _) => .a (lenD (ρ x))
      | some .string => .a (lenStr (ρ x))
      | _ => .b none)
    | _, _ => .b none
  | .builtin .cap => match c.args.toList, c.argTypes.toList with
    | [x], [t] => (match P.underlying t with
      | some (.slice _) => .a (capD (ρ x))
      | _ => .b none)
    | _, _ => .b none
  | .builtin .append => match c.args.toList, c.argTypes.toList with
    | [x, y], [t, t'] => if t' = t then (match P.underlying t with
      | some (.slice e) => (match aggSz P e, P.info? e, zeroD P e with
        | some (ag, sz), some i, some z => if z.cells.length = sz then .b (appG e ag sz i.bytes (ρ x) (ρ y) H fl) else .b none
        | _, _, _ => .b none)
      | _ => .b none) else .b none
    | _, _ => .b none
  | .builtin .copy => match c.args.toList, c.argTypes.toList with
    | [x, y], [t, _] => (match P.underlying t with
      | some (.slice e) => (match aggSz P e with
        | some (ag, sz) => .b (copyG ag sz (ρ x) (ρ y) H fl)
        | _ => .b none)
      | _ => .b none)
    | _, _ => .b none
  | .builtin .max => .a (builtF P .max c.argTypes t (c.args.toList.map ρ))
  | .builtin .min => .a (builtF P .min c.argTypes t (c.args.toList.map ρ))
  | .value (.func f) => (match md f with
    | .pure ti => .a (callP cf f ti (c.args.toList.map ρ))
    | .ro => .a (callO cf f (c.args.toList.map ρ) H)
    | .rw => .b (callW cf f (c.args.toList.map ρ) H fl)
    | .keep => .b (cf f (c.args.toList.map ρ) H fl))
  | .value (.tmp k) => (match vpu md t with
    | true => .a (callVP cf md (ρ (.tmp k)) (c.args.toList.map ρ))
    | false => .b (callVG cf md fl (ρ (.tmp k)) (c.args.toList.map ρ) H))
  | .value f => .b (callVG cf md fl (ρ f) (c.args.toList.map ρ) H)
  | _ => .b none
def opR (X : Ctx) (st : Bool) (nid : Nat) (o : Oper) (slots : List DV) (H : Heap) : OpR :=
  let ρ := evalD slots
  let P := X.P
  match o.op with
  | .move x | .assign x => .m (ρ x)
  | .pick c a b => .a (pickD (ρ c) (ρ a) (ρ b))
  | .alloc e => (match zeroD P e with | some d => .h (.ptr nid 0) (allocG e d nid H) | none => .b none)
  | .box e x => (match roBox X.md e with | true => .a (boxE (ρ x)) | false => .h (.ptr nid 0) (allocG e (ρ x) nid H))
  | .build t parts => (match P.underlying t, (zeroD P t).filter (fun z => z.cells.all DV.leaf) with
    | some (.struct fs), some z => (match placesD P fs.toList with
      | some pl => .a (buildS z pl (parts.toList.map fun p => (p.1, ρ p.2)))
      | none => .b none)
    | some (.array _ e), some z => (match P.info? e with
      | some i => .a (buildA z i.size (parts.toList.map fun p => (p.1, ρ p.2)))
      | none => .b none)
    | _, _ => .b none)
  | .buildSlice t len parts => (match P.underlying t with
    | some (.slice e) => (match aggSz P e, zeroD P e with
      | some (ag, sz), some z => .a (buildL ag sz len z (parts.toList.map fun p => (p.1, ρ p.2)))
      | _, _ => .b none)
    | _ => .b none)
  | .load t a => (match aggSz P t with
    | some (ag, sz) => (match st with | true => .a (loadE ag sz (ρ a)) | false => .a (loadG ag sz (ρ a) H))
    | none => .b none)
  | .store t a x => (match aggSz P t with
    | some (_, sz) => .h (.flat undef) (storeG sz (ρ a) (ρ x) H X.fl)
    | none => .b none)
  | .nilCheck x => .a (nilD (ρ x))
  | .binOp op t x y _ => .a (binF P op t x y (ρ x) (ρ y))
  | .unOp op _ x => .a (unF P op (ρ x))
  | .convert s d x => .a (cvF P s d (ρ x))
  | .makeInterface t x => (match P.underlying t with
    | some (.interface _) => .b none
    | some _ => .m (.iface t (ρ x))
    | none => .b none)
  | .makeFunc fn first cap => .m (.clo fn (first.toList.map ρ) (cap.toList.map ρ))
  | .makeSlice t l c => (match P.underlying t with
    | some (.slice e) => (match aggSz P e, P.info? e, zeroD P e with
      | some (ag, sz), some i, some z => .b (makeG ag sz i.bytes e z (ρ l) (ρ c) nid H)
      | _, _, _ => .b none)
    | _ => .b none)
  | .slice t x lo hi mx => (match P.underlying t with
    | some (.slice e) => (match aggSz P e with
      | some (_, sz) => .a (slX sz (ρ x) (lo.map ρ) (hi.map ρ) (mx.map ρ))
      | none => .b none)
    | some (.array n e) => (match aggSz P e with
      | some (ag, sz) => .a (saX ag n sz (ρ x) (lo.map ρ) (hi.map ρ) (mx.map ρ))
      | none => .b none)
    | _ => .b none)
  | .fieldAddr s x f => (match P.underlying s with
    | some (.struct fs) => (match fs[f]? with
      | some fd => (match P.info? fd.type with
        | some i => .a (fieldD fd.offset i.size (ρ x))
        | none => .b none)
      | none => .b none)
    | _ => .b none)
  | .field t x f => (match P.underlying t with
    | some (.struct fs) => (match fs[f]? with
      | some fd => (match aggSz P fd.type with
        | some (ag, sz) => .a (fldD ag sz fd.offset (ρ x))
        | none => .b none)
      | none => .b none)
    | _ => .b none)
  | .indexAddr t x i => (match P.underlying t with
    | some (.array len e) => (match P.info? e with
      | some ie => .a (idxArr len ie.size (ρ x) (ρ i))
      | none => .b none)
    | some (.slice e) => (match P.info? e with
      | some ie => .a (idxSl ie.size (ρ x) (ρ i))
      | none => .b none)
    | _ => .b none)
  | .index t x i => (match P.underlying t with
    | some (.array len e) => (match aggSz P e with
      | some (ag, sz) => .a (idxV ag sz len (ρ x) (ρ i))
      | none => .b none)
    | _ => .b none)
  | .extract t i => .a (extD i (ρ t))
  | .call c => callR P X.cf X.md X.fl o.type c ρ H
  | _ => .b none
def sCls (md : FuncId → CM) (st : Bool) (o : Oper) : Nat := match o.op with
  | .alloc _ | .box .. | .makeSlice .. => 3
  | .load .. => (match st with | true => 0 | false => 1)
  | .store .. => 2
  | .call c => (match c.callee with
    | .builtin .append => 5
    | .builtin .copy => 2
    | .builtin _ => 0
    | .value (.func f) => (match md f with | .pure _ => 0 | .ro => 4 | _ => 2)
    | .value (.tmp _) => (match vpu md o.type with | true => 0 | false => 2)
    | _ => 2)
  | _ => 0
def wantF (c : DV) (w : Bool) (x : Option DV) : Option DV := match guardD c w with
  | some true => x
  | some false => some (.flat undef)
  | none => none
def wantH (c : DV) (w : Bool) (H : Heap) (x : Option (DV × Heap)) : Option (DV × Heap) := match guardD c w with
  | some true => x
  | some false => some (.flat undef, H)
  | none => none
def stepG (g : Option (DV × Bool)) (r : OpR) (H : Heap) (k : DV → Heap → R) : R := match g with
  | none => (match r with
    | .m d => k d H
    | .a x => bi x fun d => k d H
    | .b x => bi x fun p => k p.1 p.2
    | .h d x => bi x fun H' => k d H')
  | some (c, w) => (match r with
    | .m d => bi (wantF c w (some d)) fun d => k d H
    | .a x => bi (wantF c w x) fun d => k d H
    | .b x => bi (wantH c w H x) fun p => k p.1 p.2
    | .h d x => bi (wantH c w H (x.map fun H' => (d, H'))) fun p => k p.1 p.2)
def guardOf (ops : Array Oper) (o : Oper) (s : List DV) : Option (Option (DV × Bool)) := match o.guard with
  | none => some none
  | some (j, w) => (match ((ops[j]?).bind (·.dst)) with | some t => some (some (s.getD t .any, w)) | none => none)
def opsG (X : Ctx) (st : Bool) (ops : Array Oper) : List Oper → Nat → List DV → Heap → KF → R
  | [], _, s, H, k => k s H
  | o :: l, nid, s, H, k => match moveOf o with
    | some x => evalK s x fun d => forceL (putD s o.dst d) fun s' => opsG X st ops l nid s' H k
    | none => match guardOf ops o s with
      | none => none
      | some g => stepG g (opR X (st && isElLd X.P ops o) nid o s H) H fun d H' => forceL (putD s o.dst d) fun s' => match isAl o with
        | true => opsG X st ops l (nid + 1) s' H' k
        | false => opsG X st ops l nid s' H' k
def loopG (keep out : List Nat) (N : Nat) (body : List DV → Heap → (Ex → KF) → R) : Nat → List DV → Heap → (Ex → KF) → R
  | 0, _, _, _ => none
  | m + 1, s, H, k => body s H fun x s H => match x with
    | .normal => forceL (forget keep N s) fun s => loopG keep out N body m s H k
    | .exit i => forceL (forget out N s) fun s => k (.exit i) s H
    | .ret => forceL (forget out N s) fun s => k .ret s H
def execG (X : Ctx) (n : Nat) : Code → List (List Nat × List Nat) → List DV → Heap → (Ex → KF) → R
  | .skip, _, s, H, k => k .normal s H
  | .region _ ops draw, _, s, H, k => match draw && !drawOk ops (ops.toList.map (sCls X.md false)) with
    | false => holesF (holes ops.toList) H fun H' => opsG X false ops ops.toList H.length s H' fun s' H' => k .normal s' H'
    | true => match drawOk ops (ops.toList.map fun o => sCls X.md (isElLd X.P ops o) o) with
      | true => holesF (holes ops.toList) H fun H' => opsG X true ops ops.toList H.length s H' fun s' H' => k .normal s' H'
      | false => none
  | .seq a b, ks, s, H, k => execG X n a (ks.take (nloops a)) s H fun x s' H' => match x with | .normal => execG X n b (ks.drop (nloops a)) s' H' k | .exit i => k (.exit i) s' H' | .ret => k .ret s' H'
  | .cond c a b, ks, s, H, k => condR (evalD s c) (execG X n a (ks.take (nloops a)) s H k) (execG X n b (ks.drop (nloops a)) s H k)
  | .block id b, ks, s, H, k => execG X n b ks s H fun x s' H' => match x with | .normal => k .normal s' H' | .exit i => if i = id then k .normal s' H' else k (.exit i) s' H' | .ret => k .ret s' H'
  | .loop b, ks, s, H, k => forceL (forget (ks.headD ([], [])).1 X.N s) fun s' => loopG (ks.headD ([], [])).1 (ks.headD ([], [])).2 X.N (execG X n b ks.tail) n s' H fun x s' H' => match x with | .normal => none | .exit i => forceL (forget (ks.headD ([], [])).2 X.N s') (fun s'' => k (.exit i) s'' H') | .ret => forceL (forget (ks.headD ([], [])).2 X.N s') fun s'' => k .ret s'' H'
  | .scope b, ks, s, H, k => execG X n b ks s H k
  | .exit id, _, s, H, k => k (.exit id) s H
  | .ret, _, s, H, k => k .ret s H
  | _, _, _, _, _ => none
abbrev I (k : IntKind) (n : Int) : DV := .flat (.int k n)
abbrev Bo (b : Bool) : DV := .flat (.bool b)
def resK (P : Program) (s : List DV) (H : Heap) : List ResultVar → (List DV → R) → R
  | [], k => k []
  | .tmp t :: rs, k => resK P s H rs fun ds => k (s.getD t .any :: ds)
  | .cell a t :: rs, k => match aggSz P t with
    | some (ag, sz) => bi (cellR ag sz (s.getD a .any) H) fun d => resK P s H rs fun ds => k (d :: ds)
    | none => none
def bodyG (P : Program) (E : Env) (n : Nat) (cf : CF) : CF := fun f args H fl =>
    match E.prim f with
    | some g => g args H
    | none => match P.funcs[f]? with
      | some fn => match fn.body with
        | some c => if fn.ntmps < args.length then none else forceL (args ++ List.replicate (fn.ntmps - args.length) (.flat undef)) fun s => execG ⟨P, cf, E.md, fl, fn.ntmps⟩ n c (E.ks f) s H fun x s H =>
            match x with
            | .exit _ => none
            | .normal => resK P s H fn.results.toList fun ds => some (tupD ds, H)
            | .ret => resK P s H fn.results.toList fun ds => some (tupD ds, H)
        | none => none
      | none => none
def callG (P : Program) (E : Env) : Nat → CF
  | 0 => fun _ _ _ _ => none
  | n + 1 => bodyG P E n (callG P E n)
theorem callG_eq (P : Program) (E : Env) (n : Nat) (f : FuncId) (args : List DV) (H : Heap) (fl : Nat) : callG P E (n + 1) f args H fl = bodyG P E n (callG P E n) f args H fl := rfl
theorem loopG_succ (keep out : List Nat) (N : Nat) (body : List DV → Heap → (Ex → KF) → R) (m : Nat) (s : List DV) (H : Heap) (k : Ex → KF) :
    loopG keep out N body (m + 1) s H k = body s H fun x s H => match x with
    | .normal => forceL (forget keep N s) fun s => loopG keep out N body m s H k
    | .exit i => forceL (forget out N s) fun s => k (.exit i) s H
    | .ret => forceL (forget out N s) fun s => k .ret s H := rfl
end Go.Proofs.Ytcpgmbpndpcmdaa
namespace Go.Proofs.Ytcpgmbpndpcmdaa
open Go
theorem opt_map_some {α β : Type} {f : α → β} {x : Option α} {b : β} (h : x.map f = some b) : ∃ a, x = some a ∧ f a = b := by
  cases x with
  | none => cases h
  | some a => exact ⟨a, rfl, Option.some.inj h⟩
theorem arI_eq {k : IntKind} {f : Int → Int → Int} {a b d : DV} (h : arI k f a b = some d) : ∃ x y, a = .flat (.int k x) ∧ b = .flat (.int k y) ∧ d = .flat (.int k (f x y)) := by
  unfold arI at h
  split at h
  · split at h
    · rename_i x y hk; obtain ⟨rfl, rfl⟩ := hk; cases h; exact ⟨_, _, rfl, rfl, rfl⟩
    · cases h
  · cases h
theorem cmI_eq {k : IntKind} {f : Int → Int → Bool} {a b d : DV} (h : cmI k f a b = some d) : ∃ x y, a = .flat (.int k x) ∧ b = .flat (.int k y) ∧ d = .flat (.bool (f x y)) := by
  unfold cmI at h
  split at h
  · split at h
    · rename_i x y hk; obtain ⟨rfl, rfl⟩ := hk; cases h; exact ⟨_, _, rfl, rfl, rfl⟩
    · cases h
  · cases h
theorem divI_eq {k : IntKind} {f : Int → Int → Int} {a b d : DV} (h : divI k f a b = some d) : ∃ x y, a = .flat (.int k x) ∧ b = .flat (.int k y) ∧ y ≠ 0 ∧ d = .flat (.int k (f x y)) := by
  unfold divI at h
  split at h
  · split at h
    · rename_i x y hk; obtain ⟨rfl, rfl, h0⟩ := hk; cases h; exact ⟨_, _, rfl, rfl, h0, rfl⟩
    · cases h
  · cases h
theorem shI_eq {k : IntKind} {f : Int → Nat → Int} {a b d : DV} (h : shI k f a b = some d) : ∃ x k2 y, a = .flat (.int k x) ∧ b = .flat (.int k2 y) ∧ 0 ≤ y ∧ d = .flat (.int k (f x (min y.toNat k.bits))) := by
  unfold shI at h
  split at h
  · split at h
    · rename_i x _ y hk; obtain ⟨rfl, h0⟩ := hk; cases h; exact ⟨_, _, _, rfl, rfl, h0, rfl⟩
    · cases h
  · cases h
theorem intF_ok {P : Program} {k : IntKind} {op : BinOp} {t : TypeId} {x y : Operand} {a b d : DV} (h : intF k op a b = some d) : binD P op t x y a b = some d := by
  cases op
  case add => have h : addK k a b = some d := h; obtain ⟨u, v, rfl, rfl, rfl⟩ := arI_eq h; simp only [binD, arD, toVal, binOp, ne_eq, not_true_eq_false, if_false]; rfl
  case sub => have h : subK k a b = some d := h; obtain ⟨u, v, rfl, rfl, rfl⟩ := arI_eq h; simp only [binD, arD, toVal, binOp, ne_eq, not_true_eq_false, if_false]; rfl
  case mul => have h : mulK k a b = some d := h; obtain ⟨u, v, rfl, rfl, rfl⟩ := arI_eq h; simp only [binD, arD, toVal, binOp, ne_eq, not_true_eq_false, if_false]; rfl
  case and => have h : andK k a b = some d := h; obtain ⟨u, v, rfl, rfl, rfl⟩ := arI_eq h; simp only [binD, arD, toVal, binOp, ne_eq, not_true_eq_false, if_false]; rfl
  case or => have h : orK k a b = some d := h; obtain ⟨u, v, rfl, rfl, rfl⟩ := arI_eq h; simp only [binD, arD, toVal, binOp, ne_eq, not_true_eq_false, if_false]; rfl
  case xor => have h : xorK k a b = some d := h; obtain ⟨u, v, rfl, rfl, rfl⟩ := arI_eq h; simp only [binD, arD, toVal, binOp, ne_eq, not_true_eq_false, if_false]; rfl
  case andNot => have h : andNotK k a b = some d := h; obtain ⟨u, v, rfl, rfl, rfl⟩ := arI_eq h; simp only [binD, arD, toVal, binOp, ne_eq, not_true_eq_false, if_false]; rfl
  case quo => have h : quoK k a b = some d := h; obtain ⟨u, v, rfl, rfl, h0, rfl⟩ := divI_eq h; simp only [binD, arD, toVal, binOp, ne_eq, not_true_eq_false, if_false, Op.intDiv, if_neg h0]; rfl
  case rem => have h : remK k a b = some d := h; obtain ⟨u, v, rfl, rfl, h0, rfl⟩ := divI_eq h; simp only [binD, arD, toVal, binOp, ne_eq, not_true_eq_false, if_false, Op.intDiv, if_neg h0]; rfl
  case shl => have h : shlK k a b = some d := h; obtain ⟨u, k2, v, rfl, rfl, h0, rfl⟩ := shI_eq h; simp only [binD, arD, toVal, binOp, Op.shift, if_neg (Int.not_lt.mpr h0)]; rfl
  case shr => have h : shrK k a b = some d := h; obtain ⟨u, k2, v, rfl, rfl, h0, rfl⟩ := shI_eq h; simp only [binD, arD, toVal, binOp, Op.shift, if_neg (Int.not_lt.mpr h0)]; rfl
  case eql => have h : eqK k a b = some d := h; obtain ⟨u, v, rfl, rfl, rfl⟩ := cmI_eq h; simp only [binD, eqD, toVal, binOp, ne_eq, not_true_eq_false, if_false]; rfl
  case neq => have h : neK k a b = some d := h; obtain ⟨u, v, rfl, rfl, rfl⟩ := cmI_eq h; simp only [binD, eqD, toVal, binOp, ne_eq, not_true_eq_false, if_false]; rfl
  case lss => have h : ltK k a b = some d := h; obtain ⟨u, v, rfl, rfl, rfl⟩ := cmI_eq h; simp only [binD, arD, toVal, binOp, ne_eq, not_true_eq_false, if_false]; rfl
  case leq => have h : leK k a b = some d := h; obtain ⟨u, v, rfl, rfl, rfl⟩ := cmI_eq h; simp only [binD, arD, toVal, binOp, ne_eq, not_true_eq_false, if_false]; rfl
  case gtr => have h : gtK k a b = some d := h; obtain ⟨u, v, rfl, rfl, rfl⟩ := cmI_eq h; simp only [binD, arD, toVal, binOp, ne_eq, not_true_eq_false, if_false]; rfl
  case geq => have h : geK k a b = some d := h; obtain ⟨u, v, rfl, rfl, rfl⟩ := cmI_eq h; simp only [binD, arD, toVal, binOp, ne_eq, not_true_eq_false, if_false]; rfl
theorem pure_equal_bool {P : Program} {t : TypeId} {u v : Bool} (ht : P.underlying t = some .bool) : pureRun P (Op.equal t (.bool u) (.bool v)) = some (u == v) := by
  show pureRun P (Op.equalIn (9999 + 1) t (.bool u) (.bool v)) = _
  rw [Op.equalIn]
  simp only [underlying, program, Bind.bind, Sem.bind, pureRun, ht, pure]
theorem pureRun_bind {P : Program} {α β : Type} : ∀ (s : Sem α) (f : α → Sem β) (a : α), pureRun P s = some a → pureRun P (s >>= f) = pureRun P (f a)
  | .pure a, f, b, h => by cases h; rfl
  | .program k, f, b, h => pureRun_bind (k P) f b h
  | .mark m k, f, b, h => pureRun_bind k f b h
  | .load .., _, _, h => by cases h
  | .store .., _, _, h => by cases h
  | .new .., _, _, h => by cases h
  | .shape .., _, _, h => by cases h
  | .freeze .., _, _, h => by cases h
  | .frozen .., _, _, h => by cases h
  | .getObj .., _, _, h => by cases h
  | .setObj .., _, _, h => by cases h
  | .choose .., _, _, h => by cases h
  | .sys .., _, _, h => by cases h
  | .halt .., _, _, h => by cases h
theorem eqB_ok {P : Program} {t : TypeId} {x y : Operand} {u v : Bool} (ht : P.underlying t = some .bool) : binD P .eql t x y (.flat (.bool u)) (.flat (.bool v)) = some (.flat (.bool (u == v))) := by
  show pureV P (Op.equal t (.bool u) (.bool v) >>= fun b => pure (.bool b)) = _
  unfold pureV
  rw [pureRun_bind _ _ _ (pure_equal_bool ht)]
  rfl
theorem neB_ok {P : Program} {t : TypeId} {x y : Operand} {u v : Bool} (ht : P.underlying t = some .bool) : binD P .neq t x y (.flat (.bool u)) (.flat (.bool v)) = some (.flat (.bool (u != v))) := by
  show pureV P (Op.equal t (.bool u) (.bool v) >>= fun b => pure (.bool !b)) = _
  unfold pureV
  rw [pureRun_bind _ _ _ (pure_equal_bool ht)]
  rfl
theorem binF_ok {P : Program} {op : BinOp} {t : TypeId} {x y : Operand} {a b d : DV} (h : binF P op t x y a b = some d) : binD P op t x y a b = some d := by
  unfold binF at h
  split at h
  · exact intF_ok h
  · rename_i ht
    split at h
    · unfold eqB at h; split at h
      · cases h; exact eqB_ok ht
      · cases h
    · unfold neB at h; split at h
      · cases h; exact neB_ok ht
      · cases h
    · exact h
  · split at h
    · unfold eqS at h; split at h
      · cases h; rfl
      · cases h
    · unfold neS at h; split at h
      · cases h; rfl
      · cases h
    · exact h
  · exact h
theorem unF_ok {P : Program} {op : UnOp} {a d : DV} (h : unF P op a = some d) : unD P op a = some d := by
  unfold unF at h
  split at h
  · unfold notD at h; split at h
    · cases h; rfl
    · cases h
  · exact h
theorem cvF_ok {P : Program} {s t : TypeId} {a d : DV} (h : cvF P s t a = some d) : convD P s t a = some d := by
  unfold cvF at h
  split at h
  · rename_i k1 k hs ht
    unfold cvK at h; split at h
    · cases h
      unfold convD
      simp only [toVal, Option.bind_some, pureV, convert, underlying, program, Bind.bind, Sem.bind, pureRun, hs, ht, pure, Conv.intToInt, Option.map_some, ofVal, ofVal1, leafOf]
    · cases h
  · exact h
theorem builtF_ok {P : Program} {b : Builtin} {ts : Array TypeId} {t : TypeId} {args : List DV} {d : DV} (h : builtF P b ts t args = some d) : builtD P b ts t args = some d := by
  unfold builtF at h
  split at h
  · unfold maxI at h; split at h
    · cases h
      rename_i k u k2 v
      have : max u v = if v > u then v else u := by omega
      rw [this]; rfl
    · cases h
  · unfold minI at h; split at h
    · cases h
      rename_i k u k2 v
      have : min u v = if v < u then v else u := by omega
      rw [this]; rfl
    · cases h
  · exact h
theorem loadG_ok {ag : Bool} {sz : Nat} {p d : DV} {H : Heap} (h : loadG ag sz p H = some d) : ∃ e, loadD ag sz p H = some (d, e) ∧ e.heap H = H ∧ e.cls ≤ 1 := by
  unfold loadG at h; unfold loadD
  split at h
  · split at h
    · rename_i hb; exact ⟨.rd, by simp only [hb, h, rv, Option.map_some], rfl, Nat.le_refl _⟩
    · cases h
  · exact ⟨.q, by simp only [h, qv, Option.map_some], rfl, Nat.zero_le _⟩
  · cases h
theorem storeG_ok {sz : Nat} {p d : DV} {H H' : Heap} {fl : Nat} (h : storeG sz p d H fl = some H') : ∃ e, storeD sz p d H fl = some (.flat undef, e) ∧ e.heap H = H' ∧ e.cls ≤ 2 := by
  unfold storeG at h; unfold storeD
  split at h
  · split at h
    · split at h
      · rename_i hb hc
        cases h
        exact ⟨.ch _, by simp only [hb, if_pos hc], rfl, Nat.le_refl _⟩
      · cases h
    · cases h
  · cases h
theorem allocG_ok {e : TypeId} {d : DV} {nid : Nat} {H H' : Heap} (h : allocG e d nid H = some H') : ∃ f, allocD e d nid = some (.ptr nid 0, f) ∧ f.heap H = H' ∧ f.cls = 3 := by
  unfold allocG at h; unfold allocD
  split at h
  · rename_i hc; cases h; exact ⟨_, by rw [if_pos hc], rfl, rfl⟩
  · cases h
theorem effH_ok {x : EO} {H H' : Heap} {d : DV} (h : effH x H = some (d, H')) : ∃ e, x = some (d, e) ∧ e.heap H = H' := by
  obtain ⟨⟨d', e⟩, h1, h2⟩ := opt_map_some h
  cases h2
  exact ⟨e, h1, rfl⟩
def CLe (cf cf' : CF) : Prop := ∀ f args H fl r, cf f args H fl = some r → cf' f args H fl = some r
theorem callP_ok {cf cf' : CF} (hc : CLe cf cf') {f : FuncId} {ti : Bool} {args : List DV} {d : DV} {H : Heap} {fl : Nat} (h : callP cf f ti args = some d) : callD cf' (.pure ti) fl f args H = some (d, .q) := by
  obtain ⟨bs, h1, h⟩ := bi_eq h
  obtain ⟨r, h2, h3⟩ := bi_eq h
  simp only [callD, h1, Option.bind_some, hc _ _ _ _ _ h2, qv, h3, Option.map_some]
theorem callO_ok {cf cf' : CF} (hc : CLe cf cf') {f : FuncId} {args : List DV} {d : DV} {H : Heap} {fl : Nat} (h : callO cf f args H = some d) : callD cf' .ro fl f args H = some (d, .ro) := by
  obtain ⟨r, h2, h3⟩ := bi_eq h
  simp only [callD, Option.bind_some, hc _ _ _ _ _ h2, ov, h3, Option.map_some]
theorem callW_ok {cf cf' : CF} (hc : CLe cf cf') {f : FuncId} {args : List DV} {d : DV} {H H' : Heap} {fl : Nat} (h : callW cf f args H fl = some (d, H')) : callD cf' .rw fl f args H = some (d, .ch H') := by
  obtain ⟨r, h1, h⟩ := bi_eq h
  obtain ⟨d', h2, h⟩ := bi_eq h
  obtain ⟨H2, h3, h⟩ := bi_eq h
  cases h
  simp only [callD, Option.bind_some, hc _ _ _ _ _ h1, h2, h3, Option.map_some]
theorem callD_le {cf cf' : CF} (hc : CLe cf cf') {m : CM} {f : FuncId} {args : List DV} {H : Heap} {fl : Nat} {r : DV × Eff} (h : callD cf m fl f args H = some r) : callD cf' m fl f args H = some r ∧ r.2.cls ≤ 4 ∧ (r.2.cls ≠ 1 ∧ r.2.cls ≠ 3) := by
  cases m with
  | pure ti =>
    simp only [callD] at h ⊢
    obtain ⟨bs, h1, h⟩ := Option.bind_eq_some_iff.mp h
    obtain ⟨q, h2, h⟩ := Option.bind_eq_some_iff.mp h
    refine ⟨?_, ?_⟩
    · simp only [h1, Option.bind_some, hc _ _ _ _ _ h2, h]
    · obtain ⟨d, _, rfl⟩ := opt_map_some h; simp [Eff.cls]
  | ro =>
    simp only [callD] at h ⊢
    obtain ⟨q, h2, h⟩ := Option.bind_eq_some_iff.mp h
    refine ⟨?_, ?_⟩
    · simp only [Option.bind_some, hc _ _ _ _ _ h2, h]
    · obtain ⟨d, _, rfl⟩ := opt_map_some h; simp [Eff.cls]
  | rw =>
    simp only [callD] at h ⊢
    obtain ⟨q, h2, h⟩ := Option.bind_eq_some_iff.mp h
    refine ⟨?_, ?_⟩
    · simp only [Option.bind_some, hc _ _ _ _ _ h2, h]
    · obtain ⟨d, _, h⟩ := Option.bind_eq_some_iff.mp h
      obtain ⟨d, _, rfl⟩ := opt_map_some h; simp [Eff.cls]
  | keep =>
    simp only [callD] at h ⊢
    obtain ⟨q, h2, rfl⟩ := opt_map_some h
    refine ⟨?_, ?_⟩
    · simp only [hc _ _ _ _ _ h2, Option.map_some]
    · simp [Eff.cls]
theorem callV_le {cf cf' : CF} (hc : CLe cf cf') {md : FuncId → CM} {f : DV} {args : List DV} {H : Heap} {fl : Nat} {r : DV × Eff} (h : callV cf md fl f args H = some r) : callV cf' md fl f args H = some r ∧ r.2.cls ≤ 4 ∧ (r.2.cls ≠ 1 ∧ r.2.cls ≠ 3) := by
  unfold callV at h ⊢
  split at h
  · exact callD_le hc h
  · split at h
    · exact callD_le hc h
    · cases h
def cLe (c s : Nat) : Prop := c = s ∨ c = 0 ∨ (c = 1 ∧ s = 2) ∨ (c = 4 ∧ s = 2) ∨ (c = 3 ∧ s = 2) ∨ (c = 5 ∧ s = 2)
theorem appendD_cls {e : TypeId} {ag : Bool} {sz bytes : Nat} {x y : DV} {H : Heap} {fl : Nat} {d : DV} {f : Eff} (h : appendD e ag sz bytes x y H fl = some (d, f)) : f.cls = 5 := by
  unfold appendD at h
  split at h
  · split at h
    · cases h; rfl
    · split at h
      · split at h
        · cases h; rfl
        · split at h
          · split at h
            · cases h; rfl
            · cases h
          · cases h
        · cases h
      · cases h
  · cases h
theorem copyD_cls {ag : Bool} {sz : Nat} {x y : DV} {H : Heap} {fl : Nat} {d : DV} {f : Eff} (h : copyD ag sz x y H fl = some (d, f)) : f.cls = 2 := by
  unfold copyD at h
  split at h
  · split at h
    · split at h
      · simp only [] at h
        split at h
        · cases h; rfl
        · cases h
      · cases h
    · cases h
  · cases h
theorem callR_ok {P : Program} {cf cf' : CF} (hc : CLe cf cf') {md : FuncId → CM} {fl : Nat} {o : Oper} {c : Call} {slots : List DV} {H H' : Heap} {d : DV} (ho : o.op = .call c)
    (h : (callR P cf md fl o.type c (evalD slots) H).out H = some (d, H')) {st : Bool} : ∃ e, callOp P cf' md fl o c (evalD slots) H = some (d, e) ∧ e.heap H = H' ∧ cLe e.cls (sCls md st o) := by
  have hq : ∀ {x : Option DV}, (OpR.a x).out H = some (d, H') → qv x = some (d, .q) ∧ H = H' := by
    intro x hx
    obtain ⟨d', h1, h2⟩ := opt_map_some hx
    cases h2
    exact ⟨by simp only [qv, h1, Option.map_some], rfl⟩
  have hqq : ∀ {x : Option DV} {s : Nat}, (OpR.a x).out H = some (d, H') → ∃ e, qv x = some (d, e) ∧ e.heap H = H' ∧ cLe e.cls s := fun h => ⟨.q, (hq h).1, (hq h).2, .inr (.inl rfl)⟩
  have hb : ∀ {x : EO}, (OpR.b (effH x H)).out H = some (d, H') → ∃ e, x = some (d, e) ∧ e.heap H = H' := fun h => effH_ok h
  have hcls : ∀ {e : Eff}, e.cls ≤ 4 → cLe e.cls 2 := by
    intro e _; cases e <;> simp [Eff.cls, cLe]
  unfold callR at h
  unfold callOp sCls
  rw [ho]
  dsimp only
  cases hcal : c.callee with
  | invoke r m => rw [hcal] at h; cases h
  | value f =>
    rw [hcal] at h
    dsimp only at h ⊢
    have gen : (OpR.b (callVG cf md fl (evalD slots f) (c.args.toList.map (evalD slots)) H)).out H = some (d, H') → ∃ e, callV cf' md fl (evalD slots f) (c.args.toList.map (evalD slots)) H = some (d, e) ∧ e.heap H = H' ∧ cLe e.cls 2 := by
      intro h
      obtain ⟨e, h1, h2⟩ := hb h
      have := callV_le hc h1
      exact ⟨e, this.1, h2, hcls this.2.1⟩
    cases f with
    | func f =>
      dsimp only at h ⊢
      have hV : callV cf' md fl (evalD slots (.func f)) (c.args.toList.map (evalD slots)) H = callD cf' (md f) fl f (c.args.toList.map (evalD slots)) H := by
        simp only [callV, evalD, fnOf, Array.size_empty, and_self, if_true, List.append_nil]
      rw [hV]
      cases hm : md f with
      | pure ti =>
        rw [hm] at h
        obtain ⟨d', h1, h2⟩ := opt_map_some h
        cases h2
        exact ⟨_, callP_ok hc h1, rfl, .inr (.inl rfl)⟩
      | ro =>
        rw [hm] at h
        obtain ⟨d', h1, h2⟩ := opt_map_some h
        cases h2
        exact ⟨_, callO_ok hc h1, rfl, .inl rfl⟩
      | rw =>
        rw [hm] at h
        exact ⟨_, callW_ok hc h, rfl, .inl rfl⟩
      | keep =>
        rw [hm] at h
        refine ⟨.ch H', ?_, rfl, .inl rfl⟩
        have h : cf f (c.args.toList.map (evalD slots)) H fl = some (d, H') := h
        simp only [callD, hc _ _ _ _ _ h, Option.map_some]
    | tmp t =>
      dsimp only at h ⊢
      cases hv : vpu md o.type with
      | false =>
        rw [hv] at h
        exact gen h
      | true =>
        rw [hv] at h
        obtain ⟨d', h1, h2⟩ := opt_map_some h
        cases h2
        unfold callVP at h1
        unfold callV
        split at h1
        · rename_i g cap hf
          rw [hf]
          dsimp only
          split at h1
          · rename_i ti hm
            rw [hm]
            exact ⟨_, callP_ok hc h1, rfl, .inr (.inl rfl)⟩
          · cases h1
          · cases h1
          · cases h1
        · cases h1
    | const v => exact gen h
    | global g => exact gen h
  | builtin b =>
    rw [hcal] at h
    cases b
    case len =>
      dsimp only at h ⊢
      split at h
      · split at h
        · rename_i ht
          simp only [OpR.out, Option.some.injEq, Prod.mk.injEq] at h
          obtain ⟨rfl, rfl⟩ := h
          rename_i h1 h2 _ _ _
          rw [h1, h2]; dsimp only; rw [ht]
          exact ⟨.q, rfl, rfl, .inr (.inl rfl)⟩
        · rename_i h1 h2 _ _ ht
          rw [h1, h2]; dsimp only; rw [ht]
          exact hqq h
        · rename_i h1 h2 _ ht
          rw [h1, h2]; dsimp only; rw [ht]
          exact hqq h
        · cases h
      · cases h
    case cap =>
      dsimp only at h ⊢
      split at h
      · split at h
        · rename_i h1 h2 _ _ ht
          rw [h1, h2]; dsimp only; rw [ht]
          exact hqq h
        · cases h
      · cases h
    case append =>
      dsimp only at h ⊢
      split at h
      · split at h
        · split at h
          · split at h
            · split at h
              · rename_i hargs htys ht _ _ hu _ _ _ _ _ _ _ e1 e2 e3 hz
                obtain ⟨e, h3, h4⟩ := hb h
                rw [hargs, htys]
                try dsimp only
                rw [if_pos ht, hu]
                try dsimp only
                rw [e1, e2, e3]
                try dsimp only
                rw [if_pos hz]
                exact ⟨e, h3, h4, .inl (appendD_cls h3)⟩
              · cases h
            · cases h
          · cases h
        · cases h
      · cases h
    case copy =>
      dsimp only at h ⊢
      split at h
      · split at h
        · split at h
          · rename_i h1 h2 _ _ hu _ _ _ e1
            obtain ⟨e, h3, h4⟩ := hb h
            rw [h1, h2]; dsimp only
            rw [hu]; dsimp only
            rw [e1]; dsimp only
            exact ⟨e, h3, h4, .inl (copyD_cls h3)⟩
          · cases h
        · cases h
      · cases h
    case max =>
      dsimp only at h ⊢
      obtain ⟨d', h1, h2⟩ := opt_map_some h
      cases h2
      refine ⟨.q, ?_, rfl, .inr (.inl rfl)⟩
      have := builtF_ok h1
      simp only [qv, this, Option.map_some]
    case min =>
      dsimp only at h ⊢
      obtain ⟨d', h1, h2⟩ := opt_map_some h
      cases h2
      refine ⟨.q, ?_, rfl, .inr (.inl rfl)⟩
      have := builtF_ok h1
      simp only [qv, this, Option.map_some]
    all_goals cases h
theorem opR_ok {X : Ctx} {cf' : CF} (hc : CLe X.cf cf') {st : Bool} {nid : Nat} {o : Oper} {slots : List DV} {H H' : Heap} {d : DV}
    (h : (opR X st nid o slots H).out H = some (d, H')) : ∃ e, evalO X.P cf' X.md X.fl nid o slots H = some (d, e) ∧ e.heap H = H' ∧ cLe e.cls (sCls X.md st o) := by
  have hq : ∀ {x : Option DV}, (OpR.a x).out H = some (d, H') → x = some d ∧ H = H' := by
    intro x hx
    obtain ⟨d', h1, h2⟩ := opt_map_some hx
    cases h2
    exact ⟨h1, rfl⟩
  have hqq : ∀ {x : Option DV} {s : Nat}, (OpR.a x).out H = some (d, H') → ∃ e, qv x = some (d, e) ∧ e.heap H = H' ∧ cLe e.cls s := fun h => ⟨.q, by simp only [qv, (hq h).1, Option.map_some], (hq h).2, .inr (.inl rfl)⟩
  have hb : ∀ {x : EO}, (OpR.b (effH x H)).out H = some (d, H') → ∃ e, x = some (d, e) ∧ e.heap H = H' := fun h => effH_ok h
  have hcls : ∀ {e : Eff}, cLe e.cls 2 := by
    intro e; cases e <;> simp [Eff.cls, cLe]
  cases hop : o.op with
  | call c =>
    unfold opR at h; rw [hop] at h
    unfold evalO; rw [hop]
    exact callR_ok hc hop h
  | move x => unfold opR at h; rw [hop] at h; unfold evalO; rw [hop]; cases h; exact ⟨.q, rfl, rfl, .inr (.inl rfl)⟩
  | assign x => unfold opR at h; rw [hop] at h; unfold evalO; rw [hop]; cases h; exact ⟨.q, rfl, rfl, .inr (.inl rfl)⟩
  | pick c a b => unfold opR at h; rw [hop] at h; unfold evalO; rw [hop]; exact hqq h
  | nilCheck x => unfold opR at h; rw [hop] at h; unfold evalO; rw [hop]; exact hqq h
  | extract t i => unfold opR at h; rw [hop] at h; unfold evalO; rw [hop]; exact hqq h
  | binOp op t x y t2 => unfold opR at h; rw [hop] at h; unfold evalO; rw [hop]; exact ⟨.q, by simp only [qv, binF_ok (hq h).1, Option.map_some], (hq h).2, .inr (.inl rfl)⟩
  | unOp op t x => unfold opR at h; rw [hop] at h; unfold evalO; rw [hop]; exact ⟨.q, by simp only [qv, unF_ok (hq h).1, Option.map_some], (hq h).2, .inr (.inl rfl)⟩
  | convert s t x => unfold opR at h; rw [hop] at h; unfold evalO; rw [hop]; exact ⟨.q, by simp only [qv, cvF_ok (hq h).1, Option.map_some], (hq h).2, .inr (.inl rfl)⟩
  | makeFunc fn a b => unfold opR at h; rw [hop] at h; unfold evalO; rw [hop]; cases h; exact ⟨.q, rfl, rfl, .inr (.inl rfl)⟩
  | alloc e =>
    unfold opR at h; rw [hop] at h; unfold evalO; rw [hop]
    dsimp only at h ⊢
    unfold sCls; rw [hop]; dsimp only
    split at h
    · rename_i z hz
      obtain ⟨H2, h1, h2⟩ := opt_map_some h
      cases h2
      obtain ⟨f, h3, h4, h5⟩ := allocG_ok h1
      rw [hz]
      exact ⟨f, h3, h4, .inl h5⟩
    · cases h
  | box e x =>
    unfold opR at h; rw [hop] at h; unfold evalO; rw [hop]
    dsimp only at h ⊢
    unfold sCls; rw [hop]; dsimp only
    split at h
    · rename_i hr
      rw [if_pos hr]
      exact ⟨.q, by rw [(hq h).1]; rfl, (hq h).2, .inr (.inl rfl)⟩
    · rename_i hr
      rw [if_neg (by rw [hr]; decide)]
      obtain ⟨H2, h1, h2⟩ := opt_map_some h
      cases h2
      obtain ⟨f, h3, h4, h5⟩ := allocG_ok h1
      exact ⟨f, h3, h4, .inl h5⟩
  | load t a =>
    unfold opR at h; rw [hop] at h; unfold evalO; rw [hop]
    dsimp only at h ⊢
    unfold sCls; rw [hop]; dsimp only
    split at h
    · rename_i hz
      rw [hz]; dsimp only
      cases st with
      | true =>
        have h4 := (hq h).1
        unfold loadE at h4
        split at h4
        · rename_i hx
          refine ⟨.q, ?_, (hq h).2, .inl rfl⟩
          unfold loadD
          rw [hx]
          simp only [qv, h4, Option.map_some]
        · cases h4
      | false =>
      obtain ⟨e, h1, h2, h3⟩ := loadG_ok (hq h).1
      refine ⟨e, h1, h2.trans (hq h).2, ?_⟩
      cases e <;> simp [Eff.cls, cLe] at h3 ⊢
    · cases h
  | store t a x =>
    unfold opR at h; rw [hop] at h; unfold evalO; rw [hop]
    dsimp only at h ⊢
    unfold sCls; rw [hop]; dsimp only
    split at h
    · rename_i hz
      rw [hz]; dsimp only
      obtain ⟨H2, h1, h2⟩ := opt_map_some h
      cases h2
      obtain ⟨e, h3, h4, _⟩ := storeG_ok h1
      exact ⟨e, h3, h4, hcls⟩
    · cases h
  | build t ps =>
    unfold opR at h; rw [hop] at h; unfold evalO; rw [hop]
    dsimp only at h ⊢
    split at h
    · split at h
      · rename_i hu hz _ _ hp
        rw [hu, hz]; dsimp only; rw [hp]
        exact hqq h
      · cases h
    · split at h
      · rename_i hu hz _ _ hp
        rw [hu, hz]; dsimp only; rw [hp]
        exact hqq h
      · cases h
    · cases h
  | buildSlice t n ps =>
    unfold opR at h; rw [hop] at h; unfold evalO; rw [hop]
    dsimp only at h ⊢
    split at h
    · split at h
      · rename_i hu _ _ _ _ _ h1 h2
        rw [hu]; dsimp only; rw [h1, h2]
        exact hqq h
      · cases h
    · cases h
  | makeInterface t x =>
    unfold opR at h; rw [hop] at h; unfold evalO; rw [hop]
    dsimp only at h ⊢
    split at h
    · cases h
    · rename_i v hne hu
      cases h
      split
      · rename_i e2; exact (hne _ (Option.some.inj (hu.symm.trans e2))).elim
      · exact ⟨.q, rfl, rfl, .inr (.inl rfl)⟩
      · rename_i e2; rw [hu] at e2; cases e2
    · cases h
  | makeSlice t l c =>
    unfold opR at h; rw [hop] at h; unfold evalO; rw [hop]
    dsimp only at h ⊢
    unfold sCls; rw [hop]; dsimp only
    split at h
    · split at h
      · rename_i hu _ _ _ _ _ _ _ h1 h2 h3
        rw [hu]; dsimp only; rw [h1, h2, h3]; dsimp only
        obtain ⟨e, h4, h5⟩ := hb h
        refine ⟨e, h4, h5, ?_⟩
        unfold makeD at h4
        split at h4
        · split at h4
          · cases h4; exact .inl rfl
          · cases h4
        · cases h4
      · cases h
    · cases h
  | slice t x lo hi mx =>
    unfold opR at h; rw [hop] at h; unfold evalO; rw [hop]
    dsimp only at h ⊢
    split at h
    · split at h
      · rename_i hu _ _ _ h1
        rw [hu]; dsimp only; rw [h1]
        exact hqq h
      · cases h
    · split at h
      · rename_i hu _ _ _ h1
        rw [hu]; dsimp only; rw [h1]
        exact hqq h
      · cases h
    · cases h
  | fieldAddr t x f =>
    unfold opR at h; rw [hop] at h; unfold evalO; rw [hop]
    dsimp only at h ⊢
    split at h
    · split at h
      · split at h
        · rename_i hu _ _ h1 _ _ h2
          rw [hu]; dsimp only; rw [h1]; dsimp only; rw [h2]
          exact hqq h
        · cases h
      · cases h
    · cases h
  | field t x f =>
    unfold opR at h; rw [hop] at h; unfold evalO; rw [hop]
    dsimp only at h ⊢
    split at h
    · split at h
      · split at h
        · rename_i hu _ _ h1 _ _ _ h2
          rw [hu]; dsimp only; rw [h1]; dsimp only; rw [h2]
          exact hqq h
        · cases h
      · cases h
    · cases h
  | indexAddr t x i =>
    unfold opR at h; rw [hop] at h; unfold evalO; rw [hop]
    dsimp only at h ⊢
    split at h
    · split at h
      · rename_i hu _ _ h1
        rw [hu]; dsimp only; rw [h1]
        exact hqq h
      · cases h
    · split at h
      · rename_i hu _ _ h1
        rw [hu]; dsimp only; rw [h1]
        exact hqq h
      · cases h
    · cases h
  | index t x i =>
    unfold opR at h; rw [hop] at h; unfold evalO; rw [hop]
    dsimp only at h ⊢
    split at h
    · split at h
      · rename_i hu _ _ _ h1
        rw [hu]; dsimp only; rw [h1]
        exact hqq h
      · cases h
    · cases h
  | _ => unfold opR at h; rw [hop] at h; cases h
end Go.Proofs.Ytcpgmbpndpcmdaa
