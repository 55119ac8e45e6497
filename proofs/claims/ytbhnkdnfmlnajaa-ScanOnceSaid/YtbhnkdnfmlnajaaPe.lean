/- Deep values: regions are sound. -/
import Derived.Test.YtbhnkdnfmlnajaaPd
namespace Go.Proofs.Ytbhnkdnfmlnajaa
open Go Go.RowKit

variable {B : Nat → Nat → Prop} {G : Gh} {w : World} {Hr : Heap} {o : Oper} {a : Act} {slots : List DV}

def Facts (fl : Nat) (H H' : Heap) : Prop := (∀ k, k < fl → H'[k]? = H[k]?) ∧ H.length ≤ H'.length
theorem Facts.refl (fl : Nat) (H : Heap) : Facts fl H H := ⟨fun _ _ => rfl, Nat.le_refl _⟩
theorem Facts.trans {fl : Nat} {H H' H'' : Heap} (h : Facts fl H H') (k : Facts fl H' H'') : Facts fl H H'' := ⟨fun i hi => (k.1 i hi).trans (h.1 i hi), Nat.le_trans h.2 k.2⟩
theorem step_facts {X : Ctx} {ops : Array Oper} {s : Stp} (hP : NoOwn X.P) (hcf : CFSound X.P X.cf) (hstep : StepOk X ops o s) (hB : ∀ b j, w.heap.size ≤ b → B b j) (hH : HR B G w Hr) (hs : SR (ImmB B G) w G slots a)
    (he : evalO X.P X.cf X.md X.fl s.nid o slots s.S.heap = evalO X.P X.cf X.md X.fl s.nid o s.S.slots s.S.heap) (hag : Agree s.e s.S.heap Hr) (hfl : s.e.wr → X.fl ≤ s.S.heap.length) (hnid : X.fl ≤ s.nid) : Facts X.fl s.S.heap (s.e.heap s.S.heap) := by
  rcases hstep with ⟨h1, h2⟩ | ⟨h1, h2, h3⟩
  · exact (op_sound hP hcf (he.trans h2) hB hH hs hag hfl hnid).2
  · rw [h3]; exact Facts.refl _ _
theorem agree_self {X : Ctx} {ops : Array Oper} {s : Stp} (hstep : StepOk X ops o s) (hh : isAl o = true → s.S.heap[s.nid]? = some .hole) : Agree s.e s.S.heap s.S.heap := by
  cases he : s.e with
  | q => trivial
  | rd => exact Agree.refl_rd _
  | ro => rfl
  | ch H => rfl
  | tk H => rfl
  | al k b =>
    rcases hstep with ⟨_, h⟩ | ⟨_, _, h⟩
    · rw [he] at h
      obtain ⟨rfl, h2⟩ := al_is h
      exact hh h2
    · rw [he] at h; cases h
theorem seq_sound {X : Ctx} {ops : Array Oper} (hP : NoOwn X.P) (hcf : CFSound X.P X.cf) {Q : Exit → Act → World → Prop} : ∀ (l : List Oper) (i nid : Nat) (S S' : St) (tr : List Stp), ops.toList.drop i = l → TraceOk X ops l nid S tr S' →
    ∀ (G : Gh) (w : World) (a : Act), (∀ b j, w.heap.size ≤ b → B b j) → HR B G w S.heap → SR (ImmB B G) w G S.slots a → X.fl ≤ S.heap.length → X.fl ≤ nid → (∀ k, nid ≤ k → k < nid + alCount l → S.heap[k]? = some .hole) →
    (∀ a' w' G', Keep G w G' w' → HR B G' w' S'.heap → SR (ImmB B G') w' G' S'.slots a' → Facts X.fl S.heap S'.heap → Q .normal a' w') → wpOps X.P ops Q (List.range' i l.length) a w
  | [], i, nid, S, S', [], hd, h => by
    intro G w a hB hH hs hfl hnid hh hQ
    simp only [TraceOk] at h
    subst h
    simp only [List.length_nil, List.range'_zero, wpOps]
    exact hQ a w G (Keep.refl G w) hH hs (Facts.refl _ _)
  | [], _, _, _, _, _ :: _, _, h => h.elim
  | _ :: _, _, _, _, _, [], _, h => h.elim
  | o :: l, i, nid, S, S', s :: tr, hd, h => by
    intro G w a hB hH hs hfl hnid hh hQ
    obtain ⟨h1, h2, h3, h4⟩ := h
    subst h1
    subst h2
    have ho : ops[i]? = some o := by
      have : (ops.toList.drop i)[0]? = some o := by rw [hd]; rfl
      rw [List.getElem?_drop] at this
      simpa using this
    have hd' : ops.toList.drop (i + 1) = l := by
      rw [← List.drop_drop, hd]; rfl
    have hhole : isAl o = true → s.S.heap[s.nid]? = some .hole := fun h => hh s.nid (Nat.le_refl _) (by unfold alCount; simp [h])
    have hag := agree_self h3 hhole
    have hf := step_facts hP hcf h3 hB hH hs rfl hag (fun _ => hfl) hnid
    rw [List.length_cons, List.range'_succ, wpOps_cons]
    refine step_sound hP hcf ho h3 hB hH hs rfl rfl hag (fun _ => hfl) hnid fun V w' G' hK hH' hr => ?_
    have hcount : nextId o s.nid + alCount l = s.nid + alCount (o :: l) := by
      unfold nextId alCount
      cases ho : isAl o <;> simp [ho]
      omega
    have hle : s.nid ≤ nextId o s.nid := by unfold nextId; split <;> omega
    refine seq_sound hP hcf l (i + 1) (nextId o s.nid) _ S' tr hd' h4 G' w' _ (fun b j hb => hB b j (Nat.le_trans hK.size hb)) hH' ((hs.keep hK).put o.dst hr) (Nat.le_trans hfl hf.2) (Nat.le_trans hnid hle) (fun k hk1 hk2 => ?_) fun a2 w2 G2 hK2 hH2 hs2 hf2 => ?_
    · refine step_holes hcf h3 (hh k (by omega) (by omega)) fun ho => ?_
      unfold nextId at hk1
      rw [if_pos ho] at hk1
      omega
    · exact hQ a2 w2 G2 (Keep.trans hH.dist hK hK2) hH2 hs2 (hf.trans hf2)
/-- holes behind a heap -/
theorem hr_holes {H : Heap} (h : HR B G w H) (n : Nat) : HR B (G ++ List.replicate n GK.hole) w (H ++ List.replicate n DBlk.hole) ∧ Keep G w (G ++ List.replicate n GK.hole) w := by
  have key : ∀ (k : Nat) (g : GK), (G ++ List.replicate n GK.hole)[k]? = some g → g ≠ .hole → G[k]? = some g := by
    intro k g hg hne
    rcases Nat.lt_or_ge k G.length with hk | hk
    · rwa [List.getElem?_append_left hk] at hg
    · rw [List.getElem?_append_right hk, List.getElem?_replicate] at hg
      split at hg
      · cases hg; exact absurd rfl hne
      · cases hg
  have live : ∀ k b, liveAt (G ++ List.replicate n GK.hole) k b → liveAt G k b := by
    rintro k b (hl | ⟨s, c, m, hl⟩)
    · exact .inl (key k _ hl (by simp))
    · exact .inr ⟨s, c, m, key k _ hl (by simp)⟩
  have hK : Keep G w (G ++ List.replicate n GK.hole) w := by
    refine ⟨rfl, rfl, rfl, Nat.le_refl _, fun _ _ _ => rfl, fun _ _ _ _ _ _ _ _ _ => rfl, fun k g hg => ⟨g, ?_, evol_refl g⟩, fun k b _ hg => key k _ hg (by simp), fun k b s c m _ hg => ⟨c, m, key k _ hg (by simp), Nat.le_refl _⟩⟩
    rw [List.getElem?_append_left (List.getElem?_eq_some_iff.1 hg).1]; exact hg
  refine ⟨⟨by simp [h.len], fun k k' b h1 h2 => h.dist k k' b (live k b h1) (live k' b h2), fun k x g hx hg => ?_, fun k b hl => h.bb k b (live k b hl)⟩, hK⟩
  rcases Nat.lt_or_ge k G.length with hk | hk
  · rw [List.getElem?_append_left hk] at hg
    rw [List.getElem?_append_left (by rw [h.len]; exact hk)] at hx
    exact blk_keep hK (h.blk k x g hx hg) fun _ _ => rfl
  · rw [List.getElem?_append_right hk, List.getElem?_replicate] at hg
    rw [List.getElem?_append_right (by rw [h.len]; exact hk), List.getElem?_replicate] at hx
    split at hg
    · cases hg
      split at hx
      · cases hx; simp [BlkRep]
      · cases hx
    · cases hg
theorem holes_eq (l : List Oper) : holes l = List.replicate (alCount l) DBlk.hole := by
  unfold holes alCount
  rw [List.map_const']
/-- a region in the order of the text -/
theorem region_sound {X : Ctx} {ops : Array Oper} {id : Nat} (hP : NoOwn X.P) (hcf : CFSound X.P X.cf) {Q : Exit → Act → World → Prop} {S S' : St} {tr : List Stp} (ht : TraceOk X ops ops.toList S.heap.length ⟨S.slots, S.heap ++ holes ops.toList⟩ tr S')
    (hB : ∀ b j, w.heap.size ≤ b → B b j) (hH : HR B G w S.heap) (hs : SR (ImmB B G) w G S.slots a) (hfl : X.fl ≤ S.heap.length)
    (hQ : ∀ a' w' G', Keep G w G' w' → HR B G' w' S'.heap → SR (ImmB B G') w' G' S'.slots a' → Facts X.fl S.heap S'.heap → Q .normal a' w') : (Code.region id ops false).wp X.P Q a w := by
  refine wp_region ?_
  rw [holes_eq] at ht
  obtain ⟨h1, h2⟩ := hr_holes hH (alCount ops.toList)
  have hf0 : Facts X.fl S.heap (S.heap ++ List.replicate (alCount ops.toList) DBlk.hole) := ⟨fun k hk => List.getElem?_append_left (by omega), by simp⟩
  have := seq_sound (B := B) (Q := Q) hP hcf ops.toList 0 S.heap.length _ S' tr rfl ht _ w a hB h1 (hs.keep h2) (Nat.le_trans hfl hf0.2) hfl (fun k hk1 hk2 => by
    simp only []
    rw [List.getElem?_append_right hk1, List.getElem?_replicate, if_pos (by omega)]) fun a' w' G' hK hH' hs' hf => hQ a' w' G' (Keep.trans hH.dist h2 hK) hH' hs' (hf0.trans hf)
  rw [List.range_eq_range']
  simpa using this
theorem evalD_congr {slots slots' : List DV} (x : Operand) (h : ∀ t, x = .tmp t → slots[t]? = slots'[t]?) : evalD slots x = evalD slots' x := by
  cases x with
  | tmp t => simp [evalD, List.getD, h t rfl]
  | _ => rfl
theorem map_congr {slots slots' : List DV} : ∀ (l : List Operand), (∀ t, Operand.tmp t ∈ l → slots[t]? = slots'[t]?) → l.map (evalD slots) = l.map (evalD slots')
  | [], _ => rfl
  | x :: l, h => by
    rw [List.map_cons, List.map_cons, evalD_congr x (fun t e => h t (by simp [e])), map_congr l (fun t ht => h t (by simp [ht]))]
theorem map2_congr {slots slots' : List DV} : ∀ (l : List (Nat × Operand)), (∀ t, Operand.tmp t ∈ l.map (·.2) → slots[t]? = slots'[t]?) → l.map (fun p => (p.1, evalD slots p.2)) = l.map (fun p => (p.1, evalD slots' p.2))
  | [], _ => rfl
  | x :: l, h => by
    rw [List.map_cons, List.map_cons, evalD_congr x.2 (fun t e => h t (by simp [e])), map2_congr l (fun t ht => h t (by simp at ht ⊢; exact .inr ht))]
/-- an operation looks at its own operands alone -/
theorem evalO_congr {P : Program} {cf : CF} {md : FuncId → CM} {fl nid : Nat} {H : Heap} {slots slots' : List DV} (h : ∀ t, Operand.tmp t ∈ o.op.operands.toList → slots[t]? = slots'[t]?) : evalO P cf md fl nid o slots H = evalO P cf md fl nid o slots' H := by
  have ev : ∀ x, x ∈ o.op.operands.toList → evalD slots x = evalD slots' x := fun x hx => evalD_congr x fun t e => h t (by rw [← e]; exact hx)
  unfold evalO
  cases hop : o.op with
  | build t parts =>
    rw [hop] at h
    simp only [Op.operands] at h
    simp only [map2_congr parts.toList (fun t ht => h t (by simpa using ht))]
  | buildSlice t n parts =>
    rw [hop] at h
    simp only [Op.operands] at h
    simp only [map2_congr parts.toList (fun t ht => h t (by simpa using ht))]
  | makeFunc fn first cap =>
    rw [hop] at h
    simp only [Op.operands, Array.toList_append, List.mem_append] at h
    simp only [map_congr first.toList (fun t ht => h t (.inl ht)), map_congr cap.toList (fun t ht => h t (.inr ht))]
  | call c =>
    rw [hop] at h
    simp only [Op.operands, Call.operands, Array.toList_append, List.mem_append] at h
    have hargs := map_congr c.args.toList (fun t ht => h t (.inr ht))
    simp only []
    unfold callOp
    cases hc : c.callee with
    | value f =>
      rw [hc] at h
      have hf : evalD slots f = evalD slots' f := evalD_congr f fun t e => h t (.inl (by simp [e]))
      simp only [hf, hargs]
    | invoke r m => rfl
    | builtin b =>
      have harg : ∀ x, x ∈ c.args.toList → evalD slots x = evalD slots' x := fun x hx => evalD_congr x fun t e => h t (.inr (by rw [← e]; exact hx))
      have hb := congrArg (fun l => qv (builtD P b c.argTypes o.type l)) hargs
      cases hl : c.args.toList with
      | nil =>
        rw [hl] at hb
        cases b <;> first | exact hb | rfl
      | cons x r =>
        have h1 := harg x (by rw [hl]; simp)
        rw [hl] at hb
        cases r with
        | nil =>
          cases b <;> first
            | exact hb
            | (rcases c.argTypes.toList with _ | ⟨t, _ | ⟨t', r'⟩⟩ <;> first | rfl | simp only [h1])
        | cons y r =>
          have h2 := harg y (by rw [hl]; simp)
          cases r with
          | nil =>
            cases b <;> first
              | exact hb
              | (rcases c.argTypes.toList with _ | ⟨t, _ | ⟨t', _ | ⟨t'', r'⟩⟩⟩ <;> first | rfl | simp only [h1, h2])
          | cons z r => cases b <;> first | exact hb | rfl
  | slice t x lo hi mx =>
    rw [hop] at h
    simp only [Op.operands] at h
    have o1 : ∀ y : Option Operand, (∀ t, Operand.tmp t ∈ y.toArray.toList → slots[t]? = slots'[t]?) → y.map (evalD slots) = y.map (evalD slots') := by
      intro y hy
      cases y with
      | none => rfl
      | some y => simp only [Option.map_some]; rw [evalD_congr y fun t e => hy t (by simp [e])]
    simp only [evalD_congr x fun t e => h t (by simp [e]), o1 lo fun t ht => h t (by simp at ht ⊢; simp [ht]), o1 hi fun t ht => h t (by simp at ht ⊢; simp [ht]), o1 mx fun t ht => h t (by simp at ht ⊢; simp [ht])]
  | _ =>
    simp only [hop, Op.operands] at ev
    first
      | rfl
      | simp only [ev _ (List.mem_cons_self), ev _ (List.mem_cons_of_mem _ (List.mem_cons_self)), ev _ (List.mem_cons_of_mem _ (List.mem_cons_of_mem _ (List.mem_cons_self)))]
      | simp only [ev _ (List.mem_cons_self), ev _ (List.mem_cons_of_mem _ (List.mem_cons_self))]
      | simp only [ev _ (List.mem_cons_self)]
theorem wantD_congr {ops : Array Oper} {slots slots' : List DV} (h : ∀ t, t ∈ namesOf ops o → slots[t]? = slots'[t]?) : wantD ops o slots = wantD ops o slots' := by
  unfold wantD
  cases hg : o.guard with
  | none => rfl
  | some p =>
    obtain ⟨j, want⟩ := p
    simp only []
    cases ht : (ops[j]?).bind (·.dst) with
    | none => rfl
    | some t =>
      simp only []
      have : slots.getD t .any = slots'.getD t .any := by
        simp only [List.getD]
        rw [h t (by simp [namesOf, hg, ht])]
      rw [this]
end Go.Proofs.Ytbhnkdnfmlnajaa
