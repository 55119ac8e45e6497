/- The front evaluator answers only what the deep evaluator answers. -/
import Derived.Test.YtbhnkdnfmlnajaaPl
namespace Go.Proofs.Ytbhnkdnfmlnajaa
open Go

theorem opt_map_some {α β : Type} {f : α → β} {x : Option α} {b : β} (h : x.map f = some b) : ∃ a, x = some a ∧ f a = b := by
  cases x with
  | none => cases h
  | some a => exact ⟨a, rfl, Option.some.inj h⟩
theorem arI_eq {k : IntKind} {f : Int → Int → Int} {a b d : DV} (h : arI k f a b = some d) : ∃ x y, a = .flat (.int k x) ∧ b = .flat (.int k y) ∧ d = .flat (.int k (f x y)) := by
  unfold arI at h
  split at h
  · split at h
    · rename_i x y hk; obtain ⟨rfl, rfl⟩ := hk; cases h; exact ⟨_, _, rfl, rfl, rfl⟩
    · cases h
  · cases h
theorem cmI_eq {k : IntKind} {f : Int → Int → Bool} {a b d : DV} (h : cmI k f a b = some d) : ∃ x y, a = .flat (.int k x) ∧ b = .flat (.int k y) ∧ d = .flat (.bool (f x y)) := by
  unfold cmI at h
  split at h
  · split at h
    · rename_i x y hk; obtain ⟨rfl, rfl⟩ := hk; cases h; exact ⟨_, _, rfl, rfl, rfl⟩
    · cases h
  · cases h
theorem divI_eq {k : IntKind} {f : Int → Int → Int} {a b d : DV} (h : divI k f a b = some d) : ∃ x y, a = .flat (.int k x) ∧ b = .flat (.int k y) ∧ y ≠ 0 ∧ d = .flat (.int k (f x y)) := by
  unfold divI at h
  split at h
  · split at h
    · rename_i x y hk; obtain ⟨rfl, rfl, h0⟩ := hk; cases h; exact ⟨_, _, rfl, rfl, h0, rfl⟩
    · cases h
  · cases h
theorem shI_eq {k : IntKind} {f : Int → Nat → Int} {a b d : DV} (h : shI k f a b = some d) : ∃ x k2 y, a = .flat (.int k x) ∧ b = .flat (.int k2 y) ∧ 0 ≤ y ∧ d = .flat (.int k (f x (min y.toNat k.bits))) := by
  unfold shI at h
  split at h
  · split at h
    · rename_i x _ y hk; obtain ⟨rfl, h0⟩ := hk; cases h; exact ⟨_, _, _, rfl, rfl, h0, rfl⟩
    · cases h
  · cases h
theorem pureV_int (P : Program) (k : IntKind) (n : Int) : pureV P (pure (.int k n)) = some (.flat (.int k n)) := rfl
theorem pureV_bool (P : Program) (b : Bool) : pureV P (pure (.bool b)) = some (.flat (.bool b)) := rfl
theorem intF_ok {P : Program} {k : IntKind} {op : BinOp} {t : TypeId} {x y : Operand} {a b d : DV} (h : intF k op a b = some d) : binD P op t x y a b = some d := by
  cases op
  case add => have h : addK k a b = some d := h; obtain ⟨u, v, rfl, rfl, rfl⟩ := arI_eq h; simp only [binD, arD, toVal, binOp, ne_eq, not_true_eq_false, if_false]; rfl
  case sub => have h : subK k a b = some d := h; obtain ⟨u, v, rfl, rfl, rfl⟩ := arI_eq h; simp only [binD, arD, toVal, binOp, ne_eq, not_true_eq_false, if_false]; rfl
  case mul => have h : mulK k a b = some d := h; obtain ⟨u, v, rfl, rfl, rfl⟩ := arI_eq h; simp only [binD, arD, toVal, binOp, ne_eq, not_true_eq_false, if_false]; rfl
  case and => have h : andK k a b = some d := h; obtain ⟨u, v, rfl, rfl, rfl⟩ := arI_eq h; simp only [binD, arD, toVal, binOp, ne_eq, not_true_eq_false, if_false]; rfl
  case or => have h : orK k a b = some d := h; obtain ⟨u, v, rfl, rfl, rfl⟩ := arI_eq h; simp only [binD, arD, toVal, binOp, ne_eq, not_true_eq_false, if_false]; rfl
  case xor => have h : xorK k a b = some d := h; obtain ⟨u, v, rfl, rfl, rfl⟩ := arI_eq h; simp only [binD, arD, toVal, binOp, ne_eq, not_true_eq_false, if_false]; rfl
  case andNot => have h : andNotK k a b = some d := h; obtain ⟨u, v, rfl, rfl, rfl⟩ := arI_eq h; simp only [binD, arD, toVal, binOp, ne_eq, not_true_eq_false, if_false]; rfl
  case quo => have h : quoK k a b = some d := h; obtain ⟨u, v, rfl, rfl, h0, rfl⟩ := divI_eq h; simp only [binD, arD, toVal, binOp, ne_eq, not_true_eq_false, if_false, Op.intDiv, if_neg h0]; rfl
  case rem => have h : remK k a b = some d := h; obtain ⟨u, v, rfl, rfl, h0, rfl⟩ := divI_eq h; simp only [binD, arD, toVal, binOp, ne_eq, not_true_eq_false, if_false, Op.intDiv, if_neg h0]; rfl
  case shl => have h : shlK k a b = some d := h; obtain ⟨u, k2, v, rfl, rfl, h0, rfl⟩ := shI_eq h; simp only [binD, arD, toVal, binOp, Op.shift, if_neg (Int.not_lt.mpr h0)]; rfl
  case shr => have h : shrK k a b = some d := h; obtain ⟨u, k2, v, rfl, rfl, h0, rfl⟩ := shI_eq h; simp only [binD, arD, toVal, binOp, Op.shift, if_neg (Int.not_lt.mpr h0)]; rfl
  case eql => have h : eqK k a b = some d := h; obtain ⟨u, v, rfl, rfl, rfl⟩ := cmI_eq h; simp only [binD, eqD, toVal, binOp, ne_eq, not_true_eq_false, if_false]; rfl
  case neq => have h : neK k a b = some d := h; obtain ⟨u, v, rfl, rfl, rfl⟩ := cmI_eq h; simp only [binD, eqD, toVal, binOp, ne_eq, not_true_eq_false, if_false]; rfl
  case lss => have h : ltK k a b = some d := h; obtain ⟨u, v, rfl, rfl, rfl⟩ := cmI_eq h; simp only [binD, arD, toVal, binOp, ne_eq, not_true_eq_false, if_false]; rfl
  case leq => have h : leK k a b = some d := h; obtain ⟨u, v, rfl, rfl, rfl⟩ := cmI_eq h; simp only [binD, arD, toVal, binOp, ne_eq, not_true_eq_false, if_false]; rfl
  case gtr => have h : gtK k a b = some d := h; obtain ⟨u, v, rfl, rfl, rfl⟩ := cmI_eq h; simp only [binD, arD, toVal, binOp, ne_eq, not_true_eq_false, if_false]; rfl
  case geq => have h : geK k a b = some d := h; obtain ⟨u, v, rfl, rfl, rfl⟩ := cmI_eq h; simp only [binD, arD, toVal, binOp, ne_eq, not_true_eq_false, if_false]; rfl
theorem pure_equal_bool {P : Program} {t : TypeId} {u v : Bool} (ht : P.underlying t = some .bool) : pureRun P (Op.equal t (.bool u) (.bool v)) = some (u == v) := by
  show pureRun P (Op.equalIn (9999 + 1) t (.bool u) (.bool v)) = _
  rw [Op.equalIn]
  simp only [underlying, program, Bind.bind, Sem.bind, pureRun, ht, pure]
theorem pureRun_bind {P : Program} {α β : Type} : ∀ (s : Sem α) (f : α → Sem β) (a : α), pureRun P s = some a → pureRun P (s >>= f) = pureRun P (f a)
  | .pure a, f, b, h => by cases h; rfl
  | .program k, f, b, h => pureRun_bind (k P) f b h
  | .mark m k, f, b, h => pureRun_bind k f b h
  | .load .., _, _, h => by cases h
  | .store .., _, _, h => by cases h
  | .new .., _, _, h => by cases h
  | .shape .., _, _, h => by cases h
  | .freeze .., _, _, h => by cases h
  | .frozen .., _, _, h => by cases h
  | .getObj .., _, _, h => by cases h
  | .setObj .., _, _, h => by cases h
  | .choose .., _, _, h => by cases h
  | .sys .., _, _, h => by cases h
  | .halt .., _, _, h => by cases h
theorem eqB_ok {P : Program} {t : TypeId} {x y : Operand} {u v : Bool} (ht : P.underlying t = some .bool) : binD P .eql t x y (.flat (.bool u)) (.flat (.bool v)) = some (.flat (.bool (u == v))) := by
  show pureV P (Op.equal t (.bool u) (.bool v) >>= fun b => pure (.bool b)) = _
  unfold pureV
  rw [pureRun_bind _ _ _ (pure_equal_bool ht)]
  rfl
theorem neB_ok {P : Program} {t : TypeId} {x y : Operand} {u v : Bool} (ht : P.underlying t = some .bool) : binD P .neq t x y (.flat (.bool u)) (.flat (.bool v)) = some (.flat (.bool (u != v))) := by
  show pureV P (Op.equal t (.bool u) (.bool v) >>= fun b => pure (.bool !b)) = _
  unfold pureV
  rw [pureRun_bind _ _ _ (pure_equal_bool ht)]
  rfl
theorem binF_ok {P : Program} {op : BinOp} {t : TypeId} {x y : Operand} {a b d : DV} (h : binF P op t x y a b = some d) : binD P op t x y a b = some d := by
  unfold binF at h
  split at h
  · exact intF_ok h
  · rename_i ht
    split at h
    · unfold eqB at h; split at h
      · cases h; exact eqB_ok ht
      · cases h
    · unfold neB at h; split at h
      · cases h; exact neB_ok ht
      · cases h
    · exact h
  · split at h
    · unfold eqS at h; split at h
      · cases h; rfl
      · cases h
    · unfold neS at h; split at h
      · cases h; rfl
      · cases h
    · exact h
  · exact h
theorem unF_ok {P : Program} {op : UnOp} {a d : DV} (h : unF P op a = some d) : unD P op a = some d := by
  unfold unF at h
  split at h
  · unfold notD at h; split at h
    · cases h; rfl
    · cases h
  · exact h
theorem cvF_ok {P : Program} {s t : TypeId} {a d : DV} (h : cvF P s t a = some d) : convD P s t a = some d := by
  unfold cvF at h
  split at h
  · rename_i k1 k hs ht
    unfold cvK at h; split at h
    · cases h
      unfold convD
      simp only [toVal, Option.bind_some, pureV, convert, underlying, program, Bind.bind, Sem.bind, pureRun, hs, ht, pure, Conv.intToInt, Option.map_some, ofVal, ofVal1, leafOf]
    · cases h
  · exact h
theorem builtF_ok {P : Program} {b : Builtin} {ts : Array TypeId} {t : TypeId} {args : List DV} {d : DV} (h : builtF P b ts t args = some d) : builtD P b ts t args = some d := by
  unfold builtF at h
  split at h
  · unfold maxI at h; split at h
    · cases h
      rename_i k u k2 v
      have : max u v = if v > u then v else u := by omega
      rw [this]; rfl
    · cases h
  · unfold minI at h; split at h
    · cases h
      rename_i k u k2 v
      have : min u v = if v < u then v else u := by omega
      rw [this]; rfl
    · cases h
  · exact h
theorem loadG_ok {ag : Bool} {sz : Nat} {p d : DV} {H : Heap} (h : loadG ag sz p H = some d) : ∃ e, loadD ag sz p H = some (d, e) ∧ e.heap H = H ∧ e.cls ≤ 1 := by
  unfold loadG at h; unfold loadD
  split at h
  · split at h
    · rename_i hb; exact ⟨.rd, by simp only [hb, h, rv, Option.map_some], rfl, Nat.le_refl _⟩
    · cases h
  · exact ⟨.q, by simp only [h, qv, Option.map_some], rfl, Nat.zero_le _⟩
  · cases h
theorem storeG_ok {sz : Nat} {p d : DV} {H H' : Heap} {fl : Nat} (h : storeG sz p d H fl = some H') : ∃ e, storeD sz p d H fl = some (.flat undef, e) ∧ e.heap H = H' ∧ e.cls ≤ 2 := by
  unfold storeG at h; unfold storeD
  split at h
  · split at h
    · split at h
      · rename_i hb hc
        cases h
        exact ⟨.ch _, by simp only [hb, if_pos hc], rfl, Nat.le_refl _⟩
      · cases h
    · cases h
  · cases h
theorem allocG_ok {e : TypeId} {d : DV} {nid : Nat} {H H' : Heap} (h : allocG e d nid H = some H') : ∃ f, allocD e d nid = some (.ptr nid 0, f) ∧ f.heap H = H' ∧ f.cls = 3 := by
  unfold allocG at h; unfold allocD
  split at h
  · rename_i hc; cases h; exact ⟨_, by rw [if_pos hc], rfl, rfl⟩
  · cases h
theorem effH_ok {x : EO} {H H' : Heap} {d : DV} (h : effH x H = some (d, H')) : ∃ e, x = some (d, e) ∧ e.heap H = H' := by
  obtain ⟨⟨d', e⟩, h1, h2⟩ := opt_map_some h
  cases h2
  exact ⟨e, h1, rfl⟩
theorem bi_map {α β : Type} (x : Option α) (f : α → β) : bi x (fun a => some (f a)) = x.map f := by cases x <;> rfl
/-- one way to call answers no more than another one -/
def CLe (cf cf' : CF) : Prop := ∀ f args H fl r, cf f args H fl = some r → cf' f args H fl = some r
theorem callP_ok {cf cf' : CF} (hc : CLe cf cf') {f : FuncId} {ti : Bool} {args : List DV} {d : DV} {H : Heap} {fl : Nat} (h : callP cf f ti args = some d) : callD cf' (.pure ti) fl f args H = some (d, .q) := by
  obtain ⟨bs, h1, h⟩ := bi_eq h
  obtain ⟨r, h2, h3⟩ := bi_eq h
  simp only [callD, h1, Option.bind_some, hc _ _ _ _ _ h2, qv, h3, Option.map_some]
theorem callO_ok {cf cf' : CF} (hc : CLe cf cf') {f : FuncId} {args : List DV} {d : DV} {H : Heap} {fl : Nat} (h : callO cf f args H = some d) : callD cf' .ro fl f args H = some (d, .ro) := by
  obtain ⟨r, h2, h3⟩ := bi_eq h
  simp only [callD, Option.bind_some, hc _ _ _ _ _ h2, ov, h3, Option.map_some]
theorem callW_ok {cf cf' : CF} (hc : CLe cf cf') {f : FuncId} {args : List DV} {d : DV} {H H' : Heap} {fl : Nat} (h : callW cf f args H fl = some (d, H')) : callD cf' .rw fl f args H = some (d, .ch H') := by
  obtain ⟨r, h1, h⟩ := bi_eq h
  obtain ⟨d', h2, h⟩ := bi_eq h
  obtain ⟨H2, h3, h⟩ := bi_eq h
  cases h
  simp only [callD, Option.bind_some, hc _ _ _ _ _ h1, h2, h3, Option.map_some]
theorem callD_le {cf cf' : CF} (hc : CLe cf cf') {m : CM} {f : FuncId} {args : List DV} {H : Heap} {fl : Nat} {r : DV × Eff} (h : callD cf m fl f args H = some r) : callD cf' m fl f args H = some r ∧ r.2.cls ≤ 4 ∧ (r.2.cls ≠ 1 ∧ r.2.cls ≠ 3) := by
  cases m with
  | pure ti =>
    simp only [callD] at h ⊢
    obtain ⟨bs, h1, h⟩ := Option.bind_eq_some_iff.mp h
    obtain ⟨q, h2, h⟩ := Option.bind_eq_some_iff.mp h
    refine ⟨?_, ?_⟩
    · simp only [h1, Option.bind_some, hc _ _ _ _ _ h2, h]
    · obtain ⟨d, _, rfl⟩ := opt_map_some h; simp [Eff.cls]
  | ro =>
    simp only [callD] at h ⊢
    obtain ⟨q, h2, h⟩ := Option.bind_eq_some_iff.mp h
    refine ⟨?_, ?_⟩
    · simp only [Option.bind_some, hc _ _ _ _ _ h2, h]
    · obtain ⟨d, _, rfl⟩ := opt_map_some h; simp [Eff.cls]
  | rw =>
    simp only [callD] at h ⊢
    obtain ⟨q, h2, h⟩ := Option.bind_eq_some_iff.mp h
    refine ⟨?_, ?_⟩
    · simp only [Option.bind_some, hc _ _ _ _ _ h2, h]
    · obtain ⟨d, _, h⟩ := Option.bind_eq_some_iff.mp h
      obtain ⟨d, _, rfl⟩ := opt_map_some h; simp [Eff.cls]
  | keep =>
    simp only [callD] at h ⊢
    obtain ⟨q, h2, rfl⟩ := opt_map_some h
    refine ⟨?_, ?_⟩
    · simp only [hc _ _ _ _ _ h2, Option.map_some]
    · simp [Eff.cls]
theorem callV_le {cf cf' : CF} (hc : CLe cf cf') {md : FuncId → CM} {f : DV} {args : List DV} {H : Heap} {fl : Nat} {r : DV × Eff} (h : callV cf md fl f args H = some r) : callV cf' md fl f args H = some r ∧ r.2.cls ≤ 4 ∧ (r.2.cls ≠ 1 ∧ r.2.cls ≠ 3) := by
  unfold callV at h ⊢
  split at h
  · exact callD_le hc h
  · cases h
/-- a class that may stand for another one -/
def cLe (c s : Nat) : Prop := c = s ∨ c = 0 ∨ (c = 1 ∧ s = 2) ∨ (c = 4 ∧ s = 2) ∨ (c = 3 ∧ s = 2) ∨ (c = 5 ∧ s = 2)
theorem appendD_cls {e : TypeId} {ag : Bool} {sz bytes : Nat} {x y : DV} {H : Heap} {fl : Nat} {d : DV} {f : Eff} (h : appendD e ag sz bytes x y H fl = some (d, f)) : f.cls = 5 := by
  unfold appendD at h
  split at h
  · split at h
    · cases h; rfl
    · split at h
      · split at h
        · cases h; rfl
        · split at h
          · split at h
            · cases h; rfl
            · cases h
          · cases h
        · cases h
      · cases h
  · cases h
theorem copyD_cls {ag : Bool} {sz : Nat} {x y : DV} {H : Heap} {fl : Nat} {d : DV} {f : Eff} (h : copyD ag sz x y H fl = some (d, f)) : f.cls = 2 := by
  unfold copyD at h
  split at h
  · split at h
    · split at h
      · simp only [] at h
        split at h
        · cases h; rfl
        · cases h
      · cases h
    · cases h
  · cases h
theorem callR_ok {P : Program} {cf cf' : CF} (hc : CLe cf cf') {md : FuncId → CM} {fl : Nat} {o : Oper} {c : Call} {slots : List DV} {H H' : Heap} {d : DV} (ho : o.op = .call c)
    (h : (callR P cf md fl o.type c (evalD slots) H).out H = some (d, H')) {st : Bool} : ∃ e, callOp P cf' md fl o c (evalD slots) H = some (d, e) ∧ e.heap H = H' ∧ cLe e.cls (sCls md st o) := by
  have hq : ∀ {x : Option DV}, (OpR.a x).out H = some (d, H') → qv x = some (d, .q) ∧ H = H' := by
    intro x hx
    obtain ⟨d', h1, h2⟩ := opt_map_some hx
    cases h2
    exact ⟨by simp only [qv, h1, Option.map_some], rfl⟩
  have hqq : ∀ {x : Option DV} {s : Nat}, (OpR.a x).out H = some (d, H') → ∃ e, qv x = some (d, e) ∧ e.heap H = H' ∧ cLe e.cls s := fun h => ⟨.q, (hq h).1, (hq h).2, .inr (.inl rfl)⟩
  have hb : ∀ {x : EO}, (OpR.b (effH x H)).out H = some (d, H') → ∃ e, x = some (d, e) ∧ e.heap H = H' := fun h => effH_ok h
  have hcls : ∀ {e : Eff}, e.cls ≤ 4 → cLe e.cls 2 := by
    intro e _; cases e <;> simp [Eff.cls, cLe]
  unfold callR at h
  unfold callOp sCls
  rw [ho]
  dsimp only
  cases hcal : c.callee with
  | invoke r m => rw [hcal] at h; cases h
  | value f =>
    rw [hcal] at h
    dsimp only at h ⊢
    have gen : (OpR.b (callVG cf md fl (evalD slots f) (c.args.toList.map (evalD slots)) H)).out H = some (d, H') → ∃ e, callV cf' md fl (evalD slots f) (c.args.toList.map (evalD slots)) H = some (d, e) ∧ e.heap H = H' ∧ cLe e.cls 2 := by
      intro h
      obtain ⟨e, h1, h2⟩ := hb h
      have := callV_le hc h1
      exact ⟨e, this.1, h2, hcls this.2.1⟩
    cases f with
    | func f =>
      dsimp only at h ⊢
      have hV : callV cf' md fl (evalD slots (.func f)) (c.args.toList.map (evalD slots)) H = callD cf' (md f) fl f (c.args.toList.map (evalD slots)) H := by
        simp only [callV, evalD, fnOf, Array.size_empty, and_self, if_true, List.append_nil]
      rw [hV]
      cases hm : md f with
      | pure ti =>
        rw [hm] at h
        obtain ⟨d', h1, h2⟩ := opt_map_some h
        cases h2
        exact ⟨_, callP_ok hc h1, rfl, .inr (.inl rfl)⟩
      | ro =>
        rw [hm] at h
        obtain ⟨d', h1, h2⟩ := opt_map_some h
        cases h2
        exact ⟨_, callO_ok hc h1, rfl, .inl rfl⟩
      | rw =>
        rw [hm] at h
        exact ⟨_, callW_ok hc h, rfl, .inl rfl⟩
      | keep =>
        rw [hm] at h
        refine ⟨.ch H', ?_, rfl, .inl rfl⟩
        have h : cf f (c.args.toList.map (evalD slots)) H fl = some (d, H') := h
        simp only [callD, hc _ _ _ _ _ h, Option.map_some]
    | tmp t =>
      dsimp only at h ⊢
      cases hv : vpu md o.type with
      | false =>
        rw [hv] at h
        exact gen h
      | true =>
        rw [hv] at h
        obtain ⟨d', h1, h2⟩ := opt_map_some h
        cases h2
        unfold callVP at h1
        unfold callV
        split at h1
        · rename_i g cap hf
          rw [hf]
          dsimp only
          split at h1
          · rename_i ti hm
            rw [hm]
            exact ⟨_, callP_ok hc h1, rfl, .inr (.inl rfl)⟩
          · cases h1
          · cases h1
          · cases h1
        · cases h1
    | const v => exact gen h
    | global g => exact gen h
  | builtin b =>
    rw [hcal] at h
    cases b
    case len =>
      dsimp only at h ⊢
      split at h
      · split at h
        · rename_i ht
          simp only [OpR.out, Option.some.injEq, Prod.mk.injEq] at h
          obtain ⟨rfl, rfl⟩ := h
          rename_i h1 h2 _ _ _
          rw [h1, h2]; dsimp only; rw [ht]
          exact ⟨.q, rfl, rfl, .inr (.inl rfl)⟩
        · rename_i h1 h2 _ _ ht
          rw [h1, h2]; dsimp only; rw [ht]
          exact hqq h
        · rename_i h1 h2 _ ht
          rw [h1, h2]; dsimp only; rw [ht]
          exact hqq h
        · cases h
      · cases h
    case cap =>
      dsimp only at h ⊢
      split at h
      · split at h
        · rename_i h1 h2 _ _ ht
          rw [h1, h2]; dsimp only; rw [ht]
          exact hqq h
        · cases h
      · cases h
    case append =>
      dsimp only at h ⊢
      split at h
      · split at h
        · split at h
          · split at h
            · split at h
              · rename_i hargs htys ht _ _ hu _ _ _ _ _ _ _ e1 e2 e3 hz
                obtain ⟨e, h3, h4⟩ := hb h
                rw [hargs, htys]
                try dsimp only
                rw [if_pos ht, hu]
                try dsimp only
                rw [e1, e2, e3]
                try dsimp only
                rw [if_pos hz]
                exact ⟨e, h3, h4, .inl (appendD_cls h3)⟩
              · cases h
            · cases h
          · cases h
        · cases h
      · cases h
    case copy =>
      dsimp only at h ⊢
      split at h
      · split at h
        · split at h
          · rename_i h1 h2 _ _ hu _ _ _ e1
            obtain ⟨e, h3, h4⟩ := hb h
            rw [h1, h2]; dsimp only
            rw [hu]; dsimp only
            rw [e1]; dsimp only
            exact ⟨e, h3, h4, .inl (copyD_cls h3)⟩
          · cases h
        · cases h
      · cases h
    case max =>
      dsimp only at h ⊢
      obtain ⟨d', h1, h2⟩ := opt_map_some h
      cases h2
      refine ⟨.q, ?_, rfl, .inr (.inl rfl)⟩
      have := builtF_ok h1
      simp only [qv, this, Option.map_some]
    case min =>
      dsimp only at h ⊢
      obtain ⟨d', h1, h2⟩ := opt_map_some h
      cases h2
      refine ⟨.q, ?_, rfl, .inr (.inl rfl)⟩
      have := builtF_ok h1
      simp only [qv, this, Option.map_some]
    all_goals cases h
theorem opR_ok {X : Ctx} {cf' : CF} (hc : CLe X.cf cf') {st : Bool} {nid : Nat} {o : Oper} {slots : List DV} {H H' : Heap} {d : DV}
    (h : (opR X st nid o slots H).out H = some (d, H')) : ∃ e, evalO X.P cf' X.md X.fl nid o slots H = some (d, e) ∧ e.heap H = H' ∧ cLe e.cls (sCls X.md st o) := by
  have hq : ∀ {x : Option DV}, (OpR.a x).out H = some (d, H') → x = some d ∧ H = H' := by
    intro x hx
    obtain ⟨d', h1, h2⟩ := opt_map_some hx
    cases h2
    exact ⟨h1, rfl⟩
  have hqq : ∀ {x : Option DV} {s : Nat}, (OpR.a x).out H = some (d, H') → ∃ e, qv x = some (d, e) ∧ e.heap H = H' ∧ cLe e.cls s := fun h => ⟨.q, by simp only [qv, (hq h).1, Option.map_some], (hq h).2, .inr (.inl rfl)⟩
  have hb : ∀ {x : EO}, (OpR.b (effH x H)).out H = some (d, H') → ∃ e, x = some (d, e) ∧ e.heap H = H' := fun h => effH_ok h
  have hcls : ∀ {e : Eff}, cLe e.cls 2 := by
    intro e; cases e <;> simp [Eff.cls, cLe]
  cases hop : o.op with
  | call c =>
    unfold opR at h; rw [hop] at h
    unfold evalO; rw [hop]
    exact callR_ok hc hop h
  | move x => unfold opR at h; rw [hop] at h; unfold evalO; rw [hop]; cases h; exact ⟨.q, rfl, rfl, .inr (.inl rfl)⟩
  | assign x => unfold opR at h; rw [hop] at h; unfold evalO; rw [hop]; cases h; exact ⟨.q, rfl, rfl, .inr (.inl rfl)⟩
  | pick c a b => unfold opR at h; rw [hop] at h; unfold evalO; rw [hop]; exact hqq h
  | nilCheck x => unfold opR at h; rw [hop] at h; unfold evalO; rw [hop]; exact hqq h
  | extract t i => unfold opR at h; rw [hop] at h; unfold evalO; rw [hop]; exact hqq h
  | binOp op t x y t2 => unfold opR at h; rw [hop] at h; unfold evalO; rw [hop]; exact ⟨.q, by simp only [qv, binF_ok (hq h).1, Option.map_some], (hq h).2, .inr (.inl rfl)⟩
  | unOp op t x => unfold opR at h; rw [hop] at h; unfold evalO; rw [hop]; exact ⟨.q, by simp only [qv, unF_ok (hq h).1, Option.map_some], (hq h).2, .inr (.inl rfl)⟩
  | convert s t x => unfold opR at h; rw [hop] at h; unfold evalO; rw [hop]; exact ⟨.q, by simp only [qv, cvF_ok (hq h).1, Option.map_some], (hq h).2, .inr (.inl rfl)⟩
  | makeFunc fn a b => unfold opR at h; rw [hop] at h; unfold evalO; rw [hop]; cases h; exact ⟨.q, rfl, rfl, .inr (.inl rfl)⟩
  | alloc e =>
    unfold opR at h; rw [hop] at h; unfold evalO; rw [hop]
    dsimp only at h ⊢
    unfold sCls; rw [hop]; dsimp only
    split at h
    · rename_i z hz
      obtain ⟨H2, h1, h2⟩ := opt_map_some h
      cases h2
      obtain ⟨f, h3, h4, h5⟩ := allocG_ok h1
      rw [hz]
      exact ⟨f, h3, h4, .inl h5⟩
    · cases h
  | box e x =>
    unfold opR at h; rw [hop] at h; unfold evalO; rw [hop]
    dsimp only at h ⊢
    unfold sCls; rw [hop]; dsimp only
    obtain ⟨H2, h1, h2⟩ := opt_map_some h
    cases h2
    obtain ⟨f, h3, h4, h5⟩ := allocG_ok h1
    exact ⟨f, h3, h4, .inl h5⟩
  | load t a =>
    unfold opR at h; rw [hop] at h; unfold evalO; rw [hop]
    dsimp only at h ⊢
    unfold sCls; rw [hop]; dsimp only
    split at h
    · rename_i hz
      rw [hz]; dsimp only
      cases st with
      | true =>
        have h4 := (hq h).1
        unfold loadE at h4
        split at h4
        · rename_i hx
          refine ⟨.q, ?_, (hq h).2, .inl rfl⟩
          unfold loadD
          rw [hx]
          simp only [qv, h4, Option.map_some]
        · cases h4
      | false =>
      obtain ⟨e, h1, h2, h3⟩ := loadG_ok (hq h).1
      refine ⟨e, h1, h2.trans (hq h).2, ?_⟩
      cases e <;> simp [Eff.cls, cLe] at h3 ⊢
    · cases h
  | store t a x =>
    unfold opR at h; rw [hop] at h; unfold evalO; rw [hop]
    dsimp only at h ⊢
    unfold sCls; rw [hop]; dsimp only
    split at h
    · rename_i hz
      rw [hz]; dsimp only
      obtain ⟨H2, h1, h2⟩ := opt_map_some h
      cases h2
      obtain ⟨e, h3, h4, _⟩ := storeG_ok h1
      exact ⟨e, h3, h4, hcls⟩
    · cases h
  | build t ps =>
    unfold opR at h; rw [hop] at h; unfold evalO; rw [hop]
    dsimp only at h ⊢
    split at h
    · split at h
      · rename_i hu hz _ _ hp
        rw [hu, hz]; dsimp only; rw [hp]
        exact hqq h
      · cases h
    · split at h
      · rename_i hu hz _ _ hp
        rw [hu, hz]; dsimp only; rw [hp]
        exact hqq h
      · cases h
    · cases h
  | buildSlice t n ps =>
    unfold opR at h; rw [hop] at h; unfold evalO; rw [hop]
    dsimp only at h ⊢
    split at h
    · split at h
      · rename_i hu _ _ _ _ _ h1 h2
        rw [hu]; dsimp only; rw [h1, h2]
        exact hqq h
      · cases h
    · cases h
  | makeInterface t x =>
    unfold opR at h; rw [hop] at h; unfold evalO; rw [hop]
    dsimp only at h ⊢
    split at h
    · cases h
    · rename_i v hne hu
      cases h
      split
      · rename_i e2; exact (hne _ (Option.some.inj (hu.symm.trans e2))).elim
      · exact ⟨.q, rfl, rfl, .inr (.inl rfl)⟩
      · rename_i e2; rw [hu] at e2; cases e2
    · cases h
  | makeSlice t l c =>
    unfold opR at h; rw [hop] at h; unfold evalO; rw [hop]
    dsimp only at h ⊢
    unfold sCls; rw [hop]; dsimp only
    split at h
    · split at h
      · rename_i hu _ _ _ _ _ _ _ h1 h2 h3
        rw [hu]; dsimp only; rw [h1, h2, h3]; dsimp only
        obtain ⟨e, h4, h5⟩ := hb h
        refine ⟨e, h4, h5, ?_⟩
        unfold makeD at h4
        split at h4
        · split at h4
          · cases h4; exact .inl rfl
          · cases h4
        · cases h4
      · cases h
    · cases h
  | slice t x lo hi mx =>
    unfold opR at h; rw [hop] at h; unfold evalO; rw [hop]
    dsimp only at h ⊢
    split at h
    · split at h
      · rename_i hu _ _ _ h1
        rw [hu]; dsimp only; rw [h1]
        exact hqq h
      · cases h
    · split at h
      · rename_i hu _ _ _ h1
        rw [hu]; dsimp only; rw [h1]
        exact hqq h
      · cases h
    · cases h
  | fieldAddr t x f =>
    unfold opR at h; rw [hop] at h; unfold evalO; rw [hop]
    dsimp only at h ⊢
    split at h
    · split at h
      · split at h
        · rename_i hu _ _ h1 _ _ h2
          rw [hu]; dsimp only; rw [h1]; dsimp only; rw [h2]
          exact hqq h
        · cases h
      · cases h
    · cases h
  | field t x f =>
    unfold opR at h; rw [hop] at h; unfold evalO; rw [hop]
    dsimp only at h ⊢
    split at h
    · split at h
      · split at h
        · rename_i hu _ _ h1 _ _ _ h2
          rw [hu]; dsimp only; rw [h1]; dsimp only; rw [h2]
          exact hqq h
        · cases h
      · cases h
    · cases h
  | indexAddr t x i =>
    unfold opR at h; rw [hop] at h; unfold evalO; rw [hop]
    dsimp only at h ⊢
    split at h
    · split at h
      · rename_i hu _ _ h1
        rw [hu]; dsimp only; rw [h1]
        exact hqq h
      · cases h
    · split at h
      · rename_i hu _ _ h1
        rw [hu]; dsimp only; rw [h1]
        exact hqq h
      · cases h
    · cases h
  | index t x i =>
    unfold opR at h; rw [hop] at h; unfold evalO; rw [hop]
    dsimp only at h ⊢
    split at h
    · split at h
      · rename_i hu _ _ _ h1
        rw [hu]; dsimp only; rw [h1]
        exact hqq h
      · cases h
    · cases h
  | _ => unfold opR at h; rw [hop] at h; cases h
end Go.Proofs.Ytbhnkdnfmlnajaa
