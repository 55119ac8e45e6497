/- The front evaluator answers only what the deep evaluator answers: regions, loops, calls. -/
import Derived.Test.YtbhnkdnfmlnajaaPn
namespace Go.Proofs.Ytbhnkdnfmlnajaa
open Go

/-- more classes clash no less -/
theorem cLe_zero {c s : Nat} (h : cLe c s) : s = 0 → c = 0 := by unfold cLe at h; omega
theorem clash_mono {ops : Array Oper} {a b : Oper} {ca cb sa sb : Nat} (ha : cLe ca sa) (hb : cLe cb sb) (hsa : sa ≤ 5) (hsb : sb ≤ 5) (h : clash ops a b sa sb = false) : clash ops a b ca cb = false := by
  unfold clash at h ⊢
  simp only [Bool.or_eq_false_iff] at h ⊢
  obtain ⟨⟨⟨⟨⟨⟨⟨h1, h2⟩, h7⟩, h8⟩, h3⟩, h4⟩, h5⟩, h6⟩ := h
  refine ⟨⟨⟨⟨⟨⟨⟨?_, ?_⟩, ?_⟩, ?_⟩, ?_⟩, ?_⟩, h5⟩, h6⟩ <;>
  · unfold cLe at ha hb
    simp only [Bool.and_eq_false_iff, beq_eq_false_iff_ne, bne_eq_false_iff_eq, ne_eq, decide_eq_false_iff_not] at h1 h2 h3 h4 h7 h8 ⊢
    omega
def LLe : List Nat → List Nat → Prop
  | [], [] => True
  | c :: l, s :: m => (cLe c s ∧ s ≤ 5) ∧ LLe l m
  | _, _ => False
theorem LLe.length {l m : List Nat} (h : LLe l m) : l.length = m.length := by
  induction l generalizing m with
  | nil => cases m with
    | nil => rfl
    | cons => exact h.elim
  | cons c l ih => cases m with
    | nil => exact h.elim
    | cons s m => simp [ih h.2]
theorem LLe.get {l m : List Nat} (h : LLe l m) (i : Nat) (hi : i < l.length) : cLe (l.getD i 2) (m.getD i 2) ∧ m.getD i 2 ≤ 5 := by
  induction l generalizing m i with
  | nil => simp at hi
  | cons c l ih => cases m with
    | nil => exact h.elim
    | cons s m => cases i with
      | zero => exact h.1
      | succ i => exact ih h.2 i (by simpa using hi)
theorem drawOk_mono {ops : Array Oper} {cs ss : List Nat} (h : LLe cs ss) (hl : ss.length = ops.toList.length) (hd : drawOk ops ss = true) : drawOk ops cs = true := by
  unfold drawOk at hd ⊢
  simp only [List.all_eq_true, List.mem_range, Bool.and_eq_true, Bool.or_eq_true, Bool.not_eq_true'] at hd ⊢
  intro j hj
  refine ⟨(hd j hj).1, fun i hi => ((hd j hj).2 i hi).imp (fun hc => ?_) id⟩
  have hlen := h.length
  have g1 := h.get i (by omega)
  have g2 := h.get j (by omega)
  exact clash_mono g1.1 g2.1 g1.2 g2.2 hc

theorem sCls_le (md : FuncId → CM) (st : Bool) (o : Oper) : sCls md st o ≤ 5 := by
  unfold sCls
  repeat' split
  all_goals omega
theorem wantF_eq {c : DV} {w : Bool} {x : Option DV} {d : DV} (h : wantF c w x = some d) : (guardD c w = some true ∧ x = some d) ∨ (guardD c w = some false ∧ d = .flat undef) := by
  unfold wantF at h
  split at h
  · rename_i hg; exact .inl ⟨hg, h⟩
  · rename_i hg; cases h; exact .inr ⟨hg, rfl⟩
  · cases h
theorem wantH_eq {c : DV} {w : Bool} {H : Heap} {x : Option (DV × Heap)} {p : DV × Heap} (h : wantH c w H x = some p) : (guardD c w = some true ∧ x = some p) ∨ (guardD c w = some false ∧ p = (.flat undef, H)) := by
  unfold wantH at h
  split at h
  · rename_i hg; exact .inl ⟨hg, h⟩
  · rename_i hg; cases h; exact .inr ⟨hg, rfl⟩
  · cases h
theorem stepG_eq {g : Option (DV × Bool)} {q : OpR} {H : Heap} {k : DV → Heap → R} {r : DV × Heap} (h : stepG g q H k = some r) :
    ∃ d H', k d H' = some r ∧ ((q.out H = some (d, H') ∧ (g = none ∨ ∃ c w, g = some (c, w) ∧ guardD c w = some true)) ∨ (d = .flat undef ∧ H' = H ∧ ∃ c w, g = some (c, w) ∧ guardD c w = some false)) := by
  unfold stepG at h
  split at h
  · split at h
    · exact ⟨_, _, h, .inl ⟨rfl, .inl rfl⟩⟩
    · obtain ⟨d, rfl, h⟩ := bi_eq h; exact ⟨_, _, h, .inl ⟨rfl, .inl rfl⟩⟩
    · obtain ⟨p, rfl, h⟩ := bi_eq h; exact ⟨_, _, h, .inl ⟨rfl, .inl rfl⟩⟩
    · obtain ⟨d, rfl, h⟩ := bi_eq h; exact ⟨_, _, h, .inl ⟨rfl, .inl rfl⟩⟩
  · split at h
    · obtain ⟨d, h1, h0⟩ := bi_eq h
      rcases wantF_eq h1 with ⟨hg, h2⟩ | ⟨hg, rfl⟩
      · cases h2; exact ⟨_, _, h0, .inl ⟨rfl, .inr ⟨_, _, rfl, hg⟩⟩⟩
      · exact ⟨_, _, h0, .inr ⟨rfl, rfl, _, _, rfl, hg⟩⟩
    · obtain ⟨d, h1, h0⟩ := bi_eq h
      rcases wantF_eq h1 with ⟨hg, h2⟩ | ⟨hg, rfl⟩
      · cases h2; exact ⟨_, _, h0, .inl ⟨rfl, .inr ⟨_, _, rfl, hg⟩⟩⟩
      · exact ⟨_, _, h0, .inr ⟨rfl, rfl, _, _, rfl, hg⟩⟩
    · obtain ⟨p, h1, h0⟩ := bi_eq h
      rcases wantH_eq h1 with ⟨hg, h2⟩ | ⟨hg, rfl⟩
      · cases h2; exact ⟨_, _, h0, .inl ⟨rfl, .inr ⟨_, _, rfl, hg⟩⟩⟩
      · exact ⟨_, _, h0, .inr ⟨rfl, rfl, _, _, rfl, hg⟩⟩
    · obtain ⟨p, h1, h⟩ := bi_eq h
      rcases wantH_eq h1 with ⟨hg, h2⟩ | ⟨hg, rfl⟩
      · exact ⟨_, _, h, .inl ⟨h2, .inr ⟨_, _, rfl, hg⟩⟩⟩
      · exact ⟨_, _, h, .inr ⟨rfl, rfl, _, _, rfl, hg⟩⟩
theorem opsG_ok {X : Ctx} {cf' : CF} (hc : CLe X.cf cf') {st : Bool} {ops : Array Oper} {r : DV × Heap} {k : KF} {k' : List Nat → St → R} : ∀ (l : List Oper) (nid : Nat) (cs ss : List Nat) (s : List DV) (H : Heap),
    LLe cs ss → (∀ cs' s H, LLe cs' ((l.map fun o => sCls X.md (st && isElLd X.P ops o) o).reverse ++ ss) → k s H = some r → k' cs' ⟨s, H⟩ = some r) →
    opsG X st ops l nid s H k = some r → opsK ⟨X.P, cf', X.md, X.fl, X.N⟩ ops l nid cs ⟨s, H⟩ k' = some r := by
  intro l
  induction l with
  | nil => intro nid cs ss s H hcs hk h; exact hk _ _ _ (by simpa using hcs) h
  | cons o l ih =>
    intro nid cs ss s H hcs hk h
    unfold opsG at h
    have key : ∀ (d : DV) (e : Eff), wantE (wantD ops o s) (evalO X.P cf' X.md X.fl nid o s H) = some (d, e) → cLe e.cls (sCls X.md (st && isElLd X.P ops o) o) →
        opsG X st ops l (if isAl o then nid + 1 else nid) (putD s o.dst d) (e.heap H) k = some r → opsK ⟨X.P, cf', X.md, X.fl, X.N⟩ ops (o :: l) nid cs ⟨s, H⟩ k' = some r := by
      intro d e h1 h2 h3
      show opK _ ops nid o ⟨s, H⟩ _ = some r
      unfold opK
      dsimp only
      rw [h1, Option.bind_some]
      refine ih _ (e.cls :: cs) (sCls X.md (st && isElLd X.P ops o) o :: ss) _ _ ⟨⟨h2, sCls_le _ _ _⟩, hcs⟩ (fun cs' s H hcs' hh => hk _ _ _ (by simpa using hcs') hh) h3
    cases hm : moveOf o with
    | some x =>
      rw [hm] at h
      dsimp only at h
      rw [evalK_eq, forceL_eq] at h
      have ho : o.guard = none ∧ (o.op = .move x ∨ o.op = .assign x) := by
        unfold moveOf at hm
        split at hm
        · next hg =>
          refine ⟨hg, ?_⟩
          split at hm
          · next he => cases hm; exact .inl he
          · next he => cases hm; exact .inr he
          · cases hm
        · cases hm
      have hw : wantD ops o s = some true := by unfold wantD; rw [ho.1]
      have hal : isAl o = false := by unfold isAl; rcases ho.2 with h | h <;> rw [h]
      have he : evalO X.P cf' X.md X.fl nid o s H = some (evalD s x, .q) := by
        rcases ho.2 with h | h <;> (unfold evalO; rw [h])
      exact key _ .q (by rw [hw, he]; rfl) (.inr (.inl rfl)) (by rw [hal]; exact h)
    | none =>
      rw [hm] at h
      dsimp only at h
      cases hg : guardOf ops o s with
      | none => rw [hg] at h; cases h
      | some g =>
        rw [hg] at h
        dsimp only at h
        obtain ⟨d, H', h1, h2⟩ := stepG_eq h
        rw [forceL_eq] at h1
        have h1' : opsG X st ops l (if isAl o then nid + 1 else nid) (putD s o.dst d) H' k = some r := by
          cases ha : isAl o <;> (rw [ha] at h1; exact h1)
        have hwd : ∀ b, (g = none ∧ b = true) ∨ (∃ c w, g = some (c, w) ∧ guardD c w = some b) → wantD ops o s = some b := by
          intro b hb
          unfold guardOf at hg
          unfold wantD
          split at hg
          · rename_i e; rw [e]; cases hg
            rcases hb with ⟨_, rfl⟩ | ⟨_, _, h, _⟩
            · rfl
            · cases h
          · rename_i j w e
            rw [e]
            dsimp only
            split at hg
            · rename_i t e2
              rw [e2]
              cases hg
              rcases hb with ⟨h, _⟩ | ⟨_, _, h, h2⟩
              · cases h
              · cases h; exact h2
            · cases hg
        rcases h2 with ⟨h2, h3⟩ | ⟨rfl, rfl, c, w, rfl, h3⟩
        · obtain ⟨e, h4, h5, h6⟩ := opR_ok hc h2
          refine key d e ?_ h6 (by rw [h5]; exact h1')
          rw [hwd true (h3.imp (fun h => ⟨h, rfl⟩) id)]
          exact h4
        · refine key _ .q ?_ (.inr (.inl rfl)) h1'
          rw [hwd false (.inr ⟨_, _, rfl, h3⟩)]
          rfl
theorem condR_eq {d : DV} {x y : R} {r : DV × Heap} (h : condR d x y = some r) : (d = .flat (.bool true) ∧ x = some r) ∨ (d = .flat (.bool false) ∧ y = some r) := by
  unfold condR at h
  split at h
  · exact .inl ⟨rfl, h⟩
  · exact .inr ⟨rfl, h⟩
  · cases h
theorem loopG_ok {keep out : List Nat} {N : Nat} {body : List DV → Heap → (Ex → KF) → R} {body' : St → (Ex → St → R) → R} {r : DV × Heap}
    (hb : ∀ s H (k : Ex → KF) (k' : Ex → St → R), (∀ x s H, k x s H = some r → k' x ⟨s, H⟩ = some r) → body s H k = some r → body' ⟨s, H⟩ k' = some r) :
    ∀ (m : Nat) s H (k : Ex → KF) (k' : Ex → St → R), (∀ x s H, k x s H = some r → k' x ⟨s, H⟩ = some r) → loopG keep out N body m s H k = some r → loopN keep out N body' m ⟨s, H⟩ k' = some r := by
  intro m
  induction m with
  | zero => intro s H k k' hk h; cases h
  | succ m ih =>
    intro s H k k' hk h
    rw [loopG_succ] at h
    refine hb _ _ _ _ (fun x s H h => ?_) h
    cases x with
    | normal => dsimp only at h ⊢; rw [forceL_eq] at h; exact ih _ _ _ _ hk h
    | exit i => dsimp only at h ⊢; rw [forceL_eq] at h; exact hk _ _ _ h
    | ret => dsimp only at h ⊢; rw [forceL_eq] at h; exact hk _ _ _ h
theorem execG_ok {X : Ctx} {cf' : CF} (hc : CLe X.cf cf') {n : Nat} {r : DV × Heap} : ∀ (c : Code) ks s H (k : Ex → KF) (k' : Ex → St → R), (∀ x s H, k x s H = some r → k' x ⟨s, H⟩ = some r) →
    execG X n c ks s H k = some r → execD ⟨X.P, cf', X.md, X.fl, X.N⟩ n c ks ⟨s, H⟩ k' = some r := by
  intro c
  induction c with
  | skip => intro ks s H k k' hk h; exact hk _ _ _ h
  | region id ops draw =>
    intro ks s H k k' hk h
    have fin : ∀ (st : Bool), (draw = true → drawOk ops (ops.toList.map fun o => sCls X.md (st && isElLd X.P ops o) o) = true) → opsG X st ops ops.toList H.length s (addHoles ops.toList H) (fun s' H' => k .normal s' H') = some r →
        execD ⟨X.P, cf', X.md, X.fl, X.N⟩ n (.region id ops draw) ks ⟨s, H⟩ k' = some r := by
      intro st hd h
      show opsK _ ops ops.toList H.length [] ⟨s, addHoles ops.toList H⟩ _ = some r
      refine opsG_ok (X := X) hc ops.toList H.length [] [] s _ trivial (fun cs' s' H' hcs hh => ?_) h
      unfold drawK
      rw [if_neg]
      · exact hk _ _ _ hh
      · intro hcon
        simp only [Bool.and_eq_true, Bool.not_eq_true'] at hcon
        obtain ⟨h1, h2⟩ := hcon
        have hrev : LLe cs'.reverse (ops.toList.map fun o => sCls X.md (st && isElLd X.P ops o) o) := by
          have : ∀ (a b : List Nat), LLe a b → ∀ c d, LLe c d → LLe (a.reverse ++ c) (b.reverse ++ d) := by
            intro a
            induction a with
            | nil => intro b hb c d hcd; cases b with
              | nil => simpa using hcd
              | cons => exact hb.elim
            | cons x a ih => intro b hb c d hcd; cases b with
              | nil => exact hb.elim
              | cons y b => simpa using ih b hb.2 (x :: c) (y :: d) ⟨hb.1, hcd⟩
          have := this _ _ hcs [] [] trivial
          simpa using this
        rw [drawOk_mono hrev (by simp) (hd h1)] at h2
        cases h2
    simp only [execG] at h
    split at h
    · rename_i hd
      rw [holesF_eq] at h
      refine fin false (fun hdr => ?_) h
      rw [hdr] at hd
      simpa using hd
    · split at h
      · rename_i hd
        rw [holesF_eq] at h
        exact fin true (fun _ => by simpa using hd) h
      · cases h
  | seq a b iha ihb =>
    intro ks s H k k' hk h
    refine iha _ _ _ _ _ (fun x s H h => ?_) h
    cases x with
    | normal => exact ihb _ _ _ _ _ hk h
    | exit i => exact hk _ _ _ h
    | ret => exact hk _ _ _ h
  | cond c a b iha ihb =>
    intro ks s H k k' hk h
    rcases condR_eq h with ⟨h1, h2⟩ | ⟨h1, h2⟩
    · show condR (evalD s c) _ _ = _
      rw [h1]
      exact iha _ _ _ _ _ hk h2
    · show condR (evalD s c) _ _ = _
      rw [h1]
      exact ihb _ _ _ _ _ hk h2
  | block id b ih =>
    intro ks s H k k' hk h
    refine ih _ _ _ _ _ (fun x s H h => ?_) h
    cases x with
    | normal => exact hk _ _ _ h
    | exit i =>
      dsimp only at h ⊢
      split at h
      · rename_i e; rw [if_pos e]; exact hk _ _ _ h
      · rename_i e; rw [if_neg e]; exact hk _ _ _ h
    | ret => exact hk _ _ _ h
  | loop b ih =>
    intro ks s H k k' hk h
    simp only [execG] at h
    rw [forceL_eq] at h
    refine loopG_ok (fun s H k k' hk h => ih _ _ _ _ _ hk h) n _ _ _ _ (fun x s H h => ?_) h
    cases x with
    | normal => cases h
    | exit i => dsimp only at h ⊢; rw [forceL_eq] at h; exact hk _ _ _ h
    | ret => dsimp only at h ⊢; rw [forceL_eq] at h; exact hk _ _ _ h
  | scope b ih => intro ks s H k k' hk h; exact ih _ _ _ _ _ hk h
  | exit id => intro ks s H k k' hk h; exact hk _ _ _ h
  | ret => intro ks s H k k' hk h; exact hk _ _ _ h
  | _ => intros; rename_i h; cases h
theorem resK_ok {P : Program} {s : List DV} {H : Heap} {r : DV × Heap} : ∀ (rs : List ResultVar) (k : List DV → R), resK P s H rs k = some r → ∃ ds, seqO (rs.map (resOne P ⟨s, H⟩)) = some ds ∧ k ds = some r := by
  intro rs
  induction rs with
  | nil => intro k h; exact ⟨[], rfl, h⟩
  | cons v rs ih =>
    intro k h
    cases v with
    | tmp t =>
      obtain ⟨ds, h1, h2⟩ := ih _ h
      exact ⟨_, by simp only [List.map_cons, seqO, resOne, Option.bind_some, h1, Option.map_some], h2⟩
    | cell a t =>
      simp only [resK] at h
      split at h
      · rename_i ha
        obtain ⟨d, h3, h4⟩ := bi_eq h
        obtain ⟨ds, h1, h2⟩ := ih _ h4
        exact ⟨_, by simp only [List.map_cons, seqO, resOne, ha, h3, Option.bind_some, h1, Option.map_some], h2⟩
      · cases h
theorem callG_ok (P : Program) (E : Env) : ∀ n, CLe (callG P E n) (callN P E n) := by
  intro n
  induction n with
  | zero => intro f args H fl r h; cases h
  | succ n ih =>
    intro f args H fl r h
    rw [callG_eq] at h
    unfold bodyG at h
    simp only [callN]
    split at h
    · rename_i g hg
      rw [hg]
      exact h
    · rename_i hg
      rw [hg]
      dsimp only
      split at h
      · rename_i fn hf
        rw [hf]
        dsimp only
        split at h
        · rename_i c hb
          rw [hb]
          dsimp only
          split at h
          · cases h
          · rename_i hn
            rw [if_neg hn]
            rw [forceL_eq] at h
            refine execG_ok (X := ⟨P, callG P E n, E.md, fl, fn.ntmps⟩) ih c _ _ _ _ _ (fun x s H h => ?_) h
            cases x with
            | exit i => cases h
            | normal => obtain ⟨ds, h1, h2⟩ := resK_ok _ _ h; cases h2; dsimp only; unfold resD; rw [h1]; rfl
            | ret => obtain ⟨ds, h1, h2⟩ := resK_ok _ _ h; cases h2; dsimp only; unfold resD; rw [h1]; rfl
        · cases h
      · cases h
end Go.Proofs.Ytbhnkdnfmlnajaa
