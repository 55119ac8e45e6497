/- Texts of mine, laid together: Pp, PlainW, PrimD, Env, FAnsB, FAns, FAskE, FSameL, Ev, Hp, GSameL, Eq, Eq2, FCon, GCon, PrimB, PrimL. -/
import Derived.Test.YtcpgmbpndpcmdaaKN3
import Derived.Laws.StructEq
import Derived.WalkKit
import Derived.Below
namespace Go.Proofs.Ytcpgmbpndpcmdaa
open Go
theorem clash_mono {ops : Array Oper} {a b : Oper} {ca cb sa sb : Nat} (ha : cLe ca sa) (hb : cLe cb sb) (hsa : sa ≤ 5) (hsb : sb ≤ 5) (h : clash ops a b sa sb = false) : clash ops a b ca cb = false := by
  unfold clash at h ⊢
  simp only [Bool.or_eq_false_iff] at h ⊢
  obtain ⟨⟨⟨⟨⟨⟨⟨h1, h2⟩, h7⟩, h8⟩, h3⟩, h4⟩, h5⟩, h6⟩ := h
  refine ⟨⟨⟨⟨⟨⟨⟨?_, ?_⟩, ?_⟩, ?_⟩, ?_⟩, ?_⟩, h5⟩, h6⟩ <;>
  · unfold cLe at ha hb
    simp only [Bool.and_eq_false_iff, beq_eq_false_iff_ne, bne_eq_false_iff_eq, ne_eq, decide_eq_false_iff_not] at h1 h2 h3 h4 h7 h8 ⊢
    omega
def LLe : List Nat → List Nat → Prop
  | [], [] => True
  | c :: l, s :: m => (cLe c s ∧ s ≤ 5) ∧ LLe l m
  | _, _ => False
theorem LLe.length {l m : List Nat} (h : LLe l m) : l.length = m.length := by
  induction l generalizing m with
  | nil => cases m with
    | nil => rfl
    | cons => exact h.elim
  | cons c l ih => cases m with
    | nil => exact h.elim
    | cons s m => simp [ih h.2]
theorem LLe.get {l m : List Nat} (h : LLe l m) (i : Nat) (hi : i < l.length) : cLe (l.getD i 2) (m.getD i 2) ∧ m.getD i 2 ≤ 5 := by
  induction l generalizing m i with
  | nil => simp at hi
  | cons c l ih => cases m with
    | nil => exact h.elim
    | cons s m => cases i with
      | zero => exact h.1
      | succ i => exact ih h.2 i (by simpa using hi)
theorem drawOk_mono {ops : Array Oper} {cs ss : List Nat} (h : LLe cs ss) (hl : ss.length = ops.toList.length) (hd : drawOk ops ss = true) : drawOk ops cs = true := by
  unfold drawOk at hd ⊢
  simp only [List.all_eq_true, List.mem_range, Bool.and_eq_true, Bool.or_eq_true, Bool.not_eq_true'] at hd ⊢
  intro j hj
  refine ⟨(hd j hj).1, fun i hi => ((hd j hj).2 i hi).imp (fun hc => ?_) id⟩
  have hlen := h.length
  have g1 := h.get i (by omega)
  have g2 := h.get j (by omega)
  exact clash_mono g1.1 g2.1 g1.2 g2.2 hc
theorem sCls_le (md : FuncId → CM) (st : Bool) (o : Oper) : sCls md st o ≤ 5 := by
  unfold sCls
  repeat' split
  all_goals omega
theorem wantF_eq {c : DV} {w : Bool} {x : Option DV} {d : DV} (h : wantF c w x = some d) : (guardD c w = some true ∧ x = some d) ∨ (guardD c w = some false ∧ d = .flat undef) := by
  unfold wantF at h
  split at h
  · rename_i hg; exact .inl ⟨hg, h⟩
  · rename_i hg; cases h; exact .inr ⟨hg, rfl⟩
  · cases h
theorem wantH_eq {c : DV} {w : Bool} {H : Heap} {x : Option (DV × Heap)} {p : DV × Heap} (h : wantH c w H x = some p) : (guardD c w = some true ∧ x = some p) ∨ (guardD c w = some false ∧ p = (.flat undef, H)) := by
  unfold wantH at h
  split at h
  · rename_i hg; exact .inl ⟨hg, h⟩
  · rename_i hg; cases h; exact .inr ⟨hg, rfl⟩
  · cases h
theorem stepG_eq {g : Option (DV × Bool)} {q : OpR} {H : Heap} {k : DV → Heap → R} {r : DV × Heap} (h : stepG g q H k = some r) :
    ∃ d H', k d H' = some r ∧ ((q.out H = some (d, H') ∧ (g = none ∨ ∃ c w, g = some (c, w) ∧ guardD c w = some true)) ∨ (d = .flat undef ∧ H' = H ∧ ∃ c w, g = some (c, w) ∧ guardD c w = some false)) := by
  unfold stepG at h
  split at h
  · split at h
    · exact ⟨_, _, h, .inl ⟨rfl, .inl rfl⟩⟩
    · obtain ⟨d, rfl, h⟩ := bi_eq h; exact ⟨_, _, h, .inl ⟨rfl, .inl rfl⟩⟩
    · obtain ⟨p, rfl, h⟩ := bi_eq h; exact ⟨_, _, h, .inl ⟨rfl, .inl rfl⟩⟩
    · obtain ⟨d, rfl, h⟩ := bi_eq h; exact ⟨_, _, h, .inl ⟨rfl, .inl rfl⟩⟩
  · split at h
    · obtain ⟨d, h1, h0⟩ := bi_eq h
      rcases wantF_eq h1 with ⟨hg, h2⟩ | ⟨hg, rfl⟩
      · cases h2; exact ⟨_, _, h0, .inl ⟨rfl, .inr ⟨_, _, rfl, hg⟩⟩⟩
      · exact ⟨_, _, h0, .inr ⟨rfl, rfl, _, _, rfl, hg⟩⟩
    · obtain ⟨d, h1, h0⟩ := bi_eq h
      rcases wantF_eq h1 with ⟨hg, h2⟩ | ⟨hg, rfl⟩
      · cases h2; exact ⟨_, _, h0, .inl ⟨rfl, .inr ⟨_, _, rfl, hg⟩⟩⟩
      · exact ⟨_, _, h0, .inr ⟨rfl, rfl, _, _, rfl, hg⟩⟩
    · obtain ⟨p, h1, h0⟩ := bi_eq h
      rcases wantH_eq h1 with ⟨hg, h2⟩ | ⟨hg, rfl⟩
      · cases h2; exact ⟨_, _, h0, .inl ⟨rfl, .inr ⟨_, _, rfl, hg⟩⟩⟩
      · exact ⟨_, _, h0, .inr ⟨rfl, rfl, _, _, rfl, hg⟩⟩
    · obtain ⟨p, h1, h⟩ := bi_eq h
      rcases wantH_eq h1 with ⟨hg, h2⟩ | ⟨hg, rfl⟩
      · exact ⟨_, _, h, .inl ⟨h2, .inr ⟨_, _, rfl, hg⟩⟩⟩
      · exact ⟨_, _, h, .inr ⟨rfl, rfl, _, _, rfl, hg⟩⟩
theorem opsG_ok {X : Ctx} {cf' : CF} (hc : CLe X.cf cf') {st : Bool} {ops : Array Oper} {r : DV × Heap} {k : KF} {k' : List Nat → St → R} : ∀ (l : List Oper) (nid : Nat) (cs ss : List Nat) (s : List DV) (H : Heap),
    LLe cs ss → (∀ cs' s H, LLe cs' ((l.map fun o => sCls X.md (st && isElLd X.P ops o) o).reverse ++ ss) → k s H = some r → k' cs' ⟨s, H⟩ = some r) →
    opsG X st ops l nid s H k = some r → opsK ⟨X.P, cf', X.md, X.fl, X.N⟩ ops l nid cs ⟨s, H⟩ k' = some r := by
  intro l
  induction l with
  | nil => intro nid cs ss s H hcs hk h; exact hk _ _ _ (by simpa using hcs) h
  | cons o l ih =>
    intro nid cs ss s H hcs hk h
    unfold opsG at h
    have key : ∀ (d : DV) (e : Eff), wantE (wantD ops o s) (evalO X.P cf' X.md X.fl nid o s H) = some (d, e) → cLe e.cls (sCls X.md (st && isElLd X.P ops o) o) →
        opsG X st ops l (if isAl o then nid + 1 else nid) (putD s o.dst d) (e.heap H) k = some r → opsK ⟨X.P, cf', X.md, X.fl, X.N⟩ ops (o :: l) nid cs ⟨s, H⟩ k' = some r := by
      intro d e h1 h2 h3
      show opK _ ops nid o ⟨s, H⟩ _ = some r
      unfold opK
      dsimp only
      rw [h1, Option.bind_some]
      refine ih _ (e.cls :: cs) (sCls X.md (st && isElLd X.P ops o) o :: ss) _ _ ⟨⟨h2, sCls_le _ _ _⟩, hcs⟩ (fun cs' s H hcs' hh => hk _ _ _ (by simpa using hcs') hh) h3
    cases hm : moveOf o with
    | some x =>
      rw [hm] at h
      dsimp only at h
      rw [evalK_eq, forceL_eq] at h
      have ho : o.guard = none ∧ (o.op = .move x ∨ o.op = .assign x) := by
        unfold moveOf at hm
        split at hm
        · next hg =>
          refine ⟨hg, ?_⟩
          split at hm
          · next he => cases hm; exact .inl he
          · next he => cases hm; exact .inr he
          · cases hm
        · cases hm
      have hw : wantD ops o s = some true := by unfold wantD; rw [ho.1]
      have hal : isAl o = false := by unfold isAl; rcases ho.2 with h | h <;> rw [h]
      have he : evalO X.P cf' X.md X.fl nid o s H = some (evalD s x, .q) := by
        rcases ho.2 with h | h <;> (unfold evalO; rw [h])
      exact key _ .q (by rw [hw, he]; rfl) (.inr (.inl rfl)) (by rw [hal]; exact h)
    | none =>
      rw [hm] at h
      dsimp only at h
      cases hg : guardOf ops o s with
      | none => rw [hg] at h; cases h
      | some g =>
        rw [hg] at h
        dsimp only at h
        obtain ⟨d, H', h1, h2⟩ := stepG_eq h
        rw [forceL_eq] at h1
        have h1' : opsG X st ops l (if isAl o then nid + 1 else nid) (putD s o.dst d) H' k = some r := by
          cases ha : isAl o <;> (rw [ha] at h1; exact h1)
        have hwd : ∀ b, (g = none ∧ b = true) ∨ (∃ c w, g = some (c, w) ∧ guardD c w = some b) → wantD ops o s = some b := by
          intro b hb
          unfold guardOf at hg
          unfold wantD
          split at hg
          · rename_i e; rw [e]; cases hg
            rcases hb with ⟨_, rfl⟩ | ⟨_, _, h, _⟩
            · rfl
            · cases h
          · rename_i j w e
            rw [e]
            dsimp only
            split at hg
            · rename_i t e2
              rw [e2]
              cases hg
              rcases hb with ⟨h, _⟩ | ⟨_, _, h, h2⟩
              · cases h
              · cases h; exact h2
            · cases hg
        rcases h2 with ⟨h2, h3⟩ | ⟨rfl, rfl, c, w, rfl, h3⟩
        · obtain ⟨e, h4, h5, h6⟩ := opR_ok hc h2
          refine key d e ?_ h6 (by rw [h5]; exact h1')
          rw [hwd true (h3.imp (fun h => ⟨h, rfl⟩) id)]
          exact h4
        · refine key _ .q ?_ (.inr (.inl rfl)) h1'
          rw [hwd false (.inr ⟨_, _, rfl, h3⟩)]
          rfl
theorem condR_eq {d : DV} {x y : R} {r : DV × Heap} (h : condR d x y = some r) : (d = .flat (.bool true) ∧ x = some r) ∨ (d = .flat (.bool false) ∧ y = some r) := by
  unfold condR at h
  split at h
  · exact .inl ⟨rfl, h⟩
  · exact .inr ⟨rfl, h⟩
  · cases h
theorem loopG_ok {keep out : List Nat} {N : Nat} {body : List DV → Heap → (Ex → KF) → R} {body' : St → (Ex → St → R) → R} {r : DV × Heap}
    (hb : ∀ s H (k : Ex → KF) (k' : Ex → St → R), (∀ x s H, k x s H = some r → k' x ⟨s, H⟩ = some r) → body s H k = some r → body' ⟨s, H⟩ k' = some r) :
    ∀ (m : Nat) s H (k : Ex → KF) (k' : Ex → St → R), (∀ x s H, k x s H = some r → k' x ⟨s, H⟩ = some r) → loopG keep out N body m s H k = some r → loopN keep out N body' m ⟨s, H⟩ k' = some r := by
  intro m
  induction m with
  | zero => intro s H k k' hk h; cases h
  | succ m ih =>
    intro s H k k' hk h
    rw [loopG_succ] at h
    refine hb _ _ _ _ (fun x s H h => ?_) h
    cases x with
    | normal => dsimp only at h ⊢; rw [forceL_eq] at h; exact ih _ _ _ _ hk h
    | exit i => dsimp only at h ⊢; rw [forceL_eq] at h; exact hk _ _ _ h
    | ret => dsimp only at h ⊢; rw [forceL_eq] at h; exact hk _ _ _ h
theorem execG_ok {X : Ctx} {cf' : CF} (hc : CLe X.cf cf') {n : Nat} {r : DV × Heap} : ∀ (c : Code) ks s H (k : Ex → KF) (k' : Ex → St → R), (∀ x s H, k x s H = some r → k' x ⟨s, H⟩ = some r) →
    execG X n c ks s H k = some r → execD ⟨X.P, cf', X.md, X.fl, X.N⟩ n c ks ⟨s, H⟩ k' = some r := by
  intro c
  induction c with
  | skip => intro ks s H k k' hk h; exact hk _ _ _ h
  | region id ops draw =>
    intro ks s H k k' hk h
    have fin : ∀ (st : Bool), (draw = true → drawOk ops (ops.toList.map fun o => sCls X.md (st && isElLd X.P ops o) o) = true) → opsG X st ops ops.toList H.length s (addHoles ops.toList H) (fun s' H' => k .normal s' H') = some r →
        execD ⟨X.P, cf', X.md, X.fl, X.N⟩ n (.region id ops draw) ks ⟨s, H⟩ k' = some r := by
      intro st hd h
      show opsK _ ops ops.toList H.length [] ⟨s, addHoles ops.toList H⟩ _ = some r
      refine opsG_ok (X := X) hc ops.toList H.length [] [] s _ trivial (fun cs' s' H' hcs hh => ?_) h
      unfold drawK
      rw [if_neg]
      · exact hk _ _ _ hh
      · intro hcon
        simp only [Bool.and_eq_true, Bool.not_eq_true'] at hcon
        obtain ⟨h1, h2⟩ := hcon
        have hrev : LLe cs'.reverse (ops.toList.map fun o => sCls X.md (st && isElLd X.P ops o) o) := by
          have : ∀ (a b : List Nat), LLe a b → ∀ c d, LLe c d → LLe (a.reverse ++ c) (b.reverse ++ d) := by
            intro a
            induction a with
            | nil => intro b hb c d hcd; cases b with
              | nil => simpa using hcd
              | cons => exact hb.elim
            | cons x a ih => intro b hb c d hcd; cases b with
              | nil => exact hb.elim
              | cons y b => simpa using ih b hb.2 (x :: c) (y :: d) ⟨hb.1, hcd⟩
          have := this _ _ hcs [] [] trivial
          simpa using this
        rw [drawOk_mono hrev (by simp) (hd h1)] at h2
        cases h2
    simp only [execG] at h
    split at h
    · rename_i hd
      rw [holesF_eq] at h
      refine fin false (fun hdr => ?_) h
      rw [hdr] at hd
      simpa using hd
    · split at h
      · rename_i hd
        rw [holesF_eq] at h
        exact fin true (fun _ => by simpa using hd) h
      · cases h
  | seq a b iha ihb =>
    intro ks s H k k' hk h
    refine iha _ _ _ _ _ (fun x s H h => ?_) h
    cases x with
    | normal => exact ihb _ _ _ _ _ hk h
    | exit i => exact hk _ _ _ h
    | ret => exact hk _ _ _ h
  | cond c a b iha ihb =>
    intro ks s H k k' hk h
    rcases condR_eq h with ⟨h1, h2⟩ | ⟨h1, h2⟩
    · show condR (evalD s c) _ _ = _
      rw [h1]
      exact iha _ _ _ _ _ hk h2
    · show condR (evalD s c) _ _ = _
      rw [h1]
      exact ihb _ _ _ _ _ hk h2
  | block id b ih =>
    intro ks s H k k' hk h
    refine ih _ _ _ _ _ (fun x s H h => ?_) h
    cases x with
    | normal => exact hk _ _ _ h
    | exit i =>
      dsimp only at h ⊢
      split at h
      · rename_i e; rw [if_pos e]; exact hk _ _ _ h
      · rename_i e; rw [if_neg e]; exact hk _ _ _ h
    | ret => exact hk _ _ _ h
  | loop b ih =>
    intro ks s H k k' hk h
    simp only [execG] at h
    rw [forceL_eq] at h
    refine loopG_ok (fun s H k k' hk h => ih _ _ _ _ _ hk h) n _ _ _ _ (fun x s H h => ?_) h
    cases x with
    | normal => cases h
    | exit i => dsimp only at h ⊢; rw [forceL_eq] at h; exact hk _ _ _ h
    | ret => dsimp only at h ⊢; rw [forceL_eq] at h; exact hk _ _ _ h
  | scope b ih => intro ks s H k k' hk h; exact ih _ _ _ _ _ hk h
  | exit id => intro ks s H k k' hk h; exact hk _ _ _ h
  | ret => intro ks s H k k' hk h; exact hk _ _ _ h
  | _ => intros; rename_i h; cases h
theorem resK_ok {P : Program} {s : List DV} {H : Heap} {r : DV × Heap} : ∀ (rs : List ResultVar) (k : List DV → R), resK P s H rs k = some r → ∃ ds, seqO (rs.map (resOne P ⟨s, H⟩)) = some ds ∧ k ds = some r := by
  intro rs
  induction rs with
  | nil => intro k h; exact ⟨[], rfl, h⟩
  | cons v rs ih =>
    intro k h
    cases v with
    | tmp t =>
      obtain ⟨ds, h1, h2⟩ := ih _ h
      exact ⟨_, by simp only [List.map_cons, seqO, resOne, Option.bind_some, h1, Option.map_some], h2⟩
    | cell a t =>
      simp only [resK] at h
      split at h
      · rename_i ha
        obtain ⟨d, h3, h4⟩ := bi_eq h
        obtain ⟨ds, h1, h2⟩ := ih _ h4
        exact ⟨_, by simp only [List.map_cons, seqO, resOne, ha, h3, Option.bind_some, h1, Option.map_some], h2⟩
      · cases h
theorem callG_ok (P : Program) (E : Env) : ∀ n, CLe (callG P E n) (callN P E n) := by
  intro n
  induction n with
  | zero => intro f args H fl r h; cases h
  | succ n ih =>
    intro f args H fl r h
    rw [callG_eq] at h
    unfold bodyG at h
    simp only [callN]
    split at h
    · rename_i g hg
      rw [hg]
      exact h
    · rename_i hg
      rw [hg]
      dsimp only
      split at h
      · rename_i fn hf
        rw [hf]
        dsimp only
        split at h
        · rename_i c hb
          rw [hb]
          dsimp only
          split at h
          · cases h
          · rename_i hn
            rw [if_neg hn]
            rw [forceL_eq] at h
            refine execG_ok (X := ⟨P, callG P E n, E.md, fl, fn.ntmps⟩) ih c _ _ _ _ _ (fun x s H h => ?_) h
            cases x with
            | exit i => cases h
            | normal => obtain ⟨ds, h1, h2⟩ := resK_ok _ _ h; cases h2; dsimp only; unfold resD; rw [h1]; rfl
            | ret => obtain ⟨ds, h1, h2⟩ := resK_ok _ _ h; cases h2; dsimp only; unfold resD; rw [h1]; rfl
        · cases h
      · cases h
end Go.Proofs.Ytcpgmbpndpcmdaa
namespace Go.Proofs.Ytcpgmbpndpcmdaa
open Go.RowKit
def mkW (a b : UInt8) : UInt16 := UInt16.ofNat (256 * a.toNat + b.toNat)
theorem mkW_nat (a b : UInt8) : (mkW a b).toNat = 256 * a.toNat + b.toNat := by
  have := a.toNat_lt; have := b.toNat_lt
  unfold mkW; rw [UInt16.toNat_ofNat']; omega
theorem or_mkW (a b : UInt8) : Go.bits .or .u16 (IntKind.u16.wrap (IntKind.u16.wrap (a.toNat : Int) * 256)) (IntKind.u16.wrap (b.toNat : Int)) = ((mkW a b).toNat : Int) := by
  have := a.toNat_lt; have := b.toNat_lt
  rw [mkW_nat, wraps_u16 (a.toNat : Int) (by omega) (by omega), wraps_u16 (b.toNat : Int) (by omega) (by omega), wraps_u16 _ (by omega) (by omega),
    bits_join .u16 16 (by decide) wraps_u16 8 _ _ (by omega) (by omega) (by omega) (by omega) (by omega) (by omega)]
  omega
def wWords : List UInt8 → List UInt16
  | a :: b :: l => mkW a b :: wWords l
  | _ => []
theorem wWords_append (l m : List UInt8) (h : l.length % 2 = 0) : wWords (l ++ m) = wWords l ++ wWords m := by
  induction l using wWords.induct with
  | case1 a b l ih => simp only [List.cons_append, wWords]; rw [ih (by simp at h; omega)]
  | case2 l hl =>
    cases l with
    | nil => rfl
    | cons a l =>
      cases l with
      | nil => simp at h
      | cons b l => exact absurd rfl (hl a b l)
theorem wWords_len (l : List UInt8) : (wWords l).length = l.length / 2 := by
  induction l using wWords.induct with
  | case1 a b l ih => simp only [wWords, List.length_cons, ih]; omega
  | case2 l hl =>
    cases l with
    | nil => rfl
    | cons a l =>
      cases l with
      | nil => simp [wWords]
      | cons b l => exact absurd rfl (hl a b l)
theorem wWords_step (l : List UInt8) (k : Nat) (h : k + 1 < l.length) (hk : k % 2 = 0) : wWords (l.take (k + 2)) = wWords (l.take k) ++ [mkW l[k] l[k + 1]] := by
  have e : l.take (k + 2) = l.take k ++ [l[k], l[k + 1]] := by
    rw [show k + 2 = k + 1 + 1 from rfl, List.take_succ_eq_append_getElem h, List.take_succ_eq_append_getElem (by omega : k < l.length), List.append_assoc]; rfl
  rw [e, wWords_append _ _ (by rw [List.length_take]; omega)]
  rfl
def wBytes (l : List UInt16) : List UInt8 := l.flatMap fun n => [UInt8.ofNat (n.toNat / 256), UInt8.ofNat (n.toNat % 256)]
theorem wBytes_step (l : List UInt16) (k : Nat) (h : k < l.length) : wBytes (l.take (k + 1)) = wBytes (l.take k) ++ [UInt8.ofNat (l[k].toNat / 256), UInt8.ofNat (l[k].toNat % 256)] := by
  unfold wBytes
  rw [List.take_succ_eq_append_getElem h, List.flatMap_append]; simp
theorem wBytes_len (l : List UInt16) : (wBytes l).length = 2 * l.length := by
  unfold wBytes
  induction l with
  | nil => rfl
  | cons a l ih => simp [List.flatMap_cons] at ih ⊢; omega
theorem wWords_bytes (l : List UInt16) : wWords (wBytes l) = l := by
  induction l with
  | nil => rfl
  | cons a l ih =>
    show wWords (UInt8.ofNat (a.toNat / 256) :: UInt8.ofNat (a.toNat % 256) :: wBytes l) = _
    rw [wWords, ih]
    congr 1
    have := a.toNat_lt
    apply UInt16.toNat_inj.1
    rw [mkW_nat, UInt8.toNat_ofNat', UInt8.toNat_ofNat']
    omega
def bitsOf (c : UInt8) (i : Nat) : Bool := c.toNat / 2 ^ i % 2 = 1
theorem and1_u8 (x : Int) (h0 : 0 ≤ x) (h1 : x < 256) : Go.bits .and .u8 x 1 = x % 2 := bits_mask .u8 8 (by decide) wraps_u8 1 (by decide) x h0 h1
theorem shr_nat (c : UInt8) (i : Nat) : (c.toNat : Int) / 2 ^ i = ((c.toNat / 2 ^ i : Nat) : Int) := by
  rw [Int.natCast_ediv]; simp
theorem and_bit (c : UInt8) (i : Nat) : (Go.bits .and .u8 ((c.toNat : Int) / 2 ^ i) 1 == 1) = bitsOf c i := by
  have hc := c.toNat_lt
  have hle : c.toNat / 2 ^ i ≤ c.toNat := Nat.div_le_self _ _
  rw [shr_nat]
  unfold bitsOf
  generalize c.toNat / 2 ^ i = q at *
  rw [and1_u8 _ (by omega) (by omega)]
  rw [Bool.eq_iff_iff, beq_iff_eq, decide_eq_true_iff]
  omega
def bOf8 : List Bool → Nat
  | [] => 0
  | b :: l => (if b then 1 else 0) + 2 * bOf8 l
theorem bOf8_lt (l : List Bool) : bOf8 l < 2 ^ l.length := by
  induction l with
  | nil => simp [bOf8]
  | cons b l ih => simp only [bOf8, List.length_cons, Nat.pow_succ]; split <;> omega
theorem bOf8_snoc (l : List Bool) (b : Bool) : bOf8 (l ++ [b]) = bOf8 l + if b then 2 ^ l.length else 0 := by
  induction l with
  | nil => simp [bOf8]
  | cons c l ih =>
    simp only [List.cons_append, bOf8, ih, List.length_cons, Nat.pow_succ]
    split <;> split <;> omega
theorem bOf8_bit (l : List Bool) (i : Nat) : (bOf8 l / 2 ^ i % 2 = 1) ↔ l[i]? = some true := by
  induction l generalizing i with
  | nil => simp [bOf8]
  | cons b l ih =>
    cases i with
    | zero => simp only [bOf8, Nat.pow_zero, Nat.div_one, List.getElem?_cons_zero]; cases b <;> simp <;> omega
    | succ i =>
      have e : bOf8 (b :: l) / 2 ^ (i + 1) = bOf8 l / 2 ^ i := by
        rw [Nat.pow_succ, Nat.mul_comm, ← Nat.div_div_eq_div_mul]
        congr 1
        simp only [bOf8]; split <;> omega
      rw [e, ih]; simp
def wPack (l : List Bool) : List UInt8 := (List.range ((l.length + 7) / 8)).map fun i => UInt8.ofNat (bOf8 ((l.drop (8 * i)).take 8))
theorem wPack_len (l : List Bool) : (wPack l).length = (l.length + 7) / 8 := by simp [wPack]
theorem wPack_get (l : List Bool) (i : Nat) (h : i < (wPack l).length) : (wPack l)[i].toNat = bOf8 ((l.drop (8 * i)).take 8) := by
  have hb := bOf8_lt ((l.drop (8 * i)).take 8)
  have hl : ((l.drop (8 * i)).take 8).length ≤ 8 := by simp; omega
  have : 2 ^ ((l.drop (8 * i)).take 8).length ≤ 2 ^ 8 := Nat.pow_le_pow_right (by omega) hl
  simp only [wPack, List.getElem_map, List.getElem_range, UInt8.toNat_ofNat']
  omega
def pk (l : List Bool) (n : Nat) : List UInt8 := (List.range n).map fun i => UInt8.ofNat (bOf8 ((l.drop (8 * i)).take 8))
theorem pk_len (l : List Bool) (n : Nat) : (pk l n).length = n := by simp [pk]
theorem pk_get (l : List Bool) (n i : Nat) (h : i < (pk l n).length) : (pk l n)[i].toNat = bOf8 ((l.drop (8 * i)).take 8) := by
  have hb := bOf8_lt ((l.drop (8 * i)).take 8)
  have hl : ((l.drop (8 * i)).take 8).length ≤ 8 := by simp; omega
  have : 2 ^ ((l.drop (8 * i)).take 8).length ≤ 2 ^ 8 := Nat.pow_le_pow_right (by omega) hl
  simp only [pk, List.getElem_map, List.getElem_range, UInt8.toNat_ofNat']
  omega
theorem pk_nil (n : Nat) : pk [] n = List.replicate n 0 := by
  apply List.ext_getElem
  · simp [pk]
  · intro i h1 h2; simp [pk, bOf8]
theorem chunk_same (l : List Bool) (k i : Nat) (h : k < l.length) (hi : i ≠ k / 8) : ((l.take (k + 1)).drop (8 * i)).take 8 = ((l.take k).drop (8 * i)).take 8 := by
  rw [List.take_succ_eq_append_getElem h]
  have hk : (l.take k).length = k := by simp; omega
  rcases Nat.lt_or_ge i (k / 8) with hlt | hge
  · rw [List.drop_append_of_le_length (by omega), List.take_append_of_le_length (by simp; omega)]
  · rw [List.drop_eq_nil_of_le (by simp; omega), List.drop_eq_nil_of_le (by omega)]
theorem chunk_step (l : List Bool) (k : Nat) (h : k < l.length) : ((l.take (k + 1)).drop (8 * (k / 8))).take 8 = ((l.take k).drop (8 * (k / 8))).take 8 ++ [l[k]] := by
  rw [List.take_succ_eq_append_getElem h]
  have hk : (l.take k).length = k := by simp; omega
  rw [List.drop_append_of_le_length (by omega), List.take_of_length_le (by simp; omega), List.take_of_length_le (l := (l.take k).drop _) (by simp; omega)]
theorem chunk_len (l : List Bool) (k : Nat) (h : k < l.length) : (((l.take k).drop (8 * (k / 8))).take 8).length = k % 8 := by simp; omega
theorem pk_false (l : List Bool) (k n : Nat) (h : k < l.length) (hb : l[k] = false) : pk (l.take (k + 1)) n = pk (l.take k) n := by
  apply List.ext_getElem
  · simp [pk_len]
  · intro i h1 h2
    apply UInt8.toNat_inj.1
    rw [pk_get, pk_get]
    by_cases hi : i = k / 8
    · subst hi; rw [chunk_step l k h, bOf8_snoc, hb]; simp
    · rw [chunk_same l k i h hi]
theorem pk_true (l : List Bool) (k n : Nat) (h : k < l.length) (hb : l[k] = true) (hn : k / 8 < (pk (l.take k) n).length) :
    pk (l.take (k + 1)) n = (pk (l.take k) n).set (k / 8) (UInt8.ofNat ((pk (l.take k) n)[k / 8].toNat + 2 ^ (k % 8))) ∧ (pk (l.take k) n)[k / 8].toNat < 2 ^ (k % 8) := by
  have hlt : (pk (l.take k) n)[k / 8].toNat < 2 ^ (k % 8) := by
    rw [pk_get]; have := bOf8_lt (((l.take k).drop (8 * (k / 8))).take 8); rwa [chunk_len l k h] at this
  refine ⟨?_, hlt⟩
  have hp : 2 ^ (k % 8 + 1) ≤ 2 ^ 8 := Nat.pow_le_pow_right (by omega) (by omega)
  rw [Nat.pow_succ] at hp
  apply List.ext_getElem
  · simp [pk_len]
  · intro i h1 h2
    apply UInt8.toNat_inj.1
    rw [List.getElem_set]
    by_cases hi : k / 8 = i
    · subst hi
      rw [if_pos rfl, pk_get, chunk_step l k h, bOf8_snoc, hb, if_pos rfl, chunk_len l k h, UInt8.toNat_ofNat', pk_get]
      rw [pk_get] at hlt
      omega
    · rw [if_neg hi, pk_get, pk_get, chunk_same l k i h (fun e => hi e.symm)]
theorem pk_all (l : List Bool) : pk l ((l.length + 7) / 8) = wPack l := rfl
theorem or_u8_pow (x : Nat) (e : Nat) (he : e < 8) (hx : x < 2 ^ e) : Go.bits .or .u8 (x : Int) (((2 ^ e : Nat)) : Int) = ((x + 2 ^ e : Nat) : Int) := by
  have hp : 2 ^ (e + 1) ≤ 2 ^ 8 := Nat.pow_le_pow_right (by omega) (by omega)
  rw [Nat.pow_succ] at hp
  have h := (bits_nat .u8 8 (by decide) wraps_u8 x (2 ^ e) (by omega) (by omega)).2
  rw [h]
  have := Nat.two_pow_add_eq_or_of_lt hx 1
  rw [Nat.mul_one, Nat.or_comm] at this
  rw [← this]; omega
theorem or_bit (x e : Nat) (he : e < 8) (hx : x < 2 ^ e) : Go.bits .or .u8 (x : Int) ((2 : Int) ^ e % 256) = ((UInt8.ofNat (x + 2 ^ e)).toNat : Int) := by
  have hp : 2 ^ (e + 1) ≤ 2 ^ 8 := Nat.pow_le_pow_right (by omega) (by omega)
  rw [Nat.pow_succ] at hp
  have h1 : ((2 : Int) ^ e % 256) = ((2 ^ e : Nat) : Int) := by
    have : ((2 ^ e : Nat) : Int) = (2 : Int) ^ e := by simp
    rw [← this]; omega
  rw [h1, or_u8_pow x e he hx, UInt8.toNat_ofNat']
  omega
def wBitsL (b : List UInt8) (n : Nat) : List Bool := (List.range n).map fun i => bitsOf (b.getD (i / 8) 0) (i % 8)
theorem wBitsL_len (b : List UInt8) (n : Nat) : (wBitsL b n).length = n := by simp [wBitsL]
theorem bOf8_bits (c : UInt8) (m : Nat) : bOf8 ((List.range m).map (bitsOf c)) = c.toNat % 2 ^ m := by
  induction m with
  | zero => simp [bOf8, Nat.mod_one]
  | succ m ih =>
    rw [List.range_succ, List.map_append, List.map_singleton, bOf8_snoc, ih, List.length_map, List.length_range, Nat.mod_pow_succ]
    unfold bitsOf
    have : c.toNat / 2 ^ m % 2 < 2 := Nat.mod_lt _ (by omega)
    by_cases h : c.toNat / 2 ^ m % 2 = 1
    · simp [h]
    · rw [show c.toNat / 2 ^ m % 2 = 0 by omega]; simp
theorem bits_chunk (b : List UInt8) (n i : Nat) : ((wBitsL b n).drop (8 * i)).take 8 = (List.range (min 8 (n - 8 * i))).map (bitsOf (b.getD i 0)) := by
  apply List.ext_getElem
  · simp [wBitsL_len]
  · intro j h1 h2
    simp only [List.length_map, List.length_range] at h2
    simp only [List.getElem_take, List.getElem_drop, wBitsL, List.getElem_map, List.getElem_range]
    rw [show (8 * i + j) / 8 = i by omega, show (8 * i + j) % 8 = j by omega]
def bitsFit (b : List UInt8) (n : Nat) : Prop := b.length = (n + 7) / 8 ∧ (n % 8 = 0 ∨ (b.getD (n / 8) 0).toNat / 2 ^ (n % 8) = 0)
instance (b : List UInt8) (n : Nat) : Decidable (bitsFit b n) := by unfold bitsFit; infer_instance
theorem pack_bits (b : List UInt8) (n : Nat) : wPack (wBitsL b n) = b ↔ bitsFit b n := by
  have hl : (wPack (wBitsL b n)).length = (n + 7) / 8 := by rw [wPack_len, wBitsL_len]
  have get : ∀ i (h : i < (wPack (wBitsL b n)).length), (wPack (wBitsL b n))[i].toNat = (b.getD i 0).toNat % 2 ^ min 8 (n - 8 * i) := by
    intro i h
    rw [wPack_get, bits_chunk b n i, bOf8_bits]
  constructor
  · intro he
    refine ⟨by rw [← hl, he], ?_⟩
    by_cases h0 : n % 8 = 0
    · exact .inl h0
    · right
      have hi : n / 8 < (wPack (wBitsL b n)).length := by rw [hl]; omega
      have h1 := get _ hi
      rw [show min 8 (n - 8 * (n / 8)) = n % 8 by omega] at h1
      have h2 : (wPack (wBitsL b n))[n / 8].toNat = (b.getD (n / 8) 0).toNat := by
        have : (wPack (wBitsL b n))[n / 8]? = b[n / 8]? := by rw [he]
        rw [List.getElem?_eq_getElem hi] at this
        rw [List.getD_eq_getElem?_getD, ← this, Option.getD_some]
      rw [h2] at h1
      rw [h1]
      exact Nat.div_eq_of_lt (Nat.mod_lt _ (Nat.two_pow_pos _))
  · rintro ⟨h1, h2⟩
    apply List.ext_getElem
    · rw [hl, h1]
    · intro i k1 k2
      apply UInt8.toNat_inj.1
      rw [get i k1, List.getD_eq_getElem?_getD, List.getElem?_eq_getElem k2, Option.getD_some]
      have hb := b[i].toNat_lt
      rcases Nat.lt_or_ge (8 * i + 8) (n + 1) with h | h
      · rw [show min 8 (n - 8 * i) = 8 by omega, Nat.mod_eq_of_lt hb]
      · have hi : i = n / 8 := by omega
        subst hi
        rw [show min 8 (n - 8 * (n / 8)) = n % 8 by omega]
        have h3 := h2.resolve_left (by omega)
        rw [List.getD_eq_getElem?_getD, List.getElem?_eq_getElem k2, Option.getD_some] at h3
        apply Nat.mod_eq_of_lt
        exact (Nat.div_eq_zero_iff_lt (Nat.two_pow_pos _)).1 h3
theorem wBitsL_step (b : List UInt8) (k : Nat) : wBitsL b (k + 1) = wBitsL b k ++ [bitsOf (b.getD (k / 8) 0) (k % 8)] := by
  unfold wBitsL; rw [List.range_succ, List.map_append]; rfl
theorem wBits_pack (l : List Bool) : wBitsL (wPack l) l.length = l := by
  apply List.ext_getElem
  · simp [wBitsL]
  · intro i h1 h2
    simp only [wBitsL, List.getElem_map, List.getElem_range, bitsOf]
    have hi : i / 8 < (wPack l).length := by rw [wPack_len]; omega
    rw [List.getD_eq_getElem?_getD, List.getElem?_eq_getElem hi, Option.getD_some, wPack_get]
    have e := bOf8_bit ((l.drop (8 * (i / 8))).take 8) (i % 8)
    rw [List.getElem?_take, if_pos (by omega), List.getElem?_drop, show 8 * (i / 8) + i % 8 = i by omega, List.getElem?_eq_getElem h2] at e
    rw [Bool.eq_iff_iff, decide_eq_true_iff, e]
    simp
def wBits (b : List UInt8) (n : Nat) : Bool × List Bool := if bitsFit b n then (true, wBitsL b n) else (false, [])
theorem wBits_yes {b : List UInt8} {n : Nat} (h : bitsFit b n) : wBits b n = (true, wBitsL b n) := if_pos h
theorem wBits_no {b : List UInt8} {n : Nat} (h : ¬ bitsFit b n) : wBits b n = (false, []) := if_neg h
theorem fit_pack (l : List Bool) : bitsFit (wPack l) l.length := by
  rw [← pack_bits, wBits_pack]
def bitsTell (b : List UInt8) (n : Int) : Bool × List Bool := if n < 0 then (false, []) else wBits b n.toNat
theorem bitsTell_nat (b : List UInt8) (m : Nat) : bitsTell b (m : Int) = wBits b m := by unfold bitsTell; rw [if_neg (by omega)]; rfl
theorem bitsTell_neg {b : List UInt8} {n : Int} (h : n < 0) : bitsTell b n = (false, []) := if_pos h
def wordsTell (l : List UInt8) : Bool × List UInt16 := if l.length % 2 = 1 then (false, []) else (true, wWords l)
theorem wordsTell_no {l : List UInt8} (h : l.length % 2 = 1) : wordsTell l = (false, []) := if_pos h
theorem wordsTell_yes {l : List UInt8} (h : l.length % 2 = 0) : wordsTell l = (true, wWords l) := if_neg (by omega)
end Go.Proofs.Ytcpgmbpndpcmdaa
namespace Go.Proofs.Ytcpgmbpndpcmdaa
open Go
abbrev Prim := List DV → Heap → R
def primNo : Prim := fun _ _ => none
def primIs : Prim
  | [.iface t (.agg [.flat (.int .i64 _), .iface t2 (.flat (.int .i64 e))]), .iface t3 (.flat (.int .i64 x))], H => if t = 95 ∧ t2 = 32 ∧ t3 = 32 then some (.flat (.bool (e == x)), H) else none
  | _, _ => none
def primGrow : Prim
  | [.list 0 [] .ti, .flat (.int .i64 n)], H => if n = 0 then some (.list 0 [] .ti, H) else if 0 < n ∧ n ≤ 1000000 then some (.list 1 [] (.own H.length), H ++ [.token 5 1 0]) else none
  | _, _ => none
def dB : DV → Option UInt8
  | .flat (.int .u8 n) => if 0 ≤ n ∧ n < 256 then some (lowB n) else none
  | _ => none
def dW : DV → Option UInt16
  | .flat (.int .u16 n) => if 0 ≤ n ∧ n < 65536 then some (UInt16.ofNat n.toNat) else none
  | _ => none
def dT : DV → Option Bool
  | .flat (.bool b) => some b
  | _ => none
def eB (c : UInt8) : DV := .flat (.int .u8 (c.toNat : Int))
def eW (c : UInt16) : DV := .flat (.int .u16 (c.toNat : Int))
def eT (c : Bool) : DV := .flat (.bool c)
def primLL {α β : Type} (d : DV → Option α) (e : β → DV) (g : List α → List β) : Prim
  | [.list _ xs _], H => (mapO d xs).bind fun l => if l.length ≤ 100000 then some (mkl 1 ((g l).map e) .sh, H) else none
  | _, _ => none
def primWords : Prim
  | [.list _ xs _], H => (mapO dB xs).bind fun l => if l.length ≤ 100000 then some (.tup [mkl 1 ((wordsTell l).2.map eW) .sh, .flat (.bool (wordsTell l).1)], H) else none
  | _, _ => none
def primBits : Prim
  | [.list _ xs _, .flat (.int .i64 n)], H => (mapO dB xs).bind fun l => if l.length ≤ 100000 ∧ -9223372036854775808 ≤ n ∧ n ≤ 9223372036854775807 then some (.tup [mkl 1 ((bitsTell l n).2.map eT) .sh, .flat (.bool (bitsTell l n).1)], H) else none
  | _, _ => none
def PRIMW (f : FuncId) : Option Prim :=
  bif f == 38 then some (primLL dW eB wBytes) else
  bif f == 37 then some (primLL dT eB wPack) else
  bif f == 80 then some primWords else
  bif f == 78 then some primBits else
  bif f == 22 then some (primLL dW eW id) else
  bif f == 23 then some (primLL dT eT id) else
  none
def PRIM (f : FuncId) : Option Prim :=
  bif f == 75 then some primNo else
  bif f == 48 then some primIs else
  bif f == 70 then some primGrow else
  PRIMW f
end Go.Proofs.Ytcpgmbpndpcmdaa
namespace Go.Proofs.Ytcpgmbpndpcmdaa
open Go
set_option linter.unusedVariables false
def ENV : Env where
  md f := bif f == 57 then .rw else bif f == 59 then .rw else bif f == 61 then .rw else bif f == 63 then .rw else bif f == 65 then .rw else bif f == 67 then .rw else bif f == 69 then .rw else bif f == 9 then .rw else bif f == 24 then .rw else bif f == 51 then .rw else bif f == 30 then .rw else bif f == 31 then .rw else bif f == 13 then .rw else bif f == 26 then .ro else bif f == 27 then .ro else bif f == 48 then .ro else bif f == 15 then .ro else bif f == 29 then .ro else bif f == 50 then .ro else bif f == 70 then .keep else bif f == 6 then .keep else bif f == 12 then .keep else bif f == 1000039 then .ro else .pure false
  ks f := (List.lookup f [(3, [([2, 3, 4, 7, 8, 10, 11], [2, 3, 4, 7, 8, 10]), ([2, 3, 4, 7, 8, 10, 12], [2, 3, 4, 7, 8]), ([2, 3, 4, 7, 8, 13], [2, 3, 4, 6, 7, 8]), ([2, 3, 4, 7, 8, 16, 18, 19], [6])]), (4, [([3, 5, 7, 8, 12, 16], [6, 7, 8, 12])]), (5, [([1, 3, 4, 5, 12, 14, 15, 16, 17], [3, 4, 5, 12, 14, 15, 16])]), (14, [([0, 1, 5], [4])]), (27, [([0, 7, 8, 9], [4])]), (34, [([1, 2, 5, 8, 9, 10], [1, 2, 4])]), (35, [([0, 3, 4], [3])]), (37, [([3, 12, 13, 14], [3])]), (39, [([2, 5, 15, 16, 17], [5])]), (40, [([0, 1, 12, 13], [4])]), (41, [([0, 1, 12, 13], [4])]), (42, [([0, 1, 12, 13], [4])]), (46, [([0, 3, 9, 10, 11], [0, 3]), ([6, 25, 26, 27], [6])]), (52, [([1, 5, 8, 9, 10], [5])]), (72, [([0, 1, 2], [6]), ([1, 2, 43, 44, 45], [6])]), (73, [([0, 8, 9, 10], [0]), ([0, 8, 9, 10, 18], [0, 8, 9, 10])]), (78, [([0, 7, 39, 40], [7])]), (80, [([0, 4, 5], [4])]), (86, [([0, 3, 5, 17, 18], [5])])]).getD []
  prim f := PRIM f
noncomputable def cP (n : Nat) (f : FuncId) (ti : Bool) (args : List DV) : Option DV := callP (callG Try.prog ENV n) f ti args
noncomputable def cO (n : Nat) (f : FuncId) (args : List DV) (H : Heap) : Option DV := callO (callG Try.prog ENV n) f args H
noncomputable def cK (n : Nat) (f : FuncId) (args : List DV) (H : Heap) (fl : Nat) : R := callG Try.prog ENV n f args H fl
noncomputable def cVP (n : Nat) (f : DV) (args : List DV) : Option DV := callVP (callG Try.prog ENV n) ENV.md f args
end Go.Proofs.Ytcpgmbpndpcmdaa
namespace Go.Proofs.Ytcpgmbpndpcmdaa
open Go
set_option maxRecDepth 100000
set_option linter.unusedVariables false
noncomputable def s_answer_counted (n : Nat) (H : Heap) (fl : Nat) (a0 : DV) : R :=
  bi (lenD a0) fun d0 =>
  bi (cvK .u8 d0) fun d1 =>
  bi (buildL false 1 1 (I .u8 0) [(0, d1)]) fun d2 =>
  bi (appG 5 false 1 1 d2 a0 H fl) fun p3 =>
  some (p3.1, p3.2)
theorem s_answer_counted_eq (n : Nat) (H : Heap) (fl : Nat) (a0 : DV) : callG Try.prog ENV (n + 1) 36 [a0] H fl = s_answer_counted n H fl a0 := by kernel_rfl
def s_answer_named_I0 (x2 x5 x15 x16 x17 : DV) : List DV := [.any, .any, x2, .any, .any, x5, .any, .any, .any, .any, .any, .any, .any, .any, .any, x15, x16, x17, .any, .any, .any, .any, .any, .any, .any, .any, .any, .any, .any, .any, .any, .any, .any, .any, .any, .any]
def s_answer_named_O0 (x5 : DV) : List DV := [.any, .any, .any, .any, .any, x5, .any, .any, .any, .any, .any, .any, .any, .any, .any, .any, .any, .any, .any, .any, .any, .any, .any, .any, .any, .any, .any, .any, .any, .any, .any, .any, .any, .any, .any, .any]
noncomputable abbrev s_answer_named_b0 (n fl : Nat) : List DV → Heap → (Ex → KF) → R := execG ⟨Try.prog, callG Try.prog ENV n, ENV.md, fl, 36⟩ n (loopAt (bodyOf Try.f39) 0) []
noncomputable def s_answer_named_B0 (n fl : Nat) (rec : DV → DV → DV → DV → DV → Heap → R) (k : Ex → KF) (x2 x5 x15 x16 x17 : DV) (H : Heap) : R :=
  bi (ltK .i64 x17 x16) fun d0 =>
  condR d0 (
  bi (idxSl 1 x15 x17) fun d1 =>
  bi (loadG false 1 d1 H) fun d2 =>
  bi (fieldD 1 1 x2) fun d3 =>
  bi (loadG false 1 d3 H) fun d4 =>
  bi (addK .i64 d4 x17) fun d5 =>
  bi (cvK .u8 d5) fun d6 =>
  bi (buildL false 1 1 (I .u8 0) [(0, d6)]) fun d7 =>
  bi (appG 5 false 1 1 x5 d7 H fl) fun p8 =>
  bi (convD Try.prog 9 39 d2) fun d9 =>
  bi (cP n 36 false [d9]) fun d10 =>
  bi (appG 5 false 1 1 p8.1 d10 p8.2 fl) fun p11 =>
  bi (addK .i64 x17 (I .i64 1)) fun d12 =>
  rec x2 p11.1 x15 x16 d12 p11.2) (
  k (.exit 0) (s_answer_named_O0 x5) H)
noncomputable def s_answer_named_L0 (n fl : Nat) (k : Ex → KF) : Nat → DV → DV → DV → DV → DV → Heap → R
  | 0, _, _, _, _, _, _ => none
  | m + 1, x2, x5, x15, x16, x17, H => s_answer_named_B0 n fl (s_answer_named_L0 n fl k m) k x2 x5 x15 x16 x17 H
theorem s_answer_named_S0 (n fl m : Nat) (k : Ex → KF) (x2 x5 x15 x16 x17 : DV) (H : Heap) : loopG [2, 5, 15, 16, 17] [5] 36 (s_answer_named_b0 n fl) (m + 1) (s_answer_named_I0 x2 x5 x15 x16 x17) H k = s_answer_named_B0 n fl (fun x2 x5 x15 x16 x17 H => loopG [2, 5, 15, 16, 17] [5] 36 (s_answer_named_b0 n fl) m (s_answer_named_I0 x2 x5 x15 x16 x17) H k) k x2 x5 x15 x16 x17 H := by kernel_rfl
theorem s_answer_named_L0_eq (n fl : Nat) (k : Ex → KF) : ∀ (m : Nat) (x2 x5 x15 x16 x17 : DV) (H : Heap), loopG [2, 5, 15, 16, 17] [5] 36 (s_answer_named_b0 n fl) m (s_answer_named_I0 x2 x5 x15 x16 x17) H k = s_answer_named_L0 n fl k m x2 x5 x15 x16 x17 H := by
  intro m
  induction m with
  | zero => intros; rfl
  | succ m ih =>
    intro x2 x5 x15 x16 x17 H
    rw [s_answer_named_S0, show (fun x2 x5 x15 x16 x17 H => loopG [2, 5, 15, 16, 17] [5] 36 (s_answer_named_b0 n fl) m (s_answer_named_I0 x2 x5 x15 x16 x17) H k) = s_answer_named_L0 n fl k m from by funext x2 x5 x15 x16 x17 H; exact ih _ _ _ _ _ _]
    rw [s_answer_named_L0]
noncomputable def s_answer_named (n : Nat) (H : Heap) (fl : Nat) (a0 a1 : DV) : R :=
  bi (allocG 28 a0 (List.length H) (H ++ [.hole])) fun h0 =>
  bi (loadG false 1 (.ptr (List.length H) 2) h0) fun d1 =>
  bi (cvK .u8 d1) fun d2 =>
  bi (lenD a1) fun d3 =>
  bi (cvK .u8 d3) fun d4 =>
  bi (buildL false 1 6 (I .u8 0) [(0, (I .u8 14)), (1, d2), (2, (I .u8 1)), (3, (I .u8 0)), (4, (I .u8 0)), (5, d4)]) fun d5 =>
  bi (lenD a1) fun d6 =>
  loopG [2, 5, 15, 16, 17] [5] 36 (s_answer_named_b0 n fl) n (s_answer_named_I0 (.ptr (List.length H) 0) d5 a1 d6 (I .i64 0)) h0 fun x S7 h7 => match x with
  | .normal => none
  | .exit i7 => (
  if i7 = 0 then (
  some ((S7.getD 5 .any), h7)) else (
  none))
  | .ret => (
  some (.any, h7))
theorem s_answer_named_eq (n : Nat) (H : Heap) (fl : Nat) (a0 a1 : DV) : callG Try.prog ENV (n + 1) 39 [a0, a1] H fl = s_answer_named n H fl a0 a1 := by kernel_rfl
noncomputable def s_answer_Bytes (n : Nat) (H : Heap) (fl : Nat) (a0 a1 : DV) : R :=
  bi (allocG 28 a0 (List.length H) (H ++ [.hole, .hole])) fun h0 =>
  bi (allocG 48 a1 (List.length H + 1) h0) fun h1 =>
  bi (loadG true 8 (.ptr (List.length H) 0) h1) fun d2 =>
  bi (cP n 10 false [d2]) fun d3 =>
  bi (extD 0 d3) fun d4 =>
  bi (extD 1 d3) fun d5 =>
  bi (neK .i64 d5 (I .i64 0)) fun d6 =>
  condR d6 (
  some ((.tup [(.list 0 [] .ti), (I .i64 1)]), h1)) (
   bi (loadG true 8 (.ptr (List.length H) 0) h1) fun d7 =>
   bi (loadG true 4 (.ptr (List.length H + 1) 0) h1) fun d8 =>
   bi (cP n 16 false [d7, d8]) fun d9 =>
   bi (notD d9) fun d10 =>
   condR d10 (
  some ((.tup [(.list 0 [] .ti), (I .i64 2)]), h1)) (
    bi (loadG false 1 (.ptr (List.length H + 1) 0) h1) fun d11 =>
    bi (gtK .i64 d11 (I .i64 0)) fun d12 =>
    condR d12 (
     bi (loadG false 1 (.ptr (List.length H) 0) h1) fun d13 =>
     bi (cvK .u8 d13) fun d14 =>
     bi (orK .u8 d14 (I .u8 128)) fun d15 =>
     bi (loadG false 1 (.ptr (List.length H + 1) 0) h1) fun d16 =>
     bi (cvK .u8 d16) fun d17 =>
     bi (buildL false 1 2 (I .u8 0) [(0, d15), (1, d17)]) fun d18 =>
  some ((.tup [d18, (I .i64 0)]), h1)) (
  bi (loadG false 1 (.ptr (List.length H) 0) h1) fun d19 =>
  bi (cP n 32 false [d19]) fun d20 =>
  bi (extD 0 d20) fun d21 =>
  bi (extD 1 d20) fun d22 =>
  bi (extD 2 d20) fun d23 =>
  bi (slX 1 d4 none (some (I .i64 1)) (some (I .i64 1))) fun d24 =>
  condR d21 (
   bi (loadG false 1 (.ptr (List.length H + 1) 1) h1) fun d25 =>
   bi (cP n 37 false [d25]) fun d26 =>
   bi (cP n 36 false [d26]) fun d27 =>
   bi (appG 5 false 1 1 d24 d27 h1 fl) fun p28 =>
  some ((.tup [p28.1, (I .i64 0)]), p28.2)) (
   condR d22 (
    bi (loadG false 1 (.ptr (List.length H + 1) 2) h1) fun d29 =>
    bi (cP n 38 false [d29]) fun d30 =>
    bi (cP n 36 false [d30]) fun d31 =>
    bi (appG 5 false 1 1 d24 d31 h1 fl) fun p32 =>
  some ((.tup [p32.1, (I .i64 0)]), p32.2)) (
    condR d23 (
     bi (loadG true 8 (.ptr (List.length H) 0) h1) fun d33 =>
     bi (loadG false 1 (.ptr (List.length H + 1) 3) h1) fun d34 =>
     bi (cP n 39 false [d33, d34]) fun d35 =>
     bi (appG 5 false 1 1 d24 d35 h1 fl) fun p36 =>
  some ((.tup [p36.1, (I .i64 0)]), p36.2)) (
  bi (lenD d4) fun d37 =>
  bi (minI (I .i64 5) d37) fun d38 =>
  bi (loadG false 1 (.ptr (List.length H) 0) h1) fun d39 =>
  bi (eqK .i64 d39 (I .i64 22)) fun d40 =>
  bi (lenD d4) fun d41 =>
  bi (subK .i64 d41 (I .i64 5)) fun d42 =>
  bi (cP n 33 false [d40, d42]) fun d43 =>
  bi (addK .i64 d38 d43) fun d44 =>
  bi (slX 1 d4 none (some d44) none) fun d45 =>
  some ((.tup [d45, (I .i64 0)]), h1)))))))
theorem s_answer_Bytes_eq (n : Nat) (H : Heap) (fl : Nat) (a0 a1 : DV) : callG Try.prog ENV (n + 1) 18 [a0, a1] H fl = s_answer_Bytes n H fl a0 a1 := by kernel_rfl
end Go.Proofs.Ytcpgmbpndpcmdaa
namespace Go.Proofs.Ytcpgmbpndpcmdaa
open Go
set_option maxRecDepth 100000
set_option linter.unusedVariables false
noncomputable def s_answer_reads (n : Nat) (H : Heap) (fl : Nat) (a0 : DV) : R :=
  bi (eqK .i64 a0 (I .i64 1)) fun d0 =>
  condR d0 (
  condR d0 (
  some ((.tup [(Bo true), (Bo false), (Bo false)]), H)) (
   bi (eqK .i64 a0 (I .i64 3)) fun d1 =>
   condR d1 (
   condR d1 (
  some ((.tup [(Bo false), (Bo true), (Bo false)]), H)) (
  bi (eqK .i64 a0 (I .i64 43)) fun d2 =>
  some ((.tup [(Bo false), (Bo false), d2]), H))) (
    bi (eqK .i64 a0 (I .i64 4)) fun d3 =>
    condR d3 (
   condR d3 (
  some ((.tup [(Bo false), (Bo true), (Bo false)]), H)) (
  bi (eqK .i64 a0 (I .i64 43)) fun d4 =>
  some ((.tup [(Bo false), (Bo false), d4]), H))) (
     bi (eqK .i64 a0 (I .i64 23)) fun d5 =>
   condR d5 (
  some ((.tup [(Bo false), (Bo true), (Bo false)]), H)) (
  bi (eqK .i64 a0 (I .i64 43)) fun d6 =>
  some ((.tup [(Bo false), (Bo false), d6]), H)))))) (
   bi (eqK .i64 a0 (I .i64 2)) fun d7 =>
  condR d7 (
  some ((.tup [(Bo true), (Bo false), (Bo false)]), H)) (
   bi (eqK .i64 a0 (I .i64 3)) fun d8 =>
   condR d8 (
   condR d8 (
  some ((.tup [(Bo false), (Bo true), (Bo false)]), H)) (
  bi (eqK .i64 a0 (I .i64 43)) fun d9 =>
  some ((.tup [(Bo false), (Bo false), d9]), H))) (
    bi (eqK .i64 a0 (I .i64 4)) fun d10 =>
    condR d10 (
   condR d10 (
  some ((.tup [(Bo false), (Bo true), (Bo false)]), H)) (
  bi (eqK .i64 a0 (I .i64 43)) fun d11 =>
  some ((.tup [(Bo false), (Bo false), d11]), H))) (
     bi (eqK .i64 a0 (I .i64 23)) fun d12 =>
   condR d12 (
  some ((.tup [(Bo false), (Bo true), (Bo false)]), H)) (
  bi (eqK .i64 a0 (I .i64 43)) fun d13 =>
  some ((.tup [(Bo false), (Bo false), d13]), H))))))
theorem s_answer_reads_eq (n : Nat) (H : Heap) (fl : Nat) (a0 : DV) : callG Try.prog ENV (n + 1) 32 [a0] H fl = s_answer_reads n H fl a0 := by kernel_rfl
noncomputable def s_answer_many (n : Nat) (H : Heap) (fl : Nat) (a0 a1 : DV) : R :=
  condR a0 (
  some (a1, H)) (
  some ((I .i64 0), H))
theorem s_answer_many_eq (n : Nat) (H : Heap) (fl : Nat) (a0 a1 : DV) : callG Try.prog ENV (n + 1) 33 [a0, a1] H fl = s_answer_many n H fl a0 a1 := by kernel_rfl
def s_answer_textsFit_I0 (x1 x2 x5 x8 x9 x10 : DV) : List DV := [.any, x1, x2, .any, .any, x5, .any, .any, x8, x9, x10, .any, .any, .any, .any, .any, .any, .any, .any, .any, .any, .any, .any, .any, .any, .any, .any, .any, .any, .any, .any, .any, .any, .any, .any, .any, .any, .any]
def s_answer_textsFit_O0 (x1 x2 x4 : DV) : List DV := [.any, x1, x2, .any, x4, .any, .any, .any, .any, .any, .any, .any, .any, .any, .any, .any, .any, .any, .any, .any, .any, .any, .any, .any, .any, .any, .any, .any, .any, .any, .any, .any, .any, .any, .any, .any, .any, .any]
noncomputable abbrev s_answer_textsFit_b0 (n fl : Nat) : List DV → Heap → (Ex → KF) → R := execG ⟨Try.prog, callG Try.prog ENV n, ENV.md, fl, 38⟩ n (loopAt (bodyOf Try.f34) 0) []
noncomputable def s_answer_textsFit_B0 (n fl : Nat) (rec : DV → DV → DV → DV → DV → DV → Heap → R) (k : Ex → KF) (x1 x2 x5 x8 x9 x10 : DV) (H : Heap) : R :=
  bi (ltK .i64 x10 x9) fun d0 =>
  condR d0 (
  bi (idxSl 1 x8 x10) fun d1 =>
  bi (loadG false 1 d1 H) fun d2 =>
  bi (lenStr d2) fun d3 =>
  bi (addK .i64 (I .i64 2) d3) fun d4 =>
  bi (addK .i64 x5 d4) fun d5 =>
  bi (lenStr d2) fun d6 =>
  bi (gtK .i64 d6 (I .i64 245)) fun d7 =>
  bi (wantF d7 false (some d5)) fun d8 =>
  bi (wantF d7 false (gtK .i64 d8 (I .i64 253))) fun d9 =>
  bi (pickD d7 (Bo true) d9) fun d10 =>
  condR d10 (
  k .ret (s_answer_textsFit_O0 x1 x2 (Bo false)) H) (
  bi (addK .i64 x10 (I .i64 1)) fun d11 =>
  rec x1 x2 d5 x8 x9 d11 H)) (
  k (.exit 0) (s_answer_textsFit_O0 x1 x2 .any) H)
noncomputable def s_answer_textsFit_L0 (n fl : Nat) (k : Ex → KF) : Nat → DV → DV → DV → DV → DV → DV → Heap → R
  | 0, _, _, _, _, _, _, _ => none
  | m + 1, x1, x2, x5, x8, x9, x10, H => s_answer_textsFit_B0 n fl (s_answer_textsFit_L0 n fl k m) k x1 x2 x5 x8 x9 x10 H
theorem s_answer_textsFit_S0 (n fl m : Nat) (k : Ex → KF) (x1 x2 x5 x8 x9 x10 : DV) (H : Heap) : loopG [1, 2, 5, 8, 9, 10] [1, 2, 4] 38 (s_answer_textsFit_b0 n fl) (m + 1) (s_answer_textsFit_I0 x1 x2 x5 x8 x9 x10) H k = s_answer_textsFit_B0 n fl (fun x1 x2 x5 x8 x9 x10 H => loopG [1, 2, 5, 8, 9, 10] [1, 2, 4] 38 (s_answer_textsFit_b0 n fl) m (s_answer_textsFit_I0 x1 x2 x5 x8 x9 x10) H k) k x1 x2 x5 x8 x9 x10 H := by kernel_rfl
theorem s_answer_textsFit_L0_eq (n fl : Nat) (k : Ex → KF) : ∀ (m : Nat) (x1 x2 x5 x8 x9 x10 : DV) (H : Heap), loopG [1, 2, 5, 8, 9, 10] [1, 2, 4] 38 (s_answer_textsFit_b0 n fl) m (s_answer_textsFit_I0 x1 x2 x5 x8 x9 x10) H k = s_answer_textsFit_L0 n fl k m x1 x2 x5 x8 x9 x10 H := by
  intro m
  induction m with
  | zero => intros; rfl
  | succ m ih =>
    intro x1 x2 x5 x8 x9 x10 H
    rw [s_answer_textsFit_S0, show (fun x1 x2 x5 x8 x9 x10 H => loopG [1, 2, 5, 8, 9, 10] [1, 2, 4] 38 (s_answer_textsFit_b0 n fl) m (s_answer_textsFit_I0 x1 x2 x5 x8 x9 x10) H k) = s_answer_textsFit_L0 n fl k m from by funext x1 x2 x5 x8 x9 x10 H; exact ih _ _ _ _ _ _ _]
    rw [s_answer_textsFit_L0]
noncomputable def s_answer_textsFit (n : Nat) (H : Heap) (fl : Nat) (a0 a1 : DV) : R :=
  bi (allocG 28 a0 (List.length H) (H ++ [.hole])) fun h0 =>
  bi (lenD a1) fun d1 =>
  loopG [1, 2, 5, 8, 9, 10] [1, 2, 4] 38 (s_answer_textsFit_b0 n fl) n (s_answer_textsFit_I0 a1 (.ptr (List.length H) 0) (I .i64 7) a1 d1 (I .i64 0)) h0 fun x S2 h2 => match x with
  | .normal => none
  | .exit i2 => (
  if i2 = 0 then (
  bi (lenD (S2.getD 1 .any)) fun d3 =>
  bi (gtK .i64 d3 (I .i64 0)) fun d4 =>
  bi (wantF d4 true (fieldD 1 1 (S2.getD 2 .any))) fun d5 =>
  bi (wantF d4 true (loadG false 1 d5 h2)) fun d6 =>
  bi (wantF d4 true (some (S2.getD 1 .any))) fun d7 =>
  bi (wantF d4 true (lenD d7)) fun d8 =>
  bi (wantF d4 true (addK .i64 d6 d8)) fun d9 =>
  bi (wantF d4 true (leK .i64 d9 (I .i64 256))) fun d10 =>
  bi (pickD d4 d10 (Bo false)) fun d11 =>
  some (d11, h2)) else (
  none))
  | .ret => (
  some ((S2.getD 4 .any), h2))
theorem s_answer_textsFit_eq (n : Nat) (H : Heap) (fl : Nat) (a0 a1 : DV) : callG Try.prog ENV (n + 1) 34 [a0, a1] H fl = s_answer_textsFit n H fl a0 a1 := by kernel_rfl
noncomputable def s_answer_Right (n : Nat) (H : Heap) (fl : Nat) (a0 a1 : DV) : R :=
  bi (allocG 28 a0 (List.length H) (H ++ [.hole, .hole])) fun h0 =>
  bi (allocG 48 a1 (List.length H + 1) h0) fun h1 =>
  bi (loadG true 8 (.ptr (List.length H) 0) h1) fun d2 =>
  bi (cP n 21 false [d2]) fun d3 =>
  bi (notD d3) fun d4 =>
  bi (wantF d4 false (some (.ptr (List.length H + 1) 0))) fun d5 =>
  bi (wantF d4 false (loadG false 1 d5 h1)) fun d6 =>
  bi (wantF d4 false (ltK .i64 d6 (I .i64 0))) fun d7 =>
  bi (pickD d4 (Bo true) d7) fun d8 =>
  bi (wantF d8 false (some (.ptr (List.length H + 1) 0))) fun d9 =>
  bi (wantF d8 false (loadG false 1 d9 h1)) fun d10 =>
  bi (wantF d8 false (gtK .i64 d10 (I .i64 255))) fun d11 =>
  bi (pickD d8 (Bo true) d11) fun d12 =>
  condR d12 (
  some ((Bo false), h1)) (
  bi (loadG false 1 (.ptr (List.length H) 0) h1) fun d13 =>
  bi (cP n 32 false [d13]) fun d14 =>
  bi (extD 0 d14) fun d15 =>
  bi (extD 1 d14) fun d16 =>
  bi (extD 2 d14) fun d17 =>
  bi (loadG false 1 (.ptr (List.length H + 1) 0) h1) fun d18 =>
  bi (eqK .i64 d18 (I .i64 0)) fun d19 =>
  bi (loadG false 1 (.ptr (List.length H + 1) 1) h1) fun d20 =>
  bi (lenD d20) fun d21 =>
  bi (wantF d15 true (some d19)) fun d22 =>
  bi (pickD d15 d22 (Bo false)) fun d23 =>
  bi (loadG false 1 (.ptr (List.length H) 2) h1) fun d24 =>
  bi (cP n 33 false [d23, d24]) fun d25 =>
  bi (neK .i64 d21 d25) fun d26 =>
  bi (wantF d26 false (some (.ptr (List.length H + 1) 2))) fun d27 =>
  bi (wantF d26 false (loadG false 1 d27 h1)) fun d28 =>
  bi (wantF d26 false (lenD d28)) fun d29 =>
  bi (wantF d26 false (some d16)) fun d30 =>
  bi (wantF d26 false (some d30)) fun d31 =>
  bi (wantF d31 true (some d19)) fun d32 =>
  bi (wantF d26 false (pickD d31 d32 (Bo false))) fun d33 =>
  bi (wantF d26 false (some (.ptr (List.length H) 2))) fun d34 =>
  bi (wantF d26 false (loadG false 1 d34 h1)) fun d35 =>
  bi (wantF d26 false (cP n 33 false [d33, d35])) fun d36 =>
  bi (wantF d26 false (neK .i64 d29 d36)) fun d37 =>
  bi (pickD d26 (Bo true) d37) fun d38 =>
  condR d38 (
  some ((Bo false), h1)) (
  bi (wantF d17 true (some d19)) fun d39 =>
  bi (pickD d17 d39 (Bo false)) fun d40 =>
  condR d40 (
   bi (loadG true 8 (.ptr (List.length H) 0) h1) fun d41 =>
   bi (loadG false 1 (.ptr (List.length H + 1) 3) h1) fun d42 =>
   bi (cP n 34 false [d41, d42]) fun d43 =>
  some (d43, h1)) (
  bi (loadG false 1 (.ptr (List.length H + 1) 3) h1) fun d44 =>
  bi (lenD d44) fun d45 =>
  bi (eqK .i64 d45 (I .i64 0)) fun d46 =>
  some (d46, h1))))
theorem s_answer_Right_eq (n : Nat) (H : Heap) (fl : Nat) (a0 a1 : DV) : callG Try.prog ENV (n + 1) 16 [a0, a1] H fl = s_answer_Right n H fl a0 a1 := by kernel_rfl
end Go.Proofs.Ytcpgmbpndpcmdaa
namespace Go.Proofs.Ytcpgmbpndpcmdaa
open Go
set_option maxRecDepth 100000
set_option linter.unusedVariables false
noncomputable def s_triuneref06_Large (n : Nat) (H : Heap) (fl : Nat) (a0 : DV) : R :=
  bi (allocG 37 a0 (List.length H) (H ++ [.hole])) fun h0 =>
  bi (loadG false 1 (.ptr (List.length H) 4) h0) fun d1 =>
  bi (lenD d1) fun d2 =>
  bi (gtK .i64 d2 (I .i64 300)) fun d3 =>
  bi (wantF d3 false (some (.ptr (List.length H) 5))) fun d4 =>
  bi (wantF d3 false (loadG false 1 d4 h0)) fun d5 =>
  bi (wantF d3 false (lenD d5)) fun d6 =>
  bi (wantF d3 false (gtK .i64 d6 (I .i64 3000))) fun d7 =>
  bi (pickD d3 (Bo true) d7) fun d8 =>
  some (d8, h0)
theorem s_triuneref06_Large_eq (n : Nat) (H : Heap) (fl : Nat) (a0 : DV) : callG Try.prog ENV (n + 1) 8 [a0] H fl = s_triuneref06_Large n H fl a0 := by kernel_rfl
end Go.Proofs.Ytcpgmbpndpcmdaa
namespace Go.Proofs.Ytcpgmbpndpcmdaa
open Go
set_option maxRecDepth 100000
set_option linter.unusedVariables false
end Go.Proofs.Ytcpgmbpndpcmdaa
namespace Go.Proofs.Ytcpgmbpndpcmdaa
open Go
set_option linter.unusedSimpArgs false
attribute [simp] bi_some bi_none
def mk0 (_ : Unit) : Bool := true
@[simp] theorem mk0_s : mk0 () = true := by unfold mk0; rfl
@[congr] theorem bi_congr {α β : Type} {x x' : Option α} {u : Bool} (k : α → Option β) (h : Unit → x = x') (_ : Unit → mk0 () = u) : bi x k = bi x' k := by rw [h ()]
@[congr] theorem condR_congr {d d' : DV} {u : Bool} (x y : R) (h : Unit → d = d') (_ : Unit → mk0 () = u) : condR d x y = condR d' x y := by rw [h ()]
@[congr] theorem wantF_congr {d d' : DV} {u : Bool} (w : Bool) (x : Option DV) (h : Unit → d = d') (_ : Unit → mk0 () = u) : wantF d w x = wantF d' w x := by rw [h ()]
@[congr] theorem wantH_congr {d d' : DV} {u : Bool} (w : Bool) (H : Heap) (x : Option (DV × Heap)) (h : Unit → d = d') (_ : Unit → mk0 () = u) : wantH d w H x = wantH d' w H x := by rw [h ()]
@[simp ↓] theorem condR_pos (p : Prop) [Decidable p] (x y : R) (h : p) : condR (.flat (.bool (decide p))) x y = x := by simp [h, condR]
@[simp ↓] theorem condR_neg (p : Prop) [Decidable p] (x y : R) (h : ¬p) : condR (.flat (.bool (decide p))) x y = y := by simp [h, condR]
@[simp ↓] theorem wantF_pos (p : Prop) [Decidable p] (x : Option DV) (h : p) : wantF (.flat (.bool (decide p))) true x = x := by simp [h, wantF, guardD]
@[simp ↓] theorem wantF_neg (p : Prop) [Decidable p] (x : Option DV) (h : ¬p) : wantF (.flat (.bool (decide p))) true x = some (.flat undef) := by simp [h, wantF, guardD]
@[simp ↓] theorem wantF_pos' (p : Prop) [Decidable p] (x : Option DV) (h : p) : wantF (.flat (.bool (decide p))) false x = some (.flat undef) := by simp [h, wantF, guardD]
@[simp ↓] theorem wantF_neg' (p : Prop) [Decidable p] (x : Option DV) (h : ¬p) : wantF (.flat (.bool (decide p))) false x = x := by simp [h, wantF, guardD]
@[simp] theorem pickD_pos (p : Prop) [Decidable p] (x y : DV) (h : p) : pickD (.flat (.bool (decide p))) x y = some x := by simp [pickD, h]
@[simp] theorem pickD_neg (p : Prop) [Decidable p] (x y : DV) (h : ¬p) : pickD (.flat (.bool (decide p))) x y = some y := by simp [pickD, h]
@[simp ↓] theorem wantF_n (p : Prop) [Decidable p] (w : Bool) (x : Option DV) : wantF (.flat (.bool (!decide p))) w x = wantF (.flat (.bool (decide p))) (!w) x := by
  by_cases h : p <;> cases w <;> simp [h, wantF, guardD]
@[simp ↓] theorem condR_n (p : Prop) [Decidable p] (x y : R) : condR (.flat (.bool (!decide p))) x y = condR (.flat (.bool (decide p))) y x := by
  by_cases h : p <;> simp [h, condR]
@[simp ↓] theorem condR_t (x y : R) : condR (.flat (.bool true)) x y = x := rfl
@[simp ↓] theorem condR_f (x y : R) : condR (.flat (.bool false)) x y = y := rfl
@[simp] theorem pickD_t (x y : DV) : pickD (.flat (.bool true)) x y = some x := rfl
@[simp] theorem pickD_f (x y : DV) : pickD (.flat (.bool false)) x y = some y := rfl
@[simp ↓] theorem wantF_tt (x : Option DV) : wantF (.flat (.bool true)) true x = x := rfl
@[simp ↓] theorem wantF_ff (x : Option DV) : wantF (.flat (.bool false)) false x = x := rfl
@[simp ↓] theorem wantF_tf (x : Option DV) : wantF (.flat (.bool true)) false x = some (.flat undef) := rfl
@[simp ↓] theorem wantF_ft (x : Option DV) : wantF (.flat (.bool false)) true x = some (.flat undef) := rfl
@[simp ↓] theorem wantF_u (w : Bool) (x : Option DV) : wantF (.flat undef) w x = some (.flat undef) := rfl
@[simp ↓] theorem wantH_tt (H : Heap) (x : Option (DV × Heap)) : wantH (.flat (.bool true)) true H x = x := rfl
@[simp ↓] theorem wantH_ff (H : Heap) (x : Option (DV × Heap)) : wantH (.flat (.bool false)) false H x = x := rfl
@[simp ↓] theorem wantH_tf (H : Heap) (x : Option (DV × Heap)) : wantH (.flat (.bool true)) false H x = some (.flat undef, H) := rfl
@[simp ↓] theorem wantH_ft (H : Heap) (x : Option (DV × Heap)) : wantH (.flat (.bool false)) true H x = some (.flat undef, H) := rfl
@[simp ↓] theorem wantH_u (w : Bool) (H : Heap) (x : Option (DV × Heap)) : wantH (.flat undef) w H x = some (.flat undef, H) := rfl
@[simp] theorem notD_b (b : Bool) : notD (.flat (.bool b)) = some (.flat (.bool (!b))) := rfl
@[simp] theorem eqB_b (a b : Bool) : eqB (.flat (.bool a)) (.flat (.bool b)) = some (.flat (.bool (a == b))) := rfl
@[simp] theorem neB_b (a b : Bool) : neB (.flat (.bool a)) (.flat (.bool b)) = some (.flat (.bool (a != b))) := rfl
@[simp] theorem addK_i (k : IntKind) (x y : Int) : addK k (.flat (.int k x)) (.flat (.int k y)) = some (.flat (.int k (k.wrap (x + y)))) := by simp [addK, arI]
@[simp] theorem subK_i (k : IntKind) (x y : Int) : subK k (.flat (.int k x)) (.flat (.int k y)) = some (.flat (.int k (k.wrap (x - y)))) := by simp [subK, arI]
@[simp] theorem mulK_i (k : IntKind) (x y : Int) : mulK k (.flat (.int k x)) (.flat (.int k y)) = some (.flat (.int k (k.wrap (x * y)))) := by simp [mulK, arI]
def andI (k : IntKind) (x y : Int) : Int := k.wrap (BitVec.ofInt k.bits x &&& BitVec.ofInt k.bits y).toNat
def orI (k : IntKind) (x y : Int) : Int := k.wrap (BitVec.ofInt k.bits x ||| BitVec.ofInt k.bits y).toNat
def xorI (k : IntKind) (x y : Int) : Int := k.wrap (BitVec.ofInt k.bits x ^^^ BitVec.ofInt k.bits y).toNat
def andNotI (k : IntKind) (x y : Int) : Int := k.wrap (BitVec.ofInt k.bits x &&& ~~~BitVec.ofInt k.bits y).toNat
def shlI (k : IntKind) (x y : Int) : Int := k.wrap (x * 2 ^ (min y.toNat k.bits))
def shrI (k : IntKind) (x y : Int) : Int := x.fdiv (2 ^ (min y.toNat k.bits))
@[simp] theorem andK_i (k : IntKind) (x y : Int) : andK k (.flat (.int k x)) (.flat (.int k y)) = some (.flat (.int k (andI k x y))) := by simp [andK, arI, andI]
@[simp] theorem orK_i (k : IntKind) (x y : Int) : orK k (.flat (.int k x)) (.flat (.int k y)) = some (.flat (.int k (orI k x y))) := by simp [orK, arI, orI]
@[simp] theorem xorK_i (k : IntKind) (x y : Int) : xorK k (.flat (.int k x)) (.flat (.int k y)) = some (.flat (.int k (xorI k x y))) := by simp [xorK, arI, xorI]
@[simp] theorem andNotK_i (k : IntKind) (x y : Int) : andNotK k (.flat (.int k x)) (.flat (.int k y)) = some (.flat (.int k (andNotI k x y))) := by simp [andNotK, arI, andNotI]
@[simp] theorem quoK_i (k : IntKind) (x y : Int) (h : y ≠ 0) : quoK k (.flat (.int k x)) (.flat (.int k y)) = some (.flat (.int k (k.wrap (x.tdiv y)))) := by simp [quoK, divI, h]
@[simp] theorem remK_i (k : IntKind) (x y : Int) (h : y ≠ 0) : remK k (.flat (.int k x)) (.flat (.int k y)) = some (.flat (.int k (x.tmod y))) := by simp [remK, divI, h]
@[simp] theorem shlK_i (k k2 : IntKind) (x y : Int) (h : 0 ≤ y) : shlK k (.flat (.int k x)) (.flat (.int k2 y)) = some (.flat (.int k (shlI k x y))) := by simp [shlK, shI, h, shlI]
@[simp] theorem shrK_i (k k2 : IntKind) (x y : Int) (h : 0 ≤ y) : shrK k (.flat (.int k x)) (.flat (.int k2 y)) = some (.flat (.int k (shrI k x y))) := by simp [shrK, shI, h, shrI]
@[simp] theorem eqK_i (k : IntKind) (x y : Int) : eqK k (.flat (.int k x)) (.flat (.int k y)) = some (.flat (.bool (decide (x = y)))) := by simp [eqK, cmI]; rfl
@[simp] theorem neK_i (k : IntKind) (x y : Int) : neK k (.flat (.int k x)) (.flat (.int k y)) = some (.flat (.bool (decide (¬ x = y)))) := by
  simp only [neK, cmI, and_self, if_true, bne]
  by_cases h : x = y <;> simp [h]
@[simp] theorem ltK_i (k : IntKind) (x y : Int) : ltK k (.flat (.int k x)) (.flat (.int k y)) = some (.flat (.bool (decide (x < y)))) := by simp [ltK, cmI]
@[simp] theorem leK_i (k : IntKind) (x y : Int) : leK k (.flat (.int k x)) (.flat (.int k y)) = some (.flat (.bool (decide (x ≤ y)))) := by simp [leK, cmI]
@[simp] theorem gtK_i (k : IntKind) (x y : Int) : gtK k (.flat (.int k x)) (.flat (.int k y)) = some (.flat (.bool (decide (y < x)))) := by simp [gtK, cmI]
@[simp] theorem geK_i (k : IntKind) (x y : Int) : geK k (.flat (.int k x)) (.flat (.int k y)) = some (.flat (.bool (decide (y ≤ x)))) := by simp [geK, cmI]
@[simp] theorem cvK_i (k k2 : IntKind) (x : Int) : cvK k (.flat (.int k2 x)) = some (.flat (.int k (k.wrap x))) := rfl
@[simp] theorem maxI_i (k : IntKind) (x y : Int) : maxI (.flat (.int k x)) (.flat (.int k y)) = some (.flat (.int k (max x y))) := rfl
@[simp] theorem minI_i (k : IntKind) (x y : Int) : minI (.flat (.int k x)) (.flat (.int k y)) = some (.flat (.int k (min x y))) := rfl
theorem wrap_i64 (x : Int) (h0 : -9223372036854775808 ≤ x) (h1 : x < 9223372036854775808) : IntKind.wrap .i64 x = x := by
  unfold IntKind.wrap
  have hb : (2 : Int) ^ IntKind.i64.bits = 18446744073709551616 := rfl
  have hb2 : (2 : Int) ^ (IntKind.i64.bits - 1) = 9223372036854775808 := rfl
  have hs : IntKind.i64.signed = true := rfl
  simp only [hb, hb2, hs, Bool.true_and, decide_eq_true_eq]
  split <;> omega
theorem wrap_u8 (x : Int) : IntKind.wrap .u8 x = x % 256 := rfl
theorem wrap_u16 (x : Int) : IntKind.wrap .u16 x = x % 65536 := rfl
theorem wrap_u8_id (x : Int) (h0 : 0 ≤ x) (h1 : x < 256) : IntKind.wrap .u8 x = x := by rw [wrap_u8]; omega
theorem wrap_u16_id (x : Int) (h0 : 0 ≤ x) (h1 : x < 65536) : IntKind.wrap .u16 x = x := by rw [wrap_u16]; omega
theorem shrI_w8 (x : Int) : shrI .u16 x 8 = x / 256 := by
  unfold shrI
  have : (2 : Int) ^ min (8 : Int).toNat IntKind.u16.bits = 256 := rfl
  rw [this, Int.fdiv_eq_ediv_of_nonneg _ (by omega)]
theorem tdiv_pos (x y : Int) (h : 0 ≤ x) : x.tdiv y = x / y := Int.tdiv_eq_ediv_of_nonneg h
theorem tmod_pos (x y : Int) (h : 0 ≤ x) : x.tmod y = x % y := Int.tmod_eq_emod_of_nonneg h
@[simp] theorem extD_0 (a : DV) (l : List DV) : extD 0 (.tup (a :: l)) = some a := rfl
@[simp] theorem extD_1 (a b : DV) (l : List DV) : extD 1 (.tup (a :: b :: l)) = some b := rfl
@[simp] theorem extD_2 (a b c : DV) (l : List DV) : extD 2 (.tup (a :: b :: c :: l)) = some c := rfl
def LV {α : Type} (sz : Nat) (enc : α → DV) (l : List α) (t : Tag) : DV := mkl sz (l.map enc) t
theorem LV_nil {α : Type} (sz : Nat) (enc : α → DV) (t : Tag) : DV.list 0 [] t = LV sz enc [] t := rfl
theorem LV_cons {α : Type} (sz : Nat) (enc : α → DV) (a : α) (l : List α) (t : Tag) : LV sz enc (a :: l) t = .list sz (enc a :: l.map enc) t := rfl
@[simp] theorem lenD_LV {α : Type} (sz : Nat) (enc : α → DV) (l : List α) (t : Tag) : lenD (LV sz enc l t) = some (.flat (.int .i64 l.length)) := by
  cases l <;> simp [LV, mkl, lenD]
@[simp] theorem lenD_nil (t : Tag) : lenD (.list 0 [] t) = some (.flat (.int .i64 0)) := rfl
@[simp] theorem LV_cells {α : Type} (sz : Nat) (enc : α → DV) (l : List α) (t : Tag) : (LV sz enc l t).cells = [LV sz enc l t] := by cases l <;> rfl
@[simp] theorem LV_leaf {α : Type} (sz : Nat) (enc : α → DV) (l : List α) (t : Tag) : (LV sz enc l t).leaf = true := by cases l <;> rfl
@[simp] theorem idxSl_LV {α : Type} (sz : Nat) (enc : α → DV) (l : List α) (t : Tag) (k : IntKind) (i : Int) (h0 : 0 ≤ i) (h1 : i.toNat < l.length) :
    idxSl sz (LV sz enc l t) (.flat (.int k i)) = some (.elem (enc (l[i.toNat]'h1)) 0) := by
  cases l with
  | nil => simp at h1
  | cons a l =>
    rw [LV_cons]
    simp only [idxSl, intD, h0, if_true]
    rw [← List.map_cons, List.getElem?_map, List.getElem?_eq_getElem h1]
    rfl
@[simp] theorem loadG_elem (ag : Bool) (sz : Nat) (x : DV) (off : Nat) (H : Heap) : loadG ag sz (.elem x off) H = partD ag sz off x.cells := rfl
@[simp] theorem loadE_elem (ag : Bool) (sz : Nat) (x : DV) (off : Nat) : loadE ag sz (.elem x off) = partD ag sz off x.cells := rfl
@[simp] theorem partD_flat (v : Value) : partD false 1 0 [.flat v] = some (.flat v) := rfl
@[simp] theorem cells_flat (v : Value) : (DV.flat v).cells = [.flat v] := rfl
@[simp] theorem cells_agg (l : List DV) : (DV.agg l).cells = l := rfl
def slT (t : Tag) (full : Bool) : Tag := if full ∧ t = .ti then .ti else .sh
@[simp] theorem slT_sh (b : Bool) : slT .sh b = .sh := by simp [slT]
theorem mkl_drop {α : Type} (sz : Nat) (enc : α → DV) (l : List α) (a b : Nat) (t : Tag) : mkl sz (((l.map enc).take b).drop a) t = LV sz enc ((l.take b).drop a) t := by
  rw [← List.map_take, ← List.map_drop]; rfl
theorem LV_list {α : Type} (sz : Nat) (enc : α → DV) (l : List α) (t : Tag) : ∃ s, LV sz enc l t = .list s (l.map enc) t ∧ ((l.map enc).isEmpty || s == sz) = true := by
  cases l with
  | nil => exact ⟨0, rfl, rfl⟩
  | cons a l => exact ⟨sz, rfl, by simp⟩
theorem slX_gen {α : Type} (sz : Nat) (enc : α → DV) (l : List α) (t : Tag) (lo hi mx : Option DV) (a b m : Option Int) (ha : optD lo = some a) (hb : optD hi = some b) (hm : optD mx = some m) :
    slX sz (LV sz enc l t) lo hi mx = sliceL sz (l.map enc) t a b m := by
  obtain ⟨s, h1, h2⟩ := LV_list sz enc l t
  simp only [slX, ha, hb, hm, h1, sliceSl, h2, if_true]
@[simp] theorem slX_ab {α : Type} (sz : Nat) (enc : α → DV) (l : List α) (t : Tag) (k1 k2 : IntKind) (a b : Int) (h0 : 0 ≤ a) (h1 : a ≤ b) (h2 : b ≤ l.length) :
    slX sz (LV sz enc l t) (some (.flat (.int k1 a))) (some (.flat (.int k2 b))) none = some (LV sz enc ((l.take b.toNat).drop a.toNat) (slT t (b.toNat == l.length))) := by
  rw [slX_gen sz enc l t _ _ _ (some a) (some b) none rfl rfl rfl]
  simp only [sliceL, boundsD, List.length_map, Option.getD_some, Option.getD_none, h0, h1, h2, Option.isNone_none, true_or, or_true, and_true, true_and, Int.le_refl, if_true, Option.isSome_none, Bool.false_eq_true, false_and, if_false]
  rw [mkl_drop]
  simp only [slT, beq_iff_eq]
@[simp] theorem slX_a {α : Type} (sz : Nat) (enc : α → DV) (l : List α) (t : Tag) (k1 : IntKind) (a : Int) (h0 : 0 ≤ a) (h1 : a ≤ l.length) :
    slX sz (LV sz enc l t) (some (.flat (.int k1 a))) none none = some (LV sz enc (l.drop a.toNat) (slT t true)) := by
  rw [slX_gen sz enc l t _ _ _ (some a) none none rfl rfl rfl]
  simp only [sliceL, boundsD, List.length_map, Option.getD_some, Option.getD_none, h0, h1, Option.isNone_none, true_or, or_true, and_true, true_and, Int.le_refl, if_true, Option.isSome_none, Bool.false_eq_true, false_and, if_false, Int.toNat_natCast]
  rw [mkl_drop, List.take_length]
  simp only [slT, true_and]
@[simp] theorem slX_b {α : Type} (sz : Nat) (enc : α → DV) (l : List α) (t : Tag) (k2 : IntKind) (b : Int) (h1 : 0 ≤ b) (h2 : b ≤ l.length) :
    slX sz (LV sz enc l t) none (some (.flat (.int k2 b))) none = some (LV sz enc (l.take b.toNat) (slT t (b.toNat == l.length))) := by
  rw [slX_gen sz enc l t _ _ _ none (some b) none rfl rfl rfl]
  simp only [sliceL, boundsD, List.length_map, Option.getD_some, Option.getD_none, h1, h2, Option.isNone_none, true_or, or_true, and_true, true_and, Int.le_refl, if_true, Option.isSome_none, Bool.false_eq_true, false_and, if_false]
  rw [mkl_drop]
  simp only [slT, beq_iff_eq, Int.toNat_zero, List.drop_zero]
@[simp] theorem slX_bm {α : Type} (sz : Nat) (enc : α → DV) (l : List α) (t : Tag) (k2 k3 : IntKind) (b : Int) (h1 : 0 ≤ b) (h2 : b ≤ l.length) :
    slX sz (LV sz enc l t) none (some (.flat (.int k2 b))) (some (.flat (.int k3 b))) = some (LV sz enc (l.take b.toNat) .ti) := by
  rw [slX_gen sz enc l t _ _ _ none (some b) (some b) rfl rfl rfl]
  simp only [sliceL, boundsD, List.length_map, Option.getD_some, Option.getD_none, h1, h2, or_true, and_true, true_and, Int.le_refl, if_true, Option.isSome_some]
  rw [mkl_drop]
  simp only [Int.toNat_zero, List.drop_zero]
theorem appG_ti {α : Type} {e : TypeId} {ag : Bool} {sz by_ : Nat} {enc : α → DV} {xs ys : List α} {t' : Tag} {H : Heap} {fl : Nat} (hne : ys ≠ []) (hc : chunkOk ag sz 0 = true) (hb : (xs.length + ys.length) * by_ ≤ 140737488355328) (hb2 : xs.length + ys.length ≤ 140737488355328) :
    appG e ag sz by_ (LV sz enc xs .ti) (LV sz enc ys t') H fl = some (LV sz enc (xs ++ ys) (.own H.length), H ++ [.token e sz (xs.length + ys.length)]) := by
  obtain ⟨s1, h1, g1⟩ := LV_list sz enc xs .ti
  obtain ⟨s2, h2, g2⟩ := LV_list sz enc ys t'
  have hl : ∀ k, LV sz enc (xs ++ ys) (.own k) = .list sz (xs.map enc ++ ys.map enc) (.own k) := by
    intro k
    cases xs with
    | nil => cases ys with
      | nil => exact absurd rfl hne
      | cons y ys => rfl
    | cons x xs => simp [LV, mkl]
  rw [hl, h1, h2]
  unfold appG appendD srcD
  simp only [g2, if_true]
  cases ys with
  | nil => exact absurd rfl hne
  | cons y ys =>
    have g3 : ¬xs = [] → s1 = sz := by
      intro h
      have : xs.isEmpty = false := by cases xs <;> simp_all
      simpa [this] using g1
    simp only [List.map_cons, List.length_map, List.length_cons] at *
    simp [hc, hb, hb2, effH, Eff.heap]
    exact g3
@[simp] theorem leaf_int (k : IntKind) (x : Int) : (DV.flat (.int k x)).leaf = true := rfl
@[simp] theorem leaf_bool (b : Bool) : (DV.flat (.bool b)).leaf = true := rfl
@[simp] theorem leaf_string (b : ByteArray) : (DV.flat (.string b)).leaf = true := rfl
@[simp] theorem leaf_ptr (k o : Nat) : (DV.ptr k o).leaf = true := rfl
@[simp] theorem leaf_list (sz : Nat) (l : List DV) (t : Tag) : (DV.list sz l t).leaf = true := rfl
@[simp] theorem leaf_nilp : (DV.flat (.pointer none)).leaf = true := rfl
@[simp] theorem cells_list (sz : Nat) (l : List DV) (t : Tag) : (DV.list sz l t).cells = [.list sz l t] := rfl
@[simp] theorem cells_ptr (k o : Nat) : (DV.ptr k o).cells = [.ptr k o] := rfl
@[simp] theorem loadG_ptr (ag : Bool) (sz k off : Nat) (H : Heap) : loadG ag sz (.ptr k off) H = match H[k]? with | some (.cells _ cs) => partD ag sz off cs | _ => none := rfl
@[simp] theorem partD_t (sz off : Nat) (cs : List DV) : partD true sz off cs = if off + sz ≤ cs.length then some (.agg ((cs.drop off).take sz)) else none := rfl
@[simp] theorem partD_f (sz off : Nat) (cs : List DV) : partD false sz off cs = cs[off]? := rfl
@[simp] theorem allocG_s (e : TypeId) (d : DV) (nid : Nat) (H : Heap) (h : d.cells.all DV.leaf = true) : allocG e d nid H = some (H.set nid (.cells e d.cells)) := by unfold allocG; rw [if_pos h]
@[simp] theorem storeG_s (sz k off : Nat) (d : DV) (H : Heap) (fl : Nat) (h : fl ≤ k) : storeG sz (.ptr k off) d H fl = match H[k]? with
    | some (.cells e cs) => if d.cells.length = sz ∧ off + sz ≤ cs.length ∧ d.cells.all DV.leaf = true then some (H.set k (.cells e (splice off d.cells cs))) else none
    | _ => none := by
  unfold storeG
  simp only [h, true_and]
  rfl
@[simp] theorem buildA_s (zero : DV) (size : Nat) (parts : List (Nat × DV)) : buildA zero size parts = (fillD (fun i => some (i * size, size)) zero.cells parts).map .agg := by unfold buildA; rfl
@[simp] theorem buildS_s (zero : DV) (pl : List (Nat × Nat)) (parts : List (Nat × DV)) : buildS zero pl parts = (fillD (pl[·]?) zero.cells parts).map .agg := by unfold buildS; rfl
@[simp] theorem fillD_n (place : Nat → Option (Nat × Nat)) (cells : List DV) : fillD place cells [] = some cells := by unfold fillD; rfl
@[simp] theorem fillD_c (place : Nat → Option (Nat × Nat)) (cells : List DV) (i : Nat) (d : DV) (rest : List (Nat × DV)) :
    fillD place cells ((i, d) :: rest) = match place i with
      | none => none
      | some (off, size) => if d.cells.length ≠ size ∨ off + d.cells.length > cells.length ∨ d.cells.all DV.leaf = false then none else fillD place (splice off d.cells cells) rest := by
  rw [fillD]
  rfl
@[simp] theorem splice_s (off : Nat) (new old : List DV) : splice off new old = old.take off ++ new ++ old.drop (off + new.length) := by unfold splice; rfl
@[simp] theorem buildL_i1 (k : IntKind) (x a : Int) : buildL false 1 1 (.flat (.int k x)) [(0, .flat (.int k a))] = some (LV 1 (I k) [a] .ti) := rfl
@[simp] theorem mapO_nil {α β : Type} (f : α → Option β) : mapO f [] = some [] := rfl
@[simp] theorem mapO_cons {α β : Type} (f : α → Option β) (x : α) (l : List α) : mapO f (x :: l) = bi (f x) fun y => bi (mapO f l) fun r => some (y :: r) := by
  simp only [mapO, bi]
  cases f x with
  | none => rfl
  | some y => dsimp only; cases mapO f l <;> rfl
@[simp] theorem outLeaf_LV {α : Type} (ti : Bool) (H : Heap) (sz : Nat) (enc : α → DV) (l : List α) (t : Tag) : outLeaf ti H (LV sz enc l t) = some (LV sz enc l (shTag ti t)) := by cases l <;> rfl
@[simp] theorem outEl_LV {α : Type} (ti : Bool) (H : Heap) (sz : Nat) (enc : α → DV) (l : List α) (t : Tag) : outEl ti H (LV sz enc l t) = some (LV sz enc l (shTag ti t)) := by cases l <;> rfl
@[simp] theorem outD_LV {α : Type} (ti : Bool) (H : Heap) (sz : Nat) (enc : α → DV) (l : List α) (t : Tag) : outD ti H (LV sz enc l t) = some (LV sz enc l (shTag ti t)) := by cases l <;> rfl
@[simp] theorem outEl_nil (ti : Bool) (H : Heap) (t : Tag) : outEl ti H (.list 0 [] t) = some (.list 0 [] (shTag ti t)) := rfl
@[simp] theorem outLeaf_nil (ti : Bool) (H : Heap) (t : Tag) : outLeaf ti H (.list 0 [] t) = some (.list 0 [] (shTag ti t)) := rfl
@[simp] theorem outD_nil (ti : Bool) (H : Heap) (t : Tag) : outD ti H (.list 0 [] t) = some (.list 0 [] (shTag ti t)) := rfl
@[simp] theorem outLeaf_i (ti : Bool) (H : Heap) (k : IntKind) (x : Int) : outLeaf ti H (.flat (.int k x)) = some (.flat (.int k x)) := rfl
@[simp] theorem outLeaf_b (ti : Bool) (H : Heap) (b : Bool) : outLeaf ti H (.flat (.bool b)) = some (.flat (.bool b)) := rfl
@[simp] theorem outLeaf_s (ti : Bool) (H : Heap) (s : ByteArray) : outLeaf ti H (.flat (.string s)) = some (.flat (.string s)) := rfl
@[simp] theorem outEl_flat (ti : Bool) (H : Heap) (v : Value) : outEl ti H (.flat v) = some (.flat v) := rfl
@[simp] theorem outEl_agg (ti : Bool) (H : Heap) (cs : List DV) : outEl ti H (.agg cs) = (mapO (outLeaf ti H) cs).map .agg := rfl
@[simp] theorem outD_tup (ti : Bool) (H : Heap) (cs : List DV) : outD ti H (.tup cs) = (mapO (outEl ti H) cs).map .tup := rfl
@[simp] theorem outD_agg (ti : Bool) (H : Heap) (cs : List DV) : outD ti H (.agg cs) = (mapO (outLeaf ti H) cs).map .agg := rfl
@[simp] theorem outD_flat (ti : Bool) (H : Heap) (v : Value) : outD ti H (.flat v) = some (.flat v) := rfl
@[simp] theorem shTag_sh (ti : Bool) : shTag ti .sh = .sh := by cases ti <;> rfl
@[simp] theorem shTag_f (t : Tag) : shTag false t = .sh := by cases t <;> rfl
@[simp] theorem shTag_ti : shTag true .ti = .ti := rfl
@[simp] theorem shTag_own (ti : Bool) (k : Nat) : shTag ti (.own k) = .sh := by cases ti <;> rfl
theorem argEl_eq (d : DV) : argEl d = outEl false [] d := rfl
theorem cP_of {n f : Nat} {ti : Bool} {args args' : List DV} {H' : Heap} {r r' : DV} (h1 : mapO argEl args = some args') (h2 : callG Try.prog ENV n f args' [] 0 = some (r, H')) (h3 : outD ti H' r = some r') : cP n f ti args = some r' := by
  unfold cP callP
  rw [h1, bi_some, h2, bi_some]
  exact h3
@[simp] theorem cellR_ptr (ag : Bool) (sz k off : Nat) (H : Heap) : cellR ag sz (.ptr k off) H = loadG ag sz (.ptr k off) H := rfl
@[simp] theorem get_0 {α : Type} (a : α) (l : List α) : (a :: l)[0]? = some a := rfl
@[simp] theorem get_1 {α : Type} (a b : α) (l : List α) : (a :: b :: l)[1]? = some b := rfl
@[simp] theorem get_2 {α : Type} (a b c : α) (l : List α) : (a :: b :: c :: l)[2]? = some c := rfl
@[simp] theorem get_3 {α : Type} (a b c d : α) (l : List α) : (a :: b :: c :: d :: l)[3]? = some d := rfl
def TgOk (t : Tag) (e : TypeId) (sz fl n : Nat) (H : Heap) : Prop := t = .ti ∨ ∃ k, t = .own k ∧ H[k]? = some (.token e sz n) ∧ fl ≤ k
def HExt (H H' : Heap) : Prop := H.length ≤ H'.length ∧ ∀ (j : Nat) (b : DBlk), H[j]? = some b → (∀ e s n, b ≠ .token e s n) → H'[j]? = some b
theorem HExt.refl (H : Heap) : HExt H H := ⟨Nat.le_refl _, fun _ _ h _ => h⟩
theorem HExt.trans {H1 H2 H3 : Heap} (h : HExt H1 H2) (k : HExt H2 H3) : HExt H1 H3 := ⟨Nat.le_trans h.1 k.1, fun j b hb hn => k.2 j b (h.2 j b hb hn) hn⟩
theorem HExt.app (H X : Heap) : HExt H (H ++ X) := ⟨by simp, fun j b hb _ => by
  have : j < H.length := by rcases Nat.lt_or_ge j H.length with h | h; exact h; rw [List.getElem?_eq_none h] at hb; cases hb
  rw [List.getElem?_append_left this]; exact hb⟩
theorem appG_ok {α : Type} {e : TypeId} {ag : Bool} {sz by_ : Nat} {enc : α → DV} {xs ys : List α} {t t' : Tag} {H : Heap} {fl : Nat} (ht : TgOk t e sz fl xs.length H) (hfl : fl ≤ H.length) (hne : ys ≠ []) (hc : chunkOk ag sz 0 = true) (hb : (xs.length + ys.length) * by_ ≤ 140737488355328) (hb2 : xs.length + ys.length ≤ 140737488355328) :
    ∃ t2 H', appG e ag sz by_ (LV sz enc xs t) (LV sz enc ys t') H fl = some (LV sz enc (xs ++ ys) t2, H') ∧ TgOk t2 e sz fl (xs ++ ys).length H' ∧ HExt H H' ∧ fl ≤ H'.length := by
  rcases ht with rfl | ⟨k, rfl, hk, hkf⟩
  · refine ⟨_, _, appG_ti hne hc hb hb2, .inr ⟨_, rfl, by simp, hfl⟩, HExt.app _ _, by simp; omega⟩
  · have hkl : k < H.length := by rcases Nat.lt_or_ge k H.length with h | h; exact h; rw [List.getElem?_eq_none h] at hk; cases hk
    have hl : ∀ k, LV sz enc (xs ++ ys) (.own k) = .list sz (xs.map enc ++ ys.map enc) (.own k) := by
      intro k
      cases xs with
      | nil => cases ys with
        | nil => exact absurd rfl hne
        | cons y ys => rfl
      | cons x xs => simp [LV, mkl]
    refine ⟨.own k, H.set k (.token e sz (xs ++ ys).length), ?_, .inr ⟨k, rfl, by rw [List.getElem?_set]; simp [hkl], hkf⟩, ⟨by simp, fun j b hb hn => ?_⟩, by simpa using hfl⟩
    · obtain ⟨s1, h1, g1⟩ := LV_list sz enc xs (.own k)
      obtain ⟨s2, h2, g2⟩ := LV_list sz enc ys t'
      rw [hl, h1, h2]
      unfold appG appendD srcD
      simp only [g2, if_true]
      cases ys with
      | nil => exact absurd rfl hne
      | cons y ys =>
        have g3 : ¬xs = [] → s1 = sz := by
          intro h
          have : xs.isEmpty = false := by cases xs <;> simp_all
          simpa [this] using g1
        simp only [List.map_cons, List.length_map, List.length_cons] at *
        simp [hc, hb, hb2, effH, Eff.heap, hk, hkf]
        exact g3
    · rw [List.getElem?_set, if_neg]
      · exact hb
      · intro e; subst e
        rw [hk] at hb; cases hb
        exact hn _ _ _ rfl
theorem flat_one {α : Type} (n : Nat) (a : α) : (List.replicate n [a]).flatten = List.replicate n a := by
  induction n with
  | zero => rfl
  | succ n ih => rw [List.replicate_succ, List.flatten_cons, ih]; rfl
@[simp] theorem makeG_i (by_ : Nat) (e : TypeId) (k k1 : IntKind) (z n : Int) (nid : Nat) (H : Heap) (h0 : 0 ≤ n) (h1 : n ≤ 100000) (hb : by_ ≤ 8) :
    makeG false 1 by_ e (.flat (.int k z)) (.flat (.int k1 n)) (.flat (.int k1 n)) nid H = some (.row false 1 nid 0 n.toNat n.toNat, H.set nid (.cells e ((List.replicate n.toNat z).map (I k)))) := by
  have hm : n * (by_ : Int) ≤ 140737488355328 := by
    have : n * (by_ : Int) ≤ 100000 * 8 := by
      refine Int.mul_le_mul h1 (by omega) (by omega) (by omega)
    omega
  unfold makeG makeD
  simp [intD, h0, hm, show n ≤ 140737488355328 by omega, effH, Eff.heap, flat_one]
@[simp] theorem saX_all (ag : Bool) (n sz k off : Nat) : saX ag n sz (.ptr k off) none none none = some (.row ag sz k off n n) := by
  simp only [saX, optD, sliceAr, boundsD, Option.getD_none, Int.le_refl, Option.isNone_none, true_or, and_self, true_and, and_true, if_true, Int.toNat_natCast, Int.toNat_zero]
  simp
@[simp] theorem slX_row_a (ag : Bool) (sz k off n c : Nat) (k1 : IntKind) (a : Int) (h0 : 0 ≤ a) (h1 : a ≤ n) (h2 : n ≤ c) (h3 : a < c) :
    slX sz (.row ag sz k off n c) (some (.flat (.int k1 a))) none none = some (.row ag sz k (off + a.toNat * sz) (n - a.toNat) (c - a.toNat)) := by
  have h4 : (n : Int) ≤ c := by omega
  have h5 : ¬ c = a.toNat := by omega
  simp only [slX, optD, intD, Option.map_some, sliceSl, boundsD, Option.getD_none, Option.getD_some, h0, h1, h4, Int.le_refl, Option.isNone_none, true_or, and_self, true_and, and_true, if_true, Int.toNat_natCast]
  simp [h5, Nat.not_lt.mpr h2]
@[simp] theorem idxSl_row (ag : Bool) (sz k off n c : Nat) (k1 : IntKind) (i : Int) (h0 : 0 ≤ i) (h1 : i < n) : idxSl sz (.row ag sz k off n c) (.flat (.int k1 i)) = some (.ptr k (off + i.toNat * sz)) := by
  simp [idxSl, intD, h0, h1]
end Go.Proofs.Ytcpgmbpndpcmdaa
namespace Go.Proofs.Ytcpgmbpndpcmdaa
open Go
@[simp] theorem hp_get_left (H X : Heap) (k : Nat) (h : k < H.length) : (H ++ X)[k]? = H[k]? := List.getElem?_append_left h
@[simp] theorem hp_get_0 (H X : Heap) (a : DBlk) (n : Nat) (h : n = H.length) : (H ++ a :: X)[n]? = some a := by subst h; simp
@[simp] theorem hp_get_1 (H X : Heap) (a b : DBlk) (n : Nat) (h : n = H.length + 1) : (H ++ a :: b :: X)[n]? = some b := by
  subst h; rw [List.getElem?_append_right (by omega)]; simp
@[simp] theorem hp_get_2 (H X : Heap) (a b c : DBlk) (n : Nat) (h : n = H.length + 2) : (H ++ a :: b :: c :: X)[n]? = some c := by
  subst h; rw [List.getElem?_append_right (by omega)]; simp
@[simp] theorem hp_get_3 (H X : Heap) (a b c d : DBlk) (n : Nat) (h : n = H.length + 3) : (H ++ a :: b :: c :: d :: X)[n]? = some d := by
  subst h; rw [List.getElem?_append_right (by omega)]; simp
@[simp] theorem hp_set_left (H X : Heap) (k : Nat) (y : DBlk) (h : k < H.length) : (H ++ X).set k y = H.set k y ++ X := by
  rw [List.set_append_left _ _ h]
@[simp] theorem hp_set_0 (H X : Heap) (a y : DBlk) (n : Nat) (h : n = H.length) : (H ++ a :: X).set n y = H ++ y :: X := by subst h; rw [List.set_append_right _ _ (by omega)]; simp
@[simp] theorem hp_set_1 (H X : Heap) (a b y : DBlk) (n : Nat) (h : n = H.length + 1) : (H ++ a :: b :: X).set n y = H ++ a :: y :: X := by
  subst h; rw [List.set_append_right _ _ (by omega), Nat.add_sub_cancel_left]; rfl
@[simp] theorem hp_set_2 (H X : Heap) (a b c y : DBlk) (n : Nat) (h : n = H.length + 2) : (H ++ a :: b :: c :: X).set n y = H ++ a :: b :: y :: X := by
  subst h; rw [List.set_append_right _ _ (by omega), Nat.add_sub_cancel_left]; rfl
@[simp] theorem hp_set_3 (H X : Heap) (a b c d y : DBlk) (n : Nat) (h : n = H.length + 3) : (H ++ a :: b :: c :: d :: X).set n y = H ++ a :: b :: c :: y :: X := by
  subst h; rw [List.set_append_right _ _ (by omega), Nat.add_sub_cancel_left]; rfl
@[simp] theorem hp_set_get (H : Heap) (k : Nat) (y : DBlk) (h : k < H.length) : (H.set k y)[k]? = some y := by simp [h]
@[simp] theorem hp_set_ne (H : Heap) (k j : Nat) (y : DBlk) (h : j ≠ k) : (H.set k y)[j]? = H[j]? := by rw [List.getElem?_set, if_neg (fun e => h e.symm)]
theorem hp_lt {H : Heap} {k : Nat} {b : DBlk} (h : H[k]? = some b) : k < H.length := by
  rcases Nat.lt_or_ge k H.length with h' | h'
  · exact h'
  · rw [List.getElem?_eq_none h'] at h; cases h
@[simp] theorem nilD_ptr (k o : Nat) : nilD (.ptr k o) = some (.ptr k o) := rfl
@[simp] theorem fieldD_ptr (fo sz k o : Nat) (h : sz ≠ 0) : fieldD fo sz (.ptr k o) = some (.ptr k (o + fo)) := by simp [fieldD, h]
@[simp] theorem fieldD_elem (fo sz o : Nat) (x : DV) (h : sz ≠ 0) : fieldD fo sz (.elem x o) = some (.elem x (o + fo)) := by simp [fieldD, h]
def WfB (n : Nat) : DBlk → Prop
  | .cells _ cs => ∀ d ∈ cs, (d.leaf && inSc n d) = true
  | _ => True
def WfH (H : Heap) : Prop := ∀ b ∈ H, WfB H.length b
@[simp] theorem inSc_LV_sh {α : Type} (n sz : Nat) (enc : α → DV) (l : List α) : inSc n (LV sz enc l .sh) = true := by cases l <;> rfl
@[simp] theorem inSc_LV_ti {α : Type} (n sz : Nat) (enc : α → DV) (l : List α) : inSc n (LV sz enc l .ti) = true := by cases l <;> rfl
@[simp] theorem inSc_flat (n : Nat) (v : Value) : inSc n (.flat v) = true := rfl
@[simp] theorem inSc_ptr (n k o : Nat) : inSc n (.ptr k o) = decide (k < n) := rfl
@[simp] theorem inSc_nil (n : Nat) : inSc n (.list 0 [] .sh) = true := rfl
@[simp] theorem inSc_nilt (n : Nat) : inSc n (.list 0 [] .ti) = true := rfl
mutual
theorem inSc_mono {n m : Nat} (h : n ≤ m) : ∀ d : DV, inSc n d = true → inSc m d = true
  | .any, _ => rfl
  | .flat _, _ => rfl
  | .agg cs, k => by simp only [inSc] at k ⊢; exact inScL_mono h cs k
  | .tup cs, k => by simp only [inSc] at k ⊢; exact inScL_mono h cs k
  | .list _ _ t, k => by
    cases t with
    | own j => simp only [inSc, decide_eq_true_eq] at k ⊢; omega
    | _ => rfl
  | .ptr j _, k => by simp only [inSc, decide_eq_true_eq] at k ⊢; omega
  | .row _ _ j _ _ _, k => by simp only [inSc, decide_eq_true_eq] at k ⊢; omega
  | .elem _ _, _ => rfl
  | .clo _ f c, k => by simp only [inSc, Bool.and_eq_true] at k ⊢; exact ⟨inScL_mono h f k.1, inScL_mono h c k.2⟩
  | .iface _ d, k => by simp only [inSc] at k ⊢; exact inSc_mono h d k
theorem inScL_mono {n m : Nat} (h : n ≤ m) : ∀ l : List DV, inScL n l = true → inScL m l = true
  | [], _ => rfl
  | d :: l, k => by simp only [inScL, Bool.and_eq_true] at k ⊢; exact ⟨inSc_mono h d k.1, inScL_mono h l k.2⟩
end
theorem WfB.mono {n m : Nat} (h : n ≤ m) {b : DBlk} (k : WfB n b) : WfB m b := by
  cases b with
  | cells e cs =>
    intro d hd
    have := k d hd
    simp only [Bool.and_eq_true] at this ⊢
    exact ⟨this.1, inSc_mono h d this.2⟩
  | _ => trivial
theorem WfH.app {H X : Heap} (h : WfH H) (hx : ∀ b ∈ X, WfB (H ++ X).length b) : WfH (H ++ X) := fun b hb => by
  rcases List.mem_append.mp hb with hb | hb
  · exact (h b hb).mono (by simp)
  · exact hx b hb
theorem WfH.set {H : Heap} (h : WfH H) (k : Nat) {b : DBlk} (hb : WfB H.length b) : WfH (H.set k b) := fun c hc => by
  rw [List.length_set]
  rcases List.mem_or_eq_of_mem_set hc with hc | rfl
  · exact h c hc
  · exact hb
theorem mapO_id {α : Type} (f : α → Option α) : ∀ (l : List α), (∀ x ∈ l, f x = some x) → mapO f l = some l
  | [], _ => rfl
  | x :: l, h => by rw [mapO_cons, h x (by simp), mapO_id f l (fun y hy => h y (by simp [hy]))]; rfl
theorem mapO_set {α : Type} (f : α → Option α) : ∀ (l : List α) (k : Nat) (b c : α), (∀ x ∈ l, f x = some x) → f b = some c → mapO f (l.set k b) = some (l.set k c)
  | [], _, _, _, _, _ => rfl
  | x :: l, 0, b, c, h, hb => by rw [List.set_cons_zero, mapO_cons, hb, mapO_id f l (fun y hy => h y (by simp [hy]))]; rfl
  | x :: l, k + 1, b, c, h, hb => by rw [List.set_cons_succ, mapO_cons, h x (by simp), mapO_set f l k b c (fun y hy => h y (by simp [hy])) hb]; rfl
theorem oldBlk_wf {n : Nat} {H' : Heap} {b : DBlk} (h : WfB n b) : oldBlk n H' b = some b := by
  cases b with
  | cells e cs =>
    show (mapO (oldLeaf n H') cs).map (DBlk.cells e) = _
    rw [mapO_id _ cs fun d hd => by
      have := h d hd
      unfold oldLeaf
      rw [if_pos this]]
    rfl
  | _ => rfl
theorem cutH_set {H H' : Heap} (h : WfH H) {k : Nat} {b c : DBlk} (hk : k < H.length) (hb : H'[k]? = some b) (hj : ∀ j, j < H.length → j ≠ k → H'[j]? = H[j]?) (hc : oldBlk H.length H' b = some c) : cutH H.length H' = some (H.set k c) := by
  have e : H'.take H.length = H.set k b := by
    apply List.ext_getElem?
    intro j
    rw [List.getElem?_take]
    by_cases hjn : j < H.length
    · rw [if_pos hjn]
      by_cases hjk : j = k
      · subst hjk; rw [hb, List.getElem?_set_self hjn]
      · rw [hj j hjn hjk, List.getElem?_set_ne (fun e => hjk e.symm)]
    · rw [if_neg hjn, List.getElem?_eq_none (by simp; omega)]
  unfold cutH
  rw [e]
  exact mapO_set _ H k b c (fun x hx => oldBlk_wf (h x hx)) hc
theorem cO_of {n f : Nat} {args : List DV} {H H' : Heap} {r r' : DV} (h1 : callG Try.prog ENV n f args H H.length = some (r, H')) (h2 : oldD H.length H' r = some r') : cO n f args H = some r' := by
  unfold cO callO
  rw [h1, bi_some, h2]
@[simp] theorem oldLeaf_sh {α : Type} (n : Nat) (H : Heap) (sz : Nat) (enc : α → DV) (l : List α) : oldLeaf n H (LV sz enc l .sh) = some (LV sz enc l .sh) := by cases l <;> rfl
@[simp] theorem oldLeaf_ti {α : Type} (n : Nat) (H : Heap) (sz : Nat) (enc : α → DV) (l : List α) : oldLeaf n H (LV sz enc l .ti) = some (LV sz enc l .ti) := by cases l <;> rfl
@[simp] theorem oldLeaf_i (n : Nat) (H : Heap) (k : IntKind) (x : Int) : oldLeaf n H (.flat (.int k x)) = some (.flat (.int k x)) := rfl
@[simp] theorem oldLeaf_b (n : Nat) (H : Heap) (b : Bool) : oldLeaf n H (.flat (.bool b)) = some (.flat (.bool b)) := rfl
@[simp] theorem oldLeaf_nil (n : Nat) (H : Heap) : oldLeaf n H (.list 0 [] .ti) = some (.list 0 [] .ti) := rfl
@[simp] theorem oldLeaf_nils (n : Nat) (H : Heap) : oldLeaf n H (.list 0 [] .sh) = some (.list 0 [] .sh) := rfl
@[simp] theorem oldEl_agg (n : Nat) (H : Heap) (cs : List DV) : oldEl n H (.agg cs) = (mapO (oldLeaf n H) cs).map .agg := rfl
@[simp] theorem oldEl_flat (n : Nat) (H : Heap) (v : Value) : oldEl n H (.flat v) = some (.flat v) := rfl
@[simp] theorem oldEl_LV {α : Type} (n : Nat) (H : Heap) (sz : Nat) (enc : α → DV) (l : List α) (t : Tag) : oldEl n H (LV sz enc l t) = oldLeaf n H (LV sz enc l t) := by cases l <;> rfl
@[simp] theorem oldEl_nil (n : Nat) (H : Heap) (t : Tag) : oldEl n H (.list 0 [] t) = oldLeaf n H (.list 0 [] t) := rfl
@[simp] theorem oldD_tup (n : Nat) (H : Heap) (cs : List DV) : oldD n H (.tup cs) = (mapO (oldEl n H) cs).map .tup := rfl
@[simp] theorem oldD_flat (n : Nat) (H : Heap) (v : Value) : oldD n H (.flat v) = some (.flat v) := rfl
@[simp] theorem oldD_LV {α : Type} (n : Nat) (H : Heap) (sz : Nat) (enc : α → DV) (l : List α) (t : Tag) : oldD n H (LV sz enc l t) = oldLeaf n H (LV sz enc l t) := by cases l <;> rfl
@[simp] theorem oldD_agg (n : Nat) (H : Heap) (cs : List DV) : oldD n H (.agg cs) = (mapO (oldLeaf n H) cs).map .agg := rfl
@[simp] theorem oldBlk_cells (n : Nat) (H : Heap) (e : TypeId) (cs : List DV) : oldBlk n H (.cells e cs) = (mapO (oldLeaf n H) cs).map (.cells e) := rfl
theorem appG_fr {α : Type} {e : TypeId} {ag : Bool} {sz by_ n0 : Nat} {enc : α → DV} {xs ys : List α} {t t' : Tag} {H : Heap} {fl : Nat} (hfl : fl ≤ n0) (hn0 : n0 ≤ H.length) (ht : TgOk t e sz n0 xs.length H) (hne : ys ≠ []) (hc : chunkOk ag sz 0 = true) (hb : (xs.length + ys.length) * by_ ≤ 140737488355328) (hb2 : xs.length + ys.length ≤ 140737488355328) :
    ∃ t2 H', appG e ag sz by_ (LV sz enc xs t) (LV sz enc ys t') H fl = some (LV sz enc (xs ++ ys) t2, H') ∧ TgOk t2 e sz n0 (xs ++ ys).length H' ∧ H.length ≤ H'.length ∧ (∀ j, j < n0 → H'[j]? = H[j]?) ∧ (WfH H → WfH H') ∧ HExt H H' := by
  rcases ht with rfl | ⟨k, rfl, hk, hkf⟩
  · refine ⟨_, _, appG_ti hne hc hb hb2, .inr ⟨_, rfl, by simp, hn0⟩, by simp, fun j hj => hp_get_left _ _ _ (by omega), fun h => h.app (fun b hb => by simp at hb; subst hb; trivial), HExt.app _ _⟩
  · have hkl := hp_lt hk
    obtain ⟨t2, H', h1, h2, h3, h4⟩ := appG_ok (e := e) (ag := ag) (sz := sz) (by_ := by_) (enc := enc) (xs := xs) (ys := ys) (t := .own k) (t' := t') (H := H) (fl := fl) (.inr ⟨k, rfl, hk, by omega⟩) (by omega) hne hc hb hb2
    have hl : LV sz enc (xs ++ ys) (.own k) = .list sz (xs.map enc ++ ys.map enc) (.own k) := by
      cases xs with
      | nil => cases ys with
        | nil => exact absurd rfl hne
        | cons y ys => rfl
      | cons x xs => simp [LV, mkl]
    have he : appG e ag sz by_ (LV sz enc xs (.own k)) (LV sz enc ys t') H fl = some (LV sz enc (xs ++ ys) (.own k), H.set k (.token e sz (xs ++ ys).length)) := by
      obtain ⟨s1, h1, g1⟩ := LV_list sz enc xs (.own k)
      obtain ⟨s2, h2, g2⟩ := LV_list sz enc ys t'
      have hkf' : fl ≤ k := by omega
      rw [hl, h1, h2]
      unfold appG appendD srcD
      simp only [g2, if_true]
      cases ys with
      | nil => exact absurd rfl hne
      | cons y ys =>
        have g3 : ¬xs = [] → s1 = sz := by
          intro h
          have : xs.isEmpty = false := by cases xs <;> simp_all
          simpa [this] using g1
        simp only [List.map_cons, List.length_map, List.length_cons] at *
        simp [hc, hb, hb2, effH, Eff.heap, hk, hkf']
        exact g3
    rw [he] at h1
    simp only [Option.some.injEq, Prod.mk.injEq] at h1
    obtain ⟨_, rfl⟩ := h1
    exact ⟨_, _, he, .inr ⟨k, rfl, hp_set_get _ _ _ hkl, hkf⟩, by simp, fun j hj => hp_set_ne _ _ _ _ (by omega), fun h => h.set k trivial, h3⟩
def okT (t : Tag) : Prop := t = .sh ∨ t = .ti
theorem oldLeaf_okT {α : Type} {n : Nat} {t : Tag} (h : okT t) (H : Heap) (sz : Nat) (enc : α → DV) (l : List α) : oldLeaf n H (LV sz enc l t) = some (LV sz enc l t) := by
  rcases h with rfl | rfl <;> simp
theorem inSc_okT {α : Type} {t : Tag} (h : okT t) (n sz : Nat) (enc : α → DV) (l : List α) : inSc n (LV sz enc l t) = true := by
  rcases h with rfl | rfl <;> simp
theorem appG_all {α : Type} {e : TypeId} {ag : Bool} {sz by_ n0 : Nat} {enc : α → DV} {xs ys : List α} {t t' : Tag} {H : Heap} {fl : Nat} (hfl : fl ≤ n0) (hn0 : n0 ≤ H.length) (ht : TgOk t e sz n0 xs.length H) (hc : chunkOk ag sz 0 = true) (hb : (xs.length + ys.length) * by_ ≤ 140737488355328) (hb2 : xs.length + ys.length ≤ 140737488355328) :
    ∃ t2 H', appG e ag sz by_ (LV sz enc xs t) (LV sz enc ys t') H fl = some (LV sz enc (xs ++ ys) t2, H') ∧ TgOk t2 e sz n0 (xs ++ ys).length H' ∧ H.length ≤ H'.length ∧ (∀ j, j < n0 → H'[j]? = H[j]?) ∧ (WfH H → WfH H') ∧ HExt H H' := by
  by_cases h : ys = []
  · subst h
    refine ⟨t, H, ?_, by simpa using ht, Nat.le_refl _, fun _ _ => rfl, id, HExt.refl H⟩
    obtain ⟨s, h1, h2⟩ := LV_list sz enc xs t
    rw [List.append_nil, h1]
    rfl
  · exact appG_fr hfl hn0 ht h hc hb hb2
theorem binD_ptr_nil {t e : TypeId} (hu : Try.prog.underlying t = some (.pointer e)) (x y : Operand) (k o : Nat) : binD Try.prog .eql t x y (.ptr k o) (.flat (.pointer none)) = some (Bo false) := by
  have : nilEq Try.prog t (.ptr k o) (.pointer none) = true := by unfold nilEq; rw [hu]
  show (if nilEq Try.prog t (.ptr k o) (.pointer none) = true then eqRes .eql else none) = _
  rw [if_pos this]; rfl
end Go.Proofs.Ytcpgmbpndpcmdaa
namespace Go.Proofs.Ytcpgmbpndpcmdaa
open Go
set_option linter.unusedSimpArgs false
set_option linter.unusedVariables false
set_option maxRecDepth 100000
end Go.Proofs.Ytcpgmbpndpcmdaa
namespace Go.Proofs.Ytcpgmbpndpcmdaa
open Go
set_option linter.unusedSimpArgs false
set_option linter.unusedVariables false
section
variable {P : Program}
end
end Go.Proofs.Ytcpgmbpndpcmdaa
namespace Go.Proofs.Ytcpgmbpndpcmdaa
open Go
set_option linter.unusedSimpArgs false
set_option linter.unusedVariables false
section
variable {P : Program}
end
end Go.Proofs.Ytcpgmbpndpcmdaa
namespace Go.Proofs.Ytcpgmbpndpcmdaa
open Go
set_option maxRecDepth 100000
set_option linter.unusedVariables false
def s_slices_Concat___byte_byte__I1 (x6 x25 x26 x27 : DV) : List DV := [.any, .any, .any, .any, .any, .any, x6, .any, .any, .any, .any, .any, .any, .any, .any, .any, .any, .any, .any, .any, .any, .any, .any, .any, .any, x25, x26, x27, .any, .any, .any, .any, .any, .any, .any, .any]
def s_slices_Concat___byte_byte__O1 (x6 : DV) : List DV := [.any, .any, .any, .any, .any, .any, x6, .any, .any, .any, .any, .any, .any, .any, .any, .any, .any, .any, .any, .any, .any, .any, .any, .any, .any, .any, .any, .any, .any, .any, .any, .any, .any, .any, .any, .any]
noncomputable abbrev s_slices_Concat___byte_byte__b1 (n fl : Nat) : List DV → Heap → (Ex → KF) → R := execG ⟨Try.prog, callG Try.prog ENV n, ENV.md, fl, 36⟩ n (loopAt (bodyOf Try.f46) 1) []
noncomputable def s_slices_Concat___byte_byte__B1 (n fl : Nat) (rec : DV → DV → DV → DV → Heap → R) (k : Ex → KF) (x6 x25 x26 x27 : DV) (H : Heap) : R :=
  bi (ltK .i64 x27 x26) fun d0 =>
  condR d0 (
  bi (idxSl 1 x25 x27) fun d1 =>
  bi (loadG false 1 d1 H) fun d2 =>
  bi (appG 5 false 1 1 x6 d2 H fl) fun p3 =>
  bi (addK .i64 x27 (I .i64 1)) fun d4 =>
  rec p3.1 x25 x26 d4 p3.2) (
  k (.exit 2) (s_slices_Concat___byte_byte__O1 x6) H)
noncomputable def s_slices_Concat___byte_byte__L1 (n fl : Nat) (k : Ex → KF) : Nat → DV → DV → DV → DV → Heap → R
  | 0, _, _, _, _, _ => none
  | m + 1, x6, x25, x26, x27, H => s_slices_Concat___byte_byte__B1 n fl (s_slices_Concat___byte_byte__L1 n fl k m) k x6 x25 x26 x27 H
theorem s_slices_Concat___byte_byte__S1 (n fl m : Nat) (k : Ex → KF) (x6 x25 x26 x27 : DV) (H : Heap) : loopG [6, 25, 26, 27] [6] 36 (s_slices_Concat___byte_byte__b1 n fl) (m + 1) (s_slices_Concat___byte_byte__I1 x6 x25 x26 x27) H k = s_slices_Concat___byte_byte__B1 n fl (fun x6 x25 x26 x27 H => loopG [6, 25, 26, 27] [6] 36 (s_slices_Concat___byte_byte__b1 n fl) m (s_slices_Concat___byte_byte__I1 x6 x25 x26 x27) H k) k x6 x25 x26 x27 H := by kernel_rfl
theorem s_slices_Concat___byte_byte__L1_eq (n fl : Nat) (k : Ex → KF) : ∀ (m : Nat) (x6 x25 x26 x27 : DV) (H : Heap), loopG [6, 25, 26, 27] [6] 36 (s_slices_Concat___byte_byte__b1 n fl) m (s_slices_Concat___byte_byte__I1 x6 x25 x26 x27) H k = s_slices_Concat___byte_byte__L1 n fl k m x6 x25 x26 x27 H := by
  intro m
  induction m with
  | zero => intros; rfl
  | succ m ih =>
    intro x6 x25 x26 x27 H
    rw [s_slices_Concat___byte_byte__S1, show (fun x6 x25 x26 x27 H => loopG [6, 25, 26, 27] [6] 36 (s_slices_Concat___byte_byte__b1 n fl) m (s_slices_Concat___byte_byte__I1 x6 x25 x26 x27) H k) = s_slices_Concat___byte_byte__L1 n fl k m from by funext x6 x25 x26 x27 H; exact ih _ _ _ _ _]
    rw [s_slices_Concat___byte_byte__L1]
def s_slices_Concat___byte_byte__I0 (x0 x3 x9 x10 x11 : DV) : List DV := [x0, .any, .any, x3, .any, .any, .any, .any, .any, x9, x10, x11, .any, .any, .any, .any, .any, .any, .any, .any, .any, .any, .any, .any, .any, .any, .any, .any, .any, .any, .any, .any, .any, .any, .any, .any]
def s_slices_Concat___byte_byte__O0 (x0 x3 : DV) : List DV := [x0, .any, .any, x3, .any, .any, .any, .any, .any, .any, .any, .any, .any, .any, .any, .any, .any, .any, .any, .any, .any, .any, .any, .any, .any, .any, .any, .any, .any, .any, .any, .any, .any, .any, .any, .any]
noncomputable abbrev s_slices_Concat___byte_byte__b0 (n fl : Nat) : List DV → Heap → (Ex → KF) → R := execG ⟨Try.prog, callG Try.prog ENV n, ENV.md, fl, 36⟩ n (loopAt (bodyOf Try.f46) 0) []
noncomputable def s_slices_Concat___byte_byte__B0 (n fl : Nat) (rec : DV → DV → DV → DV → DV → Heap → R) (k : Ex → KF) (x0 x3 x9 x10 x11 : DV) (H : Heap) : R :=
  bi (ltK .i64 x11 x10) fun d0 =>
  condR d0 (
  bi (idxSl 1 x9 x11) fun d1 =>
  bi (loadG false 1 d1 H) fun d2 =>
  bi (lenD d2) fun d3 =>
  bi (addK .i64 x3 d3) fun d4 =>
  bi (ltK .i64 d4 (I .i64 0)) fun d5 =>
  condR d5 (
   none /- 1: panic t21 :T0 -/) (
  bi (addK .i64 x11 (I .i64 1)) fun d6 =>
  rec x0 d4 x9 x10 d6 H)) (
  k (.exit 0) (s_slices_Concat___byte_byte__O0 x0 x3) H)
noncomputable def s_slices_Concat___byte_byte__L0 (n fl : Nat) (k : Ex → KF) : Nat → DV → DV → DV → DV → DV → Heap → R
  | 0, _, _, _, _, _, _ => none
  | m + 1, x0, x3, x9, x10, x11, H => s_slices_Concat___byte_byte__B0 n fl (s_slices_Concat___byte_byte__L0 n fl k m) k x0 x3 x9 x10 x11 H
theorem s_slices_Concat___byte_byte__S0 (n fl m : Nat) (k : Ex → KF) (x0 x3 x9 x10 x11 : DV) (H : Heap) : loopG [0, 3, 9, 10, 11] [0, 3] 36 (s_slices_Concat___byte_byte__b0 n fl) (m + 1) (s_slices_Concat___byte_byte__I0 x0 x3 x9 x10 x11) H k = s_slices_Concat___byte_byte__B0 n fl (fun x0 x3 x9 x10 x11 H => loopG [0, 3, 9, 10, 11] [0, 3] 36 (s_slices_Concat___byte_byte__b0 n fl) m (s_slices_Concat___byte_byte__I0 x0 x3 x9 x10 x11) H k) k x0 x3 x9 x10 x11 H := by kernel_rfl
theorem s_slices_Concat___byte_byte__L0_eq (n fl : Nat) (k : Ex → KF) : ∀ (m : Nat) (x0 x3 x9 x10 x11 : DV) (H : Heap), loopG [0, 3, 9, 10, 11] [0, 3] 36 (s_slices_Concat___byte_byte__b0 n fl) m (s_slices_Concat___byte_byte__I0 x0 x3 x9 x10 x11) H k = s_slices_Concat___byte_byte__L0 n fl k m x0 x3 x9 x10 x11 H := by
  intro m
  induction m with
  | zero => intros; rfl
  | succ m ih =>
    intro x0 x3 x9 x10 x11 H
    rw [s_slices_Concat___byte_byte__S0, show (fun x0 x3 x9 x10 x11 H => loopG [0, 3, 9, 10, 11] [0, 3] 36 (s_slices_Concat___byte_byte__b0 n fl) m (s_slices_Concat___byte_byte__I0 x0 x3 x9 x10 x11) H k) = s_slices_Concat___byte_byte__L0 n fl k m from by funext x0 x3 x9 x10 x11 H; exact ih _ _ _ _ _ _]
    rw [s_slices_Concat___byte_byte__L0]
noncomputable def s_slices_Concat___byte_byte_ (n : Nat) (H : Heap) (fl : Nat) (a0 : DV) : R :=
  bi (lenD a0) fun d0 =>
  loopG [0, 3, 9, 10, 11] [0, 3] 36 (s_slices_Concat___byte_byte__b0 n fl) n (s_slices_Concat___byte_byte__I0 a0 (I .i64 0) a0 d0 (I .i64 0)) H fun x S1 h1 => match x with
  | .normal => none
  | .exit i1 => (
  if i1 = 0 then (
  bi (cK n 70 [(.list 0 [] .ti), (S1.getD 3 .any)] h1 fl) fun p2 =>
  bi (lenD (S1.getD 0 .any)) fun d3 =>
  loopG [6, 25, 26, 27] [6] 36 (s_slices_Concat___byte_byte__b1 n fl) n (s_slices_Concat___byte_byte__I1 p2.1 (S1.getD 0 .any) d3 (I .i64 0)) p2.2 fun x S4 h4 => match x with
  | .normal => none
  | .exit i4 => (
  if i4 = 2 then (
  some ((S4.getD 6 .any), h4)) else (
  none))
  | .ret => (
  some (.any, h4))) else (
  none))
  | .ret => (
  some (.any, h1))
theorem s_slices_Concat___byte_byte__eq (n : Nat) (H : Heap) (fl : Nat) (a0 : DV) : callG Try.prog ENV (n + 1) 46 [a0] H fl = s_slices_Concat___byte_byte_ n H fl a0 := by kernel_rfl
end Go.Proofs.Ytcpgmbpndpcmdaa
namespace Go.Proofs.Ytcpgmbpndpcmdaa
open Go
set_option linter.unusedSimpArgs false
set_option linter.unusedVariables false
def Bytes (l : List Int) : Prop := ∀ x ∈ l, 0 ≤ x ∧ x < 256
theorem bytes_app {a b : List Int} (ha : Bytes a) (hb : Bytes b) : Bytes (a ++ b) := fun x hx => by
  rcases List.mem_append.1 hx with h | h
  · exact ha x h
  · exact hb x h
abbrev BT := List Int × Tag
def btE (p : BT) : DV := LV 1 (I .u8) p.1 p.2
theorem btE_cells (p : BT) : (btE p).cells = [LV 1 (I .u8) p.1 p.2] := by unfold btE; simp
def LO (xs : List Int) (k : Nat) : DV := .list 1 (xs.map (I .u8)) (.own k)
def catB (ls : List BT) : List Int := (ls.map (fun p => p.1)).flatten
theorem catB_succ (ls : List BT) (i : Nat) (h : i < ls.length) : catB (ls.take (i + 1)) = catB (ls.take i) ++ ls[i].1 := by
  unfold catB
  rw [List.take_succ_eq_append_getElem h, List.map_append, List.flatten_append]
  simp
theorem catB_le (ls : List BT) (i : Nat) : (catB (ls.take i)).length ≤ (catB ls).length := by
  have : ls.map (fun p => p.1) = (ls.take i).map (fun p => p.1) ++ (ls.drop i).map (fun p => p.1) := by rw [← List.map_append, List.take_append_drop]
  unfold catB
  rw [this, List.flatten_append, List.length_append]
  omega
theorem catB_nil (ls : List BT) (h : catB ls = []) (i : Nat) (hi : i < ls.length) : ls[i].1 = [] :=
  List.flatten_eq_nil_iff.1 h ls[i].1 (List.mem_map.2 ⟨ls[i], List.getElem_mem hi, rfl⟩)
theorem appG_LO (xs ys : List Int) (t : Tag) (k : Nat) (H : Heap) (fl : Nat) (hk : H[k]? = some (.token 5 1 xs.length)) (hfl : fl ≤ k) (hl : xs.length + ys.length ≤ 1000000) :
    appG 5 false 1 1 (LO xs k) (LV 1 (I .u8) ys t) H fl = some (LO (xs ++ ys) k, if ys = [] then H else H.set k (.token 5 1 (xs.length + ys.length))) := by
  obtain ⟨s, h1, h2⟩ := LV_list 1 (I .u8) ys t
  rw [h1]
  unfold appG appendD srcD LO
  simp only [h2, if_true]
  cases ys with
  | nil => simp [effH, Eff.heap]
  | cons y ys =>
    have hc : chunkOk false 1 0 = true := rfl
    have h3 : xs.length + (ys.length + 1) ≤ 140737488355328 := by simp at hl; omega
    simp [hk, hfl, effH, Eff.heap, hc, h3]
theorem con_L0 (n fl : Nat) (K : Ex → KF) (ls : List BT) (t : Tag) (hs : (catB ls).length ≤ 1000000) (hll : ls.length ≤ 1000) : ∀ (m i : Nat) (H : Heap), ls.length < m + i → i ≤ ls.length →
    s_slices_Concat___byte_byte__L0 n fl K m (LV 1 btE ls t) (I .i64 ((catB (ls.take i)).length : Nat)) (LV 1 btE ls t) (I .i64 ls.length) (I .i64 i) H = K (.exit 0) (s_slices_Concat___byte_byte__O0 (LV 1 btE ls t) (I .i64 ((catB ls).length : Nat))) H := by
  intro m
  induction m with
  | zero => intro i H h; omega
  | succ m ih =>
    intro i H hm hi
    unfold s_slices_Concat___byte_byte__L0 s_slices_Concat___byte_byte__B0
    by_cases h : i < ls.length
    · have ih' := ih (i + 1) H (by omega) (by omega)
      have hi2 : ((i + 1 : Nat) : Int) = (i : Int) + 1 := by omega
      have ht : (catB (ls.take (i + 1))).length = (catB (ls.take i)).length + ls[i].1.length := by rw [catB_succ ls i h, List.length_append]
      have hle := catB_le ls (i + 1)
      rw [hi2, ht, Int.natCast_add] at ih'
      rw [ht] at hle
      have hc := btE_cells ls[i]
      generalize (catB (ls.take i)).length = s at *
      simp -implicitDefEqProofs (disch := first | omega | (simp only [List.length_set, List.length_append, List.length_cons, List.length_nil, List.length_take, List.length_drop, List.length_map]; omega) | simp) [wrap_i64, wrap_u16_id, wrap_u8_id, tdiv_pos, tmod_pos, -getElem?_pos, -getElem?_neg, -List.length_eq_zero_iff, -List.getElem_cons_drop, h, hc, ih']
    · have : i = ls.length := by omega
      subst this
      rw [List.take_length]
      simp -implicitDefEqProofs (disch := first | omega | (simp only [List.length_set, List.length_append, List.length_cons, List.length_nil, List.length_take, List.length_drop, List.length_map]; omega) | simp) [wrap_i64, wrap_u16_id, wrap_u8_id, tdiv_pos, tmod_pos, -getElem?_pos, -getElem?_neg, -List.length_eq_zero_iff, -List.getElem_cons_drop]
theorem con_L1 (n fl : Nat) (ls : List BT) (t : Tag) (k : Nat) (hfl : fl ≤ k) (hs : (catB ls).length ≤ 1000000) (hll : ls.length ≤ 1000) : ∀ (m i : Nat) (H : Heap), ls.length < m + i → i ≤ ls.length → H[k]? = some (.token 5 1 (catB (ls.take i)).length) →
    ∃ H', ∀ K, s_slices_Concat___byte_byte__L1 n fl K m (LO (catB (ls.take i)) k) (LV 1 btE ls t) (I .i64 ls.length) (I .i64 i) H = K (.exit 2) (s_slices_Concat___byte_byte__O1 (LO (catB ls) k)) H' := by
  intro m
  induction m with
  | zero => intro i H h; omega
  | succ m ih =>
    intro i H hm hi hk
    by_cases h : i < ls.length
    · have hi2 : ((i + 1 : Nat) : Int) = (i : Int) + 1 := by omega
      have hte := catB_succ ls i h
      have hle := catB_le ls (i + 1)
      rw [hte] at hle
      have ih' := ih (i + 1) (if ls[i].1 = [] then H else H.set k (.token 5 1 ((catB (ls.take i)).length + ls[i].1.length))) (by omega) (by omega) (by
        rw [hte, List.length_append]
        split
        · rename_i h0
          rw [h0, List.length_nil, Nat.add_zero]
          exact hk
        · exact hp_set_get _ _ _ (hp_lt hk))
      rw [hi2, hte] at ih'
      obtain ⟨H', q⟩ := ih'
      have hc := btE_cells ls[i]
      have ha := appG_LO (catB (ls.take i)) ls[i].1 ls[i].2 k H fl hk hfl (by rw [← List.length_append]; omega)
      generalize catB (ls.take i) = s at *
      exact ⟨H', fun K => by unfold s_slices_Concat___byte_byte__L1 s_slices_Concat___byte_byte__B1; simp -implicitDefEqProofs (disch := first | omega | (simp only [List.length_set, List.length_append, List.length_cons, List.length_nil, List.length_take, List.length_drop, List.length_map]; omega) | simp) [wrap_i64, wrap_u16_id, wrap_u8_id, tdiv_pos, tmod_pos, -getElem?_pos, -getElem?_neg, -List.length_eq_zero_iff, -List.getElem_cons_drop, h, hc, ha, q]⟩
    · have : i = ls.length := by omega
      subst this
      rw [List.take_length]
      exact ⟨H, fun K => by unfold s_slices_Concat___byte_byte__L1 s_slices_Concat___byte_byte__B1; simp -implicitDefEqProofs (disch := first | omega | (simp only [List.length_set, List.length_append, List.length_cons, List.length_nil, List.length_take, List.length_drop, List.length_map]; omega) | simp) [wrap_i64, wrap_u16_id, wrap_u8_id, tdiv_pos, tmod_pos, -getElem?_pos, -getElem?_neg, -List.length_eq_zero_iff, -List.getElem_cons_drop]⟩
theorem con_L1e (n fl : Nat) (K : Ex → KF) (ls : List BT) (t : Tag) (hs : catB ls = []) (hll : ls.length ≤ 1000) : ∀ (m i : Nat) (H : Heap), ls.length < m + i → i ≤ ls.length →
    s_slices_Concat___byte_byte__L1 n fl K m (.list 0 [] .ti) (LV 1 btE ls t) (I .i64 ls.length) (I .i64 i) H = K (.exit 2) (s_slices_Concat___byte_byte__O1 (.list 0 [] .ti)) H := by
  intro m
  induction m with
  | zero => intro i H h; omega
  | succ m ih =>
    intro i H hm hi
    unfold s_slices_Concat___byte_byte__L1 s_slices_Concat___byte_byte__B1
    by_cases h : i < ls.length
    · have ih' := ih (i + 1) H (by omega) (by omega)
      have hi2 : ((i + 1 : Nat) : Int) = (i : Int) + 1 := by omega
      rw [hi2] at ih'
      have h0 := catB_nil ls hs i h
      have hc := btE_cells ls[i]
      rw [h0] at hc
      have ha : ∀ tt, appG 5 false 1 1 (.list 0 [] .ti) (LV 1 (I .u8) [] tt) H fl = some (.list 0 [] .ti, H) := fun tt => rfl
      simp -implicitDefEqProofs (disch := first | omega | (simp only [List.length_set, List.length_append, List.length_cons, List.length_nil, List.length_take, List.length_drop, List.length_map]; omega) | simp) [wrap_i64, wrap_u16_id, wrap_u8_id, tdiv_pos, tmod_pos, -getElem?_pos, -getElem?_neg, -List.length_eq_zero_iff, -List.getElem_cons_drop, h, hc, ha, ih']
    · have : i = ls.length := by omega
      subst this
      simp -implicitDefEqProofs (disch := first | omega | (simp only [List.length_set, List.length_append, List.length_cons, List.length_nil, List.length_take, List.length_drop, List.length_map]; omega) | simp) [wrap_i64, wrap_u16_id, wrap_u8_id, tdiv_pos, tmod_pos, -getElem?_pos, -getElem?_neg, -List.length_eq_zero_iff, -List.getElem_cons_drop]
theorem grow_c (n fl : Nat) (k : Nat) (H : Heap) (hn : 1 ≤ n) (h0 : 0 < k) (h1 : k ≤ 1000000) : cK n 70 [.list 0 [] .ti, I .i64 k] H fl = some (LO [] H.length, H ++ [.token 5 1 0]) := by
  obtain ⟨n, rfl⟩ : ∃ m, n = m + 1 := ⟨n - 1, by omega⟩
  have hp : ENV.prim 70 = some primGrow := by kernel_rfl
  unfold cK
  rw [callG_eq]
  unfold bodyG
  rw [hp]
  show (if ((k : Int) = 0) then _ else if 0 < (k : Int) ∧ (k : Int) ≤ 1000000 then _ else _) = _
  rw [if_neg (by omega), if_pos (by omega)]
  rfl
theorem grow_0 (n fl : Nat) (H : Heap) (hn : 1 ≤ n) : cK n 70 [.list 0 [] .ti, I .i64 0] H fl = some (.list 0 [] .ti, H) := by
  obtain ⟨n, rfl⟩ : ∃ m, n = m + 1 := ⟨n - 1, by omega⟩
  have hp : ENV.prim 70 = some primGrow := by kernel_rfl
  unfold cK
  rw [callG_eq]
  unfold bodyG
  rw [hp]
  rfl
theorem arg_bt (ls : List BT) (t : Tag) : argEl (LV 1 btE ls t) = some (LV 1 btE ls .sh) := by rw [argEl_eq, outEl_LV, shTag_f]
theorem concat_c (n : Nat) (ls : List BT) (t : Tag) (hs : (catB ls).length ≤ 1000000) (hll : ls.length ≤ 1000) (hn : ls.length + 4 ≤ n) : cP n 46 false [LV 1 btE ls t] = some (LV 1 (I .u8) (catB ls) .sh) := by
  obtain ⟨n, rfl⟩ : ∃ m, n = m + 1 := ⟨n - 1, by omega⟩
  have q0 : ∀ K, loopG [0, 3, 9, 10, 11] [0, 3] 36 (s_slices_Concat___byte_byte__b0 n 0) n (s_slices_Concat___byte_byte__I0 (LV 1 btE ls .sh) (I .i64 0) (LV 1 btE ls .sh) (I .i64 ls.length) (I .i64 0)) [] K = _ := fun K => (s_slices_Concat___byte_byte__L0_eq _ _ _ _ _ _ _ _ _ _).trans (con_L0 n 0 K ls .sh hs hll n 0 [] (by omega) (by omega))
  by_cases h : catB ls = []
  · have q1 : ∀ K, loopG [6, 25, 26, 27] [6] 36 (s_slices_Concat___byte_byte__b1 n 0) n (s_slices_Concat___byte_byte__I1 (.list 0 [] .ti) (LV 1 btE ls .sh) (I .i64 ls.length) (I .i64 0)) [] K = _ := fun K => (s_slices_Concat___byte_byte__L1_eq _ _ _ _ _ _ _ _ _).trans (con_L1e n 0 K ls .sh h hll n 0 [] (by omega) (by omega))
    have g := grow_0 n 0 [] (by omega)
    rw [h] at q0 ⊢
    simp only [List.length_nil, Int.natCast_zero] at q0
    refine cP_of (r := .list 0 [] .ti) (args' := [LV 1 btE ls .sh]) (by simp [arg_bt]) ((s_slices_Concat___byte_byte__eq _ _ _ _).trans (by unfold s_slices_Concat___byte_byte_; simp -implicitDefEqProofs (disch := first | omega | (simp only [List.length_set, List.length_append, List.length_cons, List.length_nil, List.length_take, List.length_drop, List.length_map]; omega) | simp) [wrap_i64, wrap_u16_id, wrap_u8_id, tdiv_pos, tmod_pos, -getElem?_pos, -getElem?_neg, -List.length_eq_zero_iff, -List.getElem_cons_drop, q0, s_slices_Concat___byte_byte__O0, g, q1, s_slices_Concat___byte_byte__O1]; first | exact rfl | exact ⟨rfl, rfl⟩)) rfl
  · have hpos : 0 < (catB ls).length := by
      rcases Nat.eq_zero_or_pos (catB ls).length with h' | h'
      · exact absurd (List.eq_nil_of_length_eq_zero h') h
      · exact h'
    obtain ⟨H', q1⟩ : ∃ H', ∀ K, loopG [6, 25, 26, 27] [6] 36 (s_slices_Concat___byte_byte__b1 n 0) n (s_slices_Concat___byte_byte__I1 (LO [] 0) (LV 1 btE ls .sh) (I .i64 ls.length) (I .i64 0)) [.token 5 1 0] K = K (.exit 2) (s_slices_Concat___byte_byte__O1 (LO (catB ls) 0)) H' := by
      obtain ⟨H', q⟩ := con_L1 n 0 ls .sh 0 (Nat.le_refl _) hs hll n 0 [.token 5 1 0] (by omega) (by omega) rfl
      exact ⟨H', fun K => (s_slices_Concat___byte_byte__L1_eq _ _ _ _ _ _ _ _ _).trans (q K)⟩
    have g := grow_c n 0 (catB ls).length [] (by omega) hpos hs
    simp only [List.length_nil, List.nil_append] at g
    refine cP_of (r := LO (catB ls) 0) (H' := H') (args' := [LV 1 btE ls .sh]) (by simp [arg_bt]) ((s_slices_Concat___byte_byte__eq _ _ _ _).trans (by unfold s_slices_Concat___byte_byte_; simp -implicitDefEqProofs (disch := first | omega | (simp only [List.length_set, List.length_append, List.length_cons, List.length_nil, List.length_take, List.length_drop, List.length_map]; omega) | simp) [wrap_i64, wrap_u16_id, wrap_u8_id, tdiv_pos, tmod_pos, -getElem?_pos, -getElem?_neg, -List.length_eq_zero_iff, -List.getElem_cons_drop, q0, s_slices_Concat___byte_byte__O0, g, q1, s_slices_Concat___byte_byte__O1])) ?_
    generalize catB ls = f at *
    cases f with
    | nil => exact absurd rfl h
    | cons a f => rfl
end Go.Proofs.Ytcpgmbpndpcmdaa
namespace Go.Proofs.Ytcpgmbpndpcmdaa
open Go Go.RowKit
set_option linter.unusedSimpArgs false
set_option linter.unusedVariables false
theorem Keep.below (G : Gh) {w w' : World} (h : Below w.heap.size w w') : Keep G w G w' :=
  ⟨h.os, h.tape, h.output, h.size, fun b hb _ => h.block b hb, fun k b sz cap hw hg hb j hj => cell_of_blk (h.block b hb) j, Evol.refl G, fun k b hb h => h, fun k b sz cap' hw' hb h => ⟨cap', hw', h, Nat.le_refl _⟩⟩
theorem HR.below {B : Nat → Nat → Prop} {G : Gh} {w w' : World} {H : Heap} (h : HR B G w H) (hb : Below w.heap.size w w') : HR B G w' H := by
  refine ⟨h.len, h.dist, fun k b g hB hg => ?_, h.bb, h.layKeep (Keep.below G hb)⟩
  have := h.blk k b g hB hg
  cases b <;> cases g <;> simp only [BlkRep] at this ⊢
  · obtain ⟨C, h1, h2, h3⟩ := this
    exact ⟨C, by rw [hb.block _ (h.lt (.inl hg))]; exact h1, RepL.keep (Keep.below G hb) h2, h3⟩
  · obtain ⟨h1, h2, h3, h4, h5, C, h6, h7⟩ := this
    exact ⟨h1, h2, h3, h4, h5, C, by rw [hb.block _ (h.lt (.inr ⟨_, _, _, hg⟩))]; exact h6, h7⟩
theorem callOk_below {P : Program} {f : FuncId} {args : List DV} {r : DV} (h : ∀ (I : Nat → Nat → Prop) (G : Gh) (w : World) (vs : Array Value), RepL I w G args vs.toList → Calls P f vs w fun e w' => ∃ V, e = .returned V ∧ Below w.heap.size w w' ∧ ∀ (I : Nat → Nat → Prop) (G : Gh), Rep I w' G r V) (H : Heap) (fl : Nat) : CallOk P f args H fl r H := by
  intro B G w vs hB hH hr hfl
  refine ⟨(h _ G w vs hr).mono fun e w' ⟨V, he, hb, hV⟩ => ⟨V, G, he, Keep.below G hb, hH.below hb, hV _ _⟩, fun _ _ => rfl, Nat.le_refl _⟩
end Go.Proofs.Ytcpgmbpndpcmdaa
namespace Go.Proofs.Ytcpgmbpndpcmdaa
open Go Go.RowKit
set_option linter.unusedSimpArgs false
set_option linter.unusedVariables false
theorem mapO_length {α β : Type} {f : α → Option β} : ∀ {l : List α} {r : List β}, mapO f l = some r → r.length = l.length
  | [], r, h => by cases h; rfl
  | x :: l, r, h => by
    unfold mapO at h
    split at h
    · split at h
      · rename_i h2
        cases h
        rw [List.length_cons, List.length_cons, mapO_length h2]
      · cases h
    · cases h
theorem mapO_cons' {α β : Type} {f : α → Option β} {x : α} {l : List α} {r : List β} (h : mapO f (x :: l) = some r) : ∃ y s, f x = some y ∧ mapO f l = some s ∧ r = y :: s := by
  unfold mapO at h
  split at h
  · rename_i y h1
    split at h
    · rename_i s h2
      cases h
      exact ⟨y, s, h1, h2, rfl⟩
    · cases h
  · cases h
theorem repE_cells {α : Type} {d : DV → Option α} {enc : α → Value} (hd : ∀ x a, d x = some a → x = .flat (enc a)) (h1 : ∀ a, (enc a).cells = #[enc a]) {I : Nat → Nat → Prop} {w : World} {sz b : Nat} : ∀ (xs : List DV) (l : List α) (o : Nat), mapO d xs = some l → RepE I w sz xs b o → (xs ≠ [] → sz = 1) ∧ ∀ j (h : j < l.length), w.cell? ⟨b, o + j, none⟩ = some (enc l[j])
  | [], l, o, hm, _ => by cases hm; exact ⟨fun h => absurd rfl h, fun j h => by simp at h⟩
  | x :: xs, l, o, hm, hE => by
    obtain ⟨a, l, ha, hl, rfl⟩ := mapO_cons' hm
    rw [hd _ _ ha] at hE
    simp only [RepE, Rep] at hE
    obtain ⟨⟨_, V, rfl, hs, hc⟩, hE⟩ := hE
    rw [h1] at hs hc
    simp at hs
    subst hs
    obtain ⟨_, ih⟩ := repE_cells hd h1 xs l (o + 1) hl hE
    refine ⟨fun _ => rfl, fun j hj => ?_⟩
    cases j with
    | zero => exact (hc 0 (enc a) (by simp)).1
    | succ j =>
      have := ih j (by simpa using hj)
      rw [show o + (j + 1) = o + 1 + j by omega]
      exact this
theorem list_rd {α : Type} {d : DV → Option α} {enc : α → Value} (hd : ∀ x a, d x = some a → x = .flat (enc a)) (h1 : ∀ a, (enc a).cells = #[enc a]) {I : Nat → Nat → Prop} {w : World} {G : Gh} {sz : Nat} {xs : List DV} {t : Tag} {V : Value} {l : List α} (h : Rep I w G (.list sz xs t) V) (hl : mapO d xs = some l) : RdV enc w V l := by
  simp only [Rep] at h
  obtain ⟨A, c, rfl, h2, h3, h4, _⟩ := h
  have hlen := mapO_length hl
  refine ⟨A, c, by rw [hlen], by omega, by omega, by simp, ?_⟩
  rcases h4 with rfl | ⟨b, o, rfl, hE⟩
  · exact .inl (by simpa using hlen)
  · obtain ⟨_, hc⟩ := repE_cells hd h1 xs l o hl hE
    refine .inr ⟨b, o, rfl, fun j u hu => ?_⟩
    rw [List.getElem?_map] at hu
    obtain ⟨a, ha, rfl⟩ := Option.map_eq_some_iff.1 hu
    obtain ⟨hj, rfl⟩ := List.getElem?_eq_some_iff.1 ha
    exact hc j hj
end Go.Proofs.Ytcpgmbpndpcmdaa
