/- Deep values: code and calls are sound. -/
import Derived.Test.YtbhnkdnfmlnajaaPf
namespace Go.Proofs.Ytbhnkdnfmlnajaa
open Go Go.RowKit

variable {B : Nat → Nat → Prop} {G : Gh} {w : World} {o : Oper} {a : Act}

def toExit : Ex → Exit
  | .normal => .normal
  | .exit id => .exit id
  | .ret => .ret
theorem trace_keep {X : Ctx} {ops : Array Oper} (hcf : CFSound X.P X.cf) : ∀ {l : List Oper} {nid : Nat} {S S' : St} {tr : List Stp}, TraceOk X ops l nid S tr S' → ∀ j : Nat, j < nid → S.heap[j]? = some .hole → S'.heap[j]? = some .hole
  | [], nid, S, S', [], h, j, _, hj => by
    simp only [TraceOk] at h
    subst h
    exact hj
  | [], _, _, _, _ :: _, h, _, _, _ => h.elim
  | _ :: _, _, _, _, [], h, _, _, _ => h.elim
  | o :: l, nid, S, S', s :: tr, h, j, hlt, hj => by
    obtain ⟨h1, h2, h3, h4⟩ := h
    subst h1
    subst h2
    have hle : s.nid ≤ nextId o s.nid := by unfold nextId; split <;> omega
    exact trace_keep hcf h4 j (by omega) (step_holes hcf h3 hj (fun _ => by omega))
theorem region_trace {X : Ctx} {ops : Array Oper} {S : St} {k : Ex → St → R} {r : DV × Heap} {draw : Bool}
    (h : opsK X ops ops.toList S.heap.length [] ⟨S.slots, addHoles ops.toList S.heap⟩ (fun cs S' => drawK draw ops cs (k .normal S')) = some r) :
    ∃ tr S', TraceOk X ops ops.toList S.heap.length ⟨S.slots, S.heap ++ holes ops.toList⟩ tr S' ∧ k .normal S' = some r ∧ (draw = true → drawOk ops (tr.map fun s => s.e.cls) = true) := by
  have ha : addHoles ops.toList S.heap = S.heap ++ holes ops.toList := by unfold addHoles; split <;> simp_all
  rw [ha] at h
  obtain ⟨tr, S', ht, hk⟩ := trace_of _ _ _ _ h
  simp only [drawK, List.append_nil, List.reverse_reverse] at hk
  refine ⟨tr, S', ht, ?_, fun hd => ?_⟩
  · split at hk
    · cases hk
    · exact hk
  · cases hb : drawOk ops (tr.map fun s => s.e.cls) with
    | true => rfl
    | false => rw [hd, hb] at hk; simp at hk
/-- holes stay, whatever is run -/
theorem exec_holes {X : Ctx} (hcf : CFSound X.P X.cf) (n : Nat) : ∀ (c : Code) (ks : List (List Nat × List Nat)) (S : St) (k : Ex → St → R) (r : DV × Heap), execD X n c ks S k = some r → ∃ x S', k x S' = some r ∧ ∀ j : Nat, S.heap[j]? = some .hole → S'.heap[j]? = some .hole := by
  intro c
  induction c with
  | skip => intro ks S k r h; exact ⟨_, _, h, fun _ h => h⟩
  | region id ops draw =>
    intro ks S k r h
    obtain ⟨tr, S', ht, hk, _⟩ := region_trace h
    refine ⟨_, _, hk, fun j hj => trace_keep hcf ht j (List.getElem?_eq_some_iff.1 hj).1 ?_⟩
    simp only []
    rw [List.getElem?_append_left (List.getElem?_eq_some_iff.1 hj).1]; exact hj
  | seq x y ihx ihy =>
    intro ks S k r h
    simp only [execD] at h
    obtain ⟨e, S1, h1, hh1⟩ := ihx _ _ _ _ h
    cases e with
    | normal =>
      obtain ⟨e, S2, h2, hh2⟩ := ihy _ _ _ _ h1
      exact ⟨e, S2, h2, fun j hj => hh2 j (hh1 j hj)⟩
    | exit id => exact ⟨_, S1, h1, hh1⟩
    | ret => exact ⟨_, S1, h1, hh1⟩
  | cond c x y ihx ihy =>
    intro ks S k r h
    simp only [execD] at h
    unfold condR at h
    split at h
    · exact ihx _ _ _ _ h
    · exact ihy _ _ _ _ h
    · cases h
  | block id b ih =>
    intro ks S k r h
    simp only [execD] at h
    obtain ⟨e, S1, h1, hh1⟩ := ih _ _ _ _ h
    cases e with
    | normal => exact ⟨_, S1, h1, hh1⟩
    | exit i =>
      simp only [] at h1
      split at h1
      · exact ⟨_, S1, h1, hh1⟩
      · exact ⟨_, S1, h1, hh1⟩
    | ret => exact ⟨_, S1, h1, hh1⟩
  | loop b ih =>
    intro ks S k r h
    simp only [execD] at h
    have key : ∀ (keep out : List Nat) (k : Ex → St → R) (m : Nat) (S : St), loopN keep out X.N (execD X n b ks.tail) m S k = some r → ∃ x S', k x S' = some r ∧ ∀ j : Nat, S.heap[j]? = some .hole → S'.heap[j]? = some .hole := by
      intro keep out k m
      induction m with
      | zero => intro S h; cases h
      | succ m ihm =>
        intro S h
        simp only [loopN] at h
        obtain ⟨e, S1, h1, hh1⟩ := ih _ _ _ _ h
        cases e with
        | normal =>
          obtain ⟨e, S2, h2, hh2⟩ := ihm _ h1
          exact ⟨e, S2, h2, fun j hj => hh2 j (hh1 j hj)⟩
        | exit i => exact ⟨_, _, h1, hh1⟩
        | ret => exact ⟨_, _, h1, hh1⟩
    obtain ⟨x, S1, h1, hh1⟩ := key _ _ _ n _ h
    cases x with
    | normal => cases h1
    | exit i => exact ⟨_, _, h1, hh1⟩
    | ret => exact ⟨_, _, h1, hh1⟩
  | scope b ih => intro ks S k r h; exact ih _ _ _ _ h
  | exit id => intro ks S k r h; exact ⟨_, _, h, fun _ h => h⟩
  | ret => intro ks S k r h; exact ⟨_, _, h, fun _ h => h⟩
  | _ => intro ks S k r h; cases h
theorem forget_rep {I : Nat → Nat → Prop} {slots : List DV} {N : Nat} (keep : List Nat) (hN : slots.length = N) (h : SR I w G slots a) : SR I w G (forget keep N slots) a := by
  refine ⟨h.1, RepL.of (by simp [forget, h.2.length, hN]) fun i d v hd hv => ?_⟩
  unfold forget at hd
  rw [List.getElem?_map] at hd
  have hi : i < N := by
    have := (List.getElem?_eq_some_iff.1 hv).1
    rw [h.2.length, hN] at this; exact this
  rw [List.getElem?_range hi] at hd
  simp at hd
  subst hd
  split
  · have hs := List.getElem?_eq_getElem (show i < slots.length by omega)
    obtain ⟨v', hv', hr⟩ := h.2.get i _ hs
    rw [hv'] at hv; cases hv
    simpa [List.getD, hs] using hr
  · simp [Rep]
theorem forget_len (keep : List Nat) (N : Nat) (slots : List DV) : (forget keep N slots).length = N := by simp [forget]
def After (fl : Nat) (B : Nat → Nat → Prop) (G : Gh) (w : World) (S : St) (k : Ex → St → R) (r : DV × Heap) (Q : Exit → Act → World → Prop) : Prop :=
  ∀ x S' a' w' G', k x S' = some r → Keep G w G' w' → HR B G' w' S'.heap → SR (ImmB B G') w' G' S'.slots a' → Facts fl S.heap S'.heap → S'.slots.length = S.slots.length → Q (toExit x) a' w'
theorem exec_sound {X : Ctx} (hM : X.P.follows .mixedOrders = true) (hP : NoOwn X.P) (hcf : CFSound X.P X.cf) (n : Nat) : ∀ (c : Code) (ks : List (List Nat × List Nat)) (S : St) (k : Ex → St → R) (r : DV × Heap), execD X n c ks S k = some r →
    ∀ (G : Gh) (w : World) (a : Act), (∀ b j, w.heap.size ≤ b → B b j) → HR B G w S.heap → SR (ImmB B G) w G S.slots a → X.fl ≤ S.heap.length → S.slots.length = X.N → ∀ Q, After X.fl B G w S k r Q → c.wp X.P Q a w := by
  intro c
  induction c with
  | skip =>
    intro ks S k r h G w a hB hH hs hfl hN Q hQ
    exact wp_skip (hQ .normal S a w G h (Keep.refl G w) hH hs (Facts.refl _ _) rfl)
  | region id ops draw =>
    intro ks S k r h G w a hB hH hs hfl hN Q hQ
    obtain ⟨tr, S', ht, hk, hd⟩ := region_trace h
    have hlen : S'.slots.length = S.slots.length := by
      have := ((trace_at ht).2.2 0).1
      rw [this, foldS_len]
    cases draw with
    | false => exact region_sound hP hcf ht hB hH hs hfl fun a' w' G' hK hH' hs' hf => hQ .normal S' a' w' G' hk hK hH' hs' hf hlen
    | true => exact draw_sound hM hP hcf ht (hd rfl) hB hH hs hfl fun a' w' G' hK hH' hs' hf => hQ .normal S' a' w' G' hk hK hH' hs' hf hlen
  | seq x y ihx ihy =>
    intro ks S k r h G w a hB hH hs hfl hN Q hQ
    simp only [execD] at h
    refine wp_seq (ihx _ _ _ _ h G w a hB hH hs hfl hN _ fun e S1 a1 w1 G1 hk hK hH1 hs1 hf1 hl1 => ?_)
    cases e with
    | normal =>
      exact ihy _ _ _ _ hk G1 w1 a1 (fun b j hb => hB b j (Nat.le_trans hK.size hb)) hH1 hs1 (Nat.le_trans hfl hf1.2) (hl1.trans hN) Q fun e2 S2 a2 w2 G2 hk2 hK2 hH2 hs2 hf2 hl2 => hQ e2 S2 a2 w2 G2 hk2 (Keep.trans hH.dist hK hK2) hH2 hs2 (hf1.trans hf2) (hl2.trans hl1)
    | exit id => exact hQ (.exit id) S1 a1 w1 G1 hk hK hH1 hs1 hf1 hl1
    | ret => exact hQ .ret S1 a1 w1 G1 hk hK hH1 hs1 hf1 hl1
  | cond c x y ihx ihy =>
    intro ks S k r h G w a hB hH hs hfl hN Q hQ
    simp only [execD] at h
    unfold condR at h
    split at h
    · rename_i ht
      have hc := hs.eval c
      rw [ht] at hc
      simp only [Rep] at hc
      exact wp_cond (t := true) hc (ihx _ _ _ _ h G w a hB hH hs hfl hN Q hQ)
    · rename_i ht
      have hc := hs.eval c
      rw [ht] at hc
      simp only [Rep] at hc
      exact wp_cond (t := false) hc (ihy _ _ _ _ h G w a hB hH hs hfl hN Q hQ)
    · cases h
  | block id b ih =>
    intro ks S k r h G w a hB hH hs hfl hN Q hQ
    simp only [execD] at h
    refine wp_block (ih _ _ _ _ h G w a hB hH hs hfl hN _ fun e S1 a1 w1 G1 hk hK hH1 hs1 hf1 hl1 => ?_)
    cases e with
    | normal => exact hQ .normal S1 a1 w1 G1 hk hK hH1 hs1 hf1 hl1
    | exit i =>
      simp only [toExit, Exit.inBlock]
      simp only [] at hk
      split at hk
      · rename_i hi
        rw [if_pos hi]
        exact hQ .normal S1 a1 w1 G1 hk hK hH1 hs1 hf1 hl1
      · rename_i hi
        rw [if_neg hi]
        exact hQ (.exit i) S1 a1 w1 G1 hk hK hH1 hs1 hf1 hl1
    | ret => exact hQ .ret S1 a1 w1 G1 hk hK hH1 hs1 hf1 hl1
  | loop b ih =>
    intro ks S k r h G w a hB hH hs hfl hN Q hQ
    simp only [execD] at h
    have key : ∀ (keep out : List Nat) (k : Ex → St → R) (m : Nat) (S : St), loopN keep out X.N (execD X n b ks.tail) m S k = some r → ∀ (G : Gh) (w : World) (a : Act), (∀ b j, w.heap.size ≤ b → B b j) → HR B G w S.heap → SR (ImmB B G) w G S.slots a → X.fl ≤ S.heap.length → S.slots.length = X.N → After X.fl B G w S k r Q → Code.rounds X.P b Q m a w := by
      intro keep out k m
      induction m with
      | zero => intro S h; cases h
      | succ m ihm =>
        intro S h G w a hB hH hs hfl hN hQ
        simp only [loopN] at h
        rw [rounds_succ]
        refine ih _ S _ _ h G w a hB hH hs hfl hN _ fun e S1 a1 w1 G1 hk hK hH1 hs1 hf1 hl1 => ?_
        cases e with
        | normal =>
          exact ihm ⟨_, _⟩ hk G1 w1 a1 (fun b j hb => hB b j (Nat.le_trans hK.size hb)) hH1 (forget_rep _ (hl1.trans hN) hs1) (Nat.le_trans hfl hf1.2) (forget_len _ _ _) fun e2 S2 a2 w2 G2 hk2 hK2 hH2 hs2 hf2 hl2 => hQ e2 S2 a2 w2 G2 hk2 (Keep.trans hH.dist hK hK2) hH2 hs2 (hf1.trans hf2) (hl2.trans ((forget_len _ _ _).trans hN.symm))
        | exit id => exact hQ (.exit id) ⟨_, _⟩ a1 w1 G1 hk hK hH1 (forget_rep _ (hl1.trans hN) hs1) hf1 ((forget_len _ _ _).trans hN.symm)
        | ret => exact hQ .ret ⟨_, _⟩ a1 w1 G1 hk hK hH1 (forget_rep _ (hl1.trans hN) hs1) hf1 ((forget_len _ _ _).trans hN.symm)
    refine wp_loop_rounds n (key _ _ _ n ⟨_, _⟩ h G w a hB hH (forget_rep _ hN hs) hfl (forget_len _ _ _) fun e2 S2 a2 w2 G2 hk2 hK2 hH2 hs2 hf2 hl2 => ?_)
    have hl3 : S2.slots.length = X.N := hl2.trans (forget_len _ _ _)
    cases e2 with
    | normal => cases hk2
    | exit i => exact hQ (.exit i) ⟨_, _⟩ a2 w2 G2 hk2 hK2 hH2 (forget_rep _ hl3 hs2) hf2 ((forget_len _ _ _).trans hN.symm)
    | ret => exact hQ .ret ⟨_, _⟩ a2 w2 G2 hk2 hK2 hH2 (forget_rep _ hl3 hs2) hf2 ((forget_len _ _ _).trans hN.symm)
  | scope b ih =>
    intro ks S k r h G w a hB hH hs hfl hN Q hQ
    refine wp_scope_straight (ih _ _ _ _ h G w a hB hH hs hfl hN _ fun e S1 a1 w1 G1 hk hK hH1 hs1 hf1 hl1 => ?_)
    have := hQ e S1 a1 w1 G1 hk hK hH1 hs1 hf1 hl1
    cases e <;> exact this
  | exit id =>
    intro ks S k r h G w a hB hH hs hfl hN Q hQ
    exact wp_exit (hQ (.exit id) S a w G h (Keep.refl G w) hH hs (Facts.refl _ _) rfl)
  | ret =>
    intro ks S k r h G w a hB hH hs hfl hN Q hQ
    exact wp_ret (hQ .ret S a w G h (Keep.refl G w) hH hs (Facts.refl _ _) rfl)
  | _ => intro ks S k r h; cases h
def resSem (tmps : Array Value) : ResultVar → Sem Value
  | .tmp t => pure (tmps.getD t undef)
  | .cell x t => do loadVar t (← asAddr (tmps.getD x undef))
theorem resOne_run {P : Program} {S : St} (hH : HR B G w S.heap) (hs : SR (ImmB B G) w G S.slots a) {v : ResultVar} {d : DV} (h : resOne P S v = some d) :
    ∃ V, (resSem a.tmps v).run P w = .ok V w ∧ Rep (ImmB B G) w G d V := by
  cases v with
  | tmp t =>
    simp only [resOne] at h
    cases h
    have := hs.2.getD t undef
    exact ⟨a.tmps.getD t undef, rfl, by simpa using this⟩
  | cell x t =>
    simp only [resOne] at h
    split at h
    · rename_i ag sz ht
      unfold cellR at h
      split at h
      · rename_i k off hk
        split at h
        · rename_i e cs hc
          have hx := hs.2.getD x undef
          rw [hk] at hx
          simp only [Rep] at hx
          obtain ⟨b, hG, hx⟩ := hx
          obtain ⟨C, h1, h2, _⟩ := hH.cells hc hG
          obtain ⟨V, hrun, hd⟩ := loadVar_run ht h2 (fun j v hj => cells_at h1 j v hj) h
          rw [Nat.zero_add] at hrun
          refine ⟨V, ?_, hd⟩
          have hx' : a.tmps.getD x undef = .pointer (some ⟨b, off, none⟩) := by simpa using hx
          simp only [resSem, hx', Sem.run_bind, asAddr, Sem.run_pure, Result.andThen_ok, hrun]
        · cases h
      · cases h
    · cases h
theorem resL_run {P : Program} {S : St} (hH : HR B G w S.heap) (hs : SR (ImmB B G) w G S.slots a) : ∀ {rs : List ResultVar} {ds : List DV}, seqO (rs.map (resOne P S)) = some ds →
    ∃ vs, (rs.mapM (resSem a.tmps)).run P w = .ok vs w ∧ RepL (ImmB B G) w G ds vs
  | [], ds, h => by
    simp only [List.map_nil, seqO] at h
    cases h
    exact ⟨[], by simp, by simp [RepL]⟩
  | v :: rs, ds, h => by
    simp only [List.map_cons, seqO] at h
    cases hd : resOne P S v with
    | none => rw [hd] at h; cases h
    | some d =>
      rw [hd, Option.bind_some] at h
      cases hds : seqO (rs.map (resOne P S)) with
      | none => rw [hds] at h; cases h
      | some ds' =>
        rw [hds] at h
        cases h
        obtain ⟨V, h1, h2⟩ := resOne_run hH hs hd
        obtain ⟨vs, h3, h4⟩ := resL_run hH hs hds
        refine ⟨V :: vs, ?_, ?_⟩
        · rw [List.mapM_cons]
          simp only [Sem.run_bind, h1, h3, Result.andThen_ok, Sem.run_pure]
        · simp only [RepL]
          exact ⟨V, vs, rfl, h2, h4⟩
theorem res_run {P : Program} {S : St} {fn : Func} {d : DV} (hH : HR B G w S.heap) (hs : SR (ImmB B G) w G S.slots a) (h : resD P fn.results.toList S = some d) : ∃ V, (results fn a.tmps).run P w = .ok V w ∧ Rep (ImmB B G) w G d V := by
  unfold resD at h
  cases hm : seqO (fn.results.toList.map (resOne P S)) with
  | none => simp [hm] at h
  | some ds =>
    simp only [hm, Option.map_some, Option.some.injEq] at h
    obtain ⟨vs, h1, h2⟩ := resL_run hH hs hm
    have hrun : (results fn a.tmps).run P w = .ok (if h : vs.toArray.size = 1 then vs.toArray[0] else .tuple vs.toArray) w := by
      unfold results
      rw [Array.mapM_eq_mapM_toList]
      simp only [Sem.run_bind, Sem.run_map]
      have key : ∀ f : ResultVar → Sem Value, (∀ v, f v = resSem a.tmps v) → (fn.results.toList.mapM f).run P w = .ok vs w := by
        intro f hf
        rw [show f = resSem a.tmps from funext hf]; exact h1
      rw [key _ (fun v => by cases v <;> rfl)]
      rfl
    refine ⟨_, hrun, ?_⟩
    subst h
    have hl := h2.length
    unfold tupD
    split
    · rename_i d
      simp only [RepL] at h2
      obtain ⟨v, r, rfl, hd, rfl⟩ := h2
      simpa using hd
    · rename_i hne
      rw [dif_neg]
      · simp only [Rep]
        exact ⟨_, rfl, h2⟩
      · intro h1
        simp at h1
        rw [hl] at h1
        cases ds with
        | nil => simp at h1
        | cons x ds =>
          have : ds = [] := List.eq_nil_of_length_eq_zero (by simpa using h1)
          subst this
          exact hne x rfl
/-- the functions that are known besides -/
def PrimSound (P : Program) (E : Env) : Prop := ∀ f g args H d H', E.prim f = some g → g args H = some (d, H') → (∃ fn, P.funcs[f]? = some fn ∧ fn.body.isSome = true) ∧ (∀ fl, CallOk P f args H fl d H') ∧ ∀ k : Nat, H[k]? = some .hole → H'[k]? = some .hole
theorem call_sound {P : Program} {E : Env} (hM : P.follows .mixedOrders = true) (hP : NoOwn P) (hE : PrimSound P E) : ∀ n, CFSound P (callN P E n) := by
  intro n
  induction n with
  | zero => intro f args H fl r H' h; cases h
  | succ n ih =>
    intro f args H fl r H' h
    simp only [callN] at h
    split at h
    · rename_i g hg
      obtain ⟨h1, h2, h3⟩ := hE f g args H r H' hg h
      exact ⟨h2 fl, h1, h3⟩
    · split at h
      · rename_i fn hf
        split at h
        · rename_i c hb
          split at h
          · cases h
          rename_i hnt
          refine ⟨?_, ⟨fn, hf, by rw [hb]; rfl⟩, ?_⟩
          · intro B G w vs hB hH hr hfl
            have hs : SR (ImmB B G) w G (args ++ List.replicate (fn.ntmps - args.length) (.flat undef)) { tmps := vs ++ Array.replicate (fn.ntmps - vs.size) undef, defers := [] } := by
              refine ⟨rfl, ?_⟩
              have hl := hr.length
              simp only [Array.length_toList] at hl
              rw [Array.toList_append, Array.toList_replicate, hl]
              refine hr.app (RepL.of (by simp) fun i d v hd hv => ?_)
              rw [List.getElem?_replicate] at hd hv
              split at hd
              · rename_i hi
                rw [if_pos hi] at hv
                cases hd; cases hv
                simp [Rep]
              · cases hd
            have hcalls : Calls P f vs w fun e w' => (∃ V G', e = .returned V ∧ Keep G w G' w' ∧ HR B G' w' H' ∧ Rep (ImmB B G') w' G' r V) ∧ Facts fl H H' := by
              refine calls_of_wp hf hb ?_
              refine exec_sound (X := ⟨P, callN P E n, E.md, fl, fn.ntmps⟩) hM hP ih n c _ _ _ _ h G w _ hB hH hs hfl (by simp; omega) _ fun x S' a' w' G' hk hK hH' hs' hf' _ => ?_
              have fin : ∀ {d : DV}, resD P fn.results.toList S' = some d → d = r → S'.heap = H' → a'.defers = [] ∧ ∃ v, (results fn a'.tmps).run P w' = .ok v w' ∧ ((∃ V G', Ending.returned v = .returned V ∧ Keep G w G' w' ∧ HR B G' w' H' ∧ Rep (ImmB B G') w' G' r V) ∧ Facts fl H H') := by
                intro d hd e1 e2
                subst e1
                subst e2
                obtain ⟨V, h1, h2⟩ := res_run hH' hs' hd
                exact ⟨hs'.1, V, h1, ⟨V, G', rfl, hK, hH', h2⟩, hf'⟩
              cases x with
              | normal =>
                simp only [] at hk
                cases hd : resD P fn.results.toList S' with
                | none => simp [hd] at hk
                | some d =>
                  simp [hd] at hk
                  exact fin hd hk.1 hk.2
              | exit id => cases hk
              | ret =>
                simp only [] at hk
                cases hd : resD P fn.results.toList S' with
                | none => simp [hd] at hk
                | some d =>
                  simp [hd] at hk
                  exact fin hd hk.1 hk.2
            refine ⟨hcalls.mono fun e w' h => h.1, ?_⟩
            obtain ⟨e, w', fr, h, _⟩ := hcalls []
            exact h.2
          · obtain ⟨x, S', hk, hh⟩ := exec_holes (X := ⟨P, callN P E n, E.md, fl, fn.ntmps⟩) ih n c _ _ _ _ h
            intro j hj
            have := hh j hj
            cases x with
            | exit id => cases hk
            | normal =>
              simp only [] at hk
              cases hd : resD P fn.results.toList S' with
              | none => simp [hd] at hk
              | some d => simp [hd] at hk; rw [← hk.2]; exact this
            | ret =>
              simp only [] at hk
              cases hd : resD P fn.results.toList S' with
              | none => simp [hd] at hk
              | some d => simp [hd] at hk; rw [← hk.2]; exact this
        · cases h
      · cases h
/-- a pure call, as the rows want it -/
theorem pure_call {P : Program} {E : Env} (hM : P.follows .mixedOrders = true) (hP : NoOwn P) (hE : PrimSound P E) {n : Nat} {f : FuncId} {args : List DV} {r : DV} {H' : Heap} (h : callN P E n f args [] 0 = some (r, H'))
    {w : World} {vs : Array Value} (hr : RepL (fun _ _ => True) w [] args vs.toList) : Calls P f vs w fun e w' => ∃ V, e = .returned V ∧ Below w.heap.size w w' ∧ ∃ (I : Nat → Nat → Prop) (G : Gh), Rep I w' G r V := by
  have hmono : RepL (ImmB (fun _ _ => True) []) w [] args vs.toList := RepL.stay (fun b j v _ hc => ⟨hc, trivial, fun k hk => by simp at hk, fun k s c n hk => by simp at hk⟩) (Evol.refl []) _ _ hr
  refine ((call_sound hM hP hE n _ _ _ _ _ _ h).1 (fun _ _ => True) [] w vs (fun _ _ _ => trivial) (hr_nil _ w) hmono (Nat.zero_le _)).1.mono fun e w' ⟨V, G', he, hK, _, hd⟩ => ?_
  refine ⟨V, he, ⟨hK.os, hK.tape, hK.output, hK.size, fun b hb => hK.blk b hb fun k hk => ?_⟩, _, G', hd⟩
  rcases hk with hk | ⟨_, _, _, hk⟩ <;> simp at hk
end Go.Proofs.Ytbhnkdnfmlnajaa
