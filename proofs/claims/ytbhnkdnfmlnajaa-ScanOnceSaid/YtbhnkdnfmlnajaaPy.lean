/- Deep values: any operation. -/
import Derived.Test.YtbhnkdnfmlnajaaPx
namespace Go.Proofs.Ytbhnkdnfmlnajaa
open Go Go.RowKit

variable {P : Program} {B : Nat → Nat → Prop} {G : Gh} {w : World} {H Hr : Heap} {o : Oper} {a : Act} {slots : List DV} {d : DV} {e : Eff}

/-- no function of the program is one of those that the machine itself answers -/
def NoOwn (P : Program) : Prop := (P.funcs.all fun fn => fn.name != "runtime.NumGoroutine") = true
theorem callFunc_run {f : FuncId} {fn : Func} (hP : NoOwn P) (hf : P.funcs[f]? = some fn) (hb : fn.body.isSome = true) (vs : Array Value) : (callFunc f vs).run P w = .ok (.enter f vs) w := by
  have hn : ¬ fn.name = "runtime.NumGoroutine" := by
    have := (Array.all_eq_true_iff_forall_mem.1 hP) fn (Array.mem_of_getElem? hf)
    simpa using this
  have hb' : ¬ fn.body = none := by cases h : fn.body <;> simp_all
  simp [callFunc, hf, hn, hb']
theorem args_rep {l : List Operand} (hs : SR (ImmB B G) w G slots a) : RepL (ImmB B G) w G (l.map (evalD slots)) (l.map a.eval) :=
  RepL.of (by simp) fun i d v hd hv => by
    simp only [List.getElem?_map] at hd hv
    cases hx : l[i]? with
    | none => rw [hx] at hd; cases hd
    | some x =>
      rw [hx] at hd hv
      simp at hd hv
      subst hd; subst hv
      exact hs.eval x
/-- what an operation leaves to be shown -/
def Three (P : Program) (B : Nat → Nat → Prop) (G : Gh) (w : World) (H Hr : Heap) (o : Oper) (a : Act) (d : DV) (e : Eff) (fl : Nat) : Prop :=
  OpOk P B G w Hr o a d e ∧ (∀ k, k < fl → (e.heap H)[k]? = H[k]?) ∧ H.length ≤ (e.heap H).length
theorem three_q {x : Option DV} {fl : Nat} (h : qv x = some (d, e)) (k : OpOk P B G w Hr o a d e) : Three P B G w H Hr o a d e fl := by
  obtain ⟨_, rfl⟩ := qv_some h
  exact ⟨k, fun _ _ => rfl, Nat.le_refl _⟩
theorem three_set {fl : Nat} (k : OpOk P B G w Hr o a d e ∧ ∀ k, k < fl → (e.heap H)[k]? = H[k]?) (hl : H.length ≤ (e.heap H).length) : Three P B G w H Hr o a d e fl := ⟨k.1, k.2, hl⟩
theorem op_value {cf : CF} {md : FuncId → CM} {fl : Nat} {c : Call} {f : Operand} (hP : NoOwn P) (hcf : CFSound P cf) (ho : o.op = .call c) (hc : c.callee = .value f) {g : FuncId} {cap : List DV} (hf : fnOf (evalD slots f) = some (g, cap))
    (h : callD cf (md g) fl g (c.args.toList.map (evalD slots) ++ cap) H = some (d, e)) (hB : ∀ b j, w.heap.size ≤ b → B b j) (hH : HR B G w Hr) (hs : SR (ImmB B G) w G slots a) (hag : Agree e H Hr) (hfl : e.wr → fl ≤ H.length) :
    Three P B G w H Hr o a d e fl := by
  have hfn : ∃ fn, P.funcs[g]? = some fn ∧ fn.body.isSome = true := by
    unfold callD at h
    split at h
    · cases hm : mapO argEl (c.args.toList.map (evalD slots) ++ cap) with
      | none => simp [hm] at h
      | some bs =>
        simp only [hm, Option.bind_some] at h
        cases hc : cf g bs [] 0 with
        | none => simp [hc] at h
        | some r => exact (hcf _ _ _ _ _ _ hc).2.1
    · cases hc : cf g (c.args.toList.map (evalD slots) ++ cap) H H.length with
      | none => simp [hc] at h
      | some r => exact (hcf _ _ _ _ _ _ hc).2.1
    · cases hc : cf g (c.args.toList.map (evalD slots) ++ cap) H fl with
      | none => simp [hc] at h
      | some r => exact (hcf _ _ _ _ _ _ hc).2.1
    · cases hc : cf g (c.args.toList.map (evalD slots) ++ cap) H fl with
      | none => simp [hc] at h
      | some r => exact (hcf _ _ _ _ _ _ hc).2.1
  obtain ⟨fn, hfn, hb⟩ := hfn
  have hv := hs.eval f
  have hcase : ∃ F C : Array Value, a.eval f = .func (.func g) F C ∧ F = #[] ∧ RepL (ImmB B G) w G cap C.toList := by
    unfold fnOf at hf
    split at hf
    · rename_i g' first cap' hk
      split at hf
      · rename_i hz
        cases hf
        rw [hk] at hv
        simp only [Rep] at hv
        refine ⟨first, cap', hv, Array.eq_empty_of_size_eq_zero hz.1, ?_⟩
        have : cap' = #[] := Array.eq_empty_of_size_eq_zero hz.2
        subst this
        simp [RepL]
      · cases hf
    · rename_i g' cap' hk
      cases hf
      rw [hk] at hv
      simp only [Rep] at hv
      obtain ⟨F, C, hv, hF, hC⟩ := hv
      refine ⟨F, C, hv, ?_, hC⟩
      simp only [RepL] at hF
      apply Array.ext'
      simpa using hF
    · cases hf
  obtain ⟨F, C, hv, rfl, hC⟩ := hcase
  refine op_call hcf (vs := c.args.map a.eval ++ C) ?_ ?_ h hB hH hag hfl
  · simp only [execOp, ho, resolve, hc, Deferred.ofValue, hv, Sem.run_bind, Sem.run_pure, Result.andThen_ok, invoke, Array.empty_append]
    exact callFunc_run hP hfn hb _
  · have := (args_rep (l := c.args.toList) hs).app hC
    simpa using this
theorem op_sound {cf : CF} {md : FuncId → CM} {fl nid : Nat} (hP : NoOwn P) (hcf : CFSound P cf) (h : evalO P cf md fl nid o slots H = some (d, e)) (hB : ∀ b j, w.heap.size ≤ b → B b j) (hH : HR B G w Hr) (hs : SR (ImmB B G) w G slots a) (hag : Agree e H Hr) (hfl : e.wr → fl ≤ H.length) (hnid : fl ≤ nid) :
    Three P B G w H Hr o a d e fl := by
  cases hop : o.op with
  | move x =>
    simp only [evalO, hop] at h
    have := op_move (P := P) (.inl hop) h hH hs
    cases h
    exact ⟨this, fun _ _ => rfl, Nat.le_refl _⟩
  | assign x =>
    simp only [evalO, hop] at h
    have := op_move (P := P) (.inr hop) h hH hs
    cases h
    exact ⟨this, fun _ _ => rfl, Nat.le_refl _⟩
  | pick c x y =>
    simp only [evalO, hop] at h
    exact three_q h (op_pick hop h hH hs)
  | alloc et =>
    simp only [evalO, hop] at h
    cases hz : zeroD P et with
    | none => simp [hz] at h
    | some z =>
      simp only [hz, Option.bind_some] at h
      obtain ⟨zv, rfl, hzv⟩ := zeroD_some hz
      have hrun : (execOp a.eval o).run P w = .ok (.value (.pointer (some ⟨w.heap.size, 0, none⟩))) (w.alloc (.cells zv.cells et)) := by
        simp only [execOp, hop, Instr.alloc, Sem.run_bind, hzv, Result.andThen_ok, newVar_run, Sem.run_pure]
      refine ⟨op_box h hrun (rep_ofVal1 zv) hB hH hag, ?_, ?_⟩ <;> (unfold allocD at h; split at h <;> cases h)
      · intro k hk; exact List.getElem?_set_ne (by omega)
      · simp [Eff.heap]
  | box et x =>
    simp only [evalO, hop] at h
    have hrun : (execOp a.eval o).run P w = .ok (.value (.pointer (some ⟨w.heap.size, 0, none⟩))) (w.alloc (.cells (a.eval x).cells et)) := by
      simp only [execOp, hop, Instr.box, Sem.run_bind, newVar_run, Result.andThen_ok, Sem.run_pure]
    refine ⟨op_box h hrun (hs.eval x) hB hH hag, ?_, ?_⟩ <;> (unfold allocD at h; split at h <;> cases h)
    · intro k hk; exact List.getElem?_set_ne (by omega)
    · simp [Eff.heap]
  | build t parts =>
    simp only [evalO, hop] at h
    split at h
    · rename_i fs z hu hz
      split at h
      · rename_i pl hpl
        obtain ⟨hz1, hz2⟩ : zeroD P t = some z ∧ z.cells.all DV.leaf = true := by
          cases hq : zeroD P t with
          | none => simp [hq] at hz
          | some z' => simp [hq, Option.filter] at hz; exact ⟨by rw [hz.2], by rw [← hz.2]; simpa using hz.1⟩
        exact three_q h (op_buildS hop hu hz1 hpl h hz2 hH hs)
      · cases h
    · rename_i n et z hu hz
      split at h
      · rename_i i hi
        obtain ⟨hz1, hz2⟩ : zeroD P t = some z ∧ z.cells.all DV.leaf = true := by
          cases hq : zeroD P t with
          | none => simp [hq] at hz
          | some z' => simp [hq, Option.filter] at hz; exact ⟨by rw [hz.2], by rw [← hz.2]; simpa using hz.1⟩
        exact three_q h (op_buildA hop hu hz1 hi h hz2 hH hs)
      · cases h
    · cases h
  | buildSlice t len parts =>
    simp only [evalO, hop] at h
    split at h
    · rename_i et hu
      split at h
      · rename_i ag sz z ht hz
        exact three_q h (op_buildL hop hu ht hz h hB hH hs)
      · cases h
    · cases h
  | load t x =>
    simp only [evalO, hop] at h
    split at h
    · rename_i ag sz ht
      refine ⟨op_load hop ht h hH hs hag, ?_⟩
      unfold loadD at h
      split at h
      · split at h
        · obtain ⟨_, rfl⟩ := rv_some h
          exact ⟨fun _ _ => rfl, Nat.le_refl _⟩
        · cases h
      · obtain ⟨_, rfl⟩ := qv_some h
        exact ⟨fun _ _ => rfl, Nat.le_refl _⟩
      · cases h
    · cases h
  | store t x y =>
    simp only [evalO, hop] at h
    split at h
    · rename_i ag sz ht
      refine three_set (op_store hop ht h hH hs hag) ?_
      unfold storeD at h
      split at h
      · split at h
        · split at h
          · cases h; simp [Eff.heap]
          · cases h
        · cases h
      · cases h
    · cases h
  | nilCheck x =>
    simp only [evalO, hop] at h
    exact three_q h (op_nil hop h hH hs)
  | binOp op t x y yt =>
    simp only [evalO, hop] at h
    exact three_q h (op_bin hop h hH hs)
  | unOp op t x =>
    simp only [evalO, hop] at h
    exact three_q h (op_un hop h hH hs)
  | convert s t x =>
    simp only [evalO, hop] at h
    exact three_q h (op_conv hop h hB hH hs)
  | makeInterface t x =>
    simp only [evalO, hop] at h
    split at h
    · cases h
    · rename_i td hn hu
      have := op_iface hop hu (fun m hm => hn m hm) h hH hs
      cases h
      exact ⟨this, fun _ _ => rfl, Nat.le_refl _⟩
    · cases h
  | makeFunc fn first cap =>
    simp only [evalO, hop] at h
    have := op_func (P := P) hop h hH hs
    cases h
    exact ⟨this, fun _ _ => rfl, Nat.le_refl _⟩
  | makeSlice t l c =>
    simp only [evalO, hop] at h
    split at h
    · rename_i et hu
      split at h
      · rename_i ag sz i z ht hi hz
        refine ⟨op_make hop hu ht hi hz h hB hH hs hag, ?_, ?_⟩ <;> (unfold makeD at h; split at h <;> (try cases h); split at h <;> cases h)
        · intro k hk; exact List.getElem?_set_ne (by omega)
        · simp [Eff.heap]
      · cases h
    · cases h
  | slice t x lo hi mx =>
    simp only [evalO, hop] at h
    split at h
    · rename_i et hu
      split at h
      · rename_i sz ht
        refine three_q h ?_
        unfold slX at h
        split at h
        · rename_i l k m hl hk hm
          exact op_sliceSl hop hu ht hl hk hm h hH hs
        · simp [qv] at h
      · cases h
    · rename_i n et hu
      split at h
      · rename_i ag sz ht
        refine three_q h ?_
        unfold saX at h
        split at h
        · rename_i l k m hl hk hm
          exact op_sliceAr hop hu ht hl hk hm h hH hs
        · simp [qv] at h
      · cases h
    · cases h
  | fieldAddr s x f =>
    simp only [evalO, hop] at h
    split at h
    · rename_i fs hu
      split at h
      · rename_i fd hf
        split at h
        · rename_i i hi
          exact three_q h (op_fieldAddr hop hu hf hi h hH hs)
        · cases h
      · cases h
    · cases h
  | field t x f =>
    simp only [evalO, hop] at h
    split at h
    · rename_i fs hu
      split at h
      · rename_i fd hf
        split at h
        · rename_i ag sz ht
          refine three_q h ?_
          unfold fldD at h
          split at h
          · rename_i cs hc
            exact op_field hop hu hf ht hc h hH hs
          · simp [qv] at h
        · cases h
      · cases h
    · cases h
  | indexAddr t x i =>
    simp only [evalO, hop] at h
    split at h
    · rename_i len et hu
      split at h
      · rename_i ie hie
        exact three_q h (op_idxArr hop hu hie h hH hs)
      · cases h
    · rename_i et hu
      split at h
      · rename_i ie hie
        exact three_q h (op_idxSl hop hu hie h hH hs)
      · cases h
    · cases h
  | index t x i =>
    simp only [evalO, hop] at h
    split at h
    · rename_i len et hu
      split at h
      · rename_i ag sz ht
        refine three_q h ?_
        unfold idxV at h
        split at h
        · rename_i n cs hn hc
          split at h
          · rename_i h0
            exact op_index hop hu ht hn hc h0 h hH hs
          · simp [qv] at h
        · simp [qv] at h
      · cases h
    · cases h
  | extract t i =>
    simp only [evalO, hop] at h
    exact three_q h (op_ext hop h hH hs)
  | call c =>
    simp only [evalO, hop] at h
    unfold callOp at h
    split at h
    · rename_i hc
      split at h
      · rename_i x t hx ht
        exact three_q h (op_len hop hc hx ht h hH hs)
      · cases h
    · rename_i hc
      split at h
      · rename_i x t hx ht
        exact three_q h (op_cap hop hc hx ht h hH hs)
      · cases h
    · rename_i hc
      split at h
      · rename_i x y t t' hx ht
        split at h
        · rename_i htt
          subst htt
          split at h
          · rename_i et hu
            split at h
            · rename_i ag sz i z hsz hi hz
              split at h
              · rename_i hzl
                refine three_set (op_append hop hc hx ht hu hsz hi hz hzl h hB hH hs hag hfl) ?_
                unfold appendD at h
                split at h
                · split at h
                  · cases h; exact Nat.le_refl _
                  · split at h
                    · split at h
                      · cases h; simp [Eff.heap]
                      · split at h
                        · split at h
                          · cases h; simp [Eff.heap]
                          · cases h
                        · cases h
                      · cases h
                    · cases h
                · cases h
              · cases h
            · cases h
          · cases h
        · cases h
      · cases h
    · rename_i hc
      split at h
      · rename_i x y t t' hx ht
        split at h
        · rename_i et hu
          split at h
          · rename_i ag sz hsz
            refine three_set (op_copy hop hc hx ht hu hsz h hH hs hag) ?_
            unfold copyD at h
            split at h
            · split at h
              · split at h
                · simp only [] at h
                  split at h
                  · cases h; simp [Eff.heap]
                  · cases h
                · cases h
              · cases h
            · cases h
          · cases h
        · cases h
      · cases h
    · rename_i b _ _ _ _ hc
      exact three_q h (op_built hop hc h hH hs)
    · rename_i f hc
      unfold callV at h
      split at h
      · rename_i g cap hf
        exact op_value hP hcf hop hc hf h hB hH hs hag hfl
      · cases h
    · cases h
  | _ => simp [evalO, hop] at h
end Go.Proofs.Ytbhnkdnfmlnajaa
