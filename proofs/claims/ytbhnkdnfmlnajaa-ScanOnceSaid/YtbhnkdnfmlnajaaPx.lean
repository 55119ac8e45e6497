/- Deep values: calls, and any operation. -/
import Derived.Test.YtbhnkdnfmlnajaaPw
namespace Go.Proofs.Ytbhnkdnfmlnajaa
open Go Go.RowKit

variable {P : Program} {B : Nat → Nat → Prop} {G : Gh} {w : World} {H Hr : Heap} {o : Oper} {a : Act} {slots : List DV} {d : DV} {e : Eff}

/-- an operation that enters a function -/
theorem OpOk.enter {f : FuncId} {vs : Array Value} (hrun : (execOp a.eval o).run P w = .ok (.enter f vs) w)
    (hc : Calls P f vs w fun en w' => ∃ V G', en = .returned V ∧ Keep G w G' w' ∧ HR B G' w' (e.heap Hr) ∧ Rep (ImmB B G') w' G' d V) : OpOk P B G w Hr o a d e := by
  intro K Q h
  unfold Oper.wp
  rw [hrun, Oper.upon_enter]
  refine hc.mono fun en w' ⟨V, G', he, hK, hH, hd⟩ => ?_
  subst he
  exact h V w' G' hK hH hd
theorem keep_of_nil {G1 : Gh} {w1 : World} (h : Keep [] w G1 w1) : Keep G w G w1 := by
  have old : ∀ b, b < w.heap.size → w1.heap[b]? = w.heap[b]? := fun b hb => h.blk b hb (fun k hk => by rcases hk with hk | ⟨_, _, _, hk⟩ <;> simp at hk)
  exact ⟨h.os, h.tape, h.output, h.size, fun b hb _ => old b hb, fun k b sz cap hw hg hb j _ => cell_of_blk (old b hb) j, Evol.refl G, fun _ _ _ h => h, fun _ _ _ cap hw _ h => ⟨cap, hw, h, Nat.le_refl _⟩⟩
theorem hr_of_nil {G1 : Gh} {w1 : World} (h : Keep [] w G1 w1) (hH : HR B G w H) : HR B G w1 H := by
  have hK := keep_of_nil (G := G) h
  have old : ∀ b, b < w.heap.size → w1.heap[b]? = w.heap[b]? := fun b hb => h.blk b hb (fun k hk => by rcases hk with hk | ⟨_, _, _, hk⟩ <;> simp at hk)
  refine ⟨hH.len, hH.dist, fun k x g hx hg => blk_keep hK (hH.blk k x g hx hg) fun b hb => old b (hH.lt (k := k) ?_), hH.bb⟩
  rcases hb with rfl | ⟨s, c, n, rfl⟩
  · exact .inl hg
  · exact .inr ⟨s, c, n, hg⟩
theorem hr_nil (B : Nat → Nat → Prop) (w : World) : HR B [] w [] := ⟨rfl, fun k k' b h _ => by rcases h with h | ⟨_, _, _, h⟩ <;> simp at h, fun k b g h _ => by simp at h, fun k b h => by rcases h with h | ⟨_, _, _, h⟩ <;> simp at h⟩
theorem take_eq {G1 : Gh} {w1 : World} {H1 : Heap} (hH : HR B G w H) (hH1 : HR B G1 w1 H1) (hE : Evol G G1) (hF : ∀ k, k < H.length → H1[k]? = H[k]?) : G1.take G.length = G := by
  refine List.ext_getElem? fun k => ?_
  rcases Nat.lt_or_ge k G.length with hk | hk
  · rw [List.getElem?_take_of_lt hk]
    have hg := List.getElem?_eq_getElem hk
    obtain ⟨g', hg', he⟩ := hE k _ hg
    have hkH : k < H.length := by rw [hH.len]; exact hk
    have hb := List.getElem?_eq_getElem hkH
    have h1 := hH.blk _ _ _ hb hg
    have hb1 := hF k hkH
    rw [hb] at hb1
    have h2 := hH1.blk _ _ _ hb1 hg'
    rw [hg', hg]
    congr 1
    generalize H[k] = x at h1 h2
    generalize G[k] = g at h1 he
    cases x <;> cases g <;> simp only [BlkRep] at h1
    · cases g' <;> simp only [BlkRep] at h2
      rfl
    · exact he
    · obtain ⟨b', cap', hw', rfl, q1, q2⟩ := he
      simp only [BlkRep] at h2
      obtain ⟨_, r1, _⟩ := h2
      obtain ⟨_, r2, _⟩ := h1
      have : hw' = _ := r1.trans r2.symm
      obtain ⟨rfl, rfl⟩ := q2 this
      rw [this]
  · rw [List.getElem?_eq_none (by simp; omega), List.getElem?_eq_none hk]
theorem hr_ro {G1 : Gh} {w1 : World} {H1 : Heap} (hH : HR B G w H) (hH1 : HR B G1 w1 H1) (hE : Evol G G1) (hF : ∀ k, k < H.length → H1[k]? = H[k]?) : HR B G w1 H := by
  have ht := take_eq hH hH1 hE hF
  have hg : ∀ (k : Nat) (g : GK), G[k]? = some g → G1[k]? = some g := by
    intro k g h
    rw [← ht] at h
    exact (take_get h).2
  have hI : Stay (ImmB B G1) (ImmB B G) w1 w1 := by
    have := stay_take (B := B) (G := G1) (w := w1) G.length
    rw [ht] at this; exact this
  refine ⟨hH.len, hH.dist, fun k x g hx hgk => ?_, hH.bb⟩
  have hk : k < H.length := (List.getElem?_eq_some_iff.1 hx).1
  have h1 := hH1.blk k x g (by rw [hF k hk]; exact hx) (hg k g hgk)
  have h0 := hH.blk k x g hx hgk
  cases x <;> cases g <;> simp only [BlkRep] at h0 h1 ⊢
  · obtain ⟨C, q1, q2, q3⟩ := h1
    obtain ⟨C0, _, r2, _⟩ := h0
    refine ⟨C, q1, RepL.shrink (n0 := G.length) (fun i hi => ?_) hI _ _ (RepL.inSc _ _ r2) q2, q3⟩
    rw [hg i _ (List.getElem?_eq_getElem hi)]
    exact List.getElem?_eq_getElem hi
  · exact h1
/-- a function is called, in whichever way -/
theorem op_call {cf : CF} {m : CM} {f : FuncId} {args : List DV} {vs : Array Value} {fl : Nat} (hcf : CFSound P cf) (hrun : (execOp a.eval o).run P w = .ok (.enter f vs) w) (hr : RepL (ImmB B G) w G args vs.toList)
    (h : callD cf m fl f args H = some (d, e)) (hB : ∀ b j, w.heap.size ≤ b → B b j) (hH : HR B G w Hr) (hag : Agree e H Hr) (hfl : e.wr → fl ≤ H.length) :
    OpOk P B G w Hr o a d e ∧ (∀ k, k < fl → (e.heap H)[k]? = H[k]?) ∧ H.length ≤ (e.heap H).length := by
  unfold callD at h
  cases m with
  | pure ti =>
    cases hm : mapO argEl args with
    | none => simp [hm] at h
    | some bs =>
      simp only [hm, Option.bind_some] at h
      cases hc : cf f bs [] 0 with
      | none => simp [hc] at h
      | some r =>
        obtain ⟨r, H1⟩ := r
        simp only [hc, Option.bind_some] at h
        obtain ⟨hp, rfl⟩ := qv_some h
        refine ⟨OpOk.enter hrun ?_, fun _ _ => rfl, Nat.le_refl _⟩
        obtain ⟨B', hB'⟩ : ∃ B' : Nat → Nat → Prop, ∀ b j, B' b j ↔ (ImmB B G b j ∨ w.heap.size ≤ b) := ⟨_, fun _ _ => Iff.rfl⟩
        have hb1 : ∀ b j, ImmB B G b j → ImmB B' [] b j := fun b j hi => ⟨(hB' b j).2 (.inl hi), fun k hk => by simp at hk, fun k s c n hk => by simp at hk⟩
        have hargs : RepL (ImmB B' []) w [] bs vs.toList := mapO_rep hm hr fun d d' V _ hd hV =>
          outEl_rep (B := B) (G := G) hd hV (fun ⟨x, hx⟩ => by simp at hx) (fun b j _ hi => hb1 b j hi) (fun k b hk => by simp at hk)
        obtain ⟨hcall, _⟩ := (hcf _ _ _ _ _ _ hc).1 B' [] w vs (fun b j hb => (hB' b j).2 (.inr hb)) (hr_nil B' w) hargs (Nat.zero_le _)
        refine hcall.mono fun en w1 ⟨V, G1, he, hK, hH1, hd⟩ => ⟨V, G, he, keep_of_nil hK, hr_of_nil hK hH, ?_⟩
        have back : ∀ b j, B' b j → ImmB B G b j := by
          intro b j hb
          rcases (hB' b j).1 hb with hi | hi
          · exact hi
          · refine ⟨hB b j hi, fun k hk => ?_, fun k s c n hk => ?_⟩
            · have := hH.lt (.inl hk : liveAt G k b); omega
            · have := hH.lt (.inr ⟨_, _, _, hk⟩ : liveAt G k b); omega
        exact Rep.nil (outD_rep hp hd (fun _ => hH1) (fun b j _ hi => back b j hi.1) (fun k b _ hk j => back b j (hH1.bb k b (.inl hk) j)))
  | ro =>
    cases hc : cf f args H H.length with
    | none => simp [hc] at h
    | some r =>
      obtain ⟨r, H1⟩ := r
      simp only [hc, Option.bind_some] at h
      unfold ov at h
      cases ho : oldD H.length H1 r with
      | none => simp [ho] at h
      | some d' =>
        simp [ho] at h
        obtain ⟨rfl, rfl⟩ := h
        have hag : Hr = H := hag
        subst hag
        obtain ⟨hcall, hF, _⟩ := (hcf _ _ _ _ _ _ hc).1 B G w vs hB hH hr (Nat.le_refl _)
        refine ⟨OpOk.enter hrun ?_, fun _ _ => rfl, Nat.le_refl _⟩
        refine hcall.mono fun en w1 ⟨V, G1, he, hK, hH1, hd⟩ => ?_
        have ht := take_eq hH hH1 hK.evol hF
        have hk := keep_take hK
        rw [ht] at hk
        refine ⟨V, G, he, hk, hr_ro hH hH1 hK.evol hF, ?_⟩
        have := oldD_rep ho hd hH1
        rw [hH.len, ht] at this
        exact this
  | rw =>
    cases hc : cf f args H fl with
    | none => simp [hc] at h
    | some r =>
      obtain ⟨r, H1⟩ := r
      simp only [hc, Option.bind_some] at h
      cases ho : oldD H.length H1 r with
      | none => simp [ho] at h
      | some d' =>
        simp only [ho, Option.bind_some] at h
        cases hcut : cutH H.length H1 with
        | none => simp [hcut] at h
        | some H2 =>
          simp [hcut] at h
          obtain ⟨rfl, rfl⟩ := h
          have hag : Hr = H := hag
          subst hag
          obtain ⟨hcall, hF, hL⟩ := (hcf _ _ _ _ _ _ hc).1 B G w vs hB hH hr (hfl (.inl rfl))
          have hlen2 : H2.length = Hr.length := by
            have := (mapO_some hcut).1
            rw [this]; simp; omega
          refine ⟨OpOk.enter hrun ?_, ?_, Nat.le_of_eq hlen2.symm⟩
          · refine hcall.mono fun en w1 ⟨V, G1, he, hK, hH1, hd⟩ => ?_
            have h1 := cut_rep hcut hH1
            have h2 := oldD_rep ho hd hH1
            rw [hH.len] at h1 h2
            exact ⟨V, _, he, keep_take hK, h1, h2⟩
          · intro k hk
            show H2[k]? = Hr[k]?
            have hkl : k < Hr.length := Nat.lt_of_lt_of_le hk (hfl (.inl rfl))
            have hb := List.getElem?_eq_getElem hkl
            obtain ⟨y, hy, hfy⟩ := (mapO_some hcut).2 k Hr[k] (by rw [List.getElem?_take_of_lt hkl, hF k hk]; exact hb)
            rw [hy, hb]
            congr 1
            have hg := List.getElem?_eq_getElem (show k < G.length by rw [← hH.len]; exact hkl)
            have hblk := hH.blk _ _ _ hb hg
            generalize Hr[k] = x at hfy hblk
            generalize G[k]'(by rw [← hH.len]; exact hkl) = g at hblk
            unfold oldBlk at hfy
            split at hfy
            · rename_i e' cs
              cases hm : mapO (oldLeaf Hr.length H1) cs with
              | none => simp [hm] at hfy
              | some cs' =>
                simp [hm] at hfy
                subst hfy
                congr 1
                cases g <;> simp only [BlkRep] at hblk
                obtain ⟨C, _, q2, q3⟩ := hblk
                obtain ⟨l1, l2⟩ := mapO_some hm
                refine List.ext_getElem? fun i => ?_
                rcases Nat.lt_or_ge i cs.length with hi | hi
                · have hd := List.getElem?_eq_getElem hi
                  obtain ⟨z, hz, hfz⟩ := l2 i _ hd
                  rw [hz, hd]
                  congr 1
                  obtain ⟨v, hv, hrv⟩ := q2.get i _ hd
                  have hsc := Rep.inSc _ _ hrv
                  have h1 := q3 v (List.mem_of_getElem? hv)
                  generalize cs[i] = dd at hfz hrv hsc
                  unfold oldLeaf at hfz
                  have hlf : dd.leaf = true ∨ dd = .any := by
                    cases dd <;> simp_all [DV.leaf, Rep]
                    all_goals (obtain ⟨_, rfl, _⟩ := hrv; simp [isOne] at h1)
                  rcases hlf with hlf | rfl
                  · rw [hH.len] at hfz
                    rw [if_pos (by simp [hlf, hsc])] at hfz
                    cases hfz; rfl
                  · simp [DV.leaf] at hfz
                · rw [List.getElem?_eq_none (by omega), List.getElem?_eq_none hi]
            · cases hfy; rfl
  | keep =>
    cases hc : cf f args H fl with
    | none => simp [hc] at h
    | some r =>
      obtain ⟨r, H1⟩ := r
      simp [hc] at h
      obtain ⟨rfl, rfl⟩ := h
      have hag : Hr = H := hag
      subst hag
      obtain ⟨hcall, hF, hL⟩ := (hcf _ _ _ _ _ _ hc).1 B G w vs hB hH hr (hfl (.inl rfl))
      exact ⟨OpOk.enter hrun hcall, hF, hL⟩
end Go.Proofs.Ytbhnkdnfmlnajaa
