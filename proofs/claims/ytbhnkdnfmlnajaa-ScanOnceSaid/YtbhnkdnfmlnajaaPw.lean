/- Deep values: calls. -/
import Derived.Test.YtbhnkdnfmlnajaaPv
namespace Go.Proofs.Ytbhnkdnfmlnajaa
open Go Go.RowKit

variable {P : Program} {B : Nat → Nat → Prop} {G : Gh} {w : World} {H Hr : Heap} {o : Oper} {a : Act} {slots : List DV} {d : DV} {e : Eff}

/-- what is to be shown of a call -/
def CallOk (P : Program) (f : FuncId) (args : List DV) (H : Heap) (fl : Nat) (r : DV) (H' : Heap) : Prop :=
  ∀ (B : Nat → Nat → Prop) (G : Gh) (w : World) (vs : Array Value), (∀ b j, w.heap.size ≤ b → B b j) → HR B G w H → RepL (ImmB B G) w G args vs.toList → fl ≤ H.length →
    (Calls P f vs w fun e w' => ∃ V G', e = .returned V ∧ Keep G w G' w' ∧ HR B G' w' H' ∧ Rep (ImmB B G') w' G' r V) ∧ (∀ k, k < fl → H'[k]? = H[k]?) ∧ H.length ≤ H'.length
def CFSound (P : Program) (cf : CF) : Prop := ∀ f args H fl r H', cf f args H fl = some (r, H') → CallOk P f args H fl r H' ∧ (∃ fn, P.funcs[f]? = some fn ∧ fn.body.isSome = true) ∧ ∀ k : Nat, H[k]? = some .hole → H'[k]? = some .hole
section
variable {I I' : Nat → Nat → Prop}
theorem Rep.mono {d : DV} {V : Value} (hI : ∀ b j, b < w.heap.size → I b j → I' b j) (h : Rep I w G d V) : Rep I' w G d V :=
  Rep.stay (fun b j _ hi hc => ⟨hc, hI b j (cell_lt hc) hi⟩) (Evol.refl G) d V h
theorem RepX.mono {J J' : Nat → Nat → Prop} {sz b o' : Nat} {xs : List DV} (hI : ∀ b j, b < w.heap.size → I b j → I' b j) (hJ : ∀ j, J b j → J' b j) (h : RepX I J w sz xs b o') : RepX I' J' w sz xs b o' :=
  RepX.of fun i x hx => by
    obtain ⟨h0, V, h1, h2, h3⟩ := h.get i x hx
    exact ⟨h0, V, h1.mono hI, h2, fun j v hj => ⟨(h3 j v hj).1, hJ _ (h3 j v hj).2.1, (h3 j v hj).2.2⟩⟩
theorem outLeaf_rep {ti : Bool} {d d' : DV} {V : Value} (h : outLeaf ti H d = some d') (k : Rep (ImmB B G) w G d V) (hH : (∃ x : Nat, H[x]? ≠ none) → HR B G w H) (hI : ∀ b j, b < w.heap.size → ImmB B G b j → I' b j)
    (hl : ∀ ag sz k off n c b, d = .row ag sz k off n c → G[k]? = some (GK.cel b) → ∀ j, I' b j) : Rep I' w [] d' V ∧ d'.leaf = true := by
  unfold outLeaf at h
  split at h
  · split at h
    · rename_i v hv
      cases h
      exact ⟨by simpa only [Rep] using k, hv⟩
    · cases h
  · rename_i sz xs t
    cases h
    obtain ⟨A, c, rfl, h1, h2, h3, h4⟩ := repX_val k
    have hE : xs = [] ∨ ∃ b o, A = some ⟨b, o, none⟩ ∧ RepX I' I' w sz xs b o := by
      refine h3.imp id fun ⟨b, o', e, h⟩ => ⟨b, o', e, RepX.of fun i x hx => ?_⟩
      obtain ⟨q0, W, q1, q2, q3⟩ := h.get i x hx
      exact ⟨q0, W, q1.mono hI, q2, fun j v hj => ⟨(q3 j v hj).1, hI _ _ (cell_lt (q3 j v hj).1) (q3 j v hj).2.1, (q3 j v hj).2.2⟩⟩
    refine ⟨repX_mk h1 h2 hE ?_, rfl⟩
    unfold shTag
    split
    · split
      · exact h4
      · trivial
    · trivial
  · rename_i ag sz kk off n c
    split at h
    · rename_i hc
      cases hr : rowCells H kk off (n * sz) with
      | none => simp [hr] at h
      | some cs =>
        simp only [hr, Option.bind_some] at h
        cases hx : mapO plainEl (chunk ag sz n cs) with
        | none => simp [hx] at h
        | some xs =>
          simp [hx] at h
          subst h
          simp only [Rep] at k
          obtain ⟨b, hG, rfl⟩ := k
          have hH' := hH ⟨kk, by obtain ⟨e, all, hk, _⟩ := rowCells_some hr; rw [hk]; simp⟩
          obtain ⟨_, _, hn⟩ := chunkOk_some hc.1
          obtain ⟨r1, r2⟩ := row_rep (J := I') hH' hG hc.1 hr hx (hl _ _ _ _ _ _ b rfl hG)
          refine ⟨rep_mkl (by intro j; split <;> simp) ?_, by unfold mkl; split <;> rfl⟩
          have := repX_mk (G := []) (xs := xs) (t := if (ti && n == c) = true then .ti else .sh) (A := some ⟨b, off, none⟩) (c := c) (by rw [r2]; exact hc.2) (by rw [r2]; exact hn) (.inr ⟨b, off, rfl, r1.mono hI (fun _ h => h)⟩) (by
            split
            · rename_i ht
              simp only [Bool.and_eq_true, beq_iff_eq] at ht
              simp only [TagOk]; rw [r2]; exact ht.2.symm
            · trivial)
          rw [r2] at this
          simpa using this
    · cases h
  · cases h
theorem mapO_rep {f : DV → Option DV} {G' : Gh} {cs cs' : List DV} {vs : List Value} (h : mapO f cs = some cs') (hr : RepL I w G cs vs) (hf : ∀ d d' V, d ∈ cs → f d = some d' → Rep I w G d V → Rep I' w G' d' V) : RepL I' w G' cs' vs := by
  obtain ⟨h1, h2⟩ := mapO_some h
  refine RepL.of (by rw [hr.length, h1]) fun i d' v hd hv => ?_
  have hlt : i < cs.length := by rw [← h1]; exact (List.getElem?_eq_some_iff.1 hd).1
  obtain ⟨y, hy, hfy⟩ := h2 i _ (List.getElem?_eq_getElem hlt)
  rw [hd] at hy; cases hy
  obtain ⟨v', hv', hrv⟩ := hr.get i _ (List.getElem?_eq_getElem hlt)
  rw [hv'] at hv; cases hv
  exact hf _ _ _ (List.getElem_mem hlt) hfy hrv
theorem outEl_rep {ti : Bool} {d d' : DV} {V : Value} (h : outEl ti H d = some d') (k : Rep (ImmB B G) w G d V) (hH : (∃ x : Nat, H[x]? ≠ none) → HR B G w H) (hI : ∀ b j, b < w.heap.size → ImmB B G b j → I' b j)
    (hl : ∀ k b : Nat, H[k]? ≠ none → G[k]? = some (GK.cel b) → ∀ j, I' b j) : Rep I' w [] d' V := by
  have leaf : ∀ d d' V, outLeaf ti H d = some d' → Rep (ImmB B G) w G d V → Rep I' w [] d' V := by
    intro d d' V h k
    by_cases hrow : ∃ ag sz kk off n c, d = .row ag sz kk off n c ∧ H[kk]? = none
    · obtain ⟨ag, sz, kk, off, n, c, rfl, hn⟩ := hrow
      unfold outLeaf at h
      simp only [rowCells, hn] at h
      split at h <;> simp at h
    · exact (outLeaf_rep h k hH hI fun ag sz kk off n c b e hG => hl kk b (fun hn => hrow ⟨ag, sz, kk, off, n, c, e, hn⟩) hG).1
  unfold outEl at h
  split at h
  · rename_i cs
    cases hm : mapO (outLeaf ti H) cs with
    | none => simp [hm] at h
    | some cs' =>
      simp [hm] at h
      subst h
      simp only [Rep] at k ⊢
      obtain ⟨vs, e, k⟩ := k
      exact ⟨vs, e, mapO_rep hm k fun d d' V _ h k => leaf d d' V h k⟩
  · cases h
    simpa only [Rep] using k
  · exact leaf _ _ _ h k
theorem outD_rep {ti : Bool} {d d' : DV} {V : Value} (h : outD ti H d = some d') (k : Rep (ImmB B G) w G d V) (hH : (∃ x : Nat, H[x]? ≠ none) → HR B G w H) (hI : ∀ b j, b < w.heap.size → ImmB B G b j → I' b j)
    (hl : ∀ k b : Nat, H[k]? ≠ none → G[k]? = some (GK.cel b) → ∀ j, I' b j) : Rep I' w [] d' V := by
  unfold outD at h
  split at h
  · rename_i cs
    cases hm : mapO (outEl ti H) cs with
    | none => simp [hm] at h
    | some cs' =>
      simp [hm] at h
      subst h
      simp only [Rep] at k ⊢
      obtain ⟨vs, e, k⟩ := k
      exact ⟨vs, e, mapO_rep hm k fun d d' V _ h k => outEl_rep h k hH hI hl⟩
  · exact outEl_rep h k hH hI hl
end
mutual
theorem Rep.inSc {I : Nat → Nat → Prop} : ∀ (d : DV) (V : Value), Rep I w G d V → inSc G.length d = true
  | .any, _, _ => by simp [Go.Proofs.Ytbhnkdnfmlnajaa.inSc]
  | .flat v, V, _ => by simp [Go.Proofs.Ytbhnkdnfmlnajaa.inSc]
  | .agg cs, V, k => by
    simp only [Rep] at k
    obtain ⟨vs, _, k⟩ := k
    simp only [Go.Proofs.Ytbhnkdnfmlnajaa.inSc]
    exact RepL.inSc cs _ k
  | .tup cs, V, k => by
    simp only [Rep] at k
    obtain ⟨vs, _, k⟩ := k
    simp only [Go.Proofs.Ytbhnkdnfmlnajaa.inSc]
    exact RepL.inSc cs _ k
  | .list sz xs t, V, k => by
    simp only [Rep] at k
    obtain ⟨A, c, _, _, _, _, k⟩ := k
    cases t with
    | own k' =>
      simp only [TagOk] at k
      obtain ⟨b, s, cap, hw, hG, _⟩ := k
      simp only [Go.Proofs.Ytbhnkdnfmlnajaa.inSc, decide_eq_true_eq]
      exact (List.getElem?_eq_some_iff.1 hG).1
    | _ => simp [Go.Proofs.Ytbhnkdnfmlnajaa.inSc]
  | .ptr k off, V, r => by
    simp only [Rep] at r
    obtain ⟨b, hG, _⟩ := r
    simp only [Go.Proofs.Ytbhnkdnfmlnajaa.inSc, decide_eq_true_eq]
    exact (List.getElem?_eq_some_iff.1 hG).1
  | .row _ _ k off n c, V, r => by
    simp only [Rep] at r
    obtain ⟨b, hG, _⟩ := r
    simp only [Go.Proofs.Ytbhnkdnfmlnajaa.inSc, decide_eq_true_eq]
    exact (List.getElem?_eq_some_iff.1 hG).1
  | .elem x off, V, _ => by simp [Go.Proofs.Ytbhnkdnfmlnajaa.inSc]
  | .clo fn first cap, V, k => by
    simp only [Rep] at k
    obtain ⟨f, c, _, k1, k2⟩ := k
    simp only [Go.Proofs.Ytbhnkdnfmlnajaa.inSc, Bool.and_eq_true]
    exact ⟨RepL.inSc first _ k1, RepL.inSc cap _ k2⟩
  | .iface t d, V, k => by
    simp only [Rep] at k
    obtain ⟨v, _, k⟩ := k
    simp only [Go.Proofs.Ytbhnkdnfmlnajaa.inSc]
    exact Rep.inSc d v k
theorem RepL.inSc {I : Nat → Nat → Prop} : ∀ (ds : List DV) (vs : List Value), RepL I w G ds vs → inScL G.length ds = true
  | [], _, _ => by simp [inScL]
  | d :: ds, vs, k => by
    simp only [RepL] at k
    obtain ⟨v, r, _, k1, k2⟩ := k
    simp only [inScL, Bool.and_eq_true]
    exact ⟨Rep.inSc d v k1, RepL.inSc ds r k2⟩
end
mutual
/-- a value that names old blocks alone, with the old ghost -/
theorem Rep.shrink {I I' : Nat → Nat → Prop} {n0 : Nat} {G' : Gh} (hG : ∀ k, k < n0 → G'[k]? = G[k]?) (hst : Stay I I' w w) : ∀ (d : DV) (V : Value), inSc n0 d = true → Rep I w G d V → Rep I' w G' d V
  | .any, _, _, _ => by simp [Rep]
  | .flat v, V, _, k => by simpa only [Rep] using k
  | .agg cs, V, hs, k => by
    simp only [Go.Proofs.Ytbhnkdnfmlnajaa.inSc] at hs
    simp only [Rep] at k ⊢
    obtain ⟨vs, e, k⟩ := k
    exact ⟨vs, e, RepL.shrink hG hst cs _ hs k⟩
  | .tup cs, V, hs, k => by
    simp only [Go.Proofs.Ytbhnkdnfmlnajaa.inSc] at hs
    simp only [Rep] at k ⊢
    obtain ⟨vs, e, k⟩ := k
    exact ⟨vs, e, RepL.shrink hG hst cs _ hs k⟩
  | .list sz xs t, V, hs, k => by
    simp only [Rep] at k ⊢
    obtain ⟨A, c, e, k1, k2, k3, k4⟩ := k
    refine ⟨A, c, e, k1, k2, k3.imp id fun ⟨b, o, e, k⟩ => ⟨b, o, e, RepE.stay hst sz xs b o k⟩, ?_⟩
    cases t with
    | own k' =>
      simp only [Go.Proofs.Ytbhnkdnfmlnajaa.inSc, decide_eq_true_eq] at hs
      simp only [TagOk] at k4 ⊢
      rw [hG k' hs]; exact k4
    | _ => exact k4
  | .ptr k off, V, hs, r => by
    simp only [Go.Proofs.Ytbhnkdnfmlnajaa.inSc, decide_eq_true_eq] at hs
    simp only [Rep] at r ⊢
    rw [hG k hs]; exact r
  | .row _ _ k off n c, V, hs, r => by
    simp only [Go.Proofs.Ytbhnkdnfmlnajaa.inSc, decide_eq_true_eq] at hs
    simp only [Rep] at r ⊢
    rw [hG k hs]; exact r
  | .elem x off, V, _, k => by
    simp only [Rep] at k ⊢
    obtain ⟨k0, b, o, E, e, k1, k2⟩ := k
    exact ⟨k0, b, o, E, e, Rep.stay hst (Evol.nil []) x E k1, k2.stay hst⟩
  | .clo fn first cap, V, hs, k => by
    simp only [Go.Proofs.Ytbhnkdnfmlnajaa.inSc, Bool.and_eq_true] at hs
    simp only [Rep] at k ⊢
    obtain ⟨f, c, e, k1, k2⟩ := k
    exact ⟨f, c, e, RepL.shrink hG hst first _ hs.1 k1, RepL.shrink hG hst cap _ hs.2 k2⟩
  | .iface t d, V, hs, k => by
    simp only [Go.Proofs.Ytbhnkdnfmlnajaa.inSc] at hs
    simp only [Rep] at k ⊢
    obtain ⟨v, e, k⟩ := k
    exact ⟨v, e, Rep.shrink hG hst d v hs k⟩
theorem RepL.shrink {I I' : Nat → Nat → Prop} {n0 : Nat} {G' : Gh} (hG : ∀ k, k < n0 → G'[k]? = G[k]?) (hst : Stay I I' w w) : ∀ (ds : List DV) (vs : List Value), inScL n0 ds = true → RepL I w G ds vs → RepL I' w G' ds vs
  | [], vs, _, k => by simpa only [RepL] using k
  | d :: ds, vs, hs, k => by
    simp only [inScL, Bool.and_eq_true] at hs
    simp only [RepL] at k ⊢
    obtain ⟨v, r, e, k1, k2⟩ := k
    exact ⟨v, r, e, Rep.shrink hG hst d v hs.1 k1, RepL.shrink hG hst ds r hs.2 k2⟩
end
theorem take_get {n0 k : Nat} {g : GK} (h : (G.take n0)[k]? = some g) : k < n0 ∧ G[k]? = some g := by
  rw [List.getElem?_take] at h
  split at h
  · rename_i hk; exact ⟨hk, h⟩
  · cases h
theorem take_live {n0 k b : Nat} (h : liveAt (G.take n0) k b) : k < n0 ∧ liveAt G k b := by
  rcases h with h | ⟨s, c, n, h⟩
  · exact ⟨(take_get h).1, .inl (take_get h).2⟩
  · exact ⟨(take_get h).1, .inr ⟨s, c, n, (take_get h).2⟩⟩
/-- what cells may be read when blocks are forgotten -/
theorem imm_take {n0 b j : Nat} (h : ImmB B G b j) : ImmB B (G.take n0) b j :=
  ⟨h.1, fun k hk => h.2.1 k (take_get hk).2, fun k s c n hk => h.2.2 k s c n (take_get hk).2⟩
theorem stay_take (n0 : Nat) : Stay (ImmB B G) (ImmB B (G.take n0)) w w := fun _ _ _ hi hc => ⟨hc, imm_take hi⟩
theorem oldLeaf_rep {n0 : Nat} {d d' : DV} {V : Value} (h : oldLeaf n0 H d = some d') (k : Rep (ImmB B G) w G d V) (hH : HR B G w H) : Rep (ImmB B (G.take n0)) w (G.take n0) d' V := by
  unfold oldLeaf at h
  split at h
  · rename_i hc
    cases h
    simp only [Bool.and_eq_true] at hc
    exact Rep.shrink (fun i hi => List.getElem?_take_of_lt hi) (stay_take n0) _ _ hc.2 k
  · split at h
    · rename_i sz xs t _
      cases h
      simp only [Rep] at k ⊢
      obtain ⟨A, c, e, k1, k2, k3, k4⟩ := k
      exact ⟨A, c, e, k1, k2, k3.imp id fun ⟨b, o, e, k⟩ => ⟨b, o, e, RepE.stay (stay_take n0) sz xs b o k⟩, trivial⟩
    · rename_i ag sz kk off n c _
      split at h
      · rename_i hk
        refine Rep.nil (outLeaf_rep h k (fun _ => hH) (fun b j _ hi => imm_take hi) fun ag' sz' k' off' n' c' b e hG j => ?_).1
        injection e with _ _ e _ _ _
        subst e
        refine ⟨hH.bb kk b (.inl hG) j, fun i hi => ?_, fun i s c n hi => ?_⟩
        · have h1 := take_get hi
          have := hH.dist kk i b (.inl hG) (.inl h1.2)
          omega
        · have h1 := take_get hi
          have := hH.dist kk i b (.inl hG) (.inr ⟨s, c, n, h1.2⟩)
          omega
      · cases h
    · cases h
theorem oldD_rep {n0 : Nat} {d d' : DV} {V : Value} (h : oldD n0 H d = some d') (k : Rep (ImmB B G) w G d V) (hH : HR B G w H) : Rep (ImmB B (G.take n0)) w (G.take n0) d' V := by
  have el : ∀ d d' V, oldEl n0 H d = some d' → Rep (ImmB B G) w G d V → Rep (ImmB B (G.take n0)) w (G.take n0) d' V := by
    intro d d' V h k
    unfold oldEl at h
    split at h
    · rename_i cs
      cases hm : mapO (oldLeaf n0 H) cs with
      | none => simp [hm] at h
      | some cs' =>
        simp [hm] at h
        subst h
        simp only [Rep] at k ⊢
        obtain ⟨vs, e, k⟩ := k
        exact ⟨vs, e, mapO_rep hm k fun d d' V _ h k => oldLeaf_rep h k hH⟩
    · cases h
      simpa only [Rep] using k
    · exact oldLeaf_rep h k hH
  unfold oldD at h
  split at h
  · rename_i cs
    cases hm : mapO (oldEl n0 H) cs with
    | none => simp [hm] at h
    | some cs' =>
      simp [hm] at h
      subst h
      simp only [Rep] at k ⊢
      obtain ⟨vs, e, k⟩ := k
      exact ⟨vs, e, mapO_rep hm k fun d d' V _ h k => el d d' V h k⟩
  · exact el _ _ _ h k
theorem dist_take (n0 : Nat) (h : Dist G) : Dist (G.take n0) := fun k k' b h1 h2 => h k k' b (take_live h1).2 (take_live h2).2
/-- the heap without what was made -/
theorem cut_rep {n0 : Nat} {H2 : Heap} (h : cutH n0 H = some H2) (hH : HR B G w H) : HR B (G.take n0) w H2 := by
  unfold cutH at h
  obtain ⟨h1, h2⟩ := mapO_some h
  refine ⟨by rw [h1]; simp [hH.len], dist_take n0 hH.dist, fun k x g hx hg => ?_, fun k b hl => hH.bb k b (take_live hl).2⟩
  obtain ⟨hk, hg⟩ := take_get hg
  have hlt : k < H.length := by rw [hH.len]; exact (List.getElem?_eq_some_iff.1 hg).1
  have hb := List.getElem?_eq_getElem hlt
  obtain ⟨y, hy, hf⟩ := h2 k _ (by rw [List.getElem?_take_of_lt hk]; exact hb)
  rw [hx] at hy; cases hy
  have hB := hH.blk _ _ _ hb hg
  generalize H[k] = blk at hf hB
  unfold oldBlk at hf
  split at hf
  · rename_i e cs
    cases hm : mapO (oldLeaf n0 H) cs with
    | none => simp [hm] at hf
    | some cs' =>
      simp [hm] at hf
      subst hf
      cases g <;> simp only [BlkRep] at hB ⊢
      obtain ⟨C, q1, q2, q3⟩ := hB
      exact ⟨C, q1, mapO_rep hm q2 fun d d' V _ h k => oldLeaf_rep h k hH, q3⟩
  · rename_i hne
    cases hf
    cases x <;> cases g <;> simp only [BlkRep] at hB ⊢
    · exact absurd rfl (hne _ _)
    · exact hB
theorem keep_take {G' : Gh} {w' : World} (h : Keep G w G' w') : Keep G w (G'.take G.length) w' := by
  refine ⟨h.os, h.tape, h.output, h.size, h.blk, h.own, fun k g hg => ?_, fun k b hb hg => h.fresh k b hb (take_get hg).2, fun k b s c n hb hg => h.freshO k b s c n hb (take_get hg).2⟩
  obtain ⟨g', hg', he⟩ := h.evol k g hg
  exact ⟨g', by rw [List.getElem?_take_of_lt (List.getElem?_eq_some_iff.1 hg).1]; exact hg', he⟩
end Go.Proofs.Ytbhnkdnfmlnajaa
