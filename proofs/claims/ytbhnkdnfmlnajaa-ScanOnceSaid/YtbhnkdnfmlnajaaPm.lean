/- Deep values: memory's steps (a new block, a block written, a row grown), and what they keep. -/
import Derived.Test.YtbhnkdnfmlnajaaPr
namespace Go.Proofs.Ytbhnkdnfmlnajaa
open Go Go.RowKit

theorem isOne_eq (v : Value) : isOne v = v.oneCell' := by cases v <;> rfl
theorem RepL.length {I : Nat → Nat → Prop} {w : World} {G : Gh} : ∀ {ds : List DV} {vs : List Value}, RepL I w G ds vs → vs.length = ds.length
  | [], vs, h => by simp only [RepL] at h; simp [h]
  | d :: ds, vs, h => by
    simp only [RepL] at h
    obtain ⟨v, r, rfl, _, h⟩ := h
    simp [RepL.length h]
theorem RepL.get {I : Nat → Nat → Prop} {w : World} {G : Gh} : ∀ {ds : List DV} {vs : List Value}, RepL I w G ds vs → ∀ (i : Nat) (d : DV), ds[i]? = some d → ∃ v, vs[i]? = some v ∧ Rep I w G d v
  | [], vs, _, i, d, h => by simp at h
  | d :: ds, vs, h, i, x, hx => by
    simp only [RepL] at h
    obtain ⟨v, r, rfl, h1, h2⟩ := h
    cases i with
    | zero => simp at hx; subst hx; exact ⟨v, rfl, h1⟩
    | succ i => exact RepL.get h2 i x hx
theorem RepL.of {I : Nat → Nat → Prop} {w : World} {G : Gh} : ∀ {ds : List DV} {vs : List Value}, vs.length = ds.length → (∀ (i : Nat) (d : DV) (v : Value), ds[i]? = some d → vs[i]? = some v → Rep I w G d v) → RepL I w G ds vs
  | [], vs, h, _ => by simp only [RepL]; simpa using h
  | d :: ds, [], h, _ => by simp at h
  | d :: ds, v :: r, h, k => by
    simp only [RepL]
    exact ⟨v, r, rfl, k 0 d v rfl rfl, RepL.of (by simpa using h) (fun i x y hx hy => k (i + 1) x y (by simpa using hx) (by simpa using hy))⟩
theorem RepL.app {I : Nat → Nat → Prop} {w : World} {G : Gh} {ds es : List DV} {vs us : List Value} (h : RepL I w G ds vs) (k : RepL I w G es us) : RepL I w G (ds ++ es) (vs ++ us) := by
  refine RepL.of (by simp [h.length, k.length]) fun i d v hd hv => ?_
  have hl := h.length
  rcases Nat.lt_or_ge i ds.length with hi | hi
  · rw [List.getElem?_append_left hi] at hd
    rw [List.getElem?_append_left (by omega)] at hv
    obtain ⟨v', hv', hr⟩ := h.get i d hd
    rw [hv'] at hv; cases hv; exact hr
  · rw [List.getElem?_append_right hi] at hd
    rw [List.getElem?_append_right (by omega)] at hv
    obtain ⟨v', hv', hr⟩ := k.get _ d hd
    rw [← hl] at hv'
    rw [hv'] at hv; cases hv; exact hr
theorem RepL.take {I : Nat → Nat → Prop} {w : World} {G : Gh} {ds : List DV} {vs : List Value} (h : RepL I w G ds vs) (n : Nat) : RepL I w G (ds.take n) (vs.take n) := by
  refine RepL.of (by simp [h.length]) fun i d v hd hv => ?_
  rcases Nat.lt_or_ge i n with hi | hi
  · rw [List.getElem?_take_of_lt hi] at hd hv
    obtain ⟨v', hv', hr⟩ := h.get i d hd
    rw [hv'] at hv; cases hv; exact hr
  · simp [List.getElem?_take, Nat.not_lt.2 hi] at hd
theorem RepL.drop {I : Nat → Nat → Prop} {w : World} {G : Gh} {ds : List DV} {vs : List Value} (h : RepL I w G ds vs) (n : Nat) : RepL I w G (ds.drop n) (vs.drop n) := by
  refine RepL.of (by simp [h.length]) fun i d v hd hv => ?_
  rw [List.getElem?_drop] at hd hv
  obtain ⟨v', hv', hr⟩ := h.get _ d hd
  rw [hv'] at hv; cases hv; exact hr
theorem RepL.set {I : Nat → Nat → Prop} {w : World} {G : Gh} {ds : List DV} {vs : List Value} (h : RepL I w G ds vs) (t : Nat) {d : DV} {v : Value} (k : Rep I w G d v) : RepL I w G (ds.set t d) (vs.set t v) := by
  refine RepL.of (by simp [h.length]) fun i x y hx hy => ?_
  by_cases hi : t = i
  · subst hi
    have hlt : t < ds.length := by
      rcases Nat.lt_or_ge t ds.length with h | h
      · exact h
      · simp [List.getElem?_eq_none (by simpa using h : (ds.set t d).length ≤ t)] at hx
    rw [List.getElem?_set_self hlt] at hx
    rw [List.getElem?_set_self (by rw [h.length]; exact hlt)] at hy
    cases hx; cases hy; exact k
  · rw [List.getElem?_set_ne hi] at hx hy
    obtain ⟨v', hv', hr⟩ := h.get _ x hx
    rw [hv'] at hy; cases hy; exact hr
theorem RepL.getD {I : Nat → Nat → Prop} {w : World} {G : Gh} {ds : List DV} {vs : List Value} (h : RepL I w G ds vs) (t : Nat) (u : Value) : Rep I w G (ds.getD t .any) (vs.getD t u) := by
  cases hd : ds[t]? with
  | none => simp [List.getD, hd, Rep]
  | some d =>
    obtain ⟨v, hv, hr⟩ := h.get t d hd
    simpa [List.getD, hd, hv] using hr
theorem rep_leafOf {I : Nat → Nat → Prop} {w : World} {G : Gh} (v : Value) : Rep I w G (leafOf v) v := by
  unfold leafOf
  split
  · simp [Rep, TagOk]
  · simp [Rep]
theorem repL_map {I : Nat → Nat → Prop} {w : World} {G : Gh} (f : Value → DV) (hf : ∀ v, Rep I w G (f v) v) (l : List Value) : RepL I w G (l.map f) l :=
  RepL.of (by simp) fun i d v hd hv => by
    simp [hv] at hd
    subst hd; exact hf v
theorem rep_ofVal1 {I : Nat → Nat → Prop} {w : World} {G : Gh} (v : Value) : Rep I w G (ofVal1 v) v := by
  unfold ofVal1
  split
  · simp only [Rep]; exact ⟨_, rfl, repL_map _ rep_leafOf _⟩
  · exact rep_leafOf v
theorem rep_ofVal {I : Nat → Nat → Prop} {w : World} {G : Gh} (v : Value) : Rep I w G (ofVal v) v := by
  unfold ofVal
  split
  · split
    · simp [Rep]
    · simp only [Rep]; exact ⟨_, rfl, repL_map _ rep_ofVal1 _⟩
  · exact rep_ofVal1 v
/-- the slots of a frame -/
def SR (I : Nat → Nat → Prop) (w : World) (G : Gh) (slots : List DV) (a : Act) : Prop := a.defers = [] ∧ RepL I w G slots a.tmps.toList
theorem SR.eval {I : Nat → Nat → Prop} {w : World} {G : Gh} {slots : List DV} {a : Act} (h : SR I w G slots a) (x : Operand) : Rep I w G (evalD slots x) (a.eval x) := by
  cases x with
  | tmp t =>
    have := h.2.getD t undef
    simpa [evalD, Act.eval] using this
  | const v => exact rep_ofVal v
  | global g => simp [evalD, Act.eval, Rep]
  | func f => simp [evalD, Act.eval, Rep]
theorem SR.put {I : Nat → Nat → Prop} {w : World} {G : Gh} {slots : List DV} {a : Act} (h : SR I w G slots a) (dst : Option Tmp) {d : DV} {v : Value} (k : Rep I w G d v) : SR I w G (putD slots dst d) (a.put dst v) := by
  cases dst with
  | none => exact h
  | some t =>
    refine ⟨h.1, ?_⟩
    have := h.2.set t k
    simpa [putD, Act.put] using this
theorem SR.keep {B : Nat → Nat → Prop} {G G' : Gh} {w w' : World} (h : Keep G w G' w') {slots : List DV} {a : Act} (k : SR (ImmB B G) w G slots a) : SR (ImmB B G') w' G' slots a := ⟨k.1, k.2.keep h⟩
/-- live blocks are blocks -/
theorem HR.lt {B : Nat → Nat → Prop} {G : Gh} {w : World} {H : Heap} (h : HR B G w H) {k b : Nat} (hl : liveAt G k b) : b < w.heap.size := by
  have hk : k < G.length := by
    rcases hl with hl | ⟨_, _, _, hl⟩ <;> exact (List.getElem?_eq_some_iff.1 hl).1
  have hb := List.getElem?_eq_getElem (show k < H.length by rw [h.len]; exact hk)
  rcases hl with hl | ⟨_, _, _, hl⟩
  · have := h.blk _ _ _ hb hl
    cases hB : H[k]'(by rw [h.len]; exact hk) <;> rw [hB] at this <;> simp only [BlkRep] at this
    obtain ⟨C, h1, _⟩ := this
    exact (Array.getElem?_eq_some_iff.1 h1).1
  · have := h.blk _ _ _ hb hl
    cases hB : H[k]'(by rw [h.len]; exact hk) <;> rw [hB] at this <;> simp only [BlkRep] at this
    obtain ⟨_, _, _, _, _, C, h1, _⟩ := this
    exact (Array.getElem?_eq_some_iff.1 h1).1
theorem HR.cells {B : Nat → Nat → Prop} {G : Gh} {w : World} {H : Heap} (h : HR B G w H) {k b : Nat} {e : TypeId} {cs : List DV} (hH : H[k]? = some (.cells e cs)) (hG : G[k]? = some (GK.cel b)) :
    ∃ C, w.heap[b]? = some (.cells C e (0, 0)) ∧ RepL (ImmB B G) w G cs C.toList ∧ ∀ v ∈ C.toList, isOne v = true := by
  have := h.blk _ _ _ hH hG
  simpa only [BlkRep] using this
/-- a pointer to a block of cells -/
theorem HR.ptr {B : Nat → Nat → Prop} {G : Gh} {w : World} {H : Heap} (h : HR B G w H) {k : Nat} {e : TypeId} {cs : List DV} (hH : H[k]? = some (.cells e cs)) :
    ∃ b, G[k]? = some (GK.cel b) := by
  have hk : k < H.length := (List.getElem?_eq_some_iff.1 hH).1
  have hg := List.getElem?_eq_getElem (show k < G.length by rw [← h.len]; exact hk)
  have := h.blk _ _ _ hH hg
  cases hB : G[k]'(by rw [← h.len]; exact hk) <;> rw [hB] at this <;> simp only [BlkRep] at this
  exact ⟨_, by rw [hg, hB]⟩
theorem blk_keep {B : Nat → Nat → Prop} {G G' : Gh} {w w' : World} (hK : Keep G w G' w') {x : DBlk} {g : GK} (h : BlkRep (ImmB B G) w G x g)
    (hb : ∀ b, (g = .cel b ∨ ∃ s c n, g = .own b s c n) → w'.heap[b]? = w.heap[b]?) : BlkRep (ImmB B G') w' G' x g := by
  cases x <;> cases g <;> simp only [BlkRep] at h ⊢
  · obtain ⟨C, h1, h2, h3⟩ := h
    exact ⟨C, by rw [hb _ (.inl rfl)]; exact h1, RepL.keep hK h2, h3⟩
  · obtain ⟨h0, h1, h2, h3, h4, C, h5, h6⟩ := h
    exact ⟨h0, h1, h2, h3, h4, C, by rw [hb _ (.inr ⟨_, _, _, rfl⟩)]; exact h5, h6⟩
/-- worlds that are alike but for one block -/
structure But (b : Nat) (w w' : World) : Prop where
  os : w'.os = w.os
  tape : w'.tape = w.tape
  output : w'.output = w.output
  size : w'.heap.size = w.heap.size
  blk : ∀ i, i ≠ b → w'.heap[i]? = w.heap[i]?
theorem but_setRow (w : World) (b : Nat) (C : Array Value) : But b w (w.setRow b C) := by
  refine ⟨rfl, rfl, rfl, by simp [World.setRow], fun i hi => ?_⟩
  simp only [World.setRow, Array.getElem?_modify]
  rw [if_neg (by omega)]
/-- a block of cells is written -/
theorem step_set {B : Nat → Nat → Prop} {G : Gh} {w w' : World} {H : Heap} (h : HR B G w H) {k b : Nat} {e : TypeId} {C' : Array Value} {cs' : List DV} (hG : G[k]? = some (GK.cel b))
    (hb : But b w w') (hC : w'.heap[b]? = some (.cells C' e (0, 0))) (hr : RepL (ImmB B G) w G cs' C'.toList) (h1 : ∀ v ∈ C'.toList, isOne v = true) :
    Keep G w G w' ∧ HR B G w' (H.set k (.cells e cs')) := by
  have hK : Keep G w G w' := by
    refine ⟨hb.os, hb.tape, hb.output, Nat.le_of_eq hb.size.symm, fun i _ hl => hb.blk i (fun e => hl k (by subst e; exact .inl hG)), fun i b' sz cap hw hg _ j _ => ?_, Evol.refl G, fun _ _ _ h => h, fun _ _ _ cap hw _ h => ⟨cap, hw, h, Nat.le_refl _⟩⟩
    refine cell_of_blk (hb.blk b' fun e => ?_) j
    subst e
    have := h.dist i k _ (.inr ⟨_, _, _, hg⟩) (.inl hG)
    subst this
    rw [hG] at hg; simp at hg
  refine ⟨hK, by simp [h.len], h.dist, fun i x g hx hg => ?_, h.bb⟩
  by_cases hi : k = i
  · subst hi
    rw [hG] at hg
    have hlt : k < H.length := by rw [h.len]; exact (List.getElem?_eq_some_iff.1 hG).1
    rw [List.getElem?_set_self hlt] at hx
    cases hx; cases hg
    simp only [BlkRep]
    exact ⟨C', hC, RepL.keep hK hr, h1⟩
  · rw [List.getElem?_set_ne hi] at hx
    refine blk_keep hK (h.blk i x g hx hg) fun b' hb' => hb.blk b' fun e => hi ?_
    subst e
    refine h.dist k i _ (.inl hG) ?_
    rcases hb' with rfl | ⟨s, c, n, rfl⟩
    · exact .inl hg
    · exact .inr ⟨s, c, n, hg⟩
/-- worlds with one block more -/
structure More (o : Obj) (w w' : World) : Prop where
  os : w'.os = w.os
  tape : w'.tape = w.tape
  output : w'.output = w.output
  heap : w'.heap = w.heap.push o
theorem More.old {o : Obj} {w w' : World} (h : More o w w') {b : Nat} (hb : b < w.heap.size) : w'.heap[b]? = w.heap[b]? := by
  rw [h.heap, Array.getElem?_push, if_neg (by omega)]
theorem More.new {o : Obj} {w w' : World} (h : More o w w') : w'.heap[w.heap.size]? = some o := by rw [h.heap]; simp
theorem More.size {o : Obj} {w w' : World} (h : More o w w') : w'.heap.size = w.heap.size + 1 := by rw [h.heap]; simp
/-- a new block that nobody writes -/
theorem step_new {B : Nat → Nat → Prop} {G : Gh} {w w' : World} {H : Heap} (h : HR B G w H) {o : Obj} (hm : More o w w') : Keep G w G w' ∧ HR B G w' H := by
  have hK : Keep G w G w' := ⟨hm.os, hm.tape, hm.output, by rw [hm.size]; omega, fun i hi _ => hm.old hi, fun i b' sz cap hw _ hb j _ => cell_of_blk (hm.old hb) j, Evol.refl G, fun _ _ _ h => h, fun _ _ _ cap hw _ h => ⟨cap, hw, h, Nat.le_refl _⟩⟩
  refine ⟨hK, h.len, h.dist, fun i x g hx hg => blk_keep hK (h.blk i x g hx hg) fun b' hb' => hm.old (h.lt (k := i) ?_), h.bb⟩
  rcases hb' with rfl | ⟨s, c, n, rfl⟩
  · exact .inl hg
  · exact .inr ⟨s, c, n, hg⟩
theorem evol_set {G : Gh} {k : Nat} {g g' : GK} (hg : G[k]? = some g) (he : evol g g') : Evol G (G.set k g') := fun i x hx => by
  by_cases hi : k = i
  · subst hi
    rw [hg] at hx; cases hx
    exact ⟨g', List.getElem?_set_self (List.getElem?_eq_some_iff.1 hg).1, he⟩
  · exact ⟨x, by rw [List.getElem?_set_ne hi]; exact hx, evol_refl x⟩
theorem get_set {α : Type} {G : List α} {k i : Nat} {g g' : α} (h : (G.set k g')[i]? = some g) : (i = k ∧ g = g' ∧ k < G.length) ∨ (i ≠ k ∧ G[i]? = some g) := by
  by_cases hi : k = i
  · subst hi
    have hlt : k < G.length := by
      rcases Nat.lt_or_ge k G.length with h' | h'
      · exact h'
      · simp [List.getElem?_eq_none (by simpa using h' : (G.set k g').length ≤ k)] at h
    rw [List.getElem?_set_self hlt] at h
    exact .inl ⟨rfl, by cases h; rfl, hlt⟩
  · rw [List.getElem?_set_ne hi] at h
    exact .inr ⟨fun e => hi e.symm, h⟩
/-- a hole is filled by a new block -/
theorem step_fill {B : Nat → Nat → Prop} {G : Gh} {w w' : World} {H : Heap} (h : HR B G w H) {k : Nat} {e : TypeId} {C : Array Value} {cs : List DV} (hG : G[k]? = some GK.hole) (hB : ∀ b j, w.heap.size ≤ b → B b j)
    (hm : More (.cells C e (0, 0)) w w') (hr : RepL (ImmB B G) w G cs C.toList) (h1 : ∀ v ∈ C.toList, isOne v = true) :
    Keep G w (G.set k (.cel w.heap.size)) w' ∧ HR B (G.set k (.cel w.heap.size)) w' (H.set k (.cells e cs)) := by
  have hk : k < G.length := (List.getElem?_eq_some_iff.1 hG).1
  have hK : Keep G w (G.set k (.cel w.heap.size)) w' := by
    refine ⟨hm.os, hm.tape, hm.output, by rw [hm.size]; omega, fun i hi _ => hm.old hi, fun i b' sz cap hw _ hb j _ => cell_of_blk (hm.old hb) j, evol_set hG trivial, fun i b hb hg => ?_, fun i b sz cap hw hb hg => ?_⟩
    · rcases get_set hg with ⟨_, e, _⟩ | ⟨_, hg⟩
      · injection e with e; omega
      · exact hg
    · rcases get_set hg with ⟨_, e, _⟩ | ⟨_, hg⟩
      · cases e
      · exact ⟨cap, hw, hg, Nat.le_refl _⟩
  have key : ∀ b j, liveAt (G.set k (.cel w.heap.size)) j b → (j = k ∧ b = w.heap.size) ∨ (liveAt G j b) := by
    rintro b j (hj | ⟨sz, cap, hw, hj⟩)
    · rcases get_set hj with ⟨rfl, e, _⟩ | ⟨_, hj⟩
      · injection e with e; exact .inl ⟨rfl, e⟩
      · exact .inr (.inl hj)
    · rcases get_set hj with ⟨rfl, e, _⟩ | ⟨_, hj⟩
      · cases e
      · exact .inr (.inr ⟨sz, cap, hw, hj⟩)
  refine ⟨hK, by simp [h.len], fun i i' b hi hi' => ?_, fun i x g hx hg => ?_, fun i b hi j => by rcases key b i hi with ⟨_, rfl⟩ | hi'; exact hB _ _ (Nat.le_refl _); exact h.bb i b hi' j⟩
  · replace key := key b
    rcases key i hi with ⟨rfl, rfl⟩ | hi1 <;> rcases key i' hi' with ⟨rfl, h2⟩ | hi2
    · rfl
    · have := h.lt hi2; omega
    · have := h.lt hi1; omega
    · exact h.dist i i' b hi1 hi2
  · rcases get_set hg with ⟨rfl, rfl, _⟩ | ⟨hne, hg⟩
    · rw [List.getElem?_set_self (by rw [h.len]; exact hk)] at hx
      cases hx
      simp only [BlkRep]
      exact ⟨C, hm.new, RepL.keep hK hr, h1⟩
    · rw [List.getElem?_set_ne (Ne.symm hne)] at hx
      refine blk_keep hK (h.blk i x g hx hg) fun b' hb' => hm.old (h.lt (k := i) ?_)
      rcases hb' with rfl | ⟨s, c, n, rfl⟩
      · exact .inl hg
      · exact .inr ⟨s, c, n, hg⟩
theorem get_push {α : Type} {G : List α} {i : Nat} {g g' : α} (h : (G ++ [g'])[i]? = some g) : (i = G.length ∧ g = g') ∨ (i < G.length ∧ G[i]? = some g) := by
  rcases Nat.lt_or_ge i G.length with hi | hi
  · rw [List.getElem?_append_left hi] at h; exact .inr ⟨hi, h⟩
  · rw [List.getElem?_append_right hi] at h
    have : i - G.length = 0 := by
      rcases Nat.eq_zero_or_pos (i - G.length) with h0 | h0
      · exact h0
      · rw [List.getElem?_eq_none (by simp; omega)] at h; cases h
    rw [this] at h
    exact .inl ⟨by omega, by simpa using h.symm⟩
/-- a new row, held by a new token -/
theorem step_token {B : Nat → Nat → Prop} {G : Gh} {w w' : World} {H : Heap} (h : HR B G w H) {e : TypeId} {C : Array Value} {sz n cap : Nat}
    (hB : ∀ b j, w.heap.size ≤ b → B b j) (hm : More (.cells C e (0, 0)) w w') (h1 : n ≤ cap) (h2 : 0 < sz) (h3 : n ≤ 140737488355328) (h4 : C.size = cap * sz) :
    Keep G w (G ++ [.own w.heap.size sz cap n]) w' ∧ HR B (G ++ [.own w.heap.size sz cap n]) w' (H ++ [.token e sz n]) := by
  have hK : Keep G w (G ++ [.own w.heap.size sz cap n]) w' := by
    refine ⟨hm.os, hm.tape, hm.output, by rw [hm.size]; omega, fun i hi _ => hm.old hi, fun i b' sz cap hw _ hb j _ => cell_of_blk (hm.old hb) j, fun i g hg => ⟨g, by rw [List.getElem?_append_left (List.getElem?_eq_some_iff.1 hg).1]; exact hg, evol_refl g⟩, fun i b hb hg => ?_, fun i b sz' cap' hw hb hg => ?_⟩
    · rcases get_push hg with ⟨_, e⟩ | ⟨_, hg⟩
      · cases e
      · exact hg
    · rcases get_push hg with ⟨_, e⟩ | ⟨_, hg⟩
      · injection e with e; omega
      · exact ⟨cap', hw, hg, Nat.le_refl _⟩
  have key : ∀ b j, liveAt (G ++ [.own w.heap.size sz cap n]) j b → (j = G.length ∧ b = w.heap.size) ∨ (liveAt G j b) := by
    rintro b j (hj | ⟨sz', cap', hw, hj⟩)
    · rcases get_push hj with ⟨_, e⟩ | ⟨_, hj⟩
      · cases e
      · exact .inr (.inl hj)
    · rcases get_push hj with ⟨h0, e⟩ | ⟨_, hj⟩
      · injection e with e; exact .inl ⟨h0, e⟩
      · exact .inr (.inr ⟨sz', cap', hw, hj⟩)
  refine ⟨hK, by simp [h.len], fun i i' b hi hi' => ?_, fun i x g hx hg => ?_, fun i b hi j => by rcases key b i hi with ⟨_, rfl⟩ | hi'; exact hB _ _ (Nat.le_refl _); exact h.bb i b hi' j⟩
  · replace key := key b
    rcases key i hi with ⟨h1, rfl⟩ | hi1 <;> rcases key i' hi' with ⟨h2, h3⟩ | hi2
    · omega
    · have := h.lt hi2; omega
    · have := h.lt hi1; omega
    · exact h.dist i i' b hi1 hi2
  · rcases get_push hg with ⟨h0, rfl⟩ | ⟨hlt, hg⟩
    · rw [h0, ← h.len, List.getElem?_append_right (Nat.le_refl _)] at hx
      simp at hx
      subst hx
      simp only [BlkRep]
      exact ⟨trivial, trivial, h1, h2, h3, C, hm.new, h4⟩
    · rw [List.getElem?_append_left (by rw [h.len]; exact hlt)] at hx
      refine blk_keep hK (h.blk i x g hx hg) fun b' hb' => hm.old (h.lt (k := i) ?_)
      rcases hb' with rfl | ⟨s, c, n, rfl⟩
      · exact .inl hg
      · exact .inr ⟨s, c, n, hg⟩
/-- a token's row grows: in its place, or into a new one -/
theorem step_grow {B : Nat → Nat → Prop} {G : Gh} {w w' : World} {H : Heap} (h : HR B G w H) {k b sz cap n b' cap' n' : Nat} {e : TypeId} {C' : Array Value} (hG : G[k]? = some (GK.own b sz cap n)) (hB : ∀ b j, w.heap.size ≤ b → B b j)
    (hn : n < n') (h1 : n' ≤ cap') (h2 : 0 < sz) (h3 : n' ≤ 140737488355328) (hC : w'.heap[b']? = some (.cells C' e (0, 0))) (h4 : C'.size = cap' * sz)
    (hw : (b' = b ∧ But b w w' ∧ ∀ j, j < n * sz → w'.cell? ⟨b, j, none⟩ = w.cell? ⟨b, j, none⟩) ∨ (b' = w.heap.size ∧ More (.cells C' e (0, 0)) w w')) :
    Keep G w (G.set k (.own b' sz cap' n')) w' ∧ HR B (G.set k (.own b' sz cap' n')) w' (H.set k (.token e sz n')) := by
  have hk : k < G.length := (List.getElem?_eq_some_iff.1 hG).1
  have hb := h.lt (.inr ⟨_, _, _, hG⟩ : liveAt G k b)
  have hsz : w.heap.size ≤ w'.heap.size := by
    rcases hw with ⟨_, hw, _⟩ | ⟨_, hw⟩
    · exact Nat.le_of_eq hw.size.symm
    · rw [hw.size]; omega
  have hold : ∀ i, i < w.heap.size → i ≠ b → w'.heap[i]? = w.heap[i]? := by
    intro i hi hne
    rcases hw with ⟨_, hw, _⟩ | ⟨_, hw⟩
    · exact hw.blk i hne
    · exact hw.old hi
  have hK : Keep G w (G.set k (.own b' sz cap' n')) w' := by
    refine ⟨by rcases hw with ⟨_, hw, _⟩ | ⟨_, hw⟩ <;> exact hw.os, by rcases hw with ⟨_, hw, _⟩ | ⟨_, hw⟩ <;> exact hw.tape, by rcases hw with ⟨_, hw, _⟩ | ⟨_, hw⟩ <;> exact hw.output, hsz,
      fun i hi hl => hold i hi (fun e => hl k (by subst e; exact .inr ⟨_, _, _, hG⟩)), fun i b2 sz2 cap2 hw2 hg hlt j hj => ?_, evol_set hG ⟨b', cap', n', rfl, by omega, fun e => by omega⟩, fun i b2 hb2 hg => ?_, fun i b2 sz2 cap2 hw2 hb2 hg => ?_⟩
    · by_cases e : b2 = b
      · subst e
        have := h.dist i k b2 (.inr ⟨_, _, _, hg⟩) (.inr ⟨_, _, _, hG⟩)
        subst this
        rw [hG] at hg; cases hg
        rcases hw with ⟨_, _, hw⟩ | ⟨_, hw⟩
        · exact hw j hj
        · exact cell_of_blk (hw.old hb) j
      · exact cell_of_blk (hold b2 hlt e) j
    · rcases get_set hg with ⟨_, e, _⟩ | ⟨_, hg⟩
      · cases e
      · exact hg
    · rcases get_set hg with ⟨rfl, e, _⟩ | ⟨_, hg⟩
      · injection e with e1 e2 e3 e4
        subst e1 e2 e3 e4
        rcases hw with ⟨rfl, _⟩ | ⟨rfl, _⟩
        · exact ⟨cap, n, hG, by omega⟩
        · omega
      · exact ⟨cap2, hw2, hg, Nat.le_refl _⟩
  have key : ∀ b2 j, liveAt (G.set k (.own b' sz cap' n')) j b2 → (j = k ∧ b2 = b') ∨ (j ≠ k ∧ liveAt G j b2) := by
    rintro b2 j (hj | ⟨sz2, cap2, hw2, hj⟩)
    · rcases get_set hj with ⟨_, e, _⟩ | ⟨h0, hj⟩
      · cases e
      · exact .inr ⟨h0, .inl hj⟩
    · rcases get_set hj with ⟨rfl, e, _⟩ | ⟨h0, hj⟩
      · injection e with e; exact .inl ⟨rfl, e⟩
      · exact .inr ⟨h0, .inr ⟨sz2, cap2, hw2, hj⟩⟩
  refine ⟨hK, by simp [h.len], fun i i' b2 hi hi' => ?_, fun i x g hx hg => ?_, fun i b2 hi j => ?_⟩
  rotate_right
  · rcases key b2 i hi with ⟨_, rfl⟩ | ⟨_, hi'⟩
    · rcases hw with ⟨rfl, _⟩ | ⟨rfl, _⟩
      · exact h.bb k _ (.inr ⟨_, _, _, hG⟩) j
      · exact hB _ _ (Nat.le_refl _)
    · exact h.bb i b2 hi' j
  · replace key := key b2
    have no : ∀ j, j ≠ k → liveAt G j b' → False := by
      intro j hj hl
      rcases hw with ⟨rfl, _⟩ | ⟨rfl, _⟩
      · exact hj (h.dist j k _ hl (.inr ⟨_, _, _, hG⟩))
      · have := h.lt hl; omega
    rcases key i hi with ⟨rfl, rfl⟩ | ⟨hne, hi1⟩ <;> rcases key i' hi' with ⟨rfl, h2⟩ | ⟨hne', hi2⟩
    · rfl
    · exact (no _ hne' hi2).elim
    · subst h2; exact (no _ hne hi1).elim
    · exact h.dist i i' b2 hi1 hi2
  · rcases get_set hg with ⟨rfl, rfl, _⟩ | ⟨hne, hg⟩
    · rw [List.getElem?_set_self (by rw [h.len]; exact hk)] at hx
      cases hx
      simp only [BlkRep]
      exact ⟨trivial, trivial, h1, h2, h3, C', hC, h4⟩
    · rw [List.getElem?_set_ne (Ne.symm hne)] at hx
      refine blk_keep hK (h.blk i x g hx hg) fun b2 hb2 => ?_
      have hl : liveAt G i b2 := by
        rcases hb2 with rfl | ⟨s, c, n, rfl⟩
        · exact .inl hg
        · exact .inr ⟨s, c, n, hg⟩
      exact hold b2 (h.lt hl) fun e => hne (h.dist i k b2 hl (by subst e; exact .inr ⟨_, _, _, hG⟩))
end Go.Proofs.Ytbhnkdnfmlnajaa
