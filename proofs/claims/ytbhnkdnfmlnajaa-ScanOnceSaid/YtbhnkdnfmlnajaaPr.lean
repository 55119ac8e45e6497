/- Deep values: what a deep value stands for in memory, and how that is kept. -/
import Derived.Test.YtbhnkdnfmlnajaaPi
import Derived.WalkKit
namespace Go.Proofs.Ytbhnkdnfmlnajaa
open Go Go.RowKit

/-- what a block of the deep heap is in memory -/
inductive GK where
  | hole
  | cel (b : Nat)
  | own (b sz cap hw : Nat)
abbrev Gh := List GK
def ImmB (B : Nat → Nat → Prop) (G : Gh) (b j : Nat) : Prop :=
  B b j ∧ (∀ k : Nat, G[k]? ≠ some (GK.cel b)) ∧ ∀ k sz cap hw : Nat, G[k]? = some (GK.own b sz cap hw) → j < hw * sz
def CellsAt (I : Nat → Nat → Prop) (w : World) (b o : Nat) (vs : List Value) : Prop :=
  ∀ j v, vs[j]? = some v → w.cell? ⟨b, o + j, none⟩ = some v ∧ I b (o + j) ∧ isOne v = true
def TagOk (G : Gh) (sz n : Nat) (A : Option Addr) (c : Nat) : Tag → Prop
  | .sh => True
  | .ti => c = n
  | .own k => ∃ b s cap hw, G[k]? = some (GK.own b s cap hw) ∧ n ≤ hw ∧ (hw = n → A = some ⟨b, 0, none⟩ ∧ c = cap ∧ s = sz)
mutual
def Rep (I : Nat → Nat → Prop) (w : World) (G : Gh) : DV → Value → Prop
  | .any, _ => True
  | .flat v, V => V = v
  | .agg cs, V => ∃ vs, V = .agg vs ∧ RepL I w G cs vs.toList
  | .tup cs, V => ∃ vs, V = .tuple vs ∧ RepL I w G cs vs.toList
  | .list sz xs t, V => ∃ A c, V = .slice A xs.length c ∧ xs.length ≤ c ∧ xs.length ≤ 140737488355328 ∧
      (xs = [] ∨ ∃ b o, A = some ⟨b, o, none⟩ ∧ RepE I w sz xs b o) ∧ TagOk G sz xs.length A c t
  | .ptr k off, V => ∃ b, G[k]? = some (GK.cel b) ∧ V = .pointer (some ⟨b, off, none⟩)
  | .row _ _ k off n c, V => ∃ b, G[k]? = some (GK.cel b) ∧ V = .slice (some ⟨b, off, none⟩) n c
  | .elem x off, V => x.cells.all DV.leaf = true ∧ ∃ b o E, V = .pointer (some ⟨b, o + off, none⟩) ∧ Rep I w [] x E ∧ CellsAt I w b o E.cells.toList
  | .clo fn first cap, V => ∃ f c, V = .func fn f c ∧ RepL I w G first f.toList ∧ RepL I w G cap c.toList
  | .iface t d, V => ∃ v, V = .iface t v ∧ Rep I w G d v
def RepL (I : Nat → Nat → Prop) (w : World) (G : Gh) : List DV → List Value → Prop
  | [], vs => vs = []
  | d :: ds, vs => ∃ v r, vs = v :: r ∧ Rep I w G d v ∧ RepL I w G ds r
def RepE (I : Nat → Nat → Prop) (w : World) (sz : Nat) : List DV → Nat → Nat → Prop
  | [], _, _ => True
  | x :: xs, b, o => (x.cells.all DV.leaf = true ∧ ∃ V, Rep I w [] x V ∧ V.cells.size = sz ∧ CellsAt I w b o V.cells.toList) ∧ RepE I w sz xs b (o + sz)
end
def evol : GK → GK → Prop
  | .hole, _ => True
  | .cel b, g => g = .cel b
  | .own b sz cap hw, g => ∃ b' cap' hw', g = .own b' sz cap' hw' ∧ hw ≤ hw' ∧ (hw' = hw → b' = b ∧ cap' = cap)
def Evol (G G' : Gh) : Prop := ∀ (k : Nat) (g : GK), G[k]? = some g → ∃ g', G'[k]? = some g' ∧ evol g g'
theorem evol_refl (g : GK) : evol g g := by
  cases g with
  | own b sz cap hw => exact ⟨_, _, _, rfl, Nat.le_refl _, fun _ => ⟨rfl, rfl⟩⟩
  | _ => simp [evol]
theorem Evol.refl (G : Gh) : Evol G G := fun _ g h => ⟨g, h, evol_refl g⟩
theorem Evol.nil (G : Gh) : Evol [] G := fun _ _ h => by simp at h
theorem evol_trans {a b c : GK} (h : evol a b) (k : evol b c) : evol a c := by
  cases a with
  | hole => trivial
  | cel x => simp only [evol] at h; subst h; exact k
  | own x sz cap hw =>
    obtain ⟨b', c', h', rfl, h1, h2⟩ := h
    obtain ⟨b2, c2, h2', rfl, k1, k2⟩ := k
    refine ⟨b2, c2, h2', rfl, by omega, fun e => ?_⟩
    have e1 : h2' = h' := by omega
    have e2 : h' = hw := by omega
    exact ⟨(k2 e1).1.trans (h2 e2).1, (k2 e1).2.trans (h2 e2).2⟩
theorem Evol.trans {G G' G'' : Gh} (h : Evol G G') (k : Evol G' G'') : Evol G G'' := fun i g hg =>
  let ⟨g', hg', e⟩ := h i g hg; let ⟨g'', hg'', e'⟩ := k i g' hg'; ⟨g'', hg'', evol_trans e e'⟩
theorem TagOk.evol {G G' : Gh} (hG : Evol G G') {sz n c : Nat} {A : Option Addr} {t : Tag} (h : TagOk G sz n A c t) : TagOk G' sz n A c t := by
  cases t with
  | sh => trivial
  | ti => exact h
  | own k =>
    obtain ⟨b, s, cap, hw, hg, h0, h1⟩ := h
    obtain ⟨g', hg', b', cap', hw', rfl, h2, h3⟩ := hG k _ hg
    refine ⟨b', s, cap', hw', hg', by omega, fun e => ?_⟩
    have e2 : hw' = hw := by omega
    obtain ⟨rfl, rfl⟩ := h3 e2
    exact h1 (by omega)
/-- what stays of the readings of cells -/
def Stay (I I' : Nat → Nat → Prop) (w w' : World) : Prop := ∀ b j v, I b j → w.cell? ⟨b, j, none⟩ = some v → w'.cell? ⟨b, j, none⟩ = some v ∧ I' b j
theorem CellsAt.stay {I I' : Nat → Nat → Prop} {w w' : World} (h : Stay I I' w w') {b o : Nat} {vs : List Value} (hc : CellsAt I w b o vs) : CellsAt I' w' b o vs := fun j v hj => by
  obtain ⟨h1, h2, h3⟩ := hc j v hj
  obtain ⟨h4, h5⟩ := h _ _ _ h2 h1
  exact ⟨h4, h5, h3⟩
mutual
theorem Rep.stay {I I' : Nat → Nat → Prop} {w w' : World} (h : Stay I I' w w') {G G' : Gh} (hG : Evol G G') : ∀ (d : DV) (V : Value), Rep I w G d V → Rep I' w' G' d V
  | .any, _, _ => by simp [Rep]
  | .flat v, V, k => by simpa only [Rep] using k
  | .agg cs, V, k => by
    simp only [Rep] at k ⊢
    obtain ⟨vs, e, k⟩ := k
    exact ⟨vs, e, RepL.stay h hG cs _ k⟩
  | .tup cs, V, k => by
    simp only [Rep] at k ⊢
    obtain ⟨vs, e, k⟩ := k
    exact ⟨vs, e, RepL.stay h hG cs _ k⟩
  | .list sz xs t, V, k => by
    simp only [Rep] at k ⊢
    obtain ⟨A, c, e, k1, k2, k3, k4⟩ := k
    refine ⟨A, c, e, k1, k2, k3.imp id ?_, k4.evol hG⟩
    rintro ⟨b, o, e, k⟩
    exact ⟨b, o, e, RepE.stay h sz xs b o k⟩
  | .ptr k off, V, r => by
    simp only [Rep] at r ⊢
    obtain ⟨b, hg, e⟩ := r
    obtain ⟨g', hg', he⟩ := hG k _ hg
    simp only [evol] at he
    subst he
    exact ⟨b, hg', e⟩
  | .row _ _ k off n c, V, r => by
    simp only [Rep] at r ⊢
    obtain ⟨b, hg, e⟩ := r
    obtain ⟨g', hg', he⟩ := hG k _ hg
    simp only [evol] at he
    subst he
    exact ⟨b, hg', e⟩
  | .elem x off, V, k => by
    simp only [Rep] at k ⊢
    obtain ⟨k0, b, o, E, e, k1, k2⟩ := k
    exact ⟨k0, b, o, E, e, Rep.stay h (Evol.nil []) x E k1, k2.stay h⟩
  | .clo fn first cap, V, k => by
    simp only [Rep] at k ⊢
    obtain ⟨f, c, e, k1, k2⟩ := k
    exact ⟨f, c, e, RepL.stay h hG first _ k1, RepL.stay h hG cap _ k2⟩
  | .iface t d, V, k => by
    simp only [Rep] at k ⊢
    obtain ⟨v, e, k⟩ := k
    exact ⟨v, e, Rep.stay h hG d v k⟩
theorem RepL.stay {I I' : Nat → Nat → Prop} {w w' : World} (h : Stay I I' w w') {G G' : Gh} (hG : Evol G G') : ∀ (ds : List DV) (vs : List Value), RepL I w G ds vs → RepL I' w' G' ds vs
  | [], vs, k => by simpa only [RepL] using k
  | d :: ds, vs, k => by
    simp only [RepL] at k ⊢
    obtain ⟨v, r, e, k1, k2⟩ := k
    exact ⟨v, r, e, Rep.stay h hG d v k1, RepL.stay h hG ds r k2⟩
theorem RepE.stay {I I' : Nat → Nat → Prop} {w w' : World} (h : Stay I I' w w') (sz : Nat) : ∀ (xs : List DV) (b o : Nat), RepE I w sz xs b o → RepE I' w' sz xs b o
  | [], _, _, _ => by simp [RepE]
  | x :: xs, b, o, k => by
    simp only [RepE] at k ⊢
    obtain ⟨⟨k0, V, k1, k2, k3⟩, k4⟩ := k
    exact ⟨⟨k0, V, Rep.stay h (Evol.nil []) x V k1, k2, k3.stay h⟩, RepE.stay h sz xs b (o + sz) k4⟩
end
def liveAt (G : Gh) (k b : Nat) : Prop := G[k]? = some (GK.cel b) ∨ ∃ sz cap hw, G[k]? = some (GK.own b sz cap hw)
def Dist (G : Gh) : Prop := ∀ k k' b, liveAt G k b → liveAt G k' b → k = k'
def BlkRep (I : Nat → Nat → Prop) (w : World) (G : Gh) : DBlk → GK → Prop
  | .hole, .hole => True
  | .cells e cs, .cel b => ∃ C, w.heap[b]? = some (.cells C e (0, 0)) ∧ RepL I w G cs C.toList ∧ ∀ v ∈ C.toList, isOne v = true
  | .token e sz n, .own b s cap hw => s = sz ∧ hw = n ∧ n ≤ cap ∧ 0 < sz ∧ n ≤ 140737488355328 ∧ ∃ C, w.heap[b]? = some (.cells C e (0, 0)) ∧ C.size = cap * sz
  | _, _ => False
structure HR (B : Nat → Nat → Prop) (G : Gh) (w : World) (H : Heap) : Prop where
  len : H.length = G.length
  dist : Dist G
  blk : ∀ (k : Nat) (b : DBlk) (g : GK), H[k]? = some b → G[k]? = some g → BlkRep (ImmB B G) w G b g
  bb : ∀ k b, liveAt G k b → ∀ j, B b j
structure Keep (G : Gh) (w : World) (G' : Gh) (w' : World) : Prop where
  os : w'.os = w.os
  tape : w'.tape = w.tape
  output : w'.output = w.output
  size : w.heap.size ≤ w'.heap.size
  blk : ∀ b, b < w.heap.size → (∀ k, ¬ liveAt G k b) → w'.heap[b]? = w.heap[b]?
  own : ∀ k b sz cap hw : Nat, G[k]? = some (GK.own b sz cap hw) → b < w.heap.size → ∀ j, j < hw * sz → w'.cell? ⟨b, j, none⟩ = w.cell? ⟨b, j, none⟩
  evol : Evol G G'
  fresh : ∀ k b : Nat, b < w.heap.size → G'[k]? = some (GK.cel b) → G[k]? = some (GK.cel b)
  freshO : ∀ k b sz cap' hw' : Nat, b < w.heap.size → G'[k]? = some (GK.own b sz cap' hw') → ∃ cap hw, G[k]? = some (GK.own b sz cap hw) ∧ hw ≤ hw'
theorem Keep.refl (G : Gh) (w : World) : Keep G w G w :=
  ⟨rfl, rfl, rfl, Nat.le_refl _, fun _ _ _ => rfl, fun _ _ _ _ _ _ _ _ _ => rfl, Evol.refl G, fun _ _ _ h => h, fun _ _ _ cap hw _ h => ⟨cap, hw, h, Nat.le_refl _⟩⟩
theorem Keep.live {G G' : Gh} {w w' : World} (h : Keep G w G' w') {k b : Nat} (hb : b < w.heap.size) (hl : liveAt G' k b) : liveAt G k b := by
  rcases hl with hl | ⟨sz, cap, hw, hl⟩
  · exact .inl (h.fresh k b hb hl)
  · obtain ⟨cap, hw, hg, _⟩ := h.freshO k b sz cap hw hb hl
    exact .inr ⟨sz, cap, hw, hg⟩
theorem cell_of_blk {w w' : World} {b : Nat} (h : w'.heap[b]? = w.heap[b]?) (j : Nat) : w'.cell? ⟨b, j, none⟩ = w.cell? ⟨b, j, none⟩ := by
  simp only [World.cell?, h]
theorem Keep.trans {G G' G'' : Gh} {w w' w'' : World} (hD : Dist G) (h : Keep G w G' w') (k : Keep G' w' G'' w'') : Keep G w G'' w'' := by
  refine ⟨k.os.trans h.os, k.tape.trans h.tape, k.output.trans h.output, Nat.le_trans h.size k.size, ?_, ?_, h.evol.trans k.evol, ?_, ?_⟩
  · intro b hb hl
    rw [k.blk b (Nat.lt_of_lt_of_le hb h.size) (fun i hi => hl i (h.live hb hi)), h.blk b hb hl]
  · intro i b sz cap hw hg hb j hj
    rw [← h.own i b sz cap hw hg hb j hj]
    have hb' := Nat.lt_of_lt_of_le hb h.size
    by_cases hl : ∃ i', liveAt G' i' b
    · obtain ⟨i', hl⟩ := hl
      have : i' = i := hD i' i b (h.live hb hl) (.inr ⟨sz, cap, hw, hg⟩)
      subst this
      rcases hl with hl | ⟨sz', cap', hw', hl⟩
      · have := h.fresh _ _ hb hl
        rw [hg] at this; simp at this
      · obtain ⟨c0, h0, hg0, hle⟩ := h.freshO _ _ _ _ _ hb hl
        rw [hg] at hg0
        injection hg0 with hg0
        injection hg0 with e1 e2 e3 e4
        subst e2 e4
        exact k.own _ _ _ _ _ hl hb' j (Nat.lt_of_lt_of_le hj (Nat.mul_le_mul_right _ hle))
    · exact cell_of_blk (k.blk b hb' (fun i' hi' => hl ⟨i', hi'⟩)) j
  · intro i b hb hg
    exact h.fresh i b hb (k.fresh i b (Nat.lt_of_lt_of_le hb h.size) hg)
  · intro i b sz cap' hw' hb hg
    obtain ⟨c1, h1, hg1, hle1⟩ := k.freshO i b sz cap' hw' (Nat.lt_of_lt_of_le hb h.size) hg
    obtain ⟨c0, h0, hg0, hle0⟩ := h.freshO i b sz c1 h1 hb hg1
    exact ⟨c0, h0, hg0, Nat.le_trans hle0 hle1⟩
theorem cell_lt {w : World} {b j : Nat} {v : Value} (h : w.cell? ⟨b, j, none⟩ = some v) : b < w.heap.size := World.block_lt_of_cell? (a := ⟨b, j, none⟩) _ h
theorem Keep.stay {B : Nat → Nat → Prop} {G G' : Gh} {w w' : World} (h : Keep G w G' w') : Stay (ImmB B G) (ImmB B G') w w' := by
  intro b j v hI hc
  have hb := cell_lt hc
  obtain ⟨h0, h1, h2⟩ := hI
  refine ⟨?_, h0, fun k hk => h1 k (h.fresh k b hb hk), fun k sz cap hw hk => ?_⟩
  · by_cases hl : ∃ i, liveAt G i b
    · obtain ⟨i, hl | ⟨sz, cap, hw, hl⟩⟩ := hl
      · exact absurd hl (h1 i)
      · rw [h.own i b sz cap hw hl hb j (h2 i sz cap hw hl)]; exact hc
    · rw [cell_of_blk (h.blk b hb (fun i hi => hl ⟨i, hi⟩)) j]; exact hc
  · obtain ⟨c0, h0', hg0, hle⟩ := h.freshO k b sz cap hw hb hk
    exact Nat.lt_of_lt_of_le (h2 k sz c0 h0' hg0) (Nat.mul_le_mul_right _ hle)
theorem Rep.keep {B : Nat → Nat → Prop} {G G' : Gh} {w w' : World} (h : Keep G w G' w') {d : DV} {V : Value} (hr : Rep (ImmB B G) w G d V) : Rep (ImmB B G') w' G' d V :=
  Rep.stay h.stay h.evol d V hr
theorem RepL.keep {B : Nat → Nat → Prop} {G G' : Gh} {w w' : World} (h : Keep G w G' w') {d : List DV} {V : List Value} (hr : RepL (ImmB B G) w G d V) : RepL (ImmB B G') w' G' d V :=
  RepL.stay h.stay h.evol d V hr
/-- a draw turns nothing -/
theorem Keep.draw (G : Gh) (w : World) (n : Nat) : Keep G w G { w with drawn := n } :=
  ⟨rfl, rfl, rfl, Nat.le_refl _, fun _ _ _ => rfl, fun _ _ _ _ _ _ _ _ _ => rfl, Evol.refl G, fun _ _ _ h => h, fun _ _ _ cap hw _ h => ⟨cap, hw, h, Nat.le_refl _⟩⟩
theorem HR.draw {B : Nat → Nat → Prop} {G : Gh} {w : World} {H : Heap} (h : HR B G w H) (n : Nat) : HR B G { w with drawn := n } H := by
  refine ⟨h.len, h.dist, fun k b g hb hg => ?_, h.bb⟩
  have := h.blk k b g hb hg
  cases b <;> cases g <;> simp only [BlkRep] at this ⊢
  · obtain ⟨C, h1, h2, h3⟩ := this
    exact ⟨C, h1, RepL.keep (Keep.draw G w n) h2, h3⟩
  · exact this
end Go.Proofs.Ytbhnkdnfmlnajaa
