/- Words on memory that the walks share: rows that read as lists, rows of the call's own, appends. -/
import Derived.Test.YtbhnkdnfmlnajaaProg
import Derived.Test.YtbhnkdnfmlnajaaPlainB
import Derived.WalkKit
import Derived.KernelRfl
import Derived.Deep.LoopGhost
import Derived.Lib.Hide
import Derived.Deep.QuietTactic
import Derived.BigQuiet
namespace Go.Proofs.Ytbhnkdnfmlnajaa
open Go.RowKit

/-- v is a slice of n elements, sz cells each, whose cells are cs -/
def Rd (w : World) (sz : Nat) (v : Value) (n : Nat) (cs : List Value) : Prop :=
  ∃ A c, v = .slice A n c ∧ n ≤ c ∧ n ≤ 140737488355328 ∧ cs.length = n * sz ∧
    (n = 0 ∨ ∃ b o, A = some ⟨b, o, none⟩ ∧ ∀ j u, cs[j]? = some u → w.cell? ⟨b, o + j, none⟩ = some u)

/-- v reads as the list l of scalars -/
def RdV {α : Type} (enc : α → Value) (w : World) (v : Value) (l : List α) : Prop := Rd w 1 v l.length (l.map enc)

/-- v is a row of the call's own (from block base on), of the scalars l -/
def Own {α : Type} (enc : α → Value) (e : TypeId) (w : World) (base : Nat) (v : Value) (l : List α) : Prop := w.ownsRow base e 1 v l.length (l.map enc) ∧ l.length ≤ 140737488355328

def encB (b : UInt8) : Value := .int .u8 (b.toNat : Int)
def encW (b : UInt16) : Value := .int .u16 (b.toNat : Int)
def encI (n : Int) : Value := .int .i64 n
def encT (b : Bool) : Value := .bool b

theorem encB_mod (n : Int) : Value.int .u8 (n % 256) = encB (lowB (n % 256)) := by
  unfold encB; rw [lowB_nat _ (by omega) (by omega)]
theorem encB_low (n : Int) (h0 : 0 ≤ n) (h1 : n < 256) : Value.int .u8 n = encB (lowB n) := by
  unfold encB; rw [lowB_nat _ h0 h1]
def lowW (n : Int) : UInt16 := UInt16.ofNat n.toNat
theorem lowW_nat (n : Int) (h0 : 0 ≤ n) (h1 : n < 65536) : ((lowW n).toNat : Int) = n := by
  unfold lowW; rw [UInt16.toNat_ofNat']; omega
theorem encW_mod (n : Int) : Value.int .u16 (n % 65536) = encW (lowW (n % 65536)) := by
  unfold encW; rw [lowW_nat _ (by omega) (by omega)]
theorem encW_low (n : Int) (h0 : 0 ≤ n) (h1 : n < 65536) : Value.int .u16 n = encW (lowW n) := by
  unfold encW; rw [lowW_nat _ h0 h1]
theorem encB_one (x : UInt8) : (encB x).oneCell' = true := rfl
theorem encW_one (x : UInt16) : (encW x).oneCell' = true := rfl
theorem encI_one (x : Int) : (encI x).oneCell' = true := rfl
theorem encT_one (x : Bool) : (encT x).oneCell' = true := rfl

theorem addr_add (b o j : Nat) : (⟨b, o, none⟩ : Addr).add j = ⟨b, o + j, none⟩ := by
  unfold Addr.add; split <;> simp_all

theorem belowN {B : Nat} {a w : World} (h : Below B a w) (n : Nat) : Below B a (w.drewN n) := h.trans ⟨rfl, rfl, rfl, Nat.le_refl _, fun _ _ => rfl⟩
theorem belowT {a w w' : World} (h : Below a.heap.size a w) (k : Below w.heap.size w w') : Below a.heap.size a w' := h.trans (k.mono h.size)
theorem belowA {a w : World} (h : Below a.heap.size a w) (o : Obj) : Below a.heap.size a (w.alloc o) := h.alloc h.size o
theorem belowG {a w w' : World} {row : Option Nat} (h : Below a.heap.size a w) (hg : w.grownBy w' row) (hr : ∀ k, row = some k → a.heap.size ≤ k) : Below a.heap.size a w' := h.grown hg h.size hr
theorem cellT {w w' : World} {p : Addr} {v : Value} (hB : Below w.heap.size w w') (h : w.cell? p = some v) : w'.cell? p = some v := (hB.cell (World.block_lt_of_cell? _ _ h)).trans h
theorem cell_made {w : World} {xs : Array Value} {t : TypeId} (k : Nat) (v : Value) (h : xs[k]? = some v) : (w.alloc (.cells xs t)).cell? ⟨w.heap.size, k, none⟩ = some v := by
  simp only [World.cell?, World.alloc, Array.getElem?_push_size]
  exact h
theorem Rd.mono {w w' : World} {sz : Nat} {v : Value} {n : Nat} {cs : List Value} (h : Rd w sz v n cs)
    (hb : ∀ k, k < w.heap.size → w'.heap[k]? = w.heap[k]?) : Rd w' sz v n cs := by
  obtain ⟨A, c, rfl, h1, h2, h3, h4⟩ := h
  refine ⟨A, c, rfl, h1, h2, h3, h4.imp id ?_⟩
  rintro ⟨b, o, rfl, h⟩
  refine ⟨b, o, rfl, fun j u hu => ?_⟩
  have hc := h j u hu
  rw [World.cell?_of_block (w := w)]
  · exact hc
  · exact hb _ (World.block_lt_of_cell? w _ hc)
theorem Rd.below {w w' : World} {sz : Nat} {v : Value} {n : Nat} {cs : List Value} (h : Rd w sz v n cs) (hb : Below w.heap.size w w') : Rd w' sz v n cs :=
  h.mono hb.block
theorem RdV.below {α : Type} {enc : α → Value} {w w' : World} {v : Value} {l : List α} (h : RdV enc w v l) (hb : Below w.heap.size w w') : RdV enc w' v l := Rd.below h hb
theorem RdV.mono {α : Type} {enc : α → Value} {w w' : World} {v : Value} {l : List α} (h : RdV enc w v l) (hb : ∀ k, k < w.heap.size → w'.heap[k]? = w.heap[k]?) : RdV enc w' v l := Rd.mono h hb
theorem RdV.alloc {α : Type} {enc : α → Value} {w : World} {v : Value} {l : List α} (h : RdV enc w v l) (o : Obj) : RdV enc (w.alloc o) v l :=
  h.mono fun k hk => Below.heap_alloc w o k hk
theorem RdV.drew {α : Type} {enc : α → Value} {w : World} {v : Value} {l : List α} (h : RdV enc w v l) : RdV enc w.drew v l := h.mono fun _ _ => rfl
theorem RdV.drewN {α : Type} {enc : α → Value} {w : World} {v : Value} {l : List α} (h : RdV enc w v l) (n : Nat) : RdV enc (w.drewN n) v l := h.mono fun _ _ => rfl
theorem RdV.len {α : Type} {enc : α → Value} {w : World} {v : Value} {l : List α} (h : RdV enc w v l) : l.length ≤ 140737488355328 := by
  obtain ⟨A, c, _, _, h, _⟩ := h; exact h
/-- a readable slice's own form, and each element's cell -/
theorem RdV.open {α : Type} {enc : α → Value} {w : World} {v : Value} {l : List α} (h : RdV enc w v l) :
    ∃ A c, v = .slice A l.length c ∧ l.length ≤ c ∧ l.length ≤ 140737488355328 ∧
      (l.length = 0 ∨ ∃ b o, A = some ⟨b, o, none⟩ ∧ ∀ i (hi : i < l.length), w.cell? ⟨b, o + i, none⟩ = some (enc l[i])) := by
  obtain ⟨A, c, rfl, h1, h2, h3, h4⟩ := h
  refine ⟨A, c, rfl, h1, h2, h4.imp id ?_⟩
  rintro ⟨b, o, rfl, h⟩
  exact ⟨b, o, rfl, fun i hi => h i _ (by simp [hi])⟩
/-- one element of a readable slice that has some -/
theorem RdV.each {α : Type} {enc : α → Value} {w : World} {v : Value} {l : List α} (h : RdV enc w v l) (h0 : 0 < l.length) :
    ∃ b o c, v = .slice (Option.some ⟨b, o, none⟩) l.length c ∧ ∀ i (hi : i < l.length), w.cell? ⟨b, o + i, none⟩ = Option.some (enc l[i]) := by
  obtain ⟨A, c, rfl, _, _, hA⟩ := h.open
  obtain ⟨b, o, rfl, hc⟩ := hA.resolve_left (by omega)
  exact ⟨b, o, c, rfl, hc⟩
theorem RdV.nil {α : Type} (enc : α → Value) (w : World) : RdV enc w (.slice none 0 0) [] := ⟨none, 0, rfl, Nat.le_refl _, by simp, by simp, .inl rfl⟩
/-- what a slice literal makes -/
theorem RdV.lit {α : Type} (enc : α → Value) (w : World) (e : TypeId) (l : List α) (cs : Array Value) (n c : Nat) (hn : n = l.length) (hc : n ≤ c) (hl : l.length ≤ 140737488355328) (hcs : cs = (l.map enc).toArray) :
    RdV enc (w.alloc (.cells cs e)) (.slice (some ⟨w.heap.size, 0, none⟩) n c) l := by
  subst hcs; subst hn
  refine ⟨_, c, rfl, hc, hl, by simp, .inr ⟨_, _, rfl, fun j u hu => ?_⟩⟩
  simpa using hu

theorem RdV.litz {α : Type} (enc : α → Value) (w : World) (e : TypeId) (fz : Nat × Nat) (l : List α) (cs : Array Value) (n c : Nat) (hn : n = l.length) (hc : n ≤ c) (hl : l.length ≤ 140737488355328) (hcs : cs = (l.map enc).toArray) :
    RdV enc (w.alloc (.cells cs e fz)) (.slice (some ⟨w.heap.size, 0, none⟩) n c) l := by
  subst hcs; subst hn
  refine ⟨_, c, rfl, hc, hl, by simp, .inr ⟨_, _, rfl, fun j u hu => ?_⟩⟩
  have : (w.alloc (.cells (l.map enc).toArray e fz)).cell? ⟨w.heap.size, 0 + j, none⟩ = (l.map enc)[j]? := by
    have hh : (w.alloc (.cells (l.map enc).toArray e fz)).heap[w.heap.size]? = some (.cells (l.map enc).toArray e fz) := heap_alloc_new w _
    unfold World.cell?; rw [hh]; simp
  rw [this]; exact hu
theorem RdV.litg {α : Type} (enc : α → Value) (w : World) (e : TypeId) (l : List α) (cs : Array Value) (g n c : Nat) (hg : g = w.heap.size) (hn : n = l.length) (hc : n ≤ c) (hl : l.length ≤ 140737488355328) (hcs : cs = (l.map enc).toArray) :
    RdV enc (w.alloc (.cells cs e)) (.slice (some ⟨g, 0, none⟩) n c) l := by
  subst hg; exact RdV.lit enc w e l cs n c hn hc hl hcs
theorem Own.litg {α : Type} (enc : α → Value) (w : World) (e : TypeId) (base g : Nat) (hg : g = w.heap.size) (hb : base ≤ w.heap.size) (l : List α) (cs : Array Value) (n : Nat) (hn : n = l.length) (hl : l.length ≤ 140737488355328) (hcs : cs = (l.map enc).toArray) :
    Own enc e (w.alloc (.cells cs e)) base (.slice (some ⟨g, 0, none⟩) n n) l := by
  subst hg; subst hcs; subst hn
  refine ⟨⟨by simp, .inr ⟨_, _, _, rfl, hb, heap_alloc_new w _, Nat.le_refl _, by simp only [maxLen]; omega, by simp, ?_⟩⟩, hl⟩
  exact List.take_of_length_le (by simp)
theorem RdV.cap {α : Type} {enc : α → Value} {w : World} {A : Option Addr} {n c c' : Nat} {l : List α} (h : RdV enc w (.slice A n c) l) (hc : l.length ≤ c') : RdV enc w (.slice A n c') l := by
  obtain ⟨A', c1, he, h1, h2, h3, h4⟩ := h
  injection he with e1 e2 e3
  subst e1; subst e2; subst e3
  exact ⟨_, c', rfl, hc, h2, h3, h4⟩
theorem RdV.none {α : Type} {enc : α → Value} {w : World} {n c : Nat} {l : List α} (h : RdV enc w (.slice none n c) l) : l = [] := by
  obtain ⟨A', c1, he, h1, h2, h3, h4⟩ := h
  injection he with e1 e2 e3
  subst e1
  rcases h4 with h4 | ⟨b, o, h4, _⟩
  · exact List.eq_nil_of_length_eq_zero h4
  · cases h4
/-- s[i:j] of a readable slice -/
theorem RdV.cut {α : Type} {enc : α → Value} {w : World} {A : Option Addr} {n c : Nat} {l : List α} (h : RdV enc w (.slice A n c) l) (i m c' : Nat) (A' : Option Addr)
    (hA : A' = A.map (·.add i) ∨ (m = 0)) (hm : i + m ≤ l.length) (hc : m ≤ c') : RdV enc w (.slice A' m c') ((l.drop i).take m) := by
  obtain ⟨A0, c1, he, h1, h2, h3, h4⟩ := h
  injection he with e1 e2 e3
  subst e1; subst e2; subst e3
  have hlen : ((l.drop i).take m).length = m := by simp; omega
  refine ⟨A', c', by rw [hlen], by omega, by omega, by simp, ?_⟩
  rw [hlen]
  by_cases hm0 : m = 0
  · exact .inl hm0
  · obtain ⟨b, o, rfl, hcell⟩ := h4.resolve_left (by omega)
    obtain rfl := hA.resolve_right hm0
    refine .inr ⟨b, o + i, by simp [addr_add], fun j u hu => ?_⟩
    rw [List.map_take, List.map_drop, List.getElem?_take] at hu
    split at hu
    · rw [List.getElem?_drop] at hu
      have := hcell (i + j) u hu
      rwa [← Nat.add_assoc] at this
    · cases hu

theorem RdV.take {α : Type} {enc : α → Value} {w : World} {A : Option Addr} {n c : Nat} {l : List α} (h : RdV enc w (.slice A n c) l) (m c' : Nat)
    (hm : m ≤ l.length) (hc : m ≤ c') : RdV enc w (.slice A m c') (l.take m) := by
  have := h.cut 0 m c' A (.inl (by cases A <;> rfl)) (by omega) hc
  simpa using this

theorem Own.rd {α : Type} {enc : α → Value} {e : TypeId} {w : World} {base : Nat} {v : Value} {l : List α} (h : Own enc e w base v l) : RdV enc w v l := by
  obtain ⟨h, hl⟩ := h
  have h0 := h
  obtain ⟨h1, h2⟩ := h
  rcases h2 with ⟨rfl, h2⟩ | ⟨g, cap, cur, rfl, hb, hg, hn, hcap, hcs, ht⟩
  · have : l = [] := List.eq_nil_of_length_eq_zero h2
    subst this
    exact RdV.nil enc w
  · refine ⟨_, cap, rfl, hn, hl, by simp, .inr ⟨g, 0, rfl, fun j u hu => ?_⟩⟩
    have hj : j < l.length := by
      rcases Nat.lt_or_ge j l.length with h | h
      · exact h
      · simp [List.getElem?_eq_none (by simpa using h : (l.map enc).length ≤ j)] at hu
    rw [Nat.zero_add]
    exact (h0.cellAt j (by simpa using hj)).trans hu
theorem Own.block {α : Type} {enc : α → Value} {e : TypeId} {w : World} {base : Nat} {v : Value} {l : List α} (h : Own enc e w base v l) (h0 : 0 < l.length) :
    ∃ g cap, v = .slice (Option.some ⟨g, 0, none⟩) l.length cap ∧ base ≤ g ∧ g < w.heap.size := by
  obtain ⟨⟨h1, h2⟩, hl⟩ := h
  rcases h2 with ⟨_, h2⟩ | ⟨g, cap, cur, rfl, hb, hg, _⟩
  · omega
  · exact ⟨g, cap, rfl, hb, (Array.getElem?_eq_some_iff.1 hg).1⟩
theorem Own.nil {α : Type} (enc : α → Value) (e : TypeId) (w : World) (base : Nat) : Own enc e w base (.slice none 0 0) ([] : List α) := ⟨World.ownsRow_nil w base e 1, by simp⟩
theorem Own.lit {α : Type} (enc : α → Value) (w : World) (e : TypeId) (base : Nat) (hb : base ≤ w.heap.size) (l : List α) (cs : Array Value) (n : Nat) (hn : n = l.length) (hl : l.length ≤ 140737488355328) (hcs : cs = (l.map enc).toArray) :
    Own enc e (w.alloc (.cells cs e)) base (.slice (some ⟨w.heap.size, 0, none⟩) n n) l := by
  subst hcs; subst hn
  refine ⟨⟨by simp, .inr ⟨_, _, _, rfl, hb, heap_alloc_new w _, Nat.le_refl _, by simp only [maxLen]; omega, by simp, ?_⟩⟩, hl⟩
  exact List.take_of_length_le (by simp)
theorem Own.mono {α : Type} {enc : α → Value} {e : TypeId} {w w' : World} {base : Nat} {v : Value} {l : List α} (h : Own enc e w base v l)
    (hb : ∀ k, k < w.heap.size → w'.heap[k]? = w.heap[k]?) : Own enc e w' base v l := by
  obtain ⟨⟨h1, h2⟩, hl⟩ := h
  refine ⟨⟨h1, h2.imp id ?_⟩, hl⟩
  rintro ⟨g, cap, cur, rfl, hb', hg, r⟩
  exact ⟨g, cap, cur, rfl, hb', by rw [hb _ (Array.getElem?_eq_some_iff.1 hg).1]; exact hg, r⟩
theorem Own.below {α : Type} {enc : α → Value} {e : TypeId} {w w' : World} {base : Nat} {v : Value} {l : List α} (h : Own enc e w base v l) (hb : Below w.heap.size w w') : Own enc e w' base v l := h.mono hb.block
theorem Own.alloc {α : Type} {enc : α → Value} {e : TypeId} {w : World} {base : Nat} {v : Value} {l : List α} (h : Own enc e w base v l) (o : Obj) : Own enc e (w.alloc o) base v l := h.mono fun k hk => Below.heap_alloc w o k hk
theorem Own.drew {α : Type} {enc : α → Value} {e : TypeId} {w : World} {base : Nat} {v : Value} {l : List α} (h : Own enc e w base v l) : Own enc e w.drew base v l := h.mono fun _ _ => rfl
theorem Own.drewN {α : Type} {enc : α → Value} {e : TypeId} {w : World} {base : Nat} {v : Value} {l : List α} (h : Own enc e w base v l) (n : Nat) : Own enc e (w.drewN n) base v l := h.mono fun _ _ => rfl
theorem Own.lower {α : Type} {enc : α → Value} {e : TypeId} {w : World} {base base' : Nat} {v : Value} {l : List α} (h : Own enc e w base v l) (hb : base' ≤ base) : Own enc e w base' v l := by
  obtain ⟨⟨h1, h2⟩, hl⟩ := h
  refine ⟨⟨h1, h2.imp id ?_⟩, hl⟩
  rintro ⟨g, cap, cur, rfl, hb', r⟩
  exact ⟨g, cap, cur, rfl, by omega, r⟩
/-- a row of the call's own, while another one is written -/
theorem Own.kept {α : Type} {enc : α → Value} {e : TypeId} {w w' : World} {base : Nat} {v : Value} {l : List α} (h : Own enc e w base v l) {row : Option Nat} (hg : w.grownBy w' row)
    (hne : v.ownBlock = none ∨ v.ownBlock ≠ row) : Own enc e w' base v l := ⟨h.1.kept hg hne, h.2⟩
theorem Own.base {α : Type} {enc : α → Value} {e : TypeId} {w : World} {base : Nat} {v : Value} {l : List α} (h : Own enc e w base v l) : ∀ k, v.ownBlock = some k → base ≤ k ∧ k < w.heap.size := h.1.lt

theorem Own.made {α : Type} {enc : α → Value} (z : α) {e : TypeId} {w : World} {base : Nat} {v : Value} {n : Nat} (h : w.ownsRow base e 1 v n (madeCells #[enc z] n).toList) (hn : n ≤ 140737488355328) :
    Own enc e w base v (List.replicate n z) := by
  rw [toList_madeCells_one] at h
  refine ⟨?_, by simpa using hn⟩
  simpa using h
/-- an element is read, and stored, in a row of the call's own -/
theorem Own.at {α : Type} {enc : α → Value} {e : TypeId} {w : World} {base g n cap : Nat} {l : List α} (h : Own enc e w base (.slice (some ⟨g, 0, none⟩) n cap) l) (i : Nat) (hi : i < l.length) :
    w.cell? ⟨g, i, none⟩ = some (enc l[i]) ∧ w.frozen? ⟨g, i, none⟩ = false := by
  have h1 := h.1
  have hn : n = l.length := by
    rcases h1.2 with ⟨he, _⟩ | ⟨g', cap', cur, he, _⟩
    · cases he
    · injection he with _ e2 _
  subst hn
  refine ⟨?_, h1.frozenAt i⟩
  rw [h1.cellAt i (by simpa using hi)]
  simp [hi]
theorem Own.set {α : Type} {enc : α → Value} {e : TypeId} {w : World} {base g n cap : Nat} {l : List α} (h : Own enc e w base (.slice (some ⟨g, 0, none⟩) n cap) l) (i : Nat) (x : α) :
    Own enc e (w.setCell ⟨g, i, none⟩ (enc x)) base (.slice (some ⟨g, 0, none⟩) n cap) (l.set i x) ∧ w.grownBy (w.setCell ⟨g, i, none⟩ (enc x)) (some g) := by
  have h1 := h.1
  have hn : n = l.length := by
    rcases h1.2 with ⟨he, _⟩ | ⟨g', cap', cur, he, _⟩
    · cases he
    · injection he with _ e2 _
  subst hn
  have h2 := h1.stored i (enc x)
  refine ⟨⟨?_, by simpa using h.2⟩, h2.2⟩
  rw [List.length_set, List.map_set]
  exact h2.1
section app
variable {P : Program} {ops : Array Oper} {rest : List Oper} {o : Oper} {a : Act} {Q : Exit → Act → World → Prop} {w : World}
/-- append onto a row of the call's own, the source any readable row: cells -/
theorem wp_app_cells (hgd : o.guard = none) (s x : Operand) (t : TypeId)
    (ho : o.op = .call { callee := .builtin .append, args := #[s, x], argTypes := #[t, t] })
    (e : TypeId) (z : Value) (sz bytes : Nat) (ht : P.underlying t = some (.slice e)) (hinfo : (P.info? e).map (fun i => (i.zero, i.size, i.bytes)) = some (some z, sz, bytes))
    (hzs : z.cells.size = sz) (hsz : 0 < sz) (base : Nat)
    (v : Value) (n : Nat) (xs : List Value) (hs : a.eval s = v) (hown : w.ownsRow base e sz v n xs)
    (y : Value) (m : Nat) (news : List Value) (hx : a.eval x = y) (hy : Rd w sz y m news) (h1 : ∀ u ∈ news, u.oneCell' = true)
    (hb : (n + m) * bytes ≤ 140737488355328) (hm : n + m ≤ 140737488355328) (hbase : base ≤ w.heap.size)
    (h : ∀ v' w', w'.ownsRow base e sz v' (n + m) (xs ++ news) → w.grownBy w' v.ownBlock → wpList P ops Q rest (a.put o.dst v') w') : wpList P ops Q (o :: rest) a w := by
  obtain ⟨i, hi, hz, hsize, hby⟩ := info_parts hinfo
  obtain ⟨A, c, rfl, hmc, hml, hnl, hA⟩ := hy
  by_cases hA0 : ∃ b o, A = some ⟨b, o, none⟩ ∧ ∀ j u, news[j]? = some u → w.cell? ⟨b, o + j, none⟩ = some u
  · obtain ⟨b, ofs, rfl, hcell⟩ := hA0
    exact wpList_append_own w hgd s x t ho base e i z sz bytes ht hi hz hsize hby hzs hsz v n xs hs hown ⟨b, ofs, none⟩ m c news hx (by simpa using hnl)
      (fun j u hu => by rw [addr_add]; exact hcell j u hu) h1 (by simp only [maxLen]; omega) hb hbase (fun v' w' g1 g2 _ => h v' w' g1 g2)
  · have hm0 : m = 0 := hA.resolve_right hA0
    subst hm0
    have hn0 : news = [] := List.eq_nil_of_length_eq_zero (by simpa using hnl)
    subst hn0
    refine wpList_plain hgd fun K hK => ?_
    have q := hK _ _ (h v w (by simpa using hown) ⟨rfl, rfl, rfl, Nat.le_refl _, fun _ _ _ => rfl⟩)
    have hrun : ∀ ty, (Builtin.append_ #[t, t] ty #[v, .slice A 0 c]).run P w = .ok v w := by
      intro ty
      rcases hown.2 with ⟨rfl, rfl⟩ | ⟨g, cap, cur, rfl, _, hg, hn, _, hcs, _⟩
      · cases A <;> simp [Builtin.append_, run_underlying ht, sizeOf, typeInfo, hi, Builtin.lenOf, Builtin.firstCells, loadCells, loadCellsFrom]
      · cases A <;> simp [Builtin.append_, run_underlying ht, sizeOf, typeInfo, hi, Builtin.lenOf, Builtin.firstCells, loadCells, loadCellsFrom, hn, storeCells]
    unfold Oper.wp execOp
    simp only [ho, resolve, invoke, builtin, Sem.run_bind, Sem.run_pure, Result.andThen_ok, List.map_toArray, List.map_cons, List.map_nil, hs, hx, hrun]
    exact q
/-- append onto a row of the call's own: scalars -/
theorem wp_app {α : Type} {enc : α → Value} (henc : ∀ x, (enc x).oneCell' = true) (hgd : o.guard = none) (s x : Operand) (t : TypeId)
    (ho : o.op = .call { callee := .builtin .append, args := #[s, x], argTypes := #[t, t] })
    (e : TypeId) (z : Value) (bytes : Nat) (ht : P.underlying t = some (.slice e)) (hinfo : (P.info? e).map (fun i => (i.zero, i.size, i.bytes)) = some (some z, 1, bytes))
    (hzs : z.cells.size = 1) (base : Nat)
    (v : Value) (l : List α) (hs : a.eval s = v) (hown : Own enc e w base v l)
    (y : Value) (m : List α) (hx : a.eval x = y) (hy : RdV enc w y m)
    (hb : (l.length + m.length) * bytes ≤ 140737488355328) (hbytes : 0 < bytes) (hbase : base ≤ w.heap.size)
    (h : ∀ v' w', Own enc e w' base v' (l ++ m) → w.grownBy w' v.ownBlock → wpList P ops Q rest (a.put o.dst v') w') : wpList P ops Q (o :: rest) a w := by
  have hm : l.length + m.length ≤ 140737488355328 := Nat.le_trans (Nat.le_mul_of_pos_right _ hbytes) hb
  refine wp_app_cells hgd s x t ho e z 1 bytes ht hinfo hzs (by omega) base v l.length (l.map enc) hs hown.1 y m.length (m.map enc) hx hy ?_ hb hm hbase ?_
  · intro u hu
    obtain ⟨x, _, rfl⟩ := List.mem_map.1 hu
    exact henc x
  · intro v' w' g1 g2
    exact h v' w' ⟨by rw [List.length_append, List.map_append]; exact g1, by rw [List.length_append]; exact hm⟩ g2
/-- the same as one step of a region that draws its order -/
theorem step_app {α : Type} {enc : α → Value} {K : Act → World → Prop} {E : Prop} (henc : ∀ x, (enc x).oneCell' = true) (hgd : o.guard = none) (s x : Operand) (t : TypeId)
    (ho : o.op = .call { callee := .builtin .append, args := #[s, x], argTypes := #[t, t] })
    (e : TypeId) (z : Value) (bytes : Nat) (ht : P.underlying t = some (.slice e)) (hinfo : (P.info? e).map (fun i => (i.zero, i.size, i.bytes)) = some (some z, 1, bytes))
    (hzs : z.cells.size = 1) (base : Nat)
    (v : Value) (l : List α) (hs : a.eval s = v) (hown : Own enc e w base v l)
    (y : Value) (m : List α) (hx : a.eval x = y) (hy : RdV enc w y m) (h0 : 0 < m.length)
    (hb : (l.length + m.length) * bytes ≤ 140737488355328) (hbytes : 0 < bytes) (hbase : base ≤ w.heap.size)
    (h : ∀ v' w', Own enc e w' base v' (l ++ m) → w.grownBy w' v.ownBlock → K (a.put o.dst v') w') :
    if Region.wanted o (yielded ops a.tmps) = true then Oper.wp P o a w K Q else E := by
  have hw : Region.wanted o (yielded ops a.tmps) = true := by simp [Region.wanted, hgd]
  rw [if_pos hw]
  have hm : l.length + m.length ≤ 140737488355328 := Nat.le_trans (Nat.le_mul_of_pos_right _ hbytes) hb
  obtain ⟨i, hi, hz, hsize, hby⟩ := info_parts hinfo
  obtain ⟨A, c, rfl, hmc, hml, hnl, hA⟩ := hy
  obtain ⟨b, ofs, rfl, hcell⟩ := hA.resolve_left (by omega)
  obtain ⟨v', w', hr, g1, g2, _⟩ := run_append_own (P := P) w base t o.type e i z 1 bytes ht hi hz hsize hby hzs (by omega) v l.length (l.map enc) hown.1 ⟨b, ofs, none⟩ m.length c (m.map enc) (by simp)
    (fun j u hu => by rw [addr_add]; exact hcell j u hu) (fun u hu => by obtain ⟨x, _, rfl⟩ := List.mem_map.1 hu; exact henc x) (by simp only [maxLen]; omega) hb hbase
  have q := h v' w' ⟨by rw [List.length_append, List.map_append]; exact g1, by rw [List.length_append]; exact hm⟩ g2
  unfold Oper.wp execOp
  simp only [ho, resolve, invoke, builtin, Sem.run_bind, Sem.run_pure, Result.andThen_ok, List.map_toArray, List.map_cons, List.map_nil, hs, hx, hr]
  exact q
/-- append onto a readable slice that has no room: a new row -/
theorem wp_app_full {α : Type} {enc : α → Value} (henc : ∀ x, (enc x).oneCell' = true) (hgd : o.guard = none) (s x : Operand) (t : TypeId)
    (ho : o.op = .call { callee := .builtin .append, args := #[s, x], argTypes := #[t, t] })
    (e : TypeId) (z : Value) (bytes : Nat) (ht : P.underlying t = some (.slice e)) (hinfo : (P.info? e).map (fun i => (i.zero, i.size, i.bytes)) = some (some z, 1, bytes))
    (hzs : z.cells.size = 1)
    (A : Option Addr) (l : List α) (hs : a.eval s = .slice A l.length l.length) (hl : RdV enc w (.slice A l.length l.length) l)
    (hnil : A = none → l = [])
    (y : Value) (m : List α) (hx : a.eval x = y) (hy : RdV enc w y m) (h0 : 0 < m.length)
    (hb : (l.length + m.length) * bytes ≤ 140737488355328) (hbytes : 0 < bytes)
    (h : ∀ v' w', Own enc e w' w.heap.size v' (l ++ m) → w.grownBy w' none → wpList P ops Q rest (a.put o.dst v') w') : wpList P ops Q (o :: rest) a w := by
  have hm : l.length + m.length ≤ 140737488355328 := Nat.le_trans (Nat.le_mul_of_pos_right _ hbytes) hb
  obtain ⟨i, hi, hz, hsize, hby⟩ := info_parts hinfo
  obtain ⟨B, c', rfl, hmc, hml, hnl, hB⟩ := hy
  obtain ⟨b2, o2, rfl, hcell2⟩ := hB.resolve_left (by omega)
  have key : ∀ v' w', (Builtin.append_ #[t, t] o.type #[.slice A l.length l.length, .slice (some ⟨b2, o2, none⟩) m.length c']).run P w = .ok v' w' →
      w'.ownsRow w.heap.size e 1 v' (l.length + m.length) (l.map enc ++ m.map enc) → w.grownBy w' none → wpList P ops Q (o :: rest) a w := by
    intro v' w' hr g1 g2
    refine wpList_plain hgd fun K hK => ?_
    have q := hK _ _ (h v' w' ⟨by rw [List.length_append, List.map_append]; exact g1, by rw [List.length_append]; exact hm⟩ g2)
    unfold Oper.wp execOp
    simp only [ho, resolve, invoke, builtin, Sem.run_bind, Sem.run_pure, Result.andThen_ok, List.map_toArray, List.map_cons, List.map_nil, hs, hx, hr]
    exact q
  by_cases hl0 : l.length = 0
  · have hl1 : l = [] := List.eq_nil_of_length_eq_zero hl0
    subst hl1
    cases A with
    | none =>
      obtain ⟨v', w', hr, g1, g2, _⟩ := run_append_own (P := P) w w.heap.size t o.type e i z 1 bytes ht hi hz hsize hby hzs (by omega) (.slice none 0 0) 0 [] (World.ownsRow_nil w _ e 1) ⟨b2, o2, none⟩ m.length c' (m.map enc) (by simp) (fun j u hu => by rw [addr_add]; exact hcell2 j u hu) (fun u hu => by obtain ⟨x, _, rfl⟩ := List.mem_map.1 hu; exact henc x) (by simp only [maxLen]; simp at hm; omega) (by simpa using hb) (Nat.le_refl _)
      exact key v' w' hr (by simpa using g1) g2
    | some ad =>
      obtain ⟨v', w', hr, g1, g2⟩ := run_append_arg_grows (P := P) (w := w) t o.type e i z 1 bytes ht hi hz hsize hby hzs (by omega) ad 0 0 [] (by simp) (by simp) ⟨b2, o2, none⟩ m.length c' (m.map enc) (by simp) (fun j u hu => by rw [addr_add]; exact hcell2 j u hu) (by simpa using h0) (by simp only [maxLen]; simp at hm; omega) (by simpa using hb)
      exact key v' w' hr (by simpa using g1) g2
  · obtain ⟨A', c1, heq, _, _, _, hA⟩ := hl
    obtain ⟨b1, o1, rfl, hcell1⟩ := hA.resolve_left hl0
    injection heq with e1 e2 e3
    subst e1
    obtain ⟨v', w', hr, g1, g2⟩ := run_append_arg_grows (P := P) (w := w) t o.type e i z 1 bytes ht hi hz hsize hby hzs (by omega) ⟨b1, o1, none⟩ l.length l.length (l.map enc) (by simp) (fun j u hu => by rw [addr_add]; exact hcell1 j u hu) ⟨b2, o2, none⟩ m.length c' (m.map enc) (by simp) (fun j u hu => by rw [addr_add]; exact hcell2 j u hu) (by omega) (by simp only [maxLen]; omega) hb
    exact key v' w' hr g1 g2
end app
end Go.Proofs.Ytbhnkdnfmlnajaa
