/- Texts of mine, laid together: PlainA, PlainB, Base, Mem, Rdr, RdrT, Pi, Pr, Pm, Po. -/
import Derived.WalkKit
import Derived.OpenShut
import Derived.Laws.BitsLemmas
import Derived.Test.YtcpgmbpndpcmdaaProg
import Derived.KernelRfl
import Derived.Deep.LoopGhost
import Derived.Lib.Hide
import Derived.Deep.QuietTactic
import Derived.BigQuiet
import Derived.Laws.CopyOwn
import Derived.Laws.BytesString
import Derived.Laws.IdiomStrings
import Derived.Recover
import Derived.Defers
import Derived.WalkSmall
import Derived.Calls
namespace Go.Proofs.Ytcpgmbpndpcmdaa
open Go.RowKit
theorem wraps_u16 (n : Int) (h0 : 0 ≤ n) (h1 : n < 2 ^ 16) : IntKind.u16.wrap n = n := by
  simp [IntKind.wrap, IntKind.bits, IntKind.signed]; omega
theorem bits_xor_nat (k : IntKind) (j : Nat) (hj : j ≤ k.bits) (hk : ∀ n : Int, 0 ≤ n → n < 2 ^ j → k.wrap n = n) (a b : Nat) (ha : a < 2 ^ j) (hb : b < 2 ^ j) :
    Go.bits .xor k a b = ((a ^^^ b : Nat) : Int) := by
  have hp : 2 ^ j ≤ 2 ^ k.bits := Nat.pow_le_pow_right (by decide) hj
  have ha' : a % 2 ^ k.bits = a := Nat.mod_eq_of_lt (Nat.lt_of_lt_of_le ha hp)
  have hb' : b % 2 ^ k.bits = b := Nat.mod_eq_of_lt (Nat.lt_of_lt_of_le hb hp)
  have cast : ∀ n : Nat, n < 2 ^ j → ((n : Nat) : Int) < 2 ^ j := fun n h => by exact_mod_cast h
  simp only [Go.bits, BitVec.ofInt_natCast, BitVec.toNat_xor, BitVec.toNat_ofNat, ha', hb']
  exact hk _ (Int.natCast_nonneg _) (cast _ (Nat.xor_lt_two_pow ha hb))
theorem xor_u16 (x y : Int) (hx0 : 0 ≤ x) (hx1 : x < 65536) (hy0 : 0 ≤ y) (hy1 : y < 65536) : Go.bits .xor .u16 x y = ((x.toNat ^^^ y.toNat : Nat) : Int) := by
  obtain ⟨a, rfl⟩ := Int.eq_ofNat_of_zero_le hx0
  obtain ⟨b, rfl⟩ := Int.eq_ofNat_of_zero_le hy0
  exact bits_xor_nat .u16 16 (by decide) wraps_u16 a b (by omega) (by omega)
theorem and_u16 (x y : Int) (hx0 : 0 ≤ x) (hx1 : x < 65536) (hy0 : 0 ≤ y) (hy1 : y < 65536) : Go.bits .and .u16 x y = ((x.toNat &&& y.toNat : Nat) : Int) := by
  obtain ⟨a, rfl⟩ := Int.eq_ofNat_of_zero_le hx0
  obtain ⟨b, rfl⟩ := Int.eq_ofNat_of_zero_le hy0
  exact (bits_nat .u16 16 (by decide) wraps_u16 a b (by omega) (by omega)).1
theorem wraps_i64 (n : Int) (h0 : 0 ≤ n) (h1 : n < 2 ^ 62) : IntKind.i64.wrap n = n := by
  simp [IntKind.wrap, IntKind.bits, IntKind.signed]; omega
theorem and1_i64 (x : Int) (h0 : 0 ≤ x) (h1 : x < 2 ^ 62) : Go.bits .and .i64 x 1 = x % 2 := bits_mask .i64 62 (by decide) wraps_i64 1 (by decide) x h0 h1
def crcBit (x : Int) : Int := Go.bits .xor .u16 (x / 2) (Go.bits .and .u16 40961 (IntKind.u16.wrap (-(Go.bits .and .u16 x 1))))
def crcBits : Nat → Int → Int
  | 0, x => x
  | n + 1, x => crcBit (crcBits n x)
def crcByte (s : Int) (c : UInt8) : Int := crcBits 8 (Go.bits .xor .u16 s (IntKind.u16.wrap (c.toNat : Int)))
def crcMore (s : Int) (l : List UInt8) : Int := l.foldl crcByte s
def xsum (a b : Int) : Nat → Int
  | 0 => 0
  | j + 1 => xsum a b j + if a / 2 ^ j % 2 ≠ b / 2 ^ j % 2 then 2 ^ j else 0
def refBit (x : Int) : Int := if x % 2 = 1 then Go.bits .xor .u16 (x / 2) 40961 else x / 2
def refBits : Nat → Int → Int
  | 0, x => x
  | n + 1, x => refBit (refBits n x)
def refStep (s : Int) (c : UInt8) : Int := refBits 8 (s - s % 256 + xsum (s % 256) (c.toNat : Int) 8)
theorem xsum_le (a b : Int) (j : Nat) : 0 ≤ xsum a b j ∧ xsum a b j < 2 ^ j := by
  induction j with
  | zero => simp [xsum]
  | succ j ih =>
    have h2 : (0 : Int) < 2 ^ j := Int.pow_pos (by omega)
    simp only [xsum, Int.pow_succ]
    split <;> omega
theorem refBit_bd (x : Int) (h0 : 0 ≤ x) (h1 : x < 65536) : 0 ≤ refBit x ∧ refBit x < 65536 := by
  unfold refBit
  split
  · have := bounds_u16 (wf_bits .xor .u16 (x / 2) 40961); omega
  · omega
theorem refBits_bd (n : Nat) (x : Int) (h0 : 0 ≤ x) (h1 : x < 65536) : 0 ≤ refBits n x ∧ refBits n x < 65536 := by
  induction n with
  | zero => exact ⟨h0, h1⟩
  | succ n ih => exact refBit_bd _ ih.1 ih.2
theorem refStep_bd (s : Int) (c : UInt8) (h0 : 0 ≤ s) (h1 : s < 65536) : 0 ≤ refStep s c ∧ refStep s c < 65536 := by
  have := xsum_le (s % 256) (c.toNat : Int) 8
  unfold refStep
  exact refBits_bd _ _ (by omega) (by omega)
theorem xsum_nat (a b j : Nat) : xsum (a : Int) (b : Int) j = (((a ^^^ b) % 2 ^ j : Nat) : Int) := by
  induction j with
  | zero => simp [xsum, Nat.mod_one]
  | succ j ih =>
    have hx : ((a ^^^ b) / 2 ^ j) % 2 = ((a / 2 ^ j % 2) ^^^ (b / 2 ^ j % 2)) := by
      have := Nat.xor_mod_two_pow (a := a / 2 ^ j) (b := b / 2 ^ j) (n := 1)
      rw [Nat.xor_div_two_pow]; simpa using this
    rw [Nat.mod_pow_succ, xsum, ih, hx]
    have e : ∀ x : Nat, (x : Int) / 2 ^ j % 2 = ((x / 2 ^ j % 2 : Nat) : Int) := by
      intro x
      have h2 : ((2 ^ j : Nat) : Int) = 2 ^ j := by simp
      rw [Int.natCast_emod, Int.natCast_ediv, h2]
      rfl
    rw [e, e]
    have h1 : a / 2 ^ j % 2 < 2 := Nat.mod_lt _ (by omega)
    have h2 : b / 2 ^ j % 2 < 2 := Nat.mod_lt _ (by omega)
    generalize a / 2 ^ j % 2 = p at *
    generalize b / 2 ^ j % 2 = q at *
    rcases (by omega : (p = 0 ∨ p = 1)) with rfl | rfl <;> rcases (by omega : (q = 0 ∨ q = 1)) with rfl | rfl <;> simp
theorem xor_split (s c : Nat) (hc : c < 256) : s ^^^ c = s - s % 256 + ((s % 256) ^^^ c) % 2 ^ 8 := by
  have h1 : (s ^^^ c) % 2 ^ 8 = (s % 256) ^^^ c := by
    rw [Nat.xor_mod_two_pow]; congr 1; exact Nat.mod_eq_of_lt hc
  have h2 : (s ^^^ c) / 2 ^ 8 = s / 256 := by
    rw [Nat.xor_div_two_pow, Nat.div_eq_of_lt hc]; simp
  have h3 : ((s % 256) ^^^ c) < 2 ^ 8 := Nat.xor_lt_two_pow (Nat.mod_lt _ (by omega)) hc
  have h4 := Nat.div_add_mod (s ^^^ c) (2 ^ 8)
  rw [h1, h2] at h4
  rw [Nat.mod_eq_of_lt h3]
  have := Nat.div_add_mod s 256
  omega
theorem crcBit_is (x : Int) (h0 : 0 ≤ x) (h1 : x < 65536) : crcBit x = refBit x := by
  unfold crcBit refBit
  rw [and_u16 x 1 h0 h1 (by omega) (by omega)]
  have e : (x.toNat &&& (1 : Int).toNat) = x.toNat % 2 := by
    show x.toNat &&& 1 = _
    exact Nat.and_one_is_mod _
  rw [e]
  rcases (by omega : x.toNat % 2 = 0 ∨ x.toNat % 2 = 1) with h | h
  · rw [h, if_neg (by omega)]
    rw [show IntKind.u16.wrap (-((0 : Nat) : Int)) = 0 from rfl, show Go.bits .and .u16 40961 0 = 0 from by decide, xor_u16 _ _ (by omega) (by omega) (by omega) (by omega)]
    simp; omega
  · rw [h, if_pos (by omega)]
    rw [show IntKind.u16.wrap (-((1 : Nat) : Int)) = 65535 from by decide, show Go.bits .and .u16 40961 65535 = 40961 from by decide]
theorem crcBits_is (n : Nat) (x : Int) (h0 : 0 ≤ x) (h1 : x < 65536) : crcBits n x = refBits n x := by
  induction n with
  | zero => rfl
  | succ n ih => have := refBits_bd n x h0 h1; rw [crcBits, refBits, ih, crcBit_is _ this.1 this.2]
theorem crcByte_is (s : Int) (c : UInt8) (h0 : 0 ≤ s) (h1 : s < 65536) : crcByte s c = refStep s c := by
  have hc : (c.toNat : Int) < 256 := by have := c.toNat_lt; omega
  unfold crcByte refStep
  rw [wraps_u16 _ (by omega) (by omega), xor_u16 _ _ h0 h1 (by omega) (by omega), Int.toNat_natCast]
  obtain ⟨a, rfl⟩ := Int.eq_ofNat_of_zero_le h0
  have e : ((a : Int) % 256) = ((a % 256 : Nat) : Int) := by omega
  rw [e, xsum_nat, Int.toNat_natCast, xor_split a c.toNat (by omega)]
  have hle : a % 256 ≤ a := Nat.mod_le _ _
  have hlt : ((a % 256) ^^^ c.toNat) % 2 ^ 8 < 2 ^ 8 := Nat.mod_lt _ (by omega)
  rw [Int.natCast_add, Int.natCast_sub hle]
  exact crcBits_is _ _ (by omega) (by omega)
theorem crcByte_bd (s : Int) (c : UInt8) (h0 : 0 ≤ s) (h1 : s < 65536) : 0 ≤ crcByte s c ∧ crcByte s c < 65536 := by
  rw [crcByte_is s c h0 h1]; exact refStep_bd s c h0 h1
theorem crcMore_bd (l : List UInt8) : ∀ (s : Int), 0 ≤ s → s < 65536 → 0 ≤ crcMore s l ∧ crcMore s l < 65536 := by
  induction l with
  | nil => exact fun s h0 h1 => ⟨h0, h1⟩
  | cons x l ih => exact fun s h0 h1 => ih _ (crcByte_bd s x h0 h1).1 (crcByte_bd s x h0 h1).2
end Go.Proofs.Ytcpgmbpndpcmdaa
namespace Go.Proofs.Ytcpgmbpndpcmdaa
open Go.RowKit
def nBit (x : Nat) : Nat := (x / 2) ^^^ (if x % 2 = 1 then 40961 else 0)
def nBits : Nat → Nat → Nat
  | 0, x => x
  | n + 1, x => nBit (nBits n x)
def nMore (s : Nat) (l : List UInt8) : Nat := l.foldl (fun s c => nBits 8 (s ^^^ c.toNat)) s
theorem nBit_lt (x : Nat) (h : x < 65536) : nBit x < 65536 := by
  unfold nBit
  have h2 : (if x % 2 = 1 then 40961 else 0) < 2 ^ 16 := by split <;> omega
  exact Nat.xor_lt_two_pow (by omega) h2
theorem nBits_lt (n x : Nat) (h : x < 65536) : nBits n x < 65536 := by
  induction n with
  | zero => exact h
  | succ n ih => exact nBit_lt _ ih
theorem crcBit_nat (x : Nat) (h : x < 65536) : crcBit (x : Int) = (nBit x : Int) := by
  rw [crcBit_is _ (by omega) (by omega)]
  unfold refBit nBit
  by_cases ho : x % 2 = 1
  · rw [if_pos (by omega), if_pos ho, xor_u16 _ _ (by omega) (by omega) (by omega) (by omega)]
    rfl
  · rw [if_neg (by omega), if_neg ho]; simp
theorem crcBits_nat (n x : Nat) (h : x < 65536) : crcBits n (x : Int) = (nBits n x : Int) := by
  induction n with
  | zero => rfl
  | succ n ih => rw [crcBits, ih, nBits, crcBit_nat _ (nBits_lt n x h)]
theorem crcMore_nat (l : List UInt8) : ∀ s : Nat, s < 65536 → crcMore (s : Int) l = (nMore s l : Int) := by
  induction l with
  | nil => exact fun _ _ => rfl
  | cons c l ih =>
    intro s h
    have hc := c.toNat_lt
    have hx : s ^^^ c.toNat < 2 ^ 16 := Nat.xor_lt_two_pow h (by omega)
    show crcMore (crcByte (s : Int) c) l = _
    have e : crcByte (s : Int) c = (nBits 8 (s ^^^ c.toNat) : Int) := by
      unfold crcByte
      rw [wraps_u16 _ (by omega) (by omega), xor_u16 _ _ (by omega) (by omega) (by omega) (by omega), ← crcBits_nat _ _ hx]
      rfl
    rw [e, ih _ (nBits_lt _ _ hx)]
    rfl
theorem nMore_lt (l : List UInt8) : ∀ s : Nat, s < 65536 → nMore s l < 65536 := by
  intro s h
  have := crcMore_bd l (s : Int) (by omega) (by omega)
  rw [crcMore_nat l s h] at this
  omega
def lowB (n : Int) : UInt8 := UInt8.ofNat n.toNat
theorem lowB_nat (n : Int) (h0 : 0 ≤ n) (h1 : n < 256) : ((lowB n).toNat : Int) = n := by
  unfold lowB; rw [UInt8.toNat_ofNat']; omega
end Go.Proofs.Ytcpgmbpndpcmdaa
namespace Go.Proofs.Ytcpgmbpndpcmdaa
open Go.RowKit
def Rd (w : World) (sz : Nat) (v : Value) (n : Nat) (cs : List Value) : Prop :=
  ∃ A c, v = .slice A n c ∧ n ≤ c ∧ n ≤ 140737488355328 ∧ cs.length = n * sz ∧
    (n = 0 ∨ ∃ b o, A = some ⟨b, o, none⟩ ∧ ∀ j u, cs[j]? = some u → w.cell? ⟨b, o + j, none⟩ = some u)
def RdV {α : Type} (enc : α → Value) (w : World) (v : Value) (l : List α) : Prop := Rd w 1 v l.length (l.map enc)
def Own {α : Type} (enc : α → Value) (e : TypeId) (w : World) (base : Nat) (v : Value) (l : List α) : Prop := w.ownsRow base e 1 v l.length (l.map enc) ∧ l.length ≤ 140737488355328
def encB (b : UInt8) : Value := .int .u8 (b.toNat : Int)
def encW (b : UInt16) : Value := .int .u16 (b.toNat : Int)
def encT (b : Bool) : Value := .bool b
theorem encB_low (n : Int) (h0 : 0 ≤ n) (h1 : n < 256) : Value.int .u8 n = encB (lowB n) := by
  unfold encB; rw [lowB_nat _ h0 h1]
def lowW (n : Int) : UInt16 := UInt16.ofNat n.toNat
theorem lowW_nat (n : Int) (h0 : 0 ≤ n) (h1 : n < 65536) : ((lowW n).toNat : Int) = n := by
  unfold lowW; rw [UInt16.toNat_ofNat']; omega
theorem encW_low (n : Int) (h0 : 0 ≤ n) (h1 : n < 65536) : Value.int .u16 n = encW (lowW n) := by
  unfold encW; rw [lowW_nat _ h0 h1]
theorem encB_one (x : UInt8) : (encB x).oneCell' = true := rfl
theorem encW_one (x : UInt16) : (encW x).oneCell' = true := rfl
theorem encT_one (x : Bool) : (encT x).oneCell' = true := rfl
theorem addr_add (b o j : Nat) : (⟨b, o, none⟩ : Addr).add j = ⟨b, o + j, none⟩ := by
  unfold Addr.add; split <;> simp_all
theorem belowT {a w w' : World} (h : Below a.heap.size a w) (k : Below w.heap.size w w') : Below a.heap.size a w' := h.trans (k.mono h.size)
theorem belowA {a w : World} (h : Below a.heap.size a w) (o : Obj) : Below a.heap.size a (w.alloc o) := h.alloc h.size o
theorem belowG {a w w' : World} {row : Option Nat} (h : Below a.heap.size a w) (hg : w.grownBy w' row) (hr : ∀ k, row = some k → a.heap.size ≤ k) : Below a.heap.size a w' := h.grown hg h.size hr
theorem cellT {w w' : World} {p : Addr} {v : Value} (hB : Below w.heap.size w w') (h : w.cell? p = some v) : w'.cell? p = some v := (hB.cell (World.block_lt_of_cell? _ _ h)).trans h
theorem cell_made {w : World} {xs : Array Value} {t : TypeId} (k : Nat) (v : Value) (h : xs[k]? = some v) : (w.alloc (.cells xs t)).cell? ⟨w.heap.size, k, none⟩ = some v := by
  simp only [World.cell?, World.alloc, Array.getElem?_push_size]
  exact h
theorem Rd.mono {w w' : World} {sz : Nat} {v : Value} {n : Nat} {cs : List Value} (h : Rd w sz v n cs)
    (hb : ∀ k, k < w.heap.size → w'.heap[k]? = w.heap[k]?) : Rd w' sz v n cs := by
  obtain ⟨A, c, rfl, h1, h2, h3, h4⟩ := h
  refine ⟨A, c, rfl, h1, h2, h3, h4.imp id ?_⟩
  rintro ⟨b, o, rfl, h⟩
  refine ⟨b, o, rfl, fun j u hu => ?_⟩
  have hc := h j u hu
  rw [World.cell?_of_block (w := w)]
  · exact hc
  · exact hb _ (World.block_lt_of_cell? w _ hc)
theorem Rd.below {w w' : World} {sz : Nat} {v : Value} {n : Nat} {cs : List Value} (h : Rd w sz v n cs) (hb : Below w.heap.size w w') : Rd w' sz v n cs :=
  h.mono hb.block
theorem RdV.below {α : Type} {enc : α → Value} {w w' : World} {v : Value} {l : List α} (h : RdV enc w v l) (hb : Below w.heap.size w w') : RdV enc w' v l := Rd.below h hb
theorem RdV.mono {α : Type} {enc : α → Value} {w w' : World} {v : Value} {l : List α} (h : RdV enc w v l) (hb : ∀ k, k < w.heap.size → w'.heap[k]? = w.heap[k]?) : RdV enc w' v l := Rd.mono h hb
theorem RdV.alloc {α : Type} {enc : α → Value} {w : World} {v : Value} {l : List α} (h : RdV enc w v l) (o : Obj) : RdV enc (w.alloc o) v l :=
  h.mono fun k hk => Below.heap_alloc w o k hk
theorem RdV.drew {α : Type} {enc : α → Value} {w : World} {v : Value} {l : List α} (h : RdV enc w v l) : RdV enc w.drew v l := h.mono fun _ _ => rfl
theorem RdV.len {α : Type} {enc : α → Value} {w : World} {v : Value} {l : List α} (h : RdV enc w v l) : l.length ≤ 140737488355328 := by
  obtain ⟨A, c, _, _, h, _⟩ := h; exact h
theorem RdV.open {α : Type} {enc : α → Value} {w : World} {v : Value} {l : List α} (h : RdV enc w v l) :
    ∃ A c, v = .slice A l.length c ∧ l.length ≤ c ∧ l.length ≤ 140737488355328 ∧
      (l.length = 0 ∨ ∃ b o, A = some ⟨b, o, none⟩ ∧ ∀ i (hi : i < l.length), w.cell? ⟨b, o + i, none⟩ = some (enc l[i])) := by
  obtain ⟨A, c, rfl, h1, h2, h3, h4⟩ := h
  refine ⟨A, c, rfl, h1, h2, h4.imp id ?_⟩
  rintro ⟨b, o, rfl, h⟩
  exact ⟨b, o, rfl, fun i hi => h i _ (by simp [hi])⟩
theorem RdV.each {α : Type} {enc : α → Value} {w : World} {v : Value} {l : List α} (h : RdV enc w v l) (h0 : 0 < l.length) :
    ∃ b o c, v = .slice (Option.some ⟨b, o, none⟩) l.length c ∧ ∀ i (hi : i < l.length), w.cell? ⟨b, o + i, none⟩ = Option.some (enc l[i]) := by
  obtain ⟨A, c, rfl, _, _, hA⟩ := h.open
  obtain ⟨b, o, rfl, hc⟩ := hA.resolve_left (by omega)
  exact ⟨b, o, c, rfl, hc⟩
theorem RdV.nil {α : Type} (enc : α → Value) (w : World) : RdV enc w (.slice none 0 0) [] := ⟨none, 0, rfl, Nat.le_refl _, by simp, by simp, .inl rfl⟩
theorem RdV.lit {α : Type} (enc : α → Value) (w : World) (e : TypeId) (l : List α) (cs : Array Value) (n c : Nat) (hn : n = l.length) (hc : n ≤ c) (hl : l.length ≤ 140737488355328) (hcs : cs = (l.map enc).toArray) :
    RdV enc (w.alloc (.cells cs e)) (.slice (some ⟨w.heap.size, 0, none⟩) n c) l := by
  subst hcs; subst hn
  refine ⟨_, c, rfl, hc, hl, by simp, .inr ⟨_, _, rfl, fun j u hu => ?_⟩⟩
  simpa using hu
theorem RdV.litg {α : Type} (enc : α → Value) (w : World) (e : TypeId) (l : List α) (cs : Array Value) (g n c : Nat) (hg : g = w.heap.size) (hn : n = l.length) (hc : n ≤ c) (hl : l.length ≤ 140737488355328) (hcs : cs = (l.map enc).toArray) :
    RdV enc (w.alloc (.cells cs e)) (.slice (some ⟨g, 0, none⟩) n c) l := by
  subst hg; exact RdV.lit enc w e l cs n c hn hc hl hcs
theorem Own.litg {α : Type} (enc : α → Value) (w : World) (e : TypeId) (base g : Nat) (hg : g = w.heap.size) (hb : base ≤ w.heap.size) (l : List α) (cs : Array Value) (n : Nat) (hn : n = l.length) (hl : l.length ≤ 140737488355328) (hcs : cs = (l.map enc).toArray) :
    Own enc e (w.alloc (.cells cs e)) base (.slice (some ⟨g, 0, none⟩) n n) l := by
  subst hg; subst hcs; subst hn
  refine ⟨⟨by simp, .inr ⟨_, _, _, rfl, hb, heap_alloc_new w _, Nat.le_refl _, by simp only [maxLen]; omega, by simp, ?_⟩⟩, hl⟩
  exact List.take_of_length_le (by simp)
theorem RdV.cap {α : Type} {enc : α → Value} {w : World} {A : Option Addr} {n c c' : Nat} {l : List α} (h : RdV enc w (.slice A n c) l) (hc : l.length ≤ c') : RdV enc w (.slice A n c') l := by
  obtain ⟨A', c1, he, h1, h2, h3, h4⟩ := h
  injection he with e1 e2 e3
  subst e1; subst e2; subst e3
  exact ⟨_, c', rfl, hc, h2, h3, h4⟩
theorem RdV.none {α : Type} {enc : α → Value} {w : World} {n c : Nat} {l : List α} (h : RdV enc w (.slice none n c) l) : l = [] := by
  obtain ⟨A', c1, he, h1, h2, h3, h4⟩ := h
  injection he with e1 e2 e3
  subst e1
  rcases h4 with h4 | ⟨b, o, h4, _⟩
  · exact List.eq_nil_of_length_eq_zero h4
  · cases h4
theorem RdV.cut {α : Type} {enc : α → Value} {w : World} {A : Option Addr} {n c : Nat} {l : List α} (h : RdV enc w (.slice A n c) l) (i m c' : Nat) (A' : Option Addr)
    (hA : A' = A.map (·.add i) ∨ (m = 0)) (hm : i + m ≤ l.length) (hc : m ≤ c') : RdV enc w (.slice A' m c') ((l.drop i).take m) := by
  obtain ⟨A0, c1, he, h1, h2, h3, h4⟩ := h
  injection he with e1 e2 e3
  subst e1; subst e2; subst e3
  have hlen : ((l.drop i).take m).length = m := by simp; omega
  refine ⟨A', c', by rw [hlen], by omega, by omega, by simp, ?_⟩
  rw [hlen]
  by_cases hm0 : m = 0
  · exact .inl hm0
  · obtain ⟨b, o, rfl, hcell⟩ := h4.resolve_left (by omega)
    obtain rfl := hA.resolve_right hm0
    refine .inr ⟨b, o + i, by simp [addr_add], fun j u hu => ?_⟩
    rw [List.map_take, List.map_drop, List.getElem?_take] at hu
    split at hu
    · rw [List.getElem?_drop] at hu
      have := hcell (i + j) u hu
      rwa [← Nat.add_assoc] at this
    · cases hu
theorem RdV.take {α : Type} {enc : α → Value} {w : World} {A : Option Addr} {n c : Nat} {l : List α} (h : RdV enc w (.slice A n c) l) (m c' : Nat)
    (hm : m ≤ l.length) (hc : m ≤ c') : RdV enc w (.slice A m c') (l.take m) := by
  have := h.cut 0 m c' A (.inl (by cases A <;> rfl)) (by omega) hc
  simpa using this
theorem Own.rd {α : Type} {enc : α → Value} {e : TypeId} {w : World} {base : Nat} {v : Value} {l : List α} (h : Own enc e w base v l) : RdV enc w v l := by
  obtain ⟨h, hl⟩ := h
  have h0 := h
  obtain ⟨h1, h2⟩ := h
  rcases h2 with ⟨rfl, h2⟩ | ⟨g, cap, cur, rfl, hb, hg, hn, hcap, hcs, ht⟩
  · have : l = [] := List.eq_nil_of_length_eq_zero h2
    subst this
    exact RdV.nil enc w
  · refine ⟨_, cap, rfl, hn, hl, by simp, .inr ⟨g, 0, rfl, fun j u hu => ?_⟩⟩
    have hj : j < l.length := by
      rcases Nat.lt_or_ge j l.length with h | h
      · exact h
      · simp [List.getElem?_eq_none (by simpa using h : (l.map enc).length ≤ j)] at hu
    rw [Nat.zero_add]
    exact (h0.cellAt j (by simpa using hj)).trans hu
theorem Own.block {α : Type} {enc : α → Value} {e : TypeId} {w : World} {base : Nat} {v : Value} {l : List α} (h : Own enc e w base v l) (h0 : 0 < l.length) :
    ∃ g cap, v = .slice (Option.some ⟨g, 0, none⟩) l.length cap ∧ base ≤ g ∧ g < w.heap.size := by
  obtain ⟨⟨h1, h2⟩, hl⟩ := h
  rcases h2 with ⟨_, h2⟩ | ⟨g, cap, cur, rfl, hb, hg, _⟩
  · omega
  · exact ⟨g, cap, rfl, hb, (Array.getElem?_eq_some_iff.1 hg).1⟩
theorem Own.nil {α : Type} (enc : α → Value) (e : TypeId) (w : World) (base : Nat) : Own enc e w base (.slice none 0 0) ([] : List α) := ⟨World.ownsRow_nil w base e 1, by simp⟩
theorem Own.lit {α : Type} (enc : α → Value) (w : World) (e : TypeId) (base : Nat) (hb : base ≤ w.heap.size) (l : List α) (cs : Array Value) (n : Nat) (hn : n = l.length) (hl : l.length ≤ 140737488355328) (hcs : cs = (l.map enc).toArray) :
    Own enc e (w.alloc (.cells cs e)) base (.slice (some ⟨w.heap.size, 0, none⟩) n n) l := by
  subst hcs; subst hn
  refine ⟨⟨by simp, .inr ⟨_, _, _, rfl, hb, heap_alloc_new w _, Nat.le_refl _, by simp only [maxLen]; omega, by simp, ?_⟩⟩, hl⟩
  exact List.take_of_length_le (by simp)
theorem Own.mono {α : Type} {enc : α → Value} {e : TypeId} {w w' : World} {base : Nat} {v : Value} {l : List α} (h : Own enc e w base v l)
    (hb : ∀ k, k < w.heap.size → w'.heap[k]? = w.heap[k]?) : Own enc e w' base v l := by
  obtain ⟨⟨h1, h2⟩, hl⟩ := h
  refine ⟨⟨h1, h2.imp id ?_⟩, hl⟩
  rintro ⟨g, cap, cur, rfl, hb', hg, r⟩
  exact ⟨g, cap, cur, rfl, hb', by rw [hb _ (Array.getElem?_eq_some_iff.1 hg).1]; exact hg, r⟩
theorem Own.below {α : Type} {enc : α → Value} {e : TypeId} {w w' : World} {base : Nat} {v : Value} {l : List α} (h : Own enc e w base v l) (hb : Below w.heap.size w w') : Own enc e w' base v l := h.mono hb.block
theorem Own.alloc {α : Type} {enc : α → Value} {e : TypeId} {w : World} {base : Nat} {v : Value} {l : List α} (h : Own enc e w base v l) (o : Obj) : Own enc e (w.alloc o) base v l := h.mono fun k hk => Below.heap_alloc w o k hk
theorem Own.drew {α : Type} {enc : α → Value} {e : TypeId} {w : World} {base : Nat} {v : Value} {l : List α} (h : Own enc e w base v l) : Own enc e w.drew base v l := h.mono fun _ _ => rfl
theorem Own.lower {α : Type} {enc : α → Value} {e : TypeId} {w : World} {base base' : Nat} {v : Value} {l : List α} (h : Own enc e w base v l) (hb : base' ≤ base) : Own enc e w base' v l := by
  obtain ⟨⟨h1, h2⟩, hl⟩ := h
  refine ⟨⟨h1, h2.imp id ?_⟩, hl⟩
  rintro ⟨g, cap, cur, rfl, hb', r⟩
  exact ⟨g, cap, cur, rfl, by omega, r⟩
theorem Own.kept {α : Type} {enc : α → Value} {e : TypeId} {w w' : World} {base : Nat} {v : Value} {l : List α} (h : Own enc e w base v l) {row : Option Nat} (hg : w.grownBy w' row)
    (hne : v.ownBlock = none ∨ v.ownBlock ≠ row) : Own enc e w' base v l := ⟨h.1.kept hg hne, h.2⟩
theorem Own.base {α : Type} {enc : α → Value} {e : TypeId} {w : World} {base : Nat} {v : Value} {l : List α} (h : Own enc e w base v l) : ∀ k, v.ownBlock = some k → base ≤ k ∧ k < w.heap.size := h.1.lt
theorem Own.made {α : Type} {enc : α → Value} (z : α) {e : TypeId} {w : World} {base : Nat} {v : Value} {n : Nat} (h : w.ownsRow base e 1 v n (madeCells #[enc z] n).toList) (hn : n ≤ 140737488355328) :
    Own enc e w base v (List.replicate n z) := by
  rw [toList_madeCells_one] at h
  refine ⟨?_, by simpa using hn⟩
  simpa using h
theorem Own.at {α : Type} {enc : α → Value} {e : TypeId} {w : World} {base g n cap : Nat} {l : List α} (h : Own enc e w base (.slice (some ⟨g, 0, none⟩) n cap) l) (i : Nat) (hi : i < l.length) :
    w.cell? ⟨g, i, none⟩ = some (enc l[i]) ∧ w.frozen? ⟨g, i, none⟩ = false := by
  have h1 := h.1
  have hn : n = l.length := by
    rcases h1.2 with ⟨he, _⟩ | ⟨g', cap', cur, he, _⟩
    · cases he
    · injection he with _ e2 _
  subst hn
  refine ⟨?_, h1.frozenAt i⟩
  rw [h1.cellAt i (by simpa using hi)]
  simp [hi]
theorem Own.set {α : Type} {enc : α → Value} {e : TypeId} {w : World} {base g n cap : Nat} {l : List α} (h : Own enc e w base (.slice (some ⟨g, 0, none⟩) n cap) l) (i : Nat) (x : α) :
    Own enc e (w.setCell ⟨g, i, none⟩ (enc x)) base (.slice (some ⟨g, 0, none⟩) n cap) (l.set i x) ∧ w.grownBy (w.setCell ⟨g, i, none⟩ (enc x)) (some g) := by
  have h1 := h.1
  have hn : n = l.length := by
    rcases h1.2 with ⟨he, _⟩ | ⟨g', cap', cur, he, _⟩
    · cases he
    · injection he with _ e2 _
  subst hn
  have h2 := h1.stored i (enc x)
  refine ⟨⟨?_, by simpa using h.2⟩, h2.2⟩
  rw [List.length_set, List.map_set]
  exact h2.1
section app
variable {P : Program} {ops : Array Oper} {rest : List Oper} {o : Oper} {a : Act} {Q : Exit → Act → World → Prop} {w : World}
theorem wp_app_cells (hgd : o.guard = none) (s x : Operand) (t : TypeId)
    (ho : o.op = .call { callee := .builtin .append, args := #[s, x], argTypes := #[t, t] })
    (e : TypeId) (z : Value) (sz bytes : Nat) (ht : P.underlying t = some (.slice e)) (hinfo : (P.info? e).map (fun i => (i.zero, i.size, i.bytes)) = some (some z, sz, bytes))
    (hzs : z.cells.size = sz) (hsz : 0 < sz) (base : Nat)
    (v : Value) (n : Nat) (xs : List Value) (hs : a.eval s = v) (hown : w.ownsRow base e sz v n xs)
    (y : Value) (m : Nat) (news : List Value) (hx : a.eval x = y) (hy : Rd w sz y m news) (h1 : ∀ u ∈ news, u.oneCell' = true)
    (hb : (n + m) * bytes ≤ 140737488355328) (hm : n + m ≤ 140737488355328) (hbase : base ≤ w.heap.size)
    (h : ∀ v' w', w'.ownsRow base e sz v' (n + m) (xs ++ news) → w.grownBy w' v.ownBlock → wpList P ops Q rest (a.put o.dst v') w') : wpList P ops Q (o :: rest) a w := by
  obtain ⟨i, hi, hz, hsize, hby⟩ := info_parts hinfo
  obtain ⟨A, c, rfl, hmc, hml, hnl, hA⟩ := hy
  by_cases hA0 : ∃ b o, A = some ⟨b, o, none⟩ ∧ ∀ j u, news[j]? = some u → w.cell? ⟨b, o + j, none⟩ = some u
  · obtain ⟨b, ofs, rfl, hcell⟩ := hA0
    exact wpList_append_own w hgd s x t ho base e i z sz bytes ht hi hz hsize hby hzs hsz v n xs hs hown ⟨b, ofs, none⟩ m c news hx (by simpa using hnl)
      (fun j u hu => by rw [addr_add]; exact hcell j u hu) h1 (by simp only [maxLen]; omega) hb hbase (fun v' w' g1 g2 _ => h v' w' g1 g2)
  · have hm0 : m = 0 := hA.resolve_right hA0
    subst hm0
    have hn0 : news = [] := List.eq_nil_of_length_eq_zero (by simpa using hnl)
    subst hn0
    refine wpList_plain hgd fun K hK => ?_
    have q := hK _ _ (h v w (by simpa using hown) ⟨rfl, rfl, rfl, Nat.le_refl _, fun _ _ _ => rfl⟩)
    have hrun : ∀ ty, (Builtin.append_ #[t, t] ty #[v, .slice A 0 c]).run P w = .ok v w := by
      intro ty
      rcases hown.2 with ⟨rfl, rfl⟩ | ⟨g, cap, cur, rfl, _, hg, hn, _, hcs, _⟩
      · cases A <;> simp [Builtin.append_, run_underlying ht, sizeOf, typeInfo, hi, Builtin.lenOf, Builtin.firstCells, loadCells, loadCellsFrom]
      · cases A <;> simp [Builtin.append_, run_underlying ht, sizeOf, typeInfo, hi, Builtin.lenOf, Builtin.firstCells, loadCells, loadCellsFrom, hn, storeCells]
    unfold Oper.wp execOp
    simp only [ho, resolve, invoke, builtin, Sem.run_bind, Sem.run_pure, Result.andThen_ok, List.map_toArray, List.map_cons, List.map_nil, hs, hx, hrun]
    exact q
theorem wp_app {α : Type} {enc : α → Value} (henc : ∀ x, (enc x).oneCell' = true) (hgd : o.guard = none) (s x : Operand) (t : TypeId)
    (ho : o.op = .call { callee := .builtin .append, args := #[s, x], argTypes := #[t, t] })
    (e : TypeId) (z : Value) (bytes : Nat) (ht : P.underlying t = some (.slice e)) (hinfo : (P.info? e).map (fun i => (i.zero, i.size, i.bytes)) = some (some z, 1, bytes))
    (hzs : z.cells.size = 1) (base : Nat)
    (v : Value) (l : List α) (hs : a.eval s = v) (hown : Own enc e w base v l)
    (y : Value) (m : List α) (hx : a.eval x = y) (hy : RdV enc w y m)
    (hb : (l.length + m.length) * bytes ≤ 140737488355328) (hbytes : 0 < bytes) (hbase : base ≤ w.heap.size)
    (h : ∀ v' w', Own enc e w' base v' (l ++ m) → w.grownBy w' v.ownBlock → wpList P ops Q rest (a.put o.dst v') w') : wpList P ops Q (o :: rest) a w := by
  have hm : l.length + m.length ≤ 140737488355328 := Nat.le_trans (Nat.le_mul_of_pos_right _ hbytes) hb
  refine wp_app_cells hgd s x t ho e z 1 bytes ht hinfo hzs (by omega) base v l.length (l.map enc) hs hown.1 y m.length (m.map enc) hx hy ?_ hb hm hbase ?_
  · intro u hu
    obtain ⟨x, _, rfl⟩ := List.mem_map.1 hu
    exact henc x
  · intro v' w' g1 g2
    exact h v' w' ⟨by rw [List.length_append, List.map_append]; exact g1, by rw [List.length_append]; exact hm⟩ g2
theorem step_app {α : Type} {enc : α → Value} {K : Act → World → Prop} {E : Prop} (henc : ∀ x, (enc x).oneCell' = true) (hgd : o.guard = none) (s x : Operand) (t : TypeId)
    (ho : o.op = .call { callee := .builtin .append, args := #[s, x], argTypes := #[t, t] })
    (e : TypeId) (z : Value) (bytes : Nat) (ht : P.underlying t = some (.slice e)) (hinfo : (P.info? e).map (fun i => (i.zero, i.size, i.bytes)) = some (some z, 1, bytes))
    (hzs : z.cells.size = 1) (base : Nat)
    (v : Value) (l : List α) (hs : a.eval s = v) (hown : Own enc e w base v l)
    (y : Value) (m : List α) (hx : a.eval x = y) (hy : RdV enc w y m) (h0 : 0 < m.length)
    (hb : (l.length + m.length) * bytes ≤ 140737488355328) (hbytes : 0 < bytes) (hbase : base ≤ w.heap.size)
    (h : ∀ v' w', Own enc e w' base v' (l ++ m) → w.grownBy w' v.ownBlock → K (a.put o.dst v') w') :
    if Region.wanted o (yielded ops a.tmps) = true then Oper.wp P o a w K Q else E := by
  have hw : Region.wanted o (yielded ops a.tmps) = true := by simp [Region.wanted, hgd]
  rw [if_pos hw]
  have hm : l.length + m.length ≤ 140737488355328 := Nat.le_trans (Nat.le_mul_of_pos_right _ hbytes) hb
  obtain ⟨i, hi, hz, hsize, hby⟩ := info_parts hinfo
  obtain ⟨A, c, rfl, hmc, hml, hnl, hA⟩ := hy
  obtain ⟨b, ofs, rfl, hcell⟩ := hA.resolve_left (by omega)
  obtain ⟨v', w', hr, g1, g2, _⟩ := run_append_own (P := P) w base t o.type e i z 1 bytes ht hi hz hsize hby hzs (by omega) v l.length (l.map enc) hown.1 ⟨b, ofs, none⟩ m.length c (m.map enc) (by simp)
    (fun j u hu => by rw [addr_add]; exact hcell j u hu) (fun u hu => by obtain ⟨x, _, rfl⟩ := List.mem_map.1 hu; exact henc x) (by simp only [maxLen]; omega) hb hbase
  have q := h v' w' ⟨by rw [List.length_append, List.map_append]; exact g1, by rw [List.length_append]; exact hm⟩ g2
  unfold Oper.wp execOp
  simp only [ho, resolve, invoke, builtin, Sem.run_bind, Sem.run_pure, Result.andThen_ok, List.map_toArray, List.map_cons, List.map_nil, hs, hx, hr]
  exact q
end app
end Go.Proofs.Ytcpgmbpndpcmdaa
namespace Go.Proofs.Ytcpgmbpndpcmdaa
open Go.RowKit
def lay {α : Type} (L : List α) (off : Nat) (cs : List α) : List α := L.take off ++ (cs ++ L.drop (off + cs.length))
section
variable {P : Program} {w : World}
variable {ops : Array Oper} {rest : List Oper} {o : Oper} {a : Act} {Q : Exit → Act → World → Prop}
theorem run_str (src dst e : TypeId) (hs : P.underlying src = some (.slice e)) (he : P.underlying e = some (.int .u8)) (hd : P.underlying dst = some .string) {v : Value} {l : List UInt8} (h : RdV encB w v l) :
    (convert src dst v).run P w = .ok (.string ⟨l.toArray⟩) w := by
  obtain ⟨A, c, rfl, _, _, hA⟩ := h.open
  cases A with
  | none =>
    have : l = [] := h.none
    subst this
    rw [run_convert_bytes_string w src dst e none _ c hs he hd]
    simp [Conv.bytesToString]
    rfl
  | some ad =>
    refine run_convert_bytes_back w src dst e ad c l hs he hd fun j hj => ?_
    obtain ⟨b, o, hb, hc⟩ := hA.resolve_left (by omega)
    obtain rfl := Option.some.inj hb
    rw [addr_add, hc j hj]
    rfl
end
end Go.Proofs.Ytcpgmbpndpcmdaa
namespace Go.Proofs.Ytcpgmbpndpcmdaa
open Go Go.RowKit
set_option linter.unusedSimpArgs false
set_option linter.unusedVariables false
abbrev PV : List PanicEntry := [{ v := .iface 138 (.agg #[]), recovered := false }]
structure Rr (w : World) (g : Nat) (l : List UInt8) : Prop where
  ex : ∃ A c, w.cell? ⟨g, 0, none⟩ = some (.slice A l.length c) ∧ RdV encB w (.slice A l.length c) l ∧ ∀ p, A = some p → p.block < g
  fz : w.frozen? ⟨g, 0, none⟩ = false
theorem rdv_set {w : World} {l : List UInt8} {A : Option Addr} {n c g : Nat} {u : Value} (h : RdV encB w (.slice A n c) l) (hg : ∀ p, A = some p → p.block ≠ g) : RdV encB (w.setCell ⟨g, 0, none⟩ u) (.slice A n c) l := by
  obtain ⟨A', c', he, h1, h2, h3, h4⟩ := h
  injection he with e1 e2 e3
  subst e1; subst e2; subst e3
  refine ⟨_, _, rfl, h1, h2, h3, h4.imp id ?_⟩
  rintro ⟨b, o, rfl, hc⟩
  refine ⟨b, o, rfl, fun j u hu => ?_⟩
  rw [World.cell?_of_block (w := w)]
  · exact hc j u hu
  · exact Below.heap_setCell _ _ _ _ (show b ≠ g from hg ⟨b, o, none⟩ rfl)
theorem set_grown {w : World} {g : Nat} {u : Value} : w.grownBy (w.setCell ⟨g, 0, none⟩ u) (some g) := ⟨rfl, rfl, rfl, by simp [World.setCell], fun k _ hk => Below.heap_setCell _ _ _ _ (fun hh => hk (by rw [hh]))⟩
set_option maxHeartbeats 400000 in
theorem take_ok (w : World) (g : Nat) (l : List UInt8) (n : Nat) (h : Rr w g l) (hn : n ≤ l.length) :
    Calls Try.prog 83 #[.pointer (some ⟨g, 0, none⟩), .int .i64 (n : Int)] w fun e w' => ∃ v, e = .returned v ∧ RdV encB w' v (l.take n) ∧ Rr w' g (l.drop n) ∧ w.grownBy w' (some g) := by
  obtain ⟨A, c, hcell, hrd, hne⟩ := h.ex
  have hfz := h.fz
  obtain ⟨A1, c1, he, hc, hm, hcl⟩ := hrd.open
  injection he with e1 e2 e3
  subst e1; subst e3
  clear e2 hcl
  have hh := Lib.hid hrd
  have hnl := Lib.hid hne
  have hnn : Hid (∀ p, A = some p → p.block ≠ g) := Lib.hid fun p hp => Nat.ne_of_lt (hne p hp)
  clear hrd hne h
  go_enter Try.func83, Try.ntmps83
  go_wp2
  · go_ret
    refine ⟨_, rfl, rdv_set (hh.out.take n n hn (Nat.le_refl _)) hnn.out, ⟨⟨A, 0, ?_, ?_, hnl.out⟩, ?_⟩, set_grown⟩
    · rw [List.length_drop]; exact World.cell?_setCell_same _ _ _ hcell
    · rw [List.length_drop]
      have := rdv_set (u := Value.slice A (l.length - n) 0) (hh.out.cut n (l.length - n) 0 A (.inr (by omega)) (by omega) (by omega)) hnn.out
      rwa [List.take_of_length_le (by simp)] at this
    · simpa [go_sem] using hfz
  · go_ret
    have hA : ∀ p, A.map (fun x => x.add n) = some p → p.block < g := by
      intro p hp
      obtain ⟨q, hq, rfl⟩ := Option.map_eq_some_iff.1 hp
      have := hnl.out q hq
      unfold Addr.add
      split <;> simpa using this
    refine ⟨_, rfl, rdv_set (hh.out.take n c hn (by omega)) hnn.out, ⟨⟨A.map (fun x => x.add n), c - n, ?_, ?_, hA⟩, ?_⟩, set_grown⟩
    · rw [List.length_drop]; exact World.cell?_setCell_same _ _ _ hcell
    · rw [List.length_drop]
      have := rdv_set (u := Value.slice (A.map (fun x => x.add n)) (l.length - n) (c - n)) (hh.out.cut n (l.length - n) (c - n) _ (.inl rfl) (by omega) (by omega)) (fun p hp => Nat.ne_of_lt (hA p hp))
      rwa [List.take_of_length_le (by simp)] at this
    · simpa [go_sem] using hfz
theorem take_no (w : World) (g : Nat) (l : List UInt8) (n : Nat) (h : Rr w g l) (hn : l.length < n) :
    Calls Try.prog 83 #[.pointer (some ⟨g, 0, none⟩), .int .i64 (n : Int)] w fun e w' => e = .panicked PV ∧ w' = w := by
  obtain ⟨A, c, hcell, hrd, hne⟩ := h.ex
  clear hrd hne h
  go_enter Try.func83, Try.ntmps83
  go_wp2
  first | exact ⟨rfl, rfl⟩ | simp [bodyPost]
theorem grown_trans {w w1 w2 : World} {r : Option Nat} (h : w.grownBy w1 r) (k : w1.grownBy w2 r) : w.grownBy w2 r := by
  obtain ⟨h1, h2, h3, h4, h5⟩ := h
  obtain ⟨k1, k2, k3, k4, k5⟩ := k
  exact ⟨k1.trans h1, k2.trans h2, k3.trans h3, Nat.le_trans h4 k4, fun i hi hr => (k5 i (Nat.lt_of_lt_of_le hi h4) hr).trans (h5 i hi hr)⟩
theorem grown_same (w : World) (r : Option Nat) : w.grownBy w r := ⟨rfl, rfl, rfl, Nat.le_refl _, fun _ _ _ => rfl⟩
theorem rdv_grown {w w' : World} {l : List UInt8} {A : Option Addr} {n c g : Nat} (h : RdV encB w (.slice A n c) l) (hw : w.grownBy w' (some g)) (hg : ∀ p, A = some p → p.block ≠ g) : RdV encB w' (.slice A n c) l := by
  obtain ⟨A', c', he, h1, h2, h3, h4⟩ := h
  injection he with e1 e2 e3
  subst e1; subst e2; subst e3
  refine ⟨_, _, rfl, h1, h2, h3, h4.imp id ?_⟩
  rintro ⟨b, o, rfl, hc⟩
  refine ⟨b, o, rfl, fun j u hu => ?_⟩
  have := hc j u hu
  rw [World.cell?_of_block (w := w)]
  · exact this
  · obtain ⟨_, _, _, _, h5⟩ := hw
    exact h5 b (World.block_lt_of_cell? _ _ this) (by
      intro e
      exact hg ⟨b, o, none⟩ rfl (by simpa using e))
theorem take_head {c : UInt8} {r : List UInt8} : (c :: r).take 1 = [c] := rfl
set_option maxHeartbeats 400000 in
theorem counted_ok (w : World) (g : Nat) (c : UInt8) (r : List UInt8) (h : Rr w g (c :: r)) (hn : c.toNat ≤ r.length) :
    Calls Try.prog 85 #[.pointer (some ⟨g, 0, none⟩)] w fun e w' => ∃ v, e = .returned v ∧ RdV encB w' v (r.take c.toNat) ∧ Rr w' g (r.drop c.toNat) ∧ w.grownBy w' (some g) := by
  have hh := Lib.hid h
  clear h
  have hn2 := c.toNat_lt
  generalize hcn : c.toNat = n at hn hn2 ⊢
  have hcn := Lib.hid hcn
  go_enter Try.func85, Try.ntmps85
  go_wp2_with fail
  refine (take_ok w g (c :: r) 1 hh.out (by simp)).mono ?_
  rintro e w1 ⟨v1, rfl, h1, h2, h3⟩
  rw [take_head] at h1
  obtain ⟨b, o, c1, rfl, hc⟩ := h1.each (by simp)
  have k1 := hc 0 (by simp)
  simp only [encB, List.getElem_cons_zero, Nat.add_zero, hcn.out] at k1
  have hh2 := Lib.hid h2
  have hh3 := Lib.hid h3
  clear hc h1 h2 h3
  go_wp2_with fail
  refine (take_ok w1 g r n hh2.out hn).mono ?_
  rintro e w2 ⟨v2, rfl, h4, h5, h6⟩
  go_wp2
  go_ret
  exact ⟨_, rfl, h4, h5, grown_trans hh3.out h6⟩
theorem counted_no0 (w : World) (g : Nat) (h : Rr w g []) :
    Calls Try.prog 85 #[.pointer (some ⟨g, 0, none⟩)] w fun e w' => e = .panicked PV ∧ w.grownBy w' (some g) := by
  have hh := Lib.hid h
  clear h
  go_enter Try.func85, Try.ntmps85
  go_wp2_with fail
  refine (take_no w g [] 1 hh.out (by simp)).mono ?_
  rintro e w1 ⟨rfl, rfl⟩
  exact ⟨rfl, rfl, grown_same _ _⟩
set_option maxHeartbeats 400000 in
theorem counted_no1 (w : World) (g : Nat) (c : UInt8) (r : List UInt8) (h : Rr w g (c :: r)) (hn : r.length < c.toNat) :
    Calls Try.prog 85 #[.pointer (some ⟨g, 0, none⟩)] w fun e w' => e = .panicked PV ∧ w.grownBy w' (some g) := by
  have hh := Lib.hid h
  clear h
  have hn2 := c.toNat_lt
  generalize hcn : c.toNat = n at hn hn2 ⊢
  have hcn := Lib.hid hcn
  go_enter Try.func85, Try.ntmps85
  go_wp2_with fail
  refine (take_ok w g (c :: r) 1 hh.out (by simp)).mono ?_
  rintro e w1 ⟨v1, rfl, h1, h2, h3⟩
  rw [take_head] at h1
  obtain ⟨b, o, c1, rfl, hc⟩ := h1.each (by simp)
  have k1 := hc 0 (by simp)
  simp only [encB, List.getElem_cons_zero, Nat.add_zero, hcn.out] at k1
  have hh2 := Lib.hid h2
  have hh3 := Lib.hid h3
  clear hc h1 h2 h3
  go_wp2_with fail
  refine (take_no w1 g r n hh2.out hn).mono ?_
  rintro e w2 ⟨rfl, rfl⟩
  exact ⟨rfl, rfl, hh3.out⟩
theorem data_same_w (x y : List UInt8) : ((⟨x.toArray⟩ : ByteArray).toList == (⟨y.toArray⟩ : ByteArray).toList) = decide (x = y) := by
  rw [Bool.eq_iff_iff]
  simp [ByteArray.toList_eq]
set_option maxHeartbeats 400000 in
theorem bytes_Equal_w (v1 v2 : Value) (l1 l2 : List UInt8) (w : World) (h1 : RdV encB w v1 l1) (h2 : RdV encB w v2 l2) :
    Calls Try.prog 88 #[v1, v2] w fun e w' => e = .returned (.bool (decide (l1 = l2))) ∧ w = w' := by
  have k1 := run_str (P := Try.prog) 39 9 5 Try.underlying39 Try.underlying5 Try.underlying9 h1
  have k2 := run_str (P := Try.prog) 39 9 5 Try.underlying39 Try.underlying5 Try.underlying9 h2
  have k3 := data_same_w l1 l2
  have k4 : (l1 == l2) = decide (l1 = l2) := by rw [Bool.eq_iff_iff]; simp
  go_enter Try.func88, Try.ntmps88
  go_wp2
  go_ret
  exact ⟨rfl, rfl⟩
set_option maxHeartbeats 400000 in
theorem want_ok (w : World) (g : Nat) (l l' : List UInt8) (A : Option Addr) (c : Nat) (h : Rr w g l) (hv : RdV encB w (.slice A l'.length c) l') (hg : ∀ p, A = some p → p.block ≠ g) (hl : l'.length ≤ l.length) (he : l.take l'.length = l') :
    Calls Try.prog 87 #[.pointer (some ⟨g, 0, none⟩), .slice A l'.length c] w fun e w' => e = .returned (.tuple #[]) ∧ Rr w' g (l.drop l'.length) ∧ w.grownBy w' (some g) := by
  have hh := Lib.hid h
  have hv := Lib.hid hv
  have hg := Lib.hid hg
  have he := Lib.hid he
  clear h
  go_enter Try.func87, Try.ntmps87
  go_wp2_with fail
  refine (take_ok w g l l'.length hh.out hl).mono ?_
  rintro e w1 ⟨v1, rfl, h1, h2, h3⟩
  have hh1 := Lib.hid h1
  have hh2 := Lib.hid h2
  have hh3 := Lib.hid h3
  clear h1 h2 h3
  go_wp2_with fail
  refine (bytes_Equal_w _ _ _ l' _ hh1.out (rdv_grown hv.out hh3.out hg.out)).mono ?_
  rintro e w2 ⟨rfl, rfl⟩
  rw [he.out, decide_eq_true rfl]
  go_wp2
  go_end0
  exact ⟨rfl, hh2.out, hh3.out⟩
theorem want_no0 (w : World) (g : Nat) (l l' : List UInt8) (A : Option Addr) (c : Nat) (h : Rr w g l) (hl : l.length < l'.length) :
    Calls Try.prog 87 #[.pointer (some ⟨g, 0, none⟩), .slice A l'.length c] w fun e w' => e = .panicked PV ∧ w.grownBy w' (some g) := by
  have hh := Lib.hid h
  clear h
  go_enter Try.func87, Try.ntmps87
  go_wp2_with fail
  refine (take_no w g l l'.length hh.out hl).mono ?_
  rintro e w1 ⟨rfl, rfl⟩
  exact ⟨rfl, rfl, grown_same _ _⟩
set_option maxHeartbeats 400000 in
theorem want_no1 (w : World) (g : Nat) (l l' : List UInt8) (A : Option Addr) (c : Nat) (h : Rr w g l) (hv : RdV encB w (.slice A l'.length c) l') (hg : ∀ p, A = some p → p.block ≠ g) (hl : l'.length ≤ l.length) (he : l.take l'.length ≠ l') :
    Calls Try.prog 87 #[.pointer (some ⟨g, 0, none⟩), .slice A l'.length c] w fun e w' => e = .panicked PV ∧ w.grownBy w' (some g) := by
  have hh := Lib.hid h
  have hv := Lib.hid hv
  have hg := Lib.hid hg
  have he := Lib.hid he
  clear h
  go_enter Try.func87, Try.ntmps87
  go_wp2_with fail
  refine (take_ok w g l l'.length hh.out hl).mono ?_
  rintro e w1 ⟨v1, rfl, h1, h2, h3⟩
  have hh1 := Lib.hid h1
  have hh3 := Lib.hid h3
  clear h1 h2 h3
  go_wp2_with fail
  refine (bytes_Equal_w _ _ _ l' _ hh1.out (rdv_grown hv.out hh3.out hg.out)).mono ?_
  rintro e w2 ⟨rfl, rfl⟩
  rw [decide_eq_false he.out]
  go_wp2
  exact ⟨rfl, rfl, hh3.out⟩
end Go.Proofs.Ytcpgmbpndpcmdaa
namespace Go.Proofs.Ytcpgmbpndpcmdaa
open Go Go.RowKit
set_option linter.unusedSimpArgs false
set_option linter.unusedVariables false
def encS (s : ByteArray) : Value := .string s
theorem encS_one (x : ByteArray) : (encS x).oneCell' = true := rfl
theorem infoS : (Try.prog.info? 9).map (fun i => (i.zero, i.size, i.bytes)) = some (some (.string ⟨#[]⟩), 1, 16) := by kernel_rfl
def cntS : List UInt8 → Option (List UInt8 × List UInt8)
  | [] => none
  | c :: r => if c.toNat ≤ r.length then some (r.take c.toNat, r.drop c.toNat) else none
def txS (addr : Int) : Nat → Nat → List UInt8 → Option (List ByteArray × List UInt8)
  | _, 0, l => some ([], l)
  | _, _ + 1, [] => none
  | i, m + 1, c :: r => if c = lowB ((addr + i) % 256) then (cntS r).bind fun p => (txS addr (i + 1) m p.2).map fun q => (⟨p.1.toArray⟩ :: q.1, q.2) else none
def headS (cnt : Int) : List UInt8 := [14, lowB (cnt % 256), 1, 0, 0]
def textsS (addr cnt : Int) (l : List UInt8) : Option (List ByteArray × List UInt8) :=
  if l.take 5 = headS cnt then (match l.drop 5 with
    | [] => none
    | c :: r => txS addr 0 c.toNat r) else none
theorem counted_c (w : World) (g : Nat) (l : List UInt8) (h : Rr w g l) :
    Calls Try.prog 85 #[.pointer (some ⟨g, 0, none⟩)] w fun e w' => w.grownBy w' (some g) ∧ match cntS l with | some p => ∃ v, e = .returned v ∧ RdV encB w' v p.1 ∧ Rr w' g p.2 | none => e = .panicked PV := by
  cases l with
  | nil => exact (counted_no0 w g h).mono fun e w' ⟨h1, h2⟩ => ⟨h2, h1⟩
  | cons c r =>
    by_cases hc : c.toNat ≤ r.length
    · simp only [cntS, if_pos hc]
      exact (counted_ok w g c r h hc).mono fun e w' ⟨v, h1, h2, h3, h4⟩ => ⟨h4, v, h1, h2, h3⟩
    · simp only [cntS, if_neg hc]
      exact (counted_no1 w g c r h (by omega)).mono fun e w' ⟨h1, h2⟩ => ⟨h2, h1⟩
theorem want_c (w : World) (g : Nat) (l l' : List UInt8) (A : Option Addr) (n c : Nat) (hn : n = l'.length) (h : Rr w g l) (hv : RdV encB w (.slice A n c) l') (hg : ∀ p, A = some p → p.block ≠ g) :
    Calls Try.prog 87 #[.pointer (some ⟨g, 0, none⟩), .slice A n c] w fun e w' => w.grownBy w' (some g) ∧ if l.take l'.length = l' then e = .returned (.tuple #[]) ∧ Rr w' g (l.drop l'.length) else e = .panicked PV := by
  subst hn
  by_cases hl : l'.length ≤ l.length
  · by_cases he : l.take l'.length = l'
    · simp only [if_pos he]
      exact (want_ok w g l l' A c h hv hg hl he).mono fun e w' ⟨h1, h2, h3⟩ => ⟨h3, h1, h2⟩
    · simp only [if_neg he]
      exact (want_no1 w g l l' A c h hv hg hl he).mono fun e w' ⟨h1, h2⟩ => ⟨h2, h1⟩
  · have he : ¬ l.take l'.length = l' := by
      intro e
      have := congrArg List.length e
      rw [List.length_take] at this
      omega
    simp only [if_neg he]
    exact (want_no0 w g l l' A c h (by omega)).mono fun e w' ⟨h1, h2⟩ => ⟨h2, h1⟩
theorem Rr.alloc {w : World} {g : Nat} {l : List UInt8} (h : Rr w g l) (o : Obj) : Rr (w.alloc o) g l := by
  obtain ⟨⟨A, c, h1, h2, h3⟩, h4⟩ := h
  have hlt := World.block_lt_of_cell? _ _ h1
  refine ⟨⟨A, c, ?_, h2.alloc o, h3⟩, ?_⟩
  · rw [World.cell?_of_block (w := w)]
    · exact h1
    · exact Below.heap_alloc w o g hlt
  · rw [← h4]
    unfold World.frozen?
    rw [Below.heap_alloc w o g hlt]
theorem Rr.row {w w' : World} {g : Nat} {l : List UInt8} {row : Option Nat} (h : Rr w g l) (hw : w.grownBy w' row) (hrow : ∀ j, row = some j → g < j) : Rr w' g l := by
  obtain ⟨⟨A, c, h1, h2, h3⟩, h4⟩ := h
  obtain ⟨_, _, _, _, h5⟩ := hw
  have hlt := World.block_lt_of_cell? _ _ h1
  have hb : ∀ b, b ≤ g → w'.heap[b]? = w.heap[b]? := fun b hb => h5 b (Nat.lt_of_le_of_lt hb hlt) fun e => by have := hrow b e.symm; omega
  refine ⟨⟨A, c, ?_, ?_, h3⟩, ?_⟩
  · rw [World.cell?_of_block (w := w)]
    · exact h1
    · exact hb g (Nat.le_refl _)
  · obtain ⟨A', c', he, k1, k2, k3, k4⟩ := h2
    injection he with e1 e2 e3
    subst e1; subst e3
    refine ⟨_, _, rfl, k1, k2, k3, k4.imp id ?_⟩
    rintro ⟨b, o, rfl, hc⟩
    refine ⟨b, o, rfl, fun j u hu => ?_⟩
    rw [World.cell?_of_block (w := w)]
    · exact hc j u hu
    · exact hb b (Nat.le_of_lt (h3 ⟨b, o, none⟩ rfl))
  · rw [← h4]
    unfold World.frozen?
    rw [hb g (Nat.le_refl _)]
theorem grown_row {w w1 w2 : World} {r row : Option Nat} (h : w.grownBy w1 r) (k : w1.grownBy w2 row) (hr : ∀ j, row = some j → w.heap.size ≤ j) : w.grownBy w2 r := by
  obtain ⟨h1, h2, h3, h4, h5⟩ := h
  obtain ⟨k1, k2, k3, k4, k5⟩ := k
  refine ⟨k1.trans h1, k2.trans h2, k3.trans h3, Nat.le_trans h4 k4, fun i hi hne => (k5 i (Nat.lt_of_lt_of_le hi h4) fun e => ?_).trans (h5 i hi hne)⟩
  have := hr i e.symm
  omega
theorem grown_alloc {w w1 : World} {r : Option Nat} (h : w.grownBy w1 r) (o : Obj) : w.grownBy (w1.alloc o) r := by
  obtain ⟨h1, h2, h3, h4, h5⟩ := h
  exact ⟨h1, h2, h3, Nat.le_trans h4 (by simp), fun i hi hr => (Below.heap_alloc w1 o i (Nat.lt_of_lt_of_le hi h4)).trans (h5 i hi hr)⟩
theorem txS_step (addr : Int) (n k : Nat) (hk : k < n) (c : UInt8) (rest r2 : List UInt8) (r : List UInt8) (acc : List ByteArray) (p : List UInt8 × List UInt8) (hc : rest = c :: r2) (he : c = lowB ((addr + k) % 256)) (hp : cntS r2 = some p)
    (h : txS addr 0 n r = (txS addr k (n - k) rest).map fun q => (acc ++ q.1, q.2)) : txS addr 0 n r = (txS addr (k + 1) (n - (k + 1)) p.2).map fun q => ((acc ++ [⟨p.1.toArray⟩]) ++ q.1, q.2) := by
  rw [h, hc, show n - k = (n - (k + 1)) + 1 by omega]
  simp only [txS, if_pos he, hp, Option.bind_some, Option.map_map]
  congr 1
  funext q
  simp
theorem txS_none (addr : Int) (n k : Nat) (hk : k < n) (rest r : List UInt8) (acc : List ByteArray) (hc : ∀ c r2, rest = c :: r2 → c = lowB ((addr + k) % 256) → cntS r2 = none)
    (h : txS addr 0 n r = (txS addr k (n - k) rest).map fun q => (acc ++ q.1, q.2)) : txS addr 0 n r = none := by
  rw [h, show n - k = (n - (k + 1)) + 1 by omega]
  cases rest with
  | nil => rfl
  | cons c r2 =>
    simp only [txS]
    by_cases he : c = lowB ((addr + k) % 256)
    · rw [if_pos he, hc c r2 rfl he]
      rfl
    · rw [if_neg he]
      rfl
set_option maxRecDepth 100000 in
set_option maxHeartbeats 3200000 in
theorem texts_c (w : World) (g : Nat) (l : List UInt8) (code addr cnt to_ x y : Int) (vw vb : Value) (h : Rr w g l) (ha : 0 ≤ addr ∧ addr ≤ 65535) (hc : 0 ≤ cnt ∧ cnt ≤ 65535) :
    Calls Try.prog 86 #[.pointer (some ⟨g, 0, none⟩), .agg #[.int .i64 code, .int .i64 addr, .int .i64 cnt, .int .i64 to_, vw, vb, .int .u16 x, .int .u16 y]] w fun e w' =>
      w.grownBy w' (some g) ∧ match textsS addr cnt l with | some p => ∃ v, e = .returned v ∧ Own encS 9 w' w.heap.size v p.1 ∧ Rr w' g p.2 | none => e = .panicked PV := by
  have hgl : g < w.heap.size := by
    obtain ⟨⟨A, c, h1, h2, h3⟩, h4⟩ := h
    exact World.block_lt_of_cell? _ _ h1
  have hh := Lib.hid h
  have q8 : IntKind.u8.wrap cnt = cnt % 256 := rfl
  obtain ⟨spec, hspec⟩ : ∃ s, Hid (s = textsS addr cnt l) := ⟨_, Lib.hid rfl⟩
  rw [← hspec.out]
  clear h
  go_enter Try.func86, Try.ntmps86
  go_wp2_with fail
  refine (want_c _ g l (headS cnt) _ 5 5 rfl ((hh.out.alloc _).alloc _) ?_ ?_).mono ?_
  · refine RdV.litg encB (w.alloc _) 5 _ _ _ 5 5 (by simp) rfl (Nat.le_refl _) (by simp [headS]) ?_
    simp only [headS, List.map_cons, List.map_nil]
    rw [← encB_low (cnt % 256) (by omega) (by omega)]
    rfl
  · rintro p hp
    obtain rfl := Option.some.inj hp
    simp
    omega
  rintro e w1 ⟨hG, hif⟩
  have hl5 : (headS cnt).length = 5 := rfl
  rw [hl5] at hif
  have hG1 : w.grownBy w1 (some g) := grown_trans (grown_alloc (grown_alloc (grown_same w _) _) _) hG
  by_cases hd : l.take 5 = headS cnt
  · rw [if_pos hd] at hif
    obtain ⟨rfl, hR1⟩ := hif
    have c1 : w1.cell? ⟨w.heap.size, 1, none⟩ = some (.int .i64 addr) := hG.cell (cellT (belowA (Below.refl _ (w.alloc _)) _) (cell_made 1 _ rfl)) (by simp; omega)
    have hs1 : spec = match l.drop 5 with | [] => none | c :: r => txS addr 0 c.toNat r := by rw [hspec.out]; unfold textsS; rw [if_pos hd]
    have hG1 := Lib.hid hG1
    clear hd hG
    cases hdr : l.drop 5 with
    | nil =>
      rw [hdr] at hR1 hs1
      have hs2 := Lib.hid hs1
      have hR1 := Lib.hid hR1
      clear hs1
      go_wp2_with fail
      refine (take_no w1 g [] 1 hR1.out (by simp)).mono ?_
      rintro e w2 ⟨rfl, rfl⟩
      exact ⟨rfl, hG1.out, by rw [hs2.out]⟩
    | cons c r =>
      rw [hdr] at hR1 hs1
      have hs2 := Lib.hid hs1
      have hR1 := Lib.hid hR1
      clear hs1
      go_wp2_with fail
      refine (take_ok w1 g (c :: r) 1 hR1.out (by simp)).mono ?_
      rintro e w2 ⟨v2, rfl, h1, h2, h3⟩
      rw [take_head] at h1
      obtain ⟨b, o, c2, rfl, hcl⟩ := h1.each (by simp)
      have k1 := hcl 0 (by simp)
      simp only [encB, List.getElem_cons_zero, Nat.add_zero] at k1
      have hn2 := c.toNat_lt
      generalize c.toNat = n at k1 hn2 hs2
      have c1 := h3.cell c1 (by simp; omega)
      have hG2 := Lib.hid (grown_trans hG1.out h3)
      have hR2 : Rr w2 g r := h2
      clear hcl h1 h2 h3 hG1 hR1
      go_wp2
      go_loopw [5, 18] (fun xv iv wr => ∃ (k : Nat) (acc : List ByteArray) (rest : List UInt8), k ≤ n ∧ iv = .int .i64 k ∧ Own encS 9 wr (w.heap.size + 1) xv acc ∧ acc.length = k ∧ Rr wr g rest ∧ w.grownBy wr (some g) ∧ wr.cell? ⟨w.heap.size, 1, none⟩ = some (.int .i64 addr) ∧ Hid (txS addr 0 n r = (txS addr k (n - k) rest).map fun q => (acc ++ q.1, q.2))) (fun _ iv _ => n - (intOf iv).toNat)
      case atStart => exact ⟨0, [], r, Nat.zero_le _, rfl, Own.nil _ _ _ _, rfl, hR2, hG2.out, c1, Lib.hid (by simp)⟩
      case round =>
        clear c1 hR2 hG2 k1
        obtain ⟨k, acc, rest, hk, rfl, ho, hal, hR, hGr, cr, hx⟩ := hrel
        have ho := Lib.hid ho
        have hR := Lib.hid hR
        have hGr := Lib.hid hGr
        have hal := Lib.hid hal
        by_cases hlt : k < n
        · have q9 : IntKind.u8.wrap (addr + (k : Int)) = (addr + (k : Int)) % 256 := rfl
          go_wp2_with fail
          refine (want_c _ g rest [lowB ((addr + (k : Int)) % 256)] _ 1 1 rfl (hR.out.alloc _) ?_ ?_).mono ?_
          · refine RdV.litg encB wr 5 _ _ _ 1 1 rfl rfl (Nat.le_refl _) (by simp) ?_
            simp only [List.map_cons, List.map_nil]
            rw [← encB_low ((addr + (k : Int)) % 256) (by omega) (by omega)]
          · rintro p hp
            obtain rfl := Option.some.inj hp
            have := hGr.out
            obtain ⟨_, _, _, h4, _⟩ := this
            show wr.heap.size ≠ g
            omega
          rintro e w3 ⟨hG3, hif⟩
          have hG4 : w.grownBy w3 (some g) := grown_trans (grown_alloc hGr.out _) hG3
          have hl1 : [lowB ((addr + (k : Int)) % 256)].length = 1 := rfl
          rw [hl1] at hif
          by_cases hd : rest.take 1 = [lowB ((addr + (k : Int)) % 256)]
          · rw [if_pos hd] at hif
            obtain ⟨rfl, hR3⟩ := hif
            obtain ⟨r2, hr2⟩ : ∃ r2, rest = lowB ((addr + (k : Int)) % 256) :: r2 := by
              cases rest with
              | nil => simp at hd
              | cons a r2 => exact ⟨r2, by simpa using hd⟩
            have hR3n : Rr w3 g r2 := by rw [hr2] at hR3; exact hR3
            clear hR3
            have hr2 := Lib.hid hr2
            have hR3 := Lib.hid hR3n
            clear hR3n
            have hG4 := Lib.hid hG4
            have hG3 := Lib.hid hG3
            have cr3 := hG3.out.cell (cellT (belowA (Below.refl _ wr) _) cr) (by simp; omega)
            have ho3 : Own encS 9 w3 (w.heap.size + 1) u5 acc := by
              refine Own.kept (ho.out.alloc _) hG3.out ?_
              rcases hb : u5.ownBlock with _ | j
              · exact .inl rfl
              · refine .inr fun e => ?_
                have := (ho.out.base j hb).1
                have := Option.some.inj e
                omega
            have ho3 := Lib.hid ho3
            clear hd cr hG3
            go_wp2_with fail
            refine (counted_c _ g r2 hR3.out).mono ?_
            rintro e w4 ⟨hG5, hm⟩
            have hG6 : w.grownBy w4 (some g) := grown_trans hG4.out hG5
            cases hp : cntS r2 with
            | none =>
              rw [hp] at hm
              simp only at hm
              subst hm
              have e : spec = none := by
                rw [hs2.out]
                refine txS_none addr n k hlt rest r acc (fun c r3 h1 h2 => ?_) hx.out
                rw [hr2.out] at h1
                injection h1 with _ h1
                rw [← h1]
                exact hp
              exact ⟨rfl, hG6, by rw [e]⟩
            | some q =>
              rw [hp] at hm
              obtain ⟨v4, rfl, hr4, hR4⟩ := hm
              have kst := run_str (P := Try.prog) 39 9 5 Try.underlying39 Try.underlying5 Try.underlying9 hr4
              have cr4 := hG5.cell cr3 (by simp; omega)
              have ho4 : Own encS 9 w4 (w.heap.size + 1) u5 acc := by
                refine Own.kept ho3.out hG5 ?_
                rcases hb : u5.ownBlock with _ | j
                · exact .inl rfl
                · refine .inr fun e => ?_
                  have := (ho3.out.base j hb).1
                  have := Option.some.inj e
                  omega
              have ho4 := Lib.hid ho4
              have hG6 := Lib.hid hG6
              have hR4 := Lib.hid hR4
              have hp := Lib.hid hp
              clear hG5 cr3 ho3
              have hsz : w.heap.size ≤ w4.heap.size := by
                obtain ⟨_, _, _, h4, _⟩ := hG6.out
                exact h4
              have cr5 := cellT (belowA (Below.refl _ w4) (.cells #[.string ⟨q.1.toArray⟩] 9)) cr4
              clear cr4
              go_wp2_with (at_builtin; refine wp_app (enc := encS) (l := acc) (m := [⟨q.1.toArray⟩]) encS_one rfl (.tmp 29) (.tmp 33) _ rfl _ _ _ Try.underlying46 infoS rfl (w.heap.size + 1) _ rfl ?a1 _ rfl ?a2 ?a3 (by omega) ?a4 ?a5)
              case a1 => exact ho4.out.alloc _
              case a2 => exact RdV.lit encS _ _ [⟨q.1.toArray⟩] _ _ _ rfl (Nat.le_refl _) (by simp) rfl
              case a3 => rw [hal.out]; simp; omega
              case a4 => simp; omega
              case a5 =>
                intro v5 w5 ho5 hg5
                have hrow1 : ∀ j, u5.ownBlock = some j → w.heap.size + 1 ≤ j := fun j hj => (ho4.out.base j hj).1
                have hrow : ∀ j, u5.ownBlock = some j → w.heap.size ≤ j := fun j hj => Nat.le_of_succ_le (hrow1 j hj)
                have cr6 := hg5.cell cr5 (by
                  intro e
                  have := hrow1 _ e.symm
                  have h2 : w.heap.size + 1 ≤ w.heap.size := this
                  omega)
                have hR5 := Rr.row (hR4.out.alloc _) hg5 (fun j hj => Nat.lt_of_lt_of_le hgl (hrow j hj))
                have hG7 := grown_row (grown_alloc hG6.out _) hg5 hrow
                have hx2 := txS_step addr n k hlt _ rest r2 r acc q hr2.out rfl hp.out hx.out
                have hal2 : (acc ++ [(⟨q.1.toArray⟩ : ByteArray)]).length = k + 1 := by simp [hal.out]
                have hx2 := Lib.hid hx2
                clear cr5 hg5 hrow hrow1
                go_wp2
                go_roundw
                case rel => exact ⟨k + 1, _, q.2, by omega, by go_num, ho5, hal2, hR5, hG7, cr6, hx2⟩
                case measure => simp [intOf]; omega
          · rw [if_neg hd] at hif
            subst hif
            have e : spec = none := by
              rw [hs2.out]
              refine txS_none addr n k hlt rest r acc (fun c r2 h1 h2 => absurd ?_ hd) hx.out
              rw [h1, h2]
              rfl
            exact ⟨rfl, hG4, by rw [e]⟩
        · obtain rfl : k = n := by omega
          have e : spec = some (acc, rest) := by rw [hs2.out, hx.out, Nat.sub_self]; simp [txS]
          clear hs2 hspec
          subst e
          go_wp2
          go_ret
          exact ⟨hGr.out, _, rfl, ho.out.lower (by omega), hR.out⟩
  · rw [if_neg hd] at hif
    subst hif
    have hs1 : spec = none := by rw [hspec.out]; unfold textsS; rw [if_neg hd]
    exact ⟨rfl, hG1, by rw [hs1]⟩
end Go.Proofs.Ytcpgmbpndpcmdaa
namespace Go.Proofs.Ytcpgmbpndpcmdaa
open Go
inductive Tag where
  | sh | ti | own (k : Nat)
  deriving Inhabited, DecidableEq
inductive DV where
  | any
  | flat (v : Value)
  | agg (cs : List DV)
  | tup (cs : List DV)
  | list (sz : Nat) (xs : List DV) (t : Tag)
  | ptr (k off : Nat)
  | row (ag : Bool) (sz k off n c : Nat)
  | elem (x : DV) (off : Nat)
  | clo (fn : Fn) (first cap : List DV)
  | iface (t : TypeId) (d : DV)
  deriving Inhabited
inductive DBlk where
  | hole
  | cells (e : TypeId) (cs : List DV)
  | token (e : TypeId) (sz n : Nat)
  deriving Inhabited
abbrev Heap := List DBlk
abbrev R := Option (DV × Heap)
inductive Eff where
  | q | rd | ro | al (k : Nat) (b : DBlk) | ch (H : Heap) | tk (H : Heap)
def Eff.heap : Eff → Heap → Heap
  | .ch H, _ => H
  | .tk H, _ => H
  | .al k b, H => H.set k b
  | _, H => H
def Eff.cls : Eff → Nat
  | .q => 0 | .rd => 1 | .ch _ => 2 | .al .. => 3 | .ro => 4 | .tk _ => 5
def Eff.wr (e : Eff) : Prop := e.cls = 2 ∨ e.cls = 5
def Eff.abs : Eff → Option Heap
  | .ch H => some H
  | .tk H => some H
  | _ => none
abbrev EO := Option (DV × Eff)
def qv (x : Option DV) : EO := x.map fun d => (d, .q)
def rv (x : Option DV) : EO := x.map fun d => (d, .rd)
def ov (x : Option DV) : EO := x.map fun d => (d, .ro)
def isOne : Value → Bool
  | .agg _ | .tuple _ => false
  | _ => true
def DV.leaf : DV → Bool
  | .flat v => isOne v
  | .list .. | .ptr .. | .row .. | .elem .. | .clo .. | .iface .. => true
  | _ => false
def DV.cells : DV → List DV
  | .agg cs => cs
  | d => [d]
def mkl (sz : Nat) (xs : List DV) (t : Tag) : DV := match xs with | [] => .list 0 [] t | _ => .list sz xs t
def leafOf : Value → DV
  | .slice none 0 0 => .list 0 [] .ti
  | v => .flat v
def ofVal1 : Value → DV
  | .agg cs => .agg (cs.toList.map leafOf)
  | v => leafOf v
def ofVal : Value → DV
  | .tuple cs => if cs.size = 0 then .flat (.tuple cs) else .tup (cs.toList.map ofVal1)
  | v => ofVal1 v
def flatV : DV → Option Value
  | .flat v => some v
  | _ => none
def mapO {α β : Type} (f : α → Option β) : List α → Option (List β)
  | [] => some []
  | x :: l => match f x with
    | some y => match mapO f l with
      | some r => some (y :: r)
      | none => none
    | none => none
def toVal : DV → Option Value
  | .flat v => some v
  | .agg cs => (mapO flatV cs).map fun vs => .agg vs.toArray
  | _ => none
def pureRun {α : Type} (P : Program) : Sem α → Option α
  | .pure a => some a
  | .program k => pureRun P (k P)
  | .mark _ k => pureRun P k
  | _ => none
def pureV (P : Program) (s : Sem Value) : Option DV := (pureRun P s).map ofVal
def evalD (slots : List DV) : Operand → DV
  | .tmp t => slots.getD t .any
  | .const v => ofVal v
  | .global g => .flat (.pointer (some ⟨g, 0, none⟩))
  | .func f => .flat (.func (.func f) #[] #[])
def aggSz (P : Program) (t : TypeId) : Option (Bool × Nat) :=
  match P.underlying t, P.info? t with
  | some d, some i => some (match d with | .struct _ | .array _ _ => true | _ => false, i.size)
  | _, _ => none
def zeroD (P : Program) (t : TypeId) : Option DV := ((P.info? t).bind (·.zero)).map ofVal1
def partD (ag : Bool) (sz off : Nat) (cs : List DV) : Option DV :=
  if ag then (if off + sz ≤ cs.length then some (.agg ((cs.drop off).take sz)) else none) else cs[off]?
def splice (off : Nat) (new old : List DV) : List DV := old.take off ++ new ++ old.drop (off + new.length)
def fillD (place : Nat → Option (Nat × Nat)) (cells : List DV) : List (Nat × DV) → Option (List DV)
  | [] => some cells
  | (i, d) :: rest => match place i with
    | none => none
    | some (off, size) => if d.cells.length ≠ size ∨ off + d.cells.length > cells.length ∨ d.cells.all DV.leaf = false then none else fillD place (splice off d.cells cells) rest
def placesD (P : Program) (fs : List Field) : Option (List (Nat × Nat)) := mapO (fun f => (P.info? f.type).map fun i => (f.offset, i.size)) fs
def buildS (zero : DV) (pl : List (Nat × Nat)) (parts : List (Nat × DV)) : Option DV := (fillD (pl[·]?) zero.cells parts).map .agg
def buildA (zero : DV) (size : Nat) (parts : List (Nat × DV)) : Option DV := (fillD (fun i => some (i * size, size)) zero.cells parts).map .agg
def chunk (ag : Bool) (sz : Nat) : Nat → List DV → List DV
  | 0, _ => []
  | n + 1, cs => (if ag then DV.agg (cs.take sz) else cs.headD .any) :: chunk ag sz n (cs.drop sz)
def chunkOk (ag : Bool) (sz n : Nat) : Bool := decide (0 < sz) && (ag || sz == 1) && decide (n ≤ 140737488355328)
def shTag (ti : Bool) : Tag → Tag
  | .ti => if ti then .ti else .sh
  | _ => .sh
def rowCells (H : Heap) (k off len : Nat) : Option (List DV) :=
  match H[k]? with
  | some (.cells _ cs) => if off + len ≤ cs.length then some ((cs.drop off).take len) else none
  | _ => none
def plainLeaf : DV → Option DV
  | .flat v => if isOne v then some (.flat v) else none
  | .list sz xs .ti => some (.list sz xs .ti)
  | .list sz xs _ => some (.list sz xs .sh)
  | _ => none
def plainEl : DV → Option DV
  | .agg cs => (mapO plainLeaf cs).map .agg
  | d => plainLeaf d
def buildL (ag : Bool) (sz len : Nat) (zero : DV) (parts : List (Nat × DV)) : Option DV :=
  if len * sz > 2 ^ 24 then none else
  if zero.cells.length = sz ∧ chunkOk ag sz len = true ∧ zero.cells.all DV.leaf = true then
  match fillD (fun i => some (i * sz, sz)) (List.replicate len zero.cells).flatten parts with
  | some cs => (mapO plainEl (chunk ag sz len cs)).map fun xs => mkl sz xs .ti
  | none => none
  else none
def loadD (ag : Bool) (sz : Nat) (p : DV) (H : Heap) : EO :=
  match p with
  | .ptr k off => match H[k]? with
    | some (.cells _ cs) => rv (partD ag sz off cs)
    | _ => none
  | .elem x off => qv (partD ag sz off x.cells)
  | _ => none
def storeD (sz : Nat) (p d : DV) (H : Heap) (fl : Nat) : EO :=
  match p with
  | .ptr k off => match H[k]? with
    | some (.cells e cs) =>
      if fl ≤ k ∧ d.cells.length = sz ∧ off + sz ≤ cs.length ∧ d.cells.all DV.leaf = true then some (.flat undef, .ch (H.set k (.cells e (splice off d.cells cs)))) else none
    | _ => none
  | _ => none
def allocD (e : TypeId) (d : DV) (nid : Nat) : EO :=
  if d.cells.all DV.leaf = true then some (.ptr nid 0, .al nid (.cells e d.cells)) else none
def intD : DV → Option Int
  | .flat (.int _ n) => some n
  | _ => none
def optD : Option DV → Option (Option Int)
  | none => some none
  | some d => (intD d).map some
def fieldD (fo sz : Nat) (x : DV) : Option DV :=
  if sz = 0 then none else
  match x with
  | .ptr k off => some (.ptr k (off + fo))
  | .elem x off => some (.elem x (off + fo))
  | _ => none
def idxArr (len sz : Nat) (x i : DV) : Option DV :=
  match intD i with
  | some n => if 0 ≤ n ∧ n < len then
      match x with
      | .ptr k off => some (.ptr k (off + n.toNat * sz))
      | .elem x off => some (.elem x (off + n.toNat * sz))
      | _ => none
    else none
  | none => none
def idxSl (sz : Nat) (x i : DV) : Option DV :=
  match intD i with
  | some n => if 0 ≤ n then
      match x with
      | .list s xs _ => if s = sz then (xs[n.toNat]?).map fun e => .elem e 0 else none
      | .row _ s k off len _ => if s = sz ∧ n < len then some (.ptr k (off + n.toNat * sz)) else none
      | _ => none
    else none
  | none => none
def boundsD (isList : Bool) (len cap : Nat) (lo hi mx : Option Int) : Option (Nat × Nat × Nat) :=
  let m : Int := mx.getD (cap : Int)
  let h : Int := hi.getD (len : Int)
  let l : Int := lo.getD 0
  if 0 ≤ l ∧ l ≤ h ∧ h ≤ m ∧ (h ≤ len) ∧ (mx.isNone ∨ m ≤ len) ∧ m ≤ cap ∧ (isList = false ∨ mx.isNone ∨ hi.isSome) ∧ (mx.isNone ∨ hi.isSome) then some (l.toNat, h.toNat, m.toNat) else none
def sliceL (sz : Nat) (xs : List DV) (t : Tag) (lo hi mx : Option Int) : Option DV :=
  match boundsD true xs.length xs.length lo hi mx with
  | some (l, h, m) => some (mkl sz ((xs.take h).drop l) (if mx.isSome ∧ m = h then .ti else if mx.isNone ∧ h = xs.length ∧ t = .ti then .ti else .sh))
  | none => none
def sliceSl (ts : Nat) (x : DV) (lo hi mx : Option Int) : Option DV :=
  match x with
  | .list sz xs t => if (xs.isEmpty || sz == ts) = true then sliceL ts xs t lo hi mx else none
  | .row ag sz k off n c => if sz ≠ ts ∨ c < n then none else match boundsD false n c lo hi mx with
    | some (l, h, m) => some (.row ag sz k (if m = l then off else off + l * sz) (h - l) (m - l))
    | none => none
  | _ => none
def sliceAr (ag : Bool) (n sz : Nat) (x : DV) (lo hi mx : Option Int) : Option DV :=
  match x with
  | .ptr k off => match boundsD false n n lo hi mx with
    | some (l, h, m) => some (.row ag sz k (if m = l then off else off + l * sz) (h - l) (m - l))
    | none => none
  | .elem x off => if ag = false ∧ sz = 1 ∧ lo = none ∧ hi = none ∧ mx = none ∧ off + n ≤ x.cells.length ∧ n ≤ 140737488355328 then some (mkl 1 ((x.cells.drop off).take n) .sh) else none
  | _ => none
def lenD : DV → Option DV
  | .list _ xs _ => some (.flat (.int .i64 xs.length))
  | .row _ _ _ _ n _ => some (.flat (.int .i64 n))
  | _ => none
def lenStr : DV → Option DV
  | .flat (.string s) => some (.flat (.int .i64 s.size))
  | _ => none
def capD : DV → Option DV
  | .list _ xs .ti => some (.flat (.int .i64 xs.length))
  | .row _ _ _ _ _ c => some (.flat (.int .i64 c))
  | _ => none
def srcD (ag : Bool) (sz : Nat) (y : DV) (H : Heap) : Option (List DV) :=
  match y with
  | .list s ys _ => if ys.isEmpty || s == sz then some ys else none
  | .row a s k off n _ => if a = ag ∧ s = sz ∧ chunkOk ag sz n = true then (rowCells H k off (n * sz)).bind fun cs => mapO plainEl (chunk ag sz n cs) else none
  | _ => none
def appendD (e : TypeId) (ag : Bool) (sz bytes : Nat) (x y : DV) (H : Heap) (fl : Nat) : EO :=
  match x, srcD ag sz y H with
  | .list s xs t, some ys =>
    match ys with
    | [] => some (x, .tk H)
    | _ =>
      if (xs.isEmpty || s == sz) = true ∧ chunkOk ag sz 0 = true ∧ (xs.length + ys.length) * bytes ≤ 140737488355328 ∧ xs.length + ys.length ≤ 140737488355328 then
        match t with
        | .ti => some (.list sz (xs ++ ys) (.own H.length), .tk (H ++ [.token e sz (xs.length + ys.length)]))
        | .own k => match H[k]? with
          | some (.token e' s' n) => if e' = e ∧ s' = sz ∧ n = xs.length ∧ fl ≤ k then some (.list sz (xs ++ ys) (.own k), .tk (H.set k (.token e sz (n + ys.length)))) else none
          | _ => none
        | .sh => none
      else none
  | _, _ => none
def copyD (ag : Bool) (sz : Nat) (x y : DV) (H : Heap) (fl : Nat) : EO :=
  match x, srcD ag sz y H with
  | .row a s k off n _, some ys =>
    if a = ag ∧ s = sz ∧ fl ≤ k then
      match H[k]? with
      | some (.cells e cs) =>
        let m := min ys.length n
        let new := ((ys.take m).map DV.cells).flatten
        if off + m * sz ≤ cs.length ∧ new.length = m * sz then some (.flat (.int .i64 m), .ch (H.set k (.cells e (splice off new cs)))) else none
      | _ => none
    else none
  | _, _ => none
def makeD (ag : Bool) (sz bytes : Nat) (e : TypeId) (zero l c : DV) (nid : Nat) : EO :=
  match intD l, intD c with
  | some l, some c => if l = c ∧ 0 ≤ l ∧ l * bytes ≤ 140737488355328 ∧ l ≤ 140737488355328 ∧ zero.cells.length = sz ∧ 0 < sz ∧ zero.cells.all DV.leaf = true then
      some (.row ag sz nid 0 l.toNat l.toNat, .al nid (.cells e (List.replicate l.toNat zero.cells).flatten)) else none
  | _, _ => none
def nilEq (P : Program) (t : TypeId) (a : DV) (v : Value) : Bool :=
  match P.underlying t, a, v with
  | some (.pointer _), .ptr .., .pointer none => true
  | some (.pointer _), .elem .., .pointer none => true
  | some (.interface _), .iface .., .nilIface => true
  | some (.func ..), .clo .., .nilFunc => true
  | some (.slice _), .list _ (_ :: _) _, .slice none 0 0 => true
  | _, _, _ => false
def eqRes (op : BinOp) : Option DV :=
  match op with
  | .eql => some (.flat (.bool false))
  | .neq => some (.flat (.bool true))
  | _ => none
def arD (P : Program) (op : BinOp) (t : TypeId) (a b : DV) : Option DV :=
  match toVal a, toVal b with
  | some va, some vb => pureV P (binOp op t va vb)
  | _, _ => none
def eqD (P : Program) (op : BinOp) (t : TypeId) (x y : Operand) (a b : DV) : Option DV :=
  match toVal a, toVal b with
  | some va, some vb => pureV P (do eqGuard op t x y va vb; binOp op t va vb)
  | none, some vb => if nilEq P t a vb then eqRes op else none
  | none, none => (match y with
    | .const v => if nilEq P t a v then eqRes op else none
    | _ => none)
  | _, _ => none
def binD (P : Program) (op : BinOp) (t : TypeId) (x y : Operand) (a b : DV) : Option DV :=
  match op with
  | .eql => eqD P .eql t x y a b
  | .neq => eqD P .neq t x y a b
  | op => arD P op t a b
def unD (P : Program) (op : UnOp) (a : DV) : Option DV := (toVal a).bind fun va => pureV P (Op.unary op va)
def byteOf : DV → Option UInt8
  | .flat (.int .u8 n) => if 0 ≤ n ∧ n < 256 then some (UInt8.ofNat n.toNat) else none
  | _ => none
def strD (P : Program) (s d : TypeId) (xs : List DV) : Option DV := match P.underlying s, P.underlying d with
  | some (.slice e), some .string => (match P.underlying e with
    | some (.int .u8) => (mapO byteOf xs).map fun l => .flat (.string ⟨l.toArray⟩)
    | _ => none)
  | _, _ => none
def bytD (P : Program) (s d : TypeId) (x : ByteArray) : Option DV := match P.underlying s, P.underlying d with
  | some .string, some (.slice e) => (match P.underlying e with
    | some (.int .u8) => if x.size ≤ 1000000 then some (mkl 1 (x.data.toList.map fun c => .flat (.int .u8 (c.toNat : Int))) .sh) else none
    | _ => none)
  | _, _ => none
def convD (P : Program) (s d : TypeId) (a : DV) : Option DV := match a with
  | .list _ xs _ => strD P s d xs
  | .flat (.string x) => (match bytD P s d x with
    | some r => some r
    | none => pureV P (convert s d (.string x)))
  | a => (toVal a).bind fun va => pureV P (convert s d va)
def pickD (c a b : DV) : Option DV :=
  match c with
  | .flat (.bool t) => some (if t then a else b)
  | _ => none
def nilD (a : DV) : Option DV :=
  match a with
  | .ptr k off => some (.ptr k off)
  | .elem x off => some (.elem x off)
  | .clo (.func f) x y => some (.clo (.func f) x y)
  | .flat (.func (.func f) x y) => some (.flat (.func (.func f) x y))
  | _ => none
def extD (i : Nat) (a : DV) : Option DV :=
  match a with
  | .tup cs => cs[i]?
  | _ => none
def builtD (P : Program) (b : Builtin) (ts : Array TypeId) (t : TypeId) (args : List DV) : Option DV :=
  (mapO toVal args).bind fun vs => match b with
    | .max => pureV P (Builtin.max_ ts t vs.toArray)
    | .min => pureV P (Builtin.min_ ts t vs.toArray)
    | _ => none
inductive CM where
  | pure (ti : Bool) | ro | rw | keep
def outLeaf (ti : Bool) (H : Heap) : DV → Option DV
  | .flat v => if isOne v then some (.flat v) else none
  | .list sz xs t => some (.list sz xs (shTag ti t))
  | .row ag sz k off n c => if chunkOk ag sz n = true ∧ n ≤ c then ((rowCells H k off (n * sz)).bind fun cs => mapO plainEl (chunk ag sz n cs)).map fun xs => mkl sz xs (if ti && n == c then .ti else .sh) else none
  | _ => none
def outEl (ti : Bool) (H : Heap) : DV → Option DV
  | .agg cs => (mapO (outLeaf ti H) cs).map .agg
  | .flat v => some (.flat v)
  | d => outLeaf ti H d
def outD (ti : Bool) (H : Heap) : DV → Option DV
  | .tup cs => (mapO (outEl ti H) cs).map .tup
  | d => outEl ti H d
mutual
def inSc (n0 : Nat) : DV → Bool
  | .agg cs => inScL n0 cs
  | .tup cs => inScL n0 cs
  | .list _ _ (.own k) => decide (k < n0)
  | .ptr k _ => decide (k < n0)
  | .row _ _ k _ _ _ => decide (k < n0)
  | .clo _ f c => inScL n0 f && inScL n0 c
  | .iface _ d => inSc n0 d
  | _ => true
def inScL (n0 : Nat) : List DV → Bool
  | [] => true
  | d :: l => inSc n0 d && inScL n0 l
end
def oldLeaf (n0 : Nat) (H : Heap) (d : DV) : Option DV :=
  if d.leaf && inSc n0 d then some d else
  match d with
  | .list sz xs _ => some (.list sz xs .sh)
  | .row ag sz k off n c => if n0 ≤ k then outLeaf true H (.row ag sz k off n c) else none
  | _ => none
def oldEl (n0 : Nat) (H : Heap) : DV → Option DV
  | .agg cs => (mapO (oldLeaf n0 H) cs).map .agg
  | .flat v => some (.flat v)
  | d => oldLeaf n0 H d
def oldD (n0 : Nat) (H : Heap) : DV → Option DV
  | .tup cs => (mapO (oldEl n0 H) cs).map .tup
  | d => oldEl n0 H d
def oldBlk (n0 : Nat) (H : Heap) : DBlk → Option DBlk
  | .cells e cs => (mapO (oldLeaf n0 H) cs).map (.cells e)
  | b => some b
def cutH (n0 : Nat) (H : Heap) : Option Heap := mapO (oldBlk n0 H) (H.take n0)
def argEl (d : DV) : Option DV := outEl false [] d
abbrev CF := FuncId → List DV → Heap → Nat → R
def callD (cf : CF) (m : CM) (fl : Nat) (f : FuncId) (args : List DV) (H : Heap) : EO :=
  match m with
  | .pure ti => (mapO argEl args).bind fun bs => (cf f bs [] 0).bind fun r => qv (outD ti r.2 r.1)
  | .ro => (cf f args H H.length).bind fun r => ov (oldD H.length r.2 r.1)
  | .rw => (cf f args H fl).bind fun r => (oldD H.length r.2 r.1).bind fun d => (cutH H.length r.2).map fun H' => (d, .ch H')
  | .keep => (cf f args H fl).map fun r => (r.1, .ch r.2)
def fnOf (d : DV) : Option (FuncId × List DV) :=
  match d with
  | .flat (.func (.func f) first cap) => if first.size = 0 ∧ cap.size = 0 then some (f, []) else none
  | .clo (.func f) [] cap => some (f, cap)
  | _ => none
def callV (cf : CF) (md : FuncId → CM) (fl : Nat) (f : DV) (args : List DV) (H : Heap) : EO :=
  match fnOf f with
  | some (g, cap) => callD cf (md g) fl g (args ++ cap) H
  | none => match f with
    | .clo (.func g) (x :: fs) cap => callD cf (md g) fl g ((x :: fs) ++ args ++ cap) H
    | _ => none
theorem callV_eq {cf : CF} {md : FuncId → CM} {fl : Nat} {f : DV} {args : List DV} {H : Heap} {r : DV × Eff} (h : callV cf md fl f args H = some r) : ∃ g bs, callD cf (md g) fl g bs H = some r := by
  unfold callV at h
  split at h
  · exact ⟨_, _, h⟩
  · split at h
    · exact ⟨_, _, h⟩
    · cases h
def callOp (P : Program) (cf : CF) (md : FuncId → CM) (fl : Nat) (o : Oper) (c : Call) (ρ : Operand → DV) (H : Heap) : EO :=
  match c.callee with
  | .builtin .len => match c.args.toList, c.argTypes.toList with
    | [x], [t] => qv (match P.underlying t with
      | some (.array n _) => some (.flat (.int .i64 n))
      | some (.slice _) => lenD (ρ x)
      | some .string => lenStr (ρ x)
      | _ => none)
    | _, _ => none
  | .builtin .cap => match c.args.toList, c.argTypes.toList with
    | [x], [t] => qv (match P.underlying t with
      | some (.slice _) => capD (ρ x)
      | _ => none)
    | _, _ => none
  | .builtin .append => match c.args.toList, c.argTypes.toList with
    | [x, y], [t, t'] => if t' = t then match P.underlying t with
      | some (.slice e) => match aggSz P e, P.info? e, zeroD P e with
        | some (ag, sz), some i, some z => if z.cells.length = sz then appendD e ag sz i.bytes (ρ x) (ρ y) H fl else none
        | _, _, _ => none
      | _ => none else none
    | _, _ => none
  | .builtin .copy => match c.args.toList, c.argTypes.toList with
    | [x, y], [t, _] => match P.underlying t with
      | some (.slice e) => match aggSz P e with
        | some (ag, sz) => copyD ag sz (ρ x) (ρ y) H fl
        | _ => none
      | _ => none
    | _, _ => none
  | .builtin b => qv (builtD P b c.argTypes o.type (c.args.toList.map ρ))
  | .value f => callV cf md fl (ρ f) (c.args.toList.map ρ) H
  | _ => none
def slX (ts : Nat) (x : DV) (lo hi mx : Option DV) : Option DV :=
  match optD lo, optD hi, optD mx with
  | some l, some h, some m => sliceSl ts x l h m
  | _, _, _ => none
def saX (ag : Bool) (n sz : Nat) (x : DV) (lo hi mx : Option DV) : Option DV :=
  match optD lo, optD hi, optD mx with
  | some l, some h, some m => sliceAr ag n sz x l h m
  | _, _, _ => none
def fldD (ag : Bool) (sz off : Nat) (x : DV) : Option DV :=
  match x with
  | .agg cs => partD ag sz off cs
  | _ => none
def idxV (ag : Bool) (sz len : Nat) (x i : DV) : Option DV :=
  match intD i, x with
  | some n, .agg cs => if 0 ≤ n ∧ n < len then partD ag sz (n.toNat * sz) cs else none
  | _, _ => none
def roBox (md : FuncId → CM) (e : TypeId) : Bool := match md (2000000 + e) with
  | .ro => true
  | _ => false
def boxE (d : DV) : Option DV := if d.cells.all DV.leaf = true then (plainEl d).map fun x => .elem x 0 else none
def evalO (P : Program) (cf : CF) (md : FuncId → CM) (fl nid : Nat) (o : Oper) (slots : List DV) (H : Heap) : EO :=
  let ρ := evalD slots
  match o.op with
  | .move x | .assign x => some (ρ x, .q)
  | .pick c a b => qv (pickD (ρ c) (ρ a) (ρ b))
  | .alloc e => (zeroD P e).bind fun d => allocD e d nid
  | .box e x => if roBox md e = true then qv (boxE (ρ x)) else allocD e (ρ x) nid
  | .build t parts => match P.underlying t, (zeroD P t).filter (fun z => z.cells.all DV.leaf) with
    | some (.struct fs), some z => match placesD P fs.toList with
      | some pl => qv (buildS z pl (parts.toList.map fun p => (p.1, ρ p.2)))
      | none => none
    | some (.array _ e), some z => match P.info? e with
      | some i => qv (buildA z i.size (parts.toList.map fun p => (p.1, ρ p.2)))
      | none => none
    | _, _ => none
  | .buildSlice t len parts => match P.underlying t with
    | some (.slice e) => match aggSz P e, zeroD P e with
      | some (ag, sz), some z => qv (buildL ag sz len z (parts.toList.map fun p => (p.1, ρ p.2)))
      | _, _ => none
    | _ => none
  | .load t a => match aggSz P t with
    | some (ag, sz) => loadD ag sz (ρ a) H
    | none => none
  | .store t a x => match aggSz P t with
    | some (_, sz) => storeD sz (ρ a) (ρ x) H fl
    | none => none
  | .nilCheck x => qv (nilD (ρ x))
  | .binOp op t x y _ => qv (binD P op t x y (ρ x) (ρ y))
  | .unOp op _ x => qv (unD P op (ρ x))
  | .convert s d x => qv (convD P s d (ρ x))
  | .makeInterface t x => match P.underlying t with
    | some (.interface _) => none
    | some _ => some (.iface t (ρ x), .q)
    | none => none
  | .makeFunc fn first cap => some (.clo fn (first.toList.map ρ) (cap.toList.map ρ), .q)
  | .makeSlice t l c => match P.underlying t with
    | some (.slice e) => match aggSz P e, P.info? e, zeroD P e with
      | some (ag, sz), some i, some z => makeD ag sz i.bytes e z (ρ l) (ρ c) nid
      | _, _, _ => none
    | _ => none
  | .slice t x lo hi mx => match P.underlying t with
    | some (.slice e) => match aggSz P e with
      | some (_, sz) => qv (slX sz (ρ x) (lo.map ρ) (hi.map ρ) (mx.map ρ))
      | none => none
    | some (.array n e) => match aggSz P e with
      | some (ag, sz) => qv (saX ag n sz (ρ x) (lo.map ρ) (hi.map ρ) (mx.map ρ))
      | none => none
    | _ => none
  | .fieldAddr s x f => match P.underlying s with
    | some (.struct fs) => match fs[f]? with
      | some fd => match P.info? fd.type with
        | some i => qv (fieldD fd.offset i.size (ρ x))
        | none => none
      | none => none
    | _ => none
  | .field t x f => match P.underlying t with
    | some (.struct fs) => match fs[f]? with
      | some fd => match aggSz P fd.type with
        | some (ag, sz) => qv (fldD ag sz fd.offset (ρ x))
        | none => none
      | none => none
    | _ => none
  | .indexAddr t x i => match P.underlying t with
    | some (.array len e) => match P.info? e with
      | some ie => qv (idxArr len ie.size (ρ x) (ρ i))
      | none => none
    | some (.slice e) => match P.info? e with
      | some ie => qv (idxSl ie.size (ρ x) (ρ i))
      | none => none
    | _ => none
  | .index t x i => match P.underlying t with
    | some (.array len e) => match aggSz P e with
      | some (ag, sz) => qv (idxV ag sz len (ρ x) (ρ i))
      | none => none
    | _ => none
  | .extract t i => qv (extD i (ρ t))
  | .call c => callOp P cf md fl o c ρ H
  | _ => none
structure St where
  slots : List DV
  heap : Heap
def putD (slots : List DV) (dst : Option Tmp) (d : DV) : List DV :=
  match dst with
  | some t => slots.set t d
  | none => slots
def guardD (d : DV) (want : Bool) : Option Bool :=
  match d with
  | .flat (.bool b) => some (b == want)
  | .flat (.tuple _) => some false
  | _ => none
def wantE (w : Option Bool) (x : EO) : EO :=
  match w with
  | none => none
  | some true => x
  | some false => some (.flat undef, .q)
def wantD (ops : Array Oper) (o : Oper) (slots : List DV) : Option Bool :=
  match o.guard with
  | none => some true
  | some (j, want) => match ((ops[j]?).bind (·.dst)) with
    | some t => guardD (slots.getD t .any) want
    | none => none
structure Ctx where
  P : Program
  cf : CF
  md : FuncId → CM
  fl : Nat
  N : Nat
def isAl (o : Oper) : Bool := match o.op with | .alloc _ | .box .. | .makeSlice .. => true | _ => false
def opK (X : Ctx) (ops : Array Oper) (nid : Nat) (o : Oper) (S : St) (k : Nat → St → R) : R :=
  (wantE (wantD ops o S.slots) (evalO X.P X.cf X.md X.fl nid o S.slots S.heap)).bind fun p => k p.2.cls ⟨putD S.slots o.dst p.1, p.2.heap S.heap⟩
def opsK (X : Ctx) (ops : Array Oper) : List Oper → Nat → List Nat → St → (List Nat → St → R) → R
  | [], _, cs, S, k => k cs S
  | o :: l, nid, cs, S, k => opK X ops nid o S fun c S' => opsK X ops l (if isAl o then nid + 1 else nid) (c :: cs) S' k
def holes (ops : List Oper) : Heap := (ops.filter isAl).map fun _ => .hole
def addHoles (ops : List Oper) (H : Heap) : Heap := match holes ops with | [] => H | hs => H ++ hs
def condR (d : DV) (x y : R) : R := match d with | .flat (.bool true) => x | .flat (.bool false) => y | _ => none
def maskOf (o : Oper) (acc : List Nat) : Nat :=
  o.after.toList.foldl (fun s e => if Region.binds .any e then s ||| (2 ^ e.on ||| acc.getD e.on 0) else s) 0
def masks : List Oper → List Nat → List Nat
  | [], acc => acc
  | o :: l, acc => masks l (acc ++ [maskOf o acc])
def namesOf (ops : Array Oper) (o : Oper) : List Tmp :=
  o.dst.toList ++ (o.op.operands.toList.filterMap fun | .tmp t => some t | _ => none) ++ (match o.guard with | some (j, _) => ((ops[j]?).bind (·.dst)).toList | none => [])
def clash (ops : Array Oper) (a b : Oper) (ca cb : Nat) : Bool :=
  (ca == 2 && cb != 0) || (cb == 2 && ca != 0) || (ca == 5 && decide (2 ≤ cb)) || (cb == 5 && ca != 0) || (ca == 3 && cb == 4) || (ca == 4 && cb == 3) || a.dst.any (namesOf ops b).contains || b.dst.any (namesOf ops a).contains
def drawOk (ops : Array Oper) (cs : List Nat) : Bool :=
  let l := ops.toList
  let m := masks l []
  (List.range l.length).all fun j => ((l.getD j default).after.toList.all fun e => !Region.binds .any e || decide (e.on < j)) && (List.range j).all fun i =>
    !clash ops (l.getD i default) (l.getD j default) (cs.getD i 2) (cs.getD j 2) || (m.getD j 0).testBit i
inductive Ex where
  | normal | exit (id : Nat) | ret
  deriving DecidableEq
def forget (keep : List Nat) (N : Nat) (slots : List DV) : List DV := (List.range N).map fun i => if keep.contains i then slots.getD i .any else .any
def loopN (keep out : List Nat) (N : Nat) (body : St → (Ex → St → R) → R) : Nat → St → (Ex → St → R) → R
  | 0, _, _ => none
  | n + 1, S, k => body S fun x S' => match x with
    | .normal => loopN keep out N body n ⟨forget keep N S'.slots, S'.heap⟩ k
    | x => k x ⟨forget out N S'.slots, S'.heap⟩
def drawK (draw : Bool) (ops : Array Oper) (cs : List Nat) (x : R) : R := if draw && !drawOk ops cs.reverse then none else x
def nloops : Code → Nat
  | .seq a b => nloops a + nloops b
  | .cond _ a b => nloops a + nloops b
  | .block _ b => nloops b
  | .loop b => nloops b + 1
  | .scope b => nloops b
  | _ => 0
def execD (X : Ctx) (n : Nat) : Code → List (List Nat × List Nat) → St → (Ex → St → R) → R
  | .skip, _, S, k => k .normal S
  | .region _ ops draw, _, S, k =>
    opsK X ops ops.toList S.heap.length [] ⟨S.slots, addHoles ops.toList S.heap⟩ fun cs S' => drawK draw ops cs (k .normal S')
  | .seq a b, ks, S, k => execD X n a (ks.take (nloops a)) S fun x S' => match x with | .normal => execD X n b (ks.drop (nloops a)) S' k | x => k x S'
  | .cond c a b, ks, S, k => condR (evalD S.slots c) (execD X n a (ks.take (nloops a)) S k) (execD X n b (ks.drop (nloops a)) S k)
  | .block id b, ks, S, k => execD X n b ks S fun x S' => match x with | .exit i => if i = id then k .normal S' else k x S' | x => k x S'
  | .loop b, ks, S, k => loopN (ks.headD ([], [])).1 (ks.headD ([], [])).2 X.N (execD X n b ks.tail) n ⟨forget (ks.headD ([], [])).1 X.N S.slots, S.heap⟩ fun x S' => match x with | .normal => none | x => k x ⟨forget (ks.headD ([], [])).2 X.N S'.slots, S'.heap⟩
  | .scope b, ks, S, k => execD X n b ks S k
  | .exit id, _, S, k => k (.exit id) S
  | .ret, _, S, k => k .ret S
  | _, _, _, _ => none
def cellR (ag : Bool) (sz : Nat) (p : DV) (H : Heap) : Option DV :=
  match p with
  | .ptr k off => match H[k]? with
    | some (.cells _ cs) => partD ag sz off cs
    | _ => none
  | _ => none
def resOne (P : Program) (S : St) : ResultVar → Option DV
  | .tmp t => some (S.slots.getD t .any)
  | .cell a t => match aggSz P t with
    | some (ag, sz) => cellR ag sz (S.slots.getD a .any) S.heap
    | none => none
def seqO : List (Option DV) → Option (List DV)
  | [] => some []
  | x :: l => x.bind fun d => (seqO l).map fun ds => d :: ds
def tupD : List DV → DV
  | [d] => d
  | ds => .tup ds
def resD (P : Program) (rs : List ResultVar) (S : St) : Option DV := (seqO (rs.map (resOne P S))).map tupD
def loopAt : Code → Nat → Code
  | .seq a b, i => if i < nloops a then loopAt a i else loopAt b (i - nloops a)
  | .cond _ a b, i => if i < nloops a then loopAt a i else loopAt b (i - nloops a)
  | .block _ b, i => loopAt b i
  | .loop b, 0 => b
  | .loop b, i + 1 => loopAt b i
  | .scope b, i => loopAt b i
  | c, _ => c
def bodyOf (fn : Func) : Code := fn.body.getD .skip
structure Env where
  md : FuncId → CM
  ks : FuncId → List (List Nat × List Nat)
  prim : FuncId → Option (List DV → Heap → R)
def callN (P : Program) (E : Env) : Nat → CF
  | 0 => fun _ _ _ _ => none
  | n + 1 => fun f args H fl =>
    match E.prim f with
    | some g => g args H
    | none => match P.funcs[f]? with
      | some fn => match fn.body with
        | some c => if fn.ntmps < args.length then none else execD ⟨P, callN P E n, E.md, fl, fn.ntmps⟩ n c (E.ks f) ⟨args ++ List.replicate (fn.ntmps - args.length) (.flat undef), H⟩ fun x S =>
            match x with
            | .exit _ => none
            | _ => (resD P fn.results.toList S).map fun d => (d, S.heap)
        | none => none
      | none => none
end Go.Proofs.Ytcpgmbpndpcmdaa
namespace Go.Proofs.Ytcpgmbpndpcmdaa
open Go Go.RowKit
inductive GK where
  | hole
  | cel (b : Nat)
  | own (b sz cap hw : Nat)
abbrev Gh := List GK
def ImmB (B : Nat → Nat → Prop) (G : Gh) (b j : Nat) : Prop :=
  B b j ∧ (∀ k : Nat, G[k]? ≠ some (GK.cel b)) ∧ ∀ k sz cap hw : Nat, G[k]? = some (GK.own b sz cap hw) → j < hw * sz
def CellsAt (I : Nat → Nat → Prop) (w : World) (b o : Nat) (vs : List Value) : Prop :=
  ∀ j v, vs[j]? = some v → w.cell? ⟨b, o + j, none⟩ = some v ∧ I b (o + j) ∧ isOne v = true
def TagOk (G : Gh) (sz n : Nat) (A : Option Addr) (c : Nat) : Tag → Prop
  | .sh => True
  | .ti => c = n
  | .own k => ∃ b s cap hw, G[k]? = some (GK.own b s cap hw) ∧ n ≤ hw ∧ (hw = n → A = some ⟨b, 0, none⟩ ∧ c = cap ∧ s = sz)
mutual
def Rep (I : Nat → Nat → Prop) (w : World) (G : Gh) : DV → Value → Prop
  | .any, _ => True
  | .flat v, V => V = v
  | .agg cs, V => ∃ vs, V = .agg vs ∧ RepL I w G cs vs.toList
  | .tup cs, V => ∃ vs, V = .tuple vs ∧ RepL I w G cs vs.toList
  | .list sz xs t, V => ∃ A c, V = .slice A xs.length c ∧ xs.length ≤ c ∧ xs.length ≤ 140737488355328 ∧
      (xs = [] ∨ ∃ b o, A = some ⟨b, o, none⟩ ∧ RepE I w sz xs b o) ∧ TagOk G sz xs.length A c t
  | .ptr k off, V => ∃ b, G[k]? = some (GK.cel b) ∧ V = .pointer (some ⟨b, off, none⟩)
  | .row _ _ k off n c, V => ∃ b, G[k]? = some (GK.cel b) ∧ V = .slice (some ⟨b, off, none⟩) n c
  | .elem x off, V => x.cells.all DV.leaf = true ∧ ∃ b o E, V = .pointer (some ⟨b, o + off, none⟩) ∧ Rep I w [] x E ∧ CellsAt I w b o E.cells.toList
  | .clo fn first cap, V => ∃ f c, V = .func fn f c ∧ RepL I w G first f.toList ∧ RepL I w G cap c.toList
  | .iface t d, V => ∃ v, V = .iface t v ∧ Rep I w G d v
def RepL (I : Nat → Nat → Prop) (w : World) (G : Gh) : List DV → List Value → Prop
  | [], vs => vs = []
  | d :: ds, vs => ∃ v r, vs = v :: r ∧ Rep I w G d v ∧ RepL I w G ds r
def RepE (I : Nat → Nat → Prop) (w : World) (sz : Nat) : List DV → Nat → Nat → Prop
  | [], _, _ => True
  | x :: xs, b, o => (x.cells.all DV.leaf = true ∧ ∃ V, Rep I w [] x V ∧ V.cells.size = sz ∧ CellsAt I w b o V.cells.toList) ∧ RepE I w sz xs b (o + sz)
end
def evol : GK → GK → Prop
  | .hole, _ => True
  | .cel b, g => g = .cel b
  | .own b sz cap hw, g => ∃ b' cap' hw', g = .own b' sz cap' hw' ∧ hw ≤ hw' ∧ (hw' = hw → b' = b ∧ cap' = cap)
def Evol (G G' : Gh) : Prop := ∀ (k : Nat) (g : GK), G[k]? = some g → ∃ g', G'[k]? = some g' ∧ evol g g'
theorem evol_refl (g : GK) : evol g g := by
  cases g with
  | own b sz cap hw => exact ⟨_, _, _, rfl, Nat.le_refl _, fun _ => ⟨rfl, rfl⟩⟩
  | _ => simp [evol]
theorem Evol.refl (G : Gh) : Evol G G := fun _ g h => ⟨g, h, evol_refl g⟩
theorem Evol.nil (G : Gh) : Evol [] G := fun _ _ h => by simp at h
theorem evol_trans {a b c : GK} (h : evol a b) (k : evol b c) : evol a c := by
  cases a with
  | hole => trivial
  | cel x => simp only [evol] at h; subst h; exact k
  | own x sz cap hw =>
    obtain ⟨b', c', h', rfl, h1, h2⟩ := h
    obtain ⟨b2, c2, h2', rfl, k1, k2⟩ := k
    refine ⟨b2, c2, h2', rfl, by omega, fun e => ?_⟩
    have e1 : h2' = h' := by omega
    have e2 : h' = hw := by omega
    exact ⟨(k2 e1).1.trans (h2 e2).1, (k2 e1).2.trans (h2 e2).2⟩
theorem Evol.trans {G G' G'' : Gh} (h : Evol G G') (k : Evol G' G'') : Evol G G'' := fun i g hg =>
  let ⟨g', hg', e⟩ := h i g hg; let ⟨g'', hg'', e'⟩ := k i g' hg'; ⟨g'', hg'', evol_trans e e'⟩
theorem TagOk.evol {G G' : Gh} (hG : Evol G G') {sz n c : Nat} {A : Option Addr} {t : Tag} (h : TagOk G sz n A c t) : TagOk G' sz n A c t := by
  cases t with
  | sh => trivial
  | ti => exact h
  | own k =>
    obtain ⟨b, s, cap, hw, hg, h0, h1⟩ := h
    obtain ⟨g', hg', b', cap', hw', rfl, h2, h3⟩ := hG k _ hg
    refine ⟨b', s, cap', hw', hg', by omega, fun e => ?_⟩
    have e2 : hw' = hw := by omega
    obtain ⟨rfl, rfl⟩ := h3 e2
    exact h1 (by omega)
def Stay (I I' : Nat → Nat → Prop) (w w' : World) : Prop := ∀ b j v, I b j → w.cell? ⟨b, j, none⟩ = some v → w'.cell? ⟨b, j, none⟩ = some v ∧ I' b j
theorem CellsAt.stay {I I' : Nat → Nat → Prop} {w w' : World} (h : Stay I I' w w') {b o : Nat} {vs : List Value} (hc : CellsAt I w b o vs) : CellsAt I' w' b o vs := fun j v hj => by
  obtain ⟨h1, h2, h3⟩ := hc j v hj
  obtain ⟨h4, h5⟩ := h _ _ _ h2 h1
  exact ⟨h4, h5, h3⟩
mutual
theorem Rep.stay {I I' : Nat → Nat → Prop} {w w' : World} (h : Stay I I' w w') {G G' : Gh} (hG : Evol G G') : ∀ (d : DV) (V : Value), Rep I w G d V → Rep I' w' G' d V
  | .any, _, _ => by simp [Rep]
  | .flat v, V, k => by simpa only [Rep] using k
  | .agg cs, V, k => by
    simp only [Rep] at k ⊢
    obtain ⟨vs, e, k⟩ := k
    exact ⟨vs, e, RepL.stay h hG cs _ k⟩
  | .tup cs, V, k => by
    simp only [Rep] at k ⊢
    obtain ⟨vs, e, k⟩ := k
    exact ⟨vs, e, RepL.stay h hG cs _ k⟩
  | .list sz xs t, V, k => by
    simp only [Rep] at k ⊢
    obtain ⟨A, c, e, k1, k2, k3, k4⟩ := k
    refine ⟨A, c, e, k1, k2, k3.imp id ?_, k4.evol hG⟩
    rintro ⟨b, o, e, k⟩
    exact ⟨b, o, e, RepE.stay h sz xs b o k⟩
  | .ptr k off, V, r => by
    simp only [Rep] at r ⊢
    obtain ⟨b, hg, e⟩ := r
    obtain ⟨g', hg', he⟩ := hG k _ hg
    simp only [evol] at he
    subst he
    exact ⟨b, hg', e⟩
  | .row _ _ k off n c, V, r => by
    simp only [Rep] at r ⊢
    obtain ⟨b, hg, e⟩ := r
    obtain ⟨g', hg', he⟩ := hG k _ hg
    simp only [evol] at he
    subst he
    exact ⟨b, hg', e⟩
  | .elem x off, V, k => by
    simp only [Rep] at k ⊢
    obtain ⟨k0, b, o, E, e, k1, k2⟩ := k
    exact ⟨k0, b, o, E, e, Rep.stay h (Evol.nil []) x E k1, k2.stay h⟩
  | .clo fn first cap, V, k => by
    simp only [Rep] at k ⊢
    obtain ⟨f, c, e, k1, k2⟩ := k
    exact ⟨f, c, e, RepL.stay h hG first _ k1, RepL.stay h hG cap _ k2⟩
  | .iface t d, V, k => by
    simp only [Rep] at k ⊢
    obtain ⟨v, e, k⟩ := k
    exact ⟨v, e, Rep.stay h hG d v k⟩
theorem RepL.stay {I I' : Nat → Nat → Prop} {w w' : World} (h : Stay I I' w w') {G G' : Gh} (hG : Evol G G') : ∀ (ds : List DV) (vs : List Value), RepL I w G ds vs → RepL I' w' G' ds vs
  | [], vs, k => by simpa only [RepL] using k
  | d :: ds, vs, k => by
    simp only [RepL] at k ⊢
    obtain ⟨v, r, e, k1, k2⟩ := k
    exact ⟨v, r, e, Rep.stay h hG d v k1, RepL.stay h hG ds r k2⟩
theorem RepE.stay {I I' : Nat → Nat → Prop} {w w' : World} (h : Stay I I' w w') (sz : Nat) : ∀ (xs : List DV) (b o : Nat), RepE I w sz xs b o → RepE I' w' sz xs b o
  | [], _, _, _ => by simp [RepE]
  | x :: xs, b, o, k => by
    simp only [RepE] at k ⊢
    obtain ⟨⟨k0, V, k1, k2, k3⟩, k4⟩ := k
    exact ⟨⟨k0, V, Rep.stay h (Evol.nil []) x V k1, k2, k3.stay h⟩, RepE.stay h sz xs b (o + sz) k4⟩
end
def liveAt (G : Gh) (k b : Nat) : Prop := G[k]? = some (GK.cel b) ∨ ∃ sz cap hw, G[k]? = some (GK.own b sz cap hw)
def Dist (G : Gh) : Prop := ∀ k k' b, liveAt G k b → liveAt G k' b → k = k'
def BlkRep (I : Nat → Nat → Prop) (w : World) (G : Gh) : DBlk → GK → Prop
  | .hole, .hole => True
  | .cells e cs, .cel b => ∃ C, w.heap[b]? = some (.cells C e (0, 0)) ∧ RepL I w G cs C.toList ∧ ∀ v ∈ C.toList, isOne v = true
  | .token e sz n, .own b s cap hw => s = sz ∧ hw = n ∧ n ≤ cap ∧ 0 < sz ∧ n ≤ 140737488355328 ∧ ∃ C, w.heap[b]? = some (.cells C e (0, 0)) ∧ C.size = cap * sz
  | _, _ => False
def laidC (_ _ : Nat) : Option Value := none
def LaidOk (B : Nat → Nat → Prop) (w : World) : Prop := ∀ b j v, laidC b j = some v → w.cell? ⟨b, j, none⟩ = some v ∧ ¬ B b j
structure HR (B : Nat → Nat → Prop) (G : Gh) (w : World) (H : Heap) : Prop where
  len : H.length = G.length
  dist : Dist G
  blk : ∀ (k : Nat) (b : DBlk) (g : GK), H[k]? = some b → G[k]? = some g → BlkRep (ImmB B G) w G b g
  bb : ∀ k b, liveAt G k b → ∀ j, B b j
  lay : LaidOk B w
structure Keep (G : Gh) (w : World) (G' : Gh) (w' : World) : Prop where
  os : w'.os = w.os
  tape : w'.tape = w.tape
  output : w'.output = w.output
  size : w.heap.size ≤ w'.heap.size
  blk : ∀ b, b < w.heap.size → (∀ k, ¬ liveAt G k b) → w'.heap[b]? = w.heap[b]?
  own : ∀ k b sz cap hw : Nat, G[k]? = some (GK.own b sz cap hw) → b < w.heap.size → ∀ j, j < hw * sz → w'.cell? ⟨b, j, none⟩ = w.cell? ⟨b, j, none⟩
  evol : Evol G G'
  fresh : ∀ k b : Nat, b < w.heap.size → G'[k]? = some (GK.cel b) → G[k]? = some (GK.cel b)
  freshO : ∀ k b sz cap' hw' : Nat, b < w.heap.size → G'[k]? = some (GK.own b sz cap' hw') → ∃ cap hw, G[k]? = some (GK.own b sz cap hw) ∧ hw ≤ hw'
theorem Keep.refl (G : Gh) (w : World) : Keep G w G w :=
  ⟨rfl, rfl, rfl, Nat.le_refl _, fun _ _ _ => rfl, fun _ _ _ _ _ _ _ _ _ => rfl, Evol.refl G, fun _ _ _ h => h, fun _ _ _ cap hw _ h => ⟨cap, hw, h, Nat.le_refl _⟩⟩
theorem Keep.live {G G' : Gh} {w w' : World} (h : Keep G w G' w') {k b : Nat} (hb : b < w.heap.size) (hl : liveAt G' k b) : liveAt G k b := by
  rcases hl with hl | ⟨sz, cap, hw, hl⟩
  · exact .inl (h.fresh k b hb hl)
  · obtain ⟨cap, hw, hg, _⟩ := h.freshO k b sz cap hw hb hl
    exact .inr ⟨sz, cap, hw, hg⟩
theorem cell_of_blk {w w' : World} {b : Nat} (h : w'.heap[b]? = w.heap[b]?) (j : Nat) : w'.cell? ⟨b, j, none⟩ = w.cell? ⟨b, j, none⟩ := by
  simp only [World.cell?, h]
theorem Keep.trans {G G' G'' : Gh} {w w' w'' : World} (hD : Dist G) (h : Keep G w G' w') (k : Keep G' w' G'' w'') : Keep G w G'' w'' := by
  refine ⟨k.os.trans h.os, k.tape.trans h.tape, k.output.trans h.output, Nat.le_trans h.size k.size, ?_, ?_, h.evol.trans k.evol, ?_, ?_⟩
  · intro b hb hl
    rw [k.blk b (Nat.lt_of_lt_of_le hb h.size) (fun i hi => hl i (h.live hb hi)), h.blk b hb hl]
  · intro i b sz cap hw hg hb j hj
    rw [← h.own i b sz cap hw hg hb j hj]
    have hb' := Nat.lt_of_lt_of_le hb h.size
    by_cases hl : ∃ i', liveAt G' i' b
    · obtain ⟨i', hl⟩ := hl
      have : i' = i := hD i' i b (h.live hb hl) (.inr ⟨sz, cap, hw, hg⟩)
      subst this
      rcases hl with hl | ⟨sz', cap', hw', hl⟩
      · have := h.fresh _ _ hb hl
        rw [hg] at this; simp at this
      · obtain ⟨c0, h0, hg0, hle⟩ := h.freshO _ _ _ _ _ hb hl
        rw [hg] at hg0
        injection hg0 with hg0
        injection hg0 with e1 e2 e3 e4
        subst e2 e4
        exact k.own _ _ _ _ _ hl hb' j (Nat.lt_of_lt_of_le hj (Nat.mul_le_mul_right _ hle))
    · exact cell_of_blk (k.blk b hb' (fun i' hi' => hl ⟨i', hi'⟩)) j
  · intro i b hb hg
    exact h.fresh i b hb (k.fresh i b (Nat.lt_of_lt_of_le hb h.size) hg)
  · intro i b sz cap' hw' hb hg
    obtain ⟨c1, h1, hg1, hle1⟩ := k.freshO i b sz cap' hw' (Nat.lt_of_lt_of_le hb h.size) hg
    obtain ⟨c0, h0, hg0, hle0⟩ := h.freshO i b sz c1 h1 hb hg1
    exact ⟨c0, h0, hg0, Nat.le_trans hle0 hle1⟩
theorem cell_lt {w : World} {b j : Nat} {v : Value} (h : w.cell? ⟨b, j, none⟩ = some v) : b < w.heap.size := World.block_lt_of_cell? (a := ⟨b, j, none⟩) _ h
theorem HR.layKeep {B : Nat → Nat → Prop} {G G' : Gh} {w w' : World} {H : Heap} (h : HR B G w H) (hK : Keep G w G' w') : LaidOk B w' := fun b j v hv =>
  have ⟨h1, h2⟩ := h.lay b j v hv
  ⟨(cell_of_blk (hK.blk b (cell_lt h1) fun k hk => h2 (h.bb k b hk j)) j).trans h1, h2⟩
theorem Keep.stay {B : Nat → Nat → Prop} {G G' : Gh} {w w' : World} (h : Keep G w G' w') : Stay (ImmB B G) (ImmB B G') w w' := by
  intro b j v hI hc
  have hb := cell_lt hc
  obtain ⟨h0, h1, h2⟩ := hI
  refine ⟨?_, h0, fun k hk => h1 k (h.fresh k b hb hk), fun k sz cap hw hk => ?_⟩
  · by_cases hl : ∃ i, liveAt G i b
    · obtain ⟨i, hl | ⟨sz, cap, hw, hl⟩⟩ := hl
      · exact absurd hl (h1 i)
      · rw [h.own i b sz cap hw hl hb j (h2 i sz cap hw hl)]; exact hc
    · rw [cell_of_blk (h.blk b hb (fun i hi => hl ⟨i, hi⟩)) j]; exact hc
  · obtain ⟨c0, h0', hg0, hle⟩ := h.freshO k b sz cap hw hb hk
    exact Nat.lt_of_lt_of_le (h2 k sz c0 h0' hg0) (Nat.mul_le_mul_right _ hle)
theorem Rep.keep {B : Nat → Nat → Prop} {G G' : Gh} {w w' : World} (h : Keep G w G' w') {d : DV} {V : Value} (hr : Rep (ImmB B G) w G d V) : Rep (ImmB B G') w' G' d V :=
  Rep.stay h.stay h.evol d V hr
theorem RepL.keep {B : Nat → Nat → Prop} {G G' : Gh} {w w' : World} (h : Keep G w G' w') {d : List DV} {V : List Value} (hr : RepL (ImmB B G) w G d V) : RepL (ImmB B G') w' G' d V :=
  RepL.stay h.stay h.evol d V hr
theorem Keep.draw (G : Gh) (w : World) (n : Nat) : Keep G w G { w with drawn := n } :=
  ⟨rfl, rfl, rfl, Nat.le_refl _, fun _ _ _ => rfl, fun _ _ _ _ _ _ _ _ _ => rfl, Evol.refl G, fun _ _ _ h => h, fun _ _ _ cap hw _ h => ⟨cap, hw, h, Nat.le_refl _⟩⟩
theorem HR.draw {B : Nat → Nat → Prop} {G : Gh} {w : World} {H : Heap} (h : HR B G w H) (n : Nat) : HR B G { w with drawn := n } H := by
  refine ⟨h.len, h.dist, fun k b g hb hg => ?_, h.bb, h.lay⟩
  have := h.blk k b g hb hg
  cases b <;> cases g <;> simp only [BlkRep] at this ⊢
  · obtain ⟨C, h1, h2, h3⟩ := this
    exact ⟨C, h1, RepL.keep (Keep.draw G w n) h2, h3⟩
  · exact this
end Go.Proofs.Ytcpgmbpndpcmdaa
namespace Go.Proofs.Ytcpgmbpndpcmdaa
open Go Go.RowKit
theorem isOne_eq (v : Value) : isOne v = v.oneCell' := by cases v <;> rfl
theorem RepL.length {I : Nat → Nat → Prop} {w : World} {G : Gh} : ∀ {ds : List DV} {vs : List Value}, RepL I w G ds vs → vs.length = ds.length
  | [], vs, h => by simp only [RepL] at h; simp [h]
  | d :: ds, vs, h => by
    simp only [RepL] at h
    obtain ⟨v, r, rfl, _, h⟩ := h
    simp [RepL.length h]
theorem RepL.get {I : Nat → Nat → Prop} {w : World} {G : Gh} : ∀ {ds : List DV} {vs : List Value}, RepL I w G ds vs → ∀ (i : Nat) (d : DV), ds[i]? = some d → ∃ v, vs[i]? = some v ∧ Rep I w G d v
  | [], vs, _, i, d, h => by simp at h
  | d :: ds, vs, h, i, x, hx => by
    simp only [RepL] at h
    obtain ⟨v, r, rfl, h1, h2⟩ := h
    cases i with
    | zero => simp at hx; subst hx; exact ⟨v, rfl, h1⟩
    | succ i => exact RepL.get h2 i x hx
theorem RepL.of {I : Nat → Nat → Prop} {w : World} {G : Gh} : ∀ {ds : List DV} {vs : List Value}, vs.length = ds.length → (∀ (i : Nat) (d : DV) (v : Value), ds[i]? = some d → vs[i]? = some v → Rep I w G d v) → RepL I w G ds vs
  | [], vs, h, _ => by simp only [RepL]; simpa using h
  | d :: ds, [], h, _ => by simp at h
  | d :: ds, v :: r, h, k => by
    simp only [RepL]
    exact ⟨v, r, rfl, k 0 d v rfl rfl, RepL.of (by simpa using h) (fun i x y hx hy => k (i + 1) x y (by simpa using hx) (by simpa using hy))⟩
theorem RepL.app {I : Nat → Nat → Prop} {w : World} {G : Gh} {ds es : List DV} {vs us : List Value} (h : RepL I w G ds vs) (k : RepL I w G es us) : RepL I w G (ds ++ es) (vs ++ us) := by
  refine RepL.of (by simp [h.length, k.length]) fun i d v hd hv => ?_
  have hl := h.length
  rcases Nat.lt_or_ge i ds.length with hi | hi
  · rw [List.getElem?_append_left hi] at hd
    rw [List.getElem?_append_left (by omega)] at hv
    obtain ⟨v', hv', hr⟩ := h.get i d hd
    rw [hv'] at hv; cases hv; exact hr
  · rw [List.getElem?_append_right hi] at hd
    rw [List.getElem?_append_right (by omega)] at hv
    obtain ⟨v', hv', hr⟩ := k.get _ d hd
    rw [← hl] at hv'
    rw [hv'] at hv; cases hv; exact hr
theorem RepL.take {I : Nat → Nat → Prop} {w : World} {G : Gh} {ds : List DV} {vs : List Value} (h : RepL I w G ds vs) (n : Nat) : RepL I w G (ds.take n) (vs.take n) := by
  refine RepL.of (by simp [h.length]) fun i d v hd hv => ?_
  rcases Nat.lt_or_ge i n with hi | hi
  · rw [List.getElem?_take_of_lt hi] at hd hv
    obtain ⟨v', hv', hr⟩ := h.get i d hd
    rw [hv'] at hv; cases hv; exact hr
  · simp [List.getElem?_take, Nat.not_lt.2 hi] at hd
theorem RepL.drop {I : Nat → Nat → Prop} {w : World} {G : Gh} {ds : List DV} {vs : List Value} (h : RepL I w G ds vs) (n : Nat) : RepL I w G (ds.drop n) (vs.drop n) := by
  refine RepL.of (by simp [h.length]) fun i d v hd hv => ?_
  rw [List.getElem?_drop] at hd hv
  obtain ⟨v', hv', hr⟩ := h.get _ d hd
  rw [hv'] at hv; cases hv; exact hr
theorem RepL.set {I : Nat → Nat → Prop} {w : World} {G : Gh} {ds : List DV} {vs : List Value} (h : RepL I w G ds vs) (t : Nat) {d : DV} {v : Value} (k : Rep I w G d v) : RepL I w G (ds.set t d) (vs.set t v) := by
  refine RepL.of (by simp [h.length]) fun i x y hx hy => ?_
  by_cases hi : t = i
  · subst hi
    have hlt : t < ds.length := by
      rcases Nat.lt_or_ge t ds.length with h | h
      · exact h
      · simp [List.getElem?_eq_none (by simpa using h : (ds.set t d).length ≤ t)] at hx
    rw [List.getElem?_set_self hlt] at hx
    rw [List.getElem?_set_self (by rw [h.length]; exact hlt)] at hy
    cases hx; cases hy; exact k
  · rw [List.getElem?_set_ne hi] at hx hy
    obtain ⟨v', hv', hr⟩ := h.get _ x hx
    rw [hv'] at hy; cases hy; exact hr
theorem RepL.getD {I : Nat → Nat → Prop} {w : World} {G : Gh} {ds : List DV} {vs : List Value} (h : RepL I w G ds vs) (t : Nat) (u : Value) : Rep I w G (ds.getD t .any) (vs.getD t u) := by
  cases hd : ds[t]? with
  | none => simp [List.getD, hd, Rep]
  | some d =>
    obtain ⟨v, hv, hr⟩ := h.get t d hd
    simpa [List.getD, hd, hv] using hr
theorem rep_leafOf {I : Nat → Nat → Prop} {w : World} {G : Gh} (v : Value) : Rep I w G (leafOf v) v := by
  unfold leafOf
  split
  · simp [Rep, TagOk]
  · simp [Rep]
theorem repL_map {I : Nat → Nat → Prop} {w : World} {G : Gh} (f : Value → DV) (hf : ∀ v, Rep I w G (f v) v) (l : List Value) : RepL I w G (l.map f) l :=
  RepL.of (by simp) fun i d v hd hv => by
    simp [hv] at hd
    subst hd; exact hf v
theorem rep_ofVal1 {I : Nat → Nat → Prop} {w : World} {G : Gh} (v : Value) : Rep I w G (ofVal1 v) v := by
  unfold ofVal1
  split
  · simp only [Rep]; exact ⟨_, rfl, repL_map _ rep_leafOf _⟩
  · exact rep_leafOf v
theorem rep_ofVal {I : Nat → Nat → Prop} {w : World} {G : Gh} (v : Value) : Rep I w G (ofVal v) v := by
  unfold ofVal
  split
  · split
    · simp [Rep]
    · simp only [Rep]; exact ⟨_, rfl, repL_map _ rep_ofVal1 _⟩
  · exact rep_ofVal1 v
def SR (I : Nat → Nat → Prop) (w : World) (G : Gh) (slots : List DV) (a : Act) : Prop := a.defers = [] ∧ RepL I w G slots a.tmps.toList
theorem SR.eval {I : Nat → Nat → Prop} {w : World} {G : Gh} {slots : List DV} {a : Act} (h : SR I w G slots a) (x : Operand) : Rep I w G (evalD slots x) (a.eval x) := by
  cases x with
  | tmp t =>
    have := h.2.getD t undef
    simpa [evalD, Act.eval] using this
  | const v => exact rep_ofVal v
  | global g => simp [evalD, Act.eval, Rep]
  | func f => simp [evalD, Act.eval, Rep]
theorem SR.put {I : Nat → Nat → Prop} {w : World} {G : Gh} {slots : List DV} {a : Act} (h : SR I w G slots a) (dst : Option Tmp) {d : DV} {v : Value} (k : Rep I w G d v) : SR I w G (putD slots dst d) (a.put dst v) := by
  cases dst with
  | none => exact h
  | some t =>
    refine ⟨h.1, ?_⟩
    have := h.2.set t k
    simpa [putD, Act.put] using this
theorem SR.keep {B : Nat → Nat → Prop} {G G' : Gh} {w w' : World} (h : Keep G w G' w') {slots : List DV} {a : Act} (k : SR (ImmB B G) w G slots a) : SR (ImmB B G') w' G' slots a := ⟨k.1, k.2.keep h⟩
theorem HR.lt {B : Nat → Nat → Prop} {G : Gh} {w : World} {H : Heap} (h : HR B G w H) {k b : Nat} (hl : liveAt G k b) : b < w.heap.size := by
  have hk : k < G.length := by
    rcases hl with hl | ⟨_, _, _, hl⟩ <;> exact (List.getElem?_eq_some_iff.1 hl).1
  have hb := List.getElem?_eq_getElem (show k < H.length by rw [h.len]; exact hk)
  rcases hl with hl | ⟨_, _, _, hl⟩
  · have := h.blk _ _ _ hb hl
    cases hB : H[k]'(by rw [h.len]; exact hk) <;> rw [hB] at this <;> simp only [BlkRep] at this
    obtain ⟨C, h1, _⟩ := this
    exact (Array.getElem?_eq_some_iff.1 h1).1
  · have := h.blk _ _ _ hb hl
    cases hB : H[k]'(by rw [h.len]; exact hk) <;> rw [hB] at this <;> simp only [BlkRep] at this
    obtain ⟨_, _, _, _, _, C, h1, _⟩ := this
    exact (Array.getElem?_eq_some_iff.1 h1).1
theorem HR.cells {B : Nat → Nat → Prop} {G : Gh} {w : World} {H : Heap} (h : HR B G w H) {k b : Nat} {e : TypeId} {cs : List DV} (hH : H[k]? = some (.cells e cs)) (hG : G[k]? = some (GK.cel b)) :
    ∃ C, w.heap[b]? = some (.cells C e (0, 0)) ∧ RepL (ImmB B G) w G cs C.toList ∧ ∀ v ∈ C.toList, isOne v = true := by
  have := h.blk _ _ _ hH hG
  simpa only [BlkRep] using this
theorem HR.ptr {B : Nat → Nat → Prop} {G : Gh} {w : World} {H : Heap} (h : HR B G w H) {k : Nat} {e : TypeId} {cs : List DV} (hH : H[k]? = some (.cells e cs)) :
    ∃ b, G[k]? = some (GK.cel b) := by
  have hk : k < H.length := (List.getElem?_eq_some_iff.1 hH).1
  have hg := List.getElem?_eq_getElem (show k < G.length by rw [← h.len]; exact hk)
  have := h.blk _ _ _ hH hg
  cases hB : G[k]'(by rw [← h.len]; exact hk) <;> rw [hB] at this <;> simp only [BlkRep] at this
  exact ⟨_, by rw [hg, hB]⟩
theorem blk_keep {B : Nat → Nat → Prop} {G G' : Gh} {w w' : World} (hK : Keep G w G' w') {x : DBlk} {g : GK} (h : BlkRep (ImmB B G) w G x g)
    (hb : ∀ b, (g = .cel b ∨ ∃ s c n, g = .own b s c n) → w'.heap[b]? = w.heap[b]?) : BlkRep (ImmB B G') w' G' x g := by
  cases x <;> cases g <;> simp only [BlkRep] at h ⊢
  · obtain ⟨C, h1, h2, h3⟩ := h
    exact ⟨C, by rw [hb _ (.inl rfl)]; exact h1, RepL.keep hK h2, h3⟩
  · obtain ⟨h0, h1, h2, h3, h4, C, h5, h6⟩ := h
    exact ⟨h0, h1, h2, h3, h4, C, by rw [hb _ (.inr ⟨_, _, _, rfl⟩)]; exact h5, h6⟩
structure But (b : Nat) (w w' : World) : Prop where
  os : w'.os = w.os
  tape : w'.tape = w.tape
  output : w'.output = w.output
  size : w'.heap.size = w.heap.size
  blk : ∀ i, i ≠ b → w'.heap[i]? = w.heap[i]?
theorem but_setRow (w : World) (b : Nat) (C : Array Value) : But b w (w.setRow b C) := by
  refine ⟨rfl, rfl, rfl, by simp [World.setRow], fun i hi => ?_⟩
  simp only [World.setRow, Array.getElem?_modify]
  rw [if_neg (by omega)]
theorem step_set {B : Nat → Nat → Prop} {G : Gh} {w w' : World} {H : Heap} (h : HR B G w H) {k b : Nat} {e : TypeId} {C' : Array Value} {cs' : List DV} (hG : G[k]? = some (GK.cel b))
    (hb : But b w w') (hC : w'.heap[b]? = some (.cells C' e (0, 0))) (hr : RepL (ImmB B G) w G cs' C'.toList) (h1 : ∀ v ∈ C'.toList, isOne v = true) :
    Keep G w G w' ∧ HR B G w' (H.set k (.cells e cs')) := by
  have hK : Keep G w G w' := by
    refine ⟨hb.os, hb.tape, hb.output, Nat.le_of_eq hb.size.symm, fun i _ hl => hb.blk i (fun e => hl k (by subst e; exact .inl hG)), fun i b' sz cap hw hg _ j _ => ?_, Evol.refl G, fun _ _ _ h => h, fun _ _ _ cap hw _ h => ⟨cap, hw, h, Nat.le_refl _⟩⟩
    refine cell_of_blk (hb.blk b' fun e => ?_) j
    subst e
    have := h.dist i k _ (.inr ⟨_, _, _, hg⟩) (.inl hG)
    subst this
    rw [hG] at hg; simp at hg
  refine ⟨hK, by simp [h.len], h.dist, fun i x g hx hg => ?_, h.bb, h.layKeep hK⟩
  by_cases hi : k = i
  · subst hi
    rw [hG] at hg
    have hlt : k < H.length := by rw [h.len]; exact (List.getElem?_eq_some_iff.1 hG).1
    rw [List.getElem?_set_self hlt] at hx
    cases hx; cases hg
    simp only [BlkRep]
    exact ⟨C', hC, RepL.keep hK hr, h1⟩
  · rw [List.getElem?_set_ne hi] at hx
    refine blk_keep hK (h.blk i x g hx hg) fun b' hb' => hb.blk b' fun e => hi ?_
    subst e
    refine h.dist k i _ (.inl hG) ?_
    rcases hb' with rfl | ⟨s, c, n, rfl⟩
    · exact .inl hg
    · exact .inr ⟨s, c, n, hg⟩
structure More (o : Obj) (w w' : World) : Prop where
  os : w'.os = w.os
  tape : w'.tape = w.tape
  output : w'.output = w.output
  heap : w'.heap = w.heap.push o
theorem More.old {o : Obj} {w w' : World} (h : More o w w') {b : Nat} (hb : b < w.heap.size) : w'.heap[b]? = w.heap[b]? := by
  rw [h.heap, Array.getElem?_push, if_neg (by omega)]
theorem More.new {o : Obj} {w w' : World} (h : More o w w') : w'.heap[w.heap.size]? = some o := by rw [h.heap]; simp
theorem More.size {o : Obj} {w w' : World} (h : More o w w') : w'.heap.size = w.heap.size + 1 := by rw [h.heap]; simp
theorem step_new {B : Nat → Nat → Prop} {G : Gh} {w w' : World} {H : Heap} (h : HR B G w H) {o : Obj} (hm : More o w w') : Keep G w G w' ∧ HR B G w' H := by
  have hK : Keep G w G w' := ⟨hm.os, hm.tape, hm.output, by rw [hm.size]; omega, fun i hi _ => hm.old hi, fun i b' sz cap hw _ hb j _ => cell_of_blk (hm.old hb) j, Evol.refl G, fun _ _ _ h => h, fun _ _ _ cap hw _ h => ⟨cap, hw, h, Nat.le_refl _⟩⟩
  refine ⟨hK, h.len, h.dist, fun i x g hx hg => blk_keep hK (h.blk i x g hx hg) fun b' hb' => hm.old (h.lt (k := i) ?_), h.bb, h.layKeep hK⟩
  rcases hb' with rfl | ⟨s, c, n, rfl⟩
  · exact .inl hg
  · exact .inr ⟨s, c, n, hg⟩
theorem evol_set {G : Gh} {k : Nat} {g g' : GK} (hg : G[k]? = some g) (he : evol g g') : Evol G (G.set k g') := fun i x hx => by
  by_cases hi : k = i
  · subst hi
    rw [hg] at hx; cases hx
    exact ⟨g', List.getElem?_set_self (List.getElem?_eq_some_iff.1 hg).1, he⟩
  · exact ⟨x, by rw [List.getElem?_set_ne hi]; exact hx, evol_refl x⟩
theorem get_set {α : Type} {G : List α} {k i : Nat} {g g' : α} (h : (G.set k g')[i]? = some g) : (i = k ∧ g = g' ∧ k < G.length) ∨ (i ≠ k ∧ G[i]? = some g) := by
  by_cases hi : k = i
  · subst hi
    have hlt : k < G.length := by
      rcases Nat.lt_or_ge k G.length with h' | h'
      · exact h'
      · simp [List.getElem?_eq_none (by simpa using h' : (G.set k g').length ≤ k)] at h
    rw [List.getElem?_set_self hlt] at h
    exact .inl ⟨rfl, by cases h; rfl, hlt⟩
  · rw [List.getElem?_set_ne hi] at h
    exact .inr ⟨fun e => hi e.symm, h⟩
theorem step_fill {B : Nat → Nat → Prop} {G : Gh} {w w' : World} {H : Heap} (h : HR B G w H) {k : Nat} {e : TypeId} {C : Array Value} {cs : List DV} (hG : G[k]? = some GK.hole) (hB : ∀ b j, w.heap.size ≤ b → B b j)
    (hm : More (.cells C e (0, 0)) w w') (hr : RepL (ImmB B G) w G cs C.toList) (h1 : ∀ v ∈ C.toList, isOne v = true) :
    Keep G w (G.set k (.cel w.heap.size)) w' ∧ HR B (G.set k (.cel w.heap.size)) w' (H.set k (.cells e cs)) := by
  have hk : k < G.length := (List.getElem?_eq_some_iff.1 hG).1
  have hK : Keep G w (G.set k (.cel w.heap.size)) w' := by
    refine ⟨hm.os, hm.tape, hm.output, by rw [hm.size]; omega, fun i hi _ => hm.old hi, fun i b' sz cap hw _ hb j _ => cell_of_blk (hm.old hb) j, evol_set hG trivial, fun i b hb hg => ?_, fun i b sz cap hw hb hg => ?_⟩
    · rcases get_set hg with ⟨_, e, _⟩ | ⟨_, hg⟩
      · injection e with e; omega
      · exact hg
    · rcases get_set hg with ⟨_, e, _⟩ | ⟨_, hg⟩
      · cases e
      · exact ⟨cap, hw, hg, Nat.le_refl _⟩
  have key : ∀ b j, liveAt (G.set k (.cel w.heap.size)) j b → (j = k ∧ b = w.heap.size) ∨ (liveAt G j b) := by
    rintro b j (hj | ⟨sz, cap, hw, hj⟩)
    · rcases get_set hj with ⟨rfl, e, _⟩ | ⟨_, hj⟩
      · injection e with e; exact .inl ⟨rfl, e⟩
      · exact .inr (.inl hj)
    · rcases get_set hj with ⟨rfl, e, _⟩ | ⟨_, hj⟩
      · cases e
      · exact .inr (.inr ⟨sz, cap, hw, hj⟩)
  refine ⟨hK, by simp [h.len], fun i i' b hi hi' => ?_, fun i x g hx hg => ?_, fun i b hi j => by rcases key b i hi with ⟨_, rfl⟩ | hi'; exact hB _ _ (Nat.le_refl _); exact h.bb i b hi' j, h.layKeep hK⟩
  · replace key := key b
    rcases key i hi with ⟨rfl, rfl⟩ | hi1 <;> rcases key i' hi' with ⟨rfl, h2⟩ | hi2
    · rfl
    · have := h.lt hi2; omega
    · have := h.lt hi1; omega
    · exact h.dist i i' b hi1 hi2
  · rcases get_set hg with ⟨rfl, rfl, _⟩ | ⟨hne, hg⟩
    · rw [List.getElem?_set_self (by rw [h.len]; exact hk)] at hx
      cases hx
      simp only [BlkRep]
      exact ⟨C, hm.new, RepL.keep hK hr, h1⟩
    · rw [List.getElem?_set_ne (Ne.symm hne)] at hx
      refine blk_keep hK (h.blk i x g hx hg) fun b' hb' => hm.old (h.lt (k := i) ?_)
      rcases hb' with rfl | ⟨s, c, n, rfl⟩
      · exact .inl hg
      · exact .inr ⟨s, c, n, hg⟩
theorem get_push {α : Type} {G : List α} {i : Nat} {g g' : α} (h : (G ++ [g'])[i]? = some g) : (i = G.length ∧ g = g') ∨ (i < G.length ∧ G[i]? = some g) := by
  rcases Nat.lt_or_ge i G.length with hi | hi
  · rw [List.getElem?_append_left hi] at h; exact .inr ⟨hi, h⟩
  · rw [List.getElem?_append_right hi] at h
    have : i - G.length = 0 := by
      rcases Nat.eq_zero_or_pos (i - G.length) with h0 | h0
      · exact h0
      · rw [List.getElem?_eq_none (by simp; omega)] at h; cases h
    rw [this] at h
    exact .inl ⟨by omega, by simpa using h.symm⟩
theorem step_token {B : Nat → Nat → Prop} {G : Gh} {w w' : World} {H : Heap} (h : HR B G w H) {e : TypeId} {C : Array Value} {sz n cap : Nat}
    (hB : ∀ b j, w.heap.size ≤ b → B b j) (hm : More (.cells C e (0, 0)) w w') (h1 : n ≤ cap) (h2 : 0 < sz) (h3 : n ≤ 140737488355328) (h4 : C.size = cap * sz) :
    Keep G w (G ++ [.own w.heap.size sz cap n]) w' ∧ HR B (G ++ [.own w.heap.size sz cap n]) w' (H ++ [.token e sz n]) := by
  have hK : Keep G w (G ++ [.own w.heap.size sz cap n]) w' := by
    refine ⟨hm.os, hm.tape, hm.output, by rw [hm.size]; omega, fun i hi _ => hm.old hi, fun i b' sz cap hw _ hb j _ => cell_of_blk (hm.old hb) j, fun i g hg => ⟨g, by rw [List.getElem?_append_left (List.getElem?_eq_some_iff.1 hg).1]; exact hg, evol_refl g⟩, fun i b hb hg => ?_, fun i b sz' cap' hw hb hg => ?_⟩
    · rcases get_push hg with ⟨_, e⟩ | ⟨_, hg⟩
      · cases e
      · exact hg
    · rcases get_push hg with ⟨_, e⟩ | ⟨_, hg⟩
      · injection e with e; omega
      · exact ⟨cap', hw, hg, Nat.le_refl _⟩
  have key : ∀ b j, liveAt (G ++ [.own w.heap.size sz cap n]) j b → (j = G.length ∧ b = w.heap.size) ∨ (liveAt G j b) := by
    rintro b j (hj | ⟨sz', cap', hw, hj⟩)
    · rcases get_push hj with ⟨_, e⟩ | ⟨_, hj⟩
      · cases e
      · exact .inr (.inl hj)
    · rcases get_push hj with ⟨h0, e⟩ | ⟨_, hj⟩
      · injection e with e; exact .inl ⟨h0, e⟩
      · exact .inr (.inr ⟨sz', cap', hw, hj⟩)
  refine ⟨hK, by simp [h.len], fun i i' b hi hi' => ?_, fun i x g hx hg => ?_, fun i b hi j => by rcases key b i hi with ⟨_, rfl⟩ | hi'; exact hB _ _ (Nat.le_refl _); exact h.bb i b hi' j, h.layKeep hK⟩
  · replace key := key b
    rcases key i hi with ⟨h1, rfl⟩ | hi1 <;> rcases key i' hi' with ⟨h2, h3⟩ | hi2
    · omega
    · have := h.lt hi2; omega
    · have := h.lt hi1; omega
    · exact h.dist i i' b hi1 hi2
  · rcases get_push hg with ⟨h0, rfl⟩ | ⟨hlt, hg⟩
    · rw [h0, ← h.len, List.getElem?_append_right (Nat.le_refl _)] at hx
      simp at hx
      subst hx
      simp only [BlkRep]
      exact ⟨trivial, trivial, h1, h2, h3, C, hm.new, h4⟩
    · rw [List.getElem?_append_left (by rw [h.len]; exact hlt)] at hx
      refine blk_keep hK (h.blk i x g hx hg) fun b' hb' => hm.old (h.lt (k := i) ?_)
      rcases hb' with rfl | ⟨s, c, n, rfl⟩
      · exact .inl hg
      · exact .inr ⟨s, c, n, hg⟩
theorem step_grow {B : Nat → Nat → Prop} {G : Gh} {w w' : World} {H : Heap} (h : HR B G w H) {k b sz cap n b' cap' n' : Nat} {e : TypeId} {C' : Array Value} (hG : G[k]? = some (GK.own b sz cap n)) (hB : ∀ b j, w.heap.size ≤ b → B b j)
    (hn : n < n') (h1 : n' ≤ cap') (h2 : 0 < sz) (h3 : n' ≤ 140737488355328) (hC : w'.heap[b']? = some (.cells C' e (0, 0))) (h4 : C'.size = cap' * sz)
    (hw : (b' = b ∧ But b w w' ∧ ∀ j, j < n * sz → w'.cell? ⟨b, j, none⟩ = w.cell? ⟨b, j, none⟩) ∨ (b' = w.heap.size ∧ More (.cells C' e (0, 0)) w w')) :
    Keep G w (G.set k (.own b' sz cap' n')) w' ∧ HR B (G.set k (.own b' sz cap' n')) w' (H.set k (.token e sz n')) := by
  have hk : k < G.length := (List.getElem?_eq_some_iff.1 hG).1
  have hb := h.lt (.inr ⟨_, _, _, hG⟩ : liveAt G k b)
  have hsz : w.heap.size ≤ w'.heap.size := by
    rcases hw with ⟨_, hw, _⟩ | ⟨_, hw⟩
    · exact Nat.le_of_eq hw.size.symm
    · rw [hw.size]; omega
  have hold : ∀ i, i < w.heap.size → i ≠ b → w'.heap[i]? = w.heap[i]? := by
    intro i hi hne
    rcases hw with ⟨_, hw, _⟩ | ⟨_, hw⟩
    · exact hw.blk i hne
    · exact hw.old hi
  have hK : Keep G w (G.set k (.own b' sz cap' n')) w' := by
    refine ⟨by rcases hw with ⟨_, hw, _⟩ | ⟨_, hw⟩ <;> exact hw.os, by rcases hw with ⟨_, hw, _⟩ | ⟨_, hw⟩ <;> exact hw.tape, by rcases hw with ⟨_, hw, _⟩ | ⟨_, hw⟩ <;> exact hw.output, hsz,
      fun i hi hl => hold i hi (fun e => hl k (by subst e; exact .inr ⟨_, _, _, hG⟩)), fun i b2 sz2 cap2 hw2 hg hlt j hj => ?_, evol_set hG ⟨b', cap', n', rfl, by omega, fun e => by omega⟩, fun i b2 hb2 hg => ?_, fun i b2 sz2 cap2 hw2 hb2 hg => ?_⟩
    · by_cases e : b2 = b
      · subst e
        have := h.dist i k b2 (.inr ⟨_, _, _, hg⟩) (.inr ⟨_, _, _, hG⟩)
        subst this
        rw [hG] at hg; cases hg
        rcases hw with ⟨_, _, hw⟩ | ⟨_, hw⟩
        · exact hw j hj
        · exact cell_of_blk (hw.old hb) j
      · exact cell_of_blk (hold b2 hlt e) j
    · rcases get_set hg with ⟨_, e, _⟩ | ⟨_, hg⟩
      · cases e
      · exact hg
    · rcases get_set hg with ⟨rfl, e, _⟩ | ⟨_, hg⟩
      · injection e with e1 e2 e3 e4
        subst e1 e2 e3 e4
        rcases hw with ⟨rfl, _⟩ | ⟨rfl, _⟩
        · exact ⟨cap, n, hG, by omega⟩
        · omega
      · exact ⟨cap2, hw2, hg, Nat.le_refl _⟩
  have key : ∀ b2 j, liveAt (G.set k (.own b' sz cap' n')) j b2 → (j = k ∧ b2 = b') ∨ (j ≠ k ∧ liveAt G j b2) := by
    rintro b2 j (hj | ⟨sz2, cap2, hw2, hj⟩)
    · rcases get_set hj with ⟨_, e, _⟩ | ⟨h0, hj⟩
      · cases e
      · exact .inr ⟨h0, .inl hj⟩
    · rcases get_set hj with ⟨rfl, e, _⟩ | ⟨h0, hj⟩
      · injection e with e; exact .inl ⟨rfl, e⟩
      · exact .inr ⟨h0, .inr ⟨sz2, cap2, hw2, hj⟩⟩
  refine ⟨hK, by simp [h.len], fun i i' b2 hi hi' => ?_, fun i x g hx hg => ?_, fun i b2 hi j => ?_, h.layKeep hK⟩
  rotate_right
  · rcases key b2 i hi with ⟨_, rfl⟩ | ⟨_, hi'⟩
    · rcases hw with ⟨rfl, _⟩ | ⟨rfl, _⟩
      · exact h.bb k _ (.inr ⟨_, _, _, hG⟩) j
      · exact hB _ _ (Nat.le_refl _)
    · exact h.bb i b2 hi' j
  · replace key := key b2
    have no : ∀ j, j ≠ k → liveAt G j b' → False := by
      intro j hj hl
      rcases hw with ⟨rfl, _⟩ | ⟨rfl, _⟩
      · exact hj (h.dist j k _ hl (.inr ⟨_, _, _, hG⟩))
      · have := h.lt hl; omega
    rcases key i hi with ⟨rfl, rfl⟩ | ⟨hne, hi1⟩ <;> rcases key i' hi' with ⟨rfl, h2⟩ | ⟨hne', hi2⟩
    · rfl
    · exact (no _ hne' hi2).elim
    · subst h2; exact (no _ hne hi1).elim
    · exact h.dist i i' b2 hi1 hi2
  · rcases get_set hg with ⟨rfl, rfl, _⟩ | ⟨hne, hg⟩
    · rw [List.getElem?_set_self (by rw [h.len]; exact hk)] at hx
      cases hx
      simp only [BlkRep]
      exact ⟨trivial, trivial, h1, h2, h3, C', hC, h4⟩
    · rw [List.getElem?_set_ne (Ne.symm hne)] at hx
      refine blk_keep hK (h.blk i x g hx hg) fun b2 hb2 => ?_
      have hl : liveAt G i b2 := by
        rcases hb2 with rfl | ⟨s, c, n, rfl⟩
        · exact .inl hg
        · exact .inr ⟨s, c, n, hg⟩
      exact hold b2 (h.lt hl) fun e => hne (h.dist i k b2 hl (by subst e; exact .inr ⟨_, _, _, hG⟩))
end Go.Proofs.Ytcpgmbpndpcmdaa
namespace Go.Proofs.Ytcpgmbpndpcmdaa
open Go Go.RowKit
variable {P : Program}
theorem pureRun_run {α : Type} (s : Sem α) : ∀ (x : α), pureRun P s = some x → ∀ w, s.run P w = .ok x w := by
  induction s with
  | pure a => intro x h w; simp only [pureRun] at h; cases h; rfl
  | program k ih => intro x h w; simp only [pureRun] at h; exact ih P x h w
  | mark m k ih => intro x h w; simp only [pureRun] at h; exact ih x h w
  | _ => intro x h w; simp [pureRun] at h
theorem pureV_run {s : Sem Value} {d : DV} (h : pureV P s = some d) : ∃ v, d = ofVal v ∧ ∀ w, s.run P w = .ok v w := by
  unfold pureV at h
  cases hs : pureRun P s with
  | none => simp [hs] at h
  | some v => simp [hs] at h; exact ⟨v, h.symm, fun w => pureRun_run s v hs w⟩
theorem mapO_some {α β : Type} {f : α → Option β} : ∀ {l : List α} {r : List β}, mapO f l = some r → r.length = l.length ∧ ∀ (i : Nat) (x : α), l[i]? = some x → ∃ y, r[i]? = some y ∧ f x = some y
  | [], r, h => by simp only [mapO] at h; cases h; simp
  | x :: l, r, h => by
    simp only [mapO] at h
    split at h
    · rename_i y hy
      split at h
      · rename_i r' hr
        cases h
        obtain ⟨h1, h2⟩ := mapO_some hr
        refine ⟨by simp [h1], fun i z hz => ?_⟩
        cases i with
        | zero => simp at hz; subst hz; exact ⟨y, rfl, hy⟩
        | succ i => simpa using h2 i z (by simpa using hz)
      · cases h
    · cases h
section
variable {I : Nat → Nat → Prop} {w : World} {G : Gh}
theorem rep_flatV {d : DV} {v V : Value} (h : flatV d = some v) (k : Rep I w G d V) : V = v := by
  unfold flatV at h
  split at h
  · cases h; simpa only [Rep] using k
  · cases h
theorem rep_toVal {d : DV} {v V : Value} (h : toVal d = some v) (k : Rep I w G d V) : V = v := by
  unfold toVal at h
  split at h
  · cases h; simpa only [Rep] using k
  · rename_i cs
    cases hm : mapO flatV cs with
    | none => simp [hm] at h
    | some vs =>
      simp [hm] at h
      subst h
      simp only [Rep] at k
      obtain ⟨us, rfl, k⟩ := k
      congr 1
      apply Array.ext'
      obtain ⟨h1, h2⟩ := mapO_some hm
      refine List.ext_getElem? fun i => ?_
      cases hc : cs[i]? with
      | none =>
        have := List.getElem?_eq_none_iff.1 hc
        rw [List.getElem?_eq_none (by rw [k.length]; exact this), List.getElem?_eq_none (by simp [h1]; exact this)]
      | some d =>
        obtain ⟨v, hv, hr⟩ := k.get i d hc
        obtain ⟨y, hy, hf⟩ := h2 i d hc
        rw [hv]; simp only [hy]
        rw [rep_flatV hf hr]
  · cases h
theorem Rep.nil {d : DV} {V : Value} (h : Rep I w [] d V) : Rep I w G d V := Rep.stay (fun _ _ _ hi hc => ⟨hc, hi⟩) (Evol.nil G) d V h
theorem RepL.nil' {d : List DV} {V : List Value} (h : RepL I w [] d V) : RepL I w G d V := RepL.stay (fun _ _ _ hi hc => ⟨hc, hi⟩) (Evol.nil G) d V h
theorem rep_leaf {d : DV} {V : Value} (h : d.leaf = true) (k : Rep I w G d V) : isOne V = true := by
  cases d with
  | flat v => simp only [Rep] at k; subst k; exact h
  | list sz xs t => simp only [Rep] at k; obtain ⟨A, c, rfl, _⟩ := k; rfl
  | ptr k' off => simp only [Rep] at k; obtain ⟨b, _, rfl⟩ := k; rfl
  | row ag sz k' off n c => simp only [Rep] at k; obtain ⟨b, _, rfl⟩ := k; rfl
  | elem x off => simp only [Rep] at k; obtain ⟨_, b, o, E, rfl, _⟩ := k; rfl
  | clo fn f c => simp only [Rep] at k; obtain ⟨f, c, rfl, _⟩ := k; rfl
  | iface t d => simp only [Rep] at k; obtain ⟨v, rfl, _⟩ := k; rfl
  | any => simp [DV.leaf] at h
  | agg cs => simp [DV.leaf] at h
  | tup cs => simp [DV.leaf] at h
theorem isOne_cells {V : Value} (h : isOne V = true) : V.cells = #[V] := by cases V <;> simp_all [isOne, Value.cells]
theorem rep_cells {d : DV} {V : Value} (h : d.cells.all DV.leaf = true) (k : Rep I w G d V) : RepL I w G d.cells V.cells.toList ∧ ∀ v ∈ V.cells.toList, isOne v = true := by
  have key : ∀ d : DV, d.leaf = true → d.cells = [d] → Rep I w G d V → RepL I w G d.cells V.cells.toList ∧ ∀ v ∈ V.cells.toList, isOne v = true := by
    intro d hl hc k
    have h1 := rep_leaf hl k
    rw [hc, isOne_cells h1]
    refine ⟨?_, by simpa using h1⟩
    simp only [RepL]
    exact ⟨V, [], rfl, k, rfl⟩
  cases d with
  | agg cs =>
    simp only [Rep] at k
    obtain ⟨vs, rfl, k⟩ := k
    refine ⟨k, fun v hv => ?_⟩
    obtain ⟨i, hi⟩ := List.mem_iff_getElem?.1 hv
    have hlt : i < cs.length := by rw [← k.length]; exact (List.getElem?_eq_some_iff.1 hi).1
    obtain ⟨v', hv', hr⟩ := k.get i _ (List.getElem?_eq_getElem hlt)
    simp only [Value.cells] at hi
    rw [hv'] at hi; cases hi
    refine rep_leaf ?_ hr
    simp only [DV.cells, List.all_eq_true] at h
    exact h _ (List.getElem_mem hlt)
  | any => simp [DV.cells, DV.leaf] at h
  | tup cs => simp [DV.cells, DV.leaf] at h
  | flat v => exact key _ (by simpa [DV.cells] using h) rfl k
  | list sz xs t => exact key _ rfl rfl k
  | ptr k' off => exact key _ rfl rfl k
  | row ag sz k' off n c => exact key _ rfl rfl k
  | elem x off => exact key _ rfl rfl k
  | clo fn f c => exact key _ rfl rfl k
  | iface t d => exact key _ rfl rfl k
end
def OpOk (P : Program) (B : Nat → Nat → Prop) (G : Gh) (w : World) (Hr : Heap) (o : Oper) (a : Act) (d : DV) (e : Eff) : Prop :=
  ∀ (K : Act → World → Prop) (Q : Exit → Act → World → Prop),
    (∀ V w' G', Keep G w G' w' → HR B G' w' (e.heap Hr) → Rep (ImmB B G') w' G' d V → K (a.put o.dst V) w') → o.wp P a w K Q
section
variable {B : Nat → Nat → Prop} {G G' : Gh} {w w' : World} {Hr : Heap} {o : Oper} {a : Act} {d : DV} {e : Eff} {V : Value}
theorem OpOk.val (hrun : (execOp a.eval o).run P w = .ok (.value V) w') (hK : Keep G w G' w') (hH : HR B G' w' (e.heap Hr)) (hd : Rep (ImmB B G') w' G' d V) : OpOk P B G w Hr o a d e := by
  intro K Q h
  unfold Oper.wp
  rw [hrun]
  exact h V w' G' hK hH hd
theorem OpOk.skip (hrun : (execOp a.eval o).run P w = .ok .skip w') (hK : Keep G w G' w') (hH : HR B G' w' (e.heap Hr)) : OpOk P B G w Hr o a (.flat undef) e := by
  intro K Q h
  unfold Oper.wp
  rw [hrun]
  exact h undef w' G' hK hH (by simp [Rep])
theorem OpOk.still (hH : HR B G w Hr) (hrun : (execOp a.eval o).run P w = .ok (.value V) w) (hd : Rep (ImmB B G) w G d V) (he : e.heap Hr = Hr) : OpOk P B G w Hr o a d e :=
  OpOk.val hrun (Keep.refl G w) (he.symm ▸ hH) hd
end
theorem qv_some {x : Option DV} {d : DV} {e : Eff} (h : qv x = some (d, e)) : x = some d ∧ e = .q := by
  unfold qv at h
  cases x with
  | none => simp at h
  | some y => simp at h; exact ⟨by rw [h.1], h.2.symm⟩
theorem rv_some {x : Option DV} {d : DV} {e : Eff} (h : rv x = some (d, e)) : x = some d ∧ e = .rd := by
  unfold rv at h
  cases x with
  | none => simp at h
  | some y => simp at h; exact ⟨by rw [h.1], h.2.symm⟩
theorem aggSz_some {t : TypeId} {ag : Bool} {sz : Nat} (h : aggSz P t = some (ag, sz)) : ∃ i, P.info? t = some i ∧ i.size = sz ∧ ∀ w, (isAgg t).run P w = .ok ag w := by
  unfold aggSz at h
  split at h
  · rename_i d i hu hi
    injection h with h
    injection h with h1 h2
    refine ⟨i, hi, h2, fun w => ?_⟩
    unfold isAgg
    simp only [Sem.run_bind, run_underlying hu, Result.andThen_ok]
    cases d <;> simp_all
  · cases h
theorem size_run {t : TypeId} {i : TypeInfo} (h : P.info? t = some i) (w : World) : (sizeOf t).run P w = .ok i.size w := by
  simp [sizeOf, run_typeInfo w h]
theorem zeroD_some {t : TypeId} {d : DV} (h : zeroD P t = some d) : ∃ z, d = ofVal1 z ∧ ∀ w, (zeroValue t).run P w = .ok z w := by
  unfold zeroD at h
  cases hi : P.info? t with
  | none => simp [hi] at h
  | some i =>
    simp only [hi, Option.bind_some] at h
    cases hz : i.zero with
    | none => simp [hz] at h
    | some z =>
      simp [hz] at h
      exact ⟨z, h.symm, fun w => by simp [zeroValue, run_typeInfo w hi, hz]⟩
theorem addr_at (b o j : Nat) : (⟨b, o, none⟩ : Addr).add j = ⟨b, o + j, none⟩ := by
  unfold Addr.add; split <;> simp_all
theorem loadCells_run {w : World} {b o n : Nat} {vs : List Value} (hn : vs.length = n) (h : ∀ (j : Nat) (v : Value), vs[j]? = some v → w.cell? ⟨b, o + j, none⟩ = some v) : (loadCells ⟨b, o, none⟩ n).run P w = .ok vs.toArray w := by
  subst hn
  exact run_loadCells_list w _ vs fun j v hj => by rw [addr_at]; exact h j v hj
theorem loadVar_run {w : World} {I : Nat → Nat → Prop} {G : Gh} {t : TypeId} {ag : Bool} {sz b o off : Nat} {cs : List DV} {vs : List Value} {d : DV} (ht : aggSz P t = some (ag, sz))
    (hr : RepL I w G cs vs) (hc : ∀ (j : Nat) (v : Value), vs[j]? = some v → w.cell? ⟨b, o + j, none⟩ = some v) (hp : partD ag sz off cs = some d) :
    ∃ V, (loadVar t ⟨b, o + off, none⟩).run P w = .ok V w ∧ Rep I w G d V := by
  obtain ⟨i, hi, rfl, hag⟩ := aggSz_some ht
  unfold loadVar
  simp only [Sem.run_bind, hag, Result.andThen_ok]
  cases ag with
  | false =>
    simp only [partD, Bool.false_eq_true, if_false] at hp ⊢
    obtain ⟨v, hv, hd⟩ := hr.get off d hp
    refine ⟨v, ?_, hd⟩
    have := hc off v hv
    simp [this]
  | true =>
    simp only [partD, if_true] at hp ⊢
    split at hp
    · rename_i hle
      cases hp
      simp only [Sem.run_bind, size_run hi, Result.andThen_ok]
      rw [loadCells_run (vs := (vs.drop off).take i.size) (by simp [hr.length]; omega)]
      · refine ⟨_, rfl, ?_⟩
        simp only [Rep]
        exact ⟨_, rfl, by simpa using (hr.drop off).take i.size⟩
      · intro j v hj
        have : vs[off + j]? = some v := by
          rw [List.getElem?_take] at hj
          split at hj
          · rwa [List.getElem?_drop] at hj
          · cases hj
        rw [Nat.add_assoc]
        exact hc _ v this
    · cases hp
theorem cells_at {w : World} {b : Nat} {C : Array Value} {e : TypeId} {f : Nat × Nat} (h : w.heap[b]? = some (.cells C e f)) (j : Nat) (v : Value) (hv : C.toList[j]? = some v) : w.cell? ⟨b, 0 + j, none⟩ = some v := by
  simp only [World.cell?, h, Nat.zero_add]
  simpa using hv
def Agree (e : Eff) (H Hr : Heap) : Prop :=
  match e with
  | .q => True
  | .rd => ∀ (k : Nat) (t : TypeId) (cs : List DV), H[k]? = some (.cells t cs) → Hr[k]? = some (.cells t cs) ∨ Hr[k]? = some .hole
  | .ro => Hr = H
  | .ch _ => Hr = H
  | .tk _ => Hr = H
  | .al k _ => Hr[k]? = some .hole
theorem Agree.refl_rd (H : Heap) : Agree .rd H H := fun _ _ _ h => .inl h
end Go.Proofs.Ytcpgmbpndpcmdaa
