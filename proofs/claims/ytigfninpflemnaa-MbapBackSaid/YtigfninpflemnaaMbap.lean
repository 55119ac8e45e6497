/- Layer 4 (mbap): what each function of the program computes. -/
import Derived.Test.YtigfninpflemnaaMem
import Derived.Test.YtigfninpflemnaaWord
import Derived.WalkSpells
import Derived.Deep.DeepCutAuto
import Derived.Deep.CutRange
namespace Go.Proofs.Ytigfninpflemnaa
open Go.RowKit

/-- a frame -/
structure Fr where
  tid : UInt16
  unit : UInt8
  pdu : List UInt8
  deriving DecidableEq
def RdF (w : World) (v : Value) (f : Fr) : Prop := ∃ vp, v = .agg #[.int .u16 (f.tid.toNat : Int), .int .u8 (f.unit.toNat : Int), vp] ∧ RdV encB w vp f.pdu
theorem RdF.below {w w' : World} {v : Value} {f : Fr} (h : RdF w v f) (hb : Below w.heap.size w w') : RdF w' v f := by
  obtain ⟨vp, rfl, h⟩ := h; exact ⟨vp, rfl, h.below hb⟩
theorem RdF.drewN {w : World} {v : Value} {f : Fr} (h : RdF w v f) (n : Nat) : RdF (w.drewN n) v f := by
  obtain ⟨vp, rfl, h⟩ := h; exact ⟨vp, rfl, h.drewN n⟩
/-- the word at a place -/
def numAt (l : List UInt8) (i : Nat) : Nat := 256 * (l.getD i 0).toNat + (l.getD (i + 1) 0).toNat
theorem numAt_lt (l : List UInt8) (i : Nat) : numAt l i < 65536 := by
  have := (l.getD i 0).toNat_lt; have := (l.getD (i + 1) 0).toNat_lt; unfold numAt; omega
theorem wWords_at (l : List UInt8) (i : Nat) (h : i + 2 ≤ l.length) : ∃ x, wWords ((l.drop i).take 2) = [x] ∧ x.toNat = numAt l i := by
  have e1 : (l.drop i).take 2 = [l[i], l[i + 1]] := by
    rw [List.drop_eq_getElem_cons (by omega), List.drop_eq_getElem_cons (by omega)]; rfl
  rw [e1]
  refine ⟨mkW l[i] l[i + 1], rfl, ?_⟩
  rw [mkW_nat]; unfold numAt
  simp [List.getD, List.getElem?_eq_getElem (by omega : i < l.length), List.getElem?_eq_getElem (by omega : i + 1 < l.length)]

set_option maxHeartbeats 400000 in
theorem number_no (v : Value) (l : List UInt8) (i : Nat) (w : World) (h : RdV encB w v l) (hn : l.length < i + 2) (hi : i ≤ 1000) :
    Calls Try.prog 71 #[v, .int .i64 (i : Int)] w fun e w' => e = .returned (.tuple #[.int .i64 0, .bool false]) ∧ w = w' := by
  obtain ⟨a, c, rfl, hc, hm, _⟩ := h.open
  go_enter Try.func71, Try.ntmps71
  go_wp2
  go_ret2
  exact ⟨rfl, rfl⟩
set_option maxHeartbeats 400000 in
theorem number_yes (v : Value) (l : List UInt8) (i : Nat) (w : World) (h : RdV encB w v l) (hn : i + 2 ≤ l.length) (hi : i ≤ 1000) :
    Calls Try.prog 71 #[v, .int .i64 (i : Int)] w fun e w' => e = .returned (.tuple #[.int .i64 (numAt l i : Int), .bool true]) ∧ Below w.heap.size w w' := by
  obtain ⟨a, c, rfl, hc, hm, hcl⟩ := h.open
  obtain ⟨b, o, rfl, _⟩ := hcl.resolve_left (by omega)
  have hlt := numAt_lt l i
  have hrd := Lib.hid (h.cut i 2 (c - i) (some ⟨b, o + i, none⟩) (.inl (by simp [addr_add])) hn (by omega))
  obtain ⟨x, hx, hxn⟩ := wWords_at l i hn
  have hx := Lib.hid hx
  have hxn := Lib.hid hxn
  clear hcl h
  go_enter Try.func71, Try.ntmps71
  go_wp2_with fail
  refine (word_Words_yes _ ((l.drop i).take 2) _ ?_ (by simp; omega) (by simp; omega)).mono ?_
  · exact hrd.out
  rintro e w1 ⟨x1, rfl, ho, hB⟩
  rw [hx.out] at ho
  obtain ⟨b1, o1, c1, rfl, hc1⟩ := ho.rd.each (by simp)
  have k1 := hc1 0 (by simp)
  rw [List.getElem_cons_zero, encW, hxn.out, Nat.add_zero] at k1
  clear hc1 ho
  go_wp2
  go_ret2
  exact ⟨rfl, hB⟩
theorem data_same (x y : List UInt8) : ((⟨x.toArray⟩ : ByteArray).toList == (⟨y.toArray⟩ : ByteArray).toList) = decide (x = y) := by
  rw [Bool.eq_iff_iff]
  simp [ByteArray.toList_eq]
set_option maxHeartbeats 400000 in
theorem bytes_Equal (v1 v2 : Value) (l1 l2 : List UInt8) (w : World) (h1 : RdV encB w v1 l1) (h2 : RdV encB w v2 l2) :
    Calls Try.prog 73 #[v1, v2] w fun e w' => e = .returned (.bool (decide (l1 = l2))) ∧ w = w' := by
  have k1 := run_str (P := Try.prog) 23 9 5 Try.underlying23 Try.underlying5 Try.underlying9 h1
  have k2 := run_str (P := Try.prog) 23 9 5 Try.underlying23 Try.underlying5 Try.underlying9 h2
  have k3 := data_same l1 l2
  have k4 : (l1 == l2) = decide (l1 = l2) := by rw [Bool.eq_iff_iff]; simp
  go_enter Try.func73, Try.ntmps73
  go_wp2
  go_ret
  exact ⟨rfl, rfl⟩
set_option maxRecDepth 100000 in
set_option maxHeartbeats 400000 in
theorem bytes_Clone (v : Value) (l : List UInt8) (w : World) (h : RdV encB w v l) (h0 : 0 < l.length) (hl : l.length ≤ 100000) :
    Calls Try.prog 72 #[v] w fun e w' => ∃ v', e = .returned v' ∧ Own encB 5 w' w.heap.size v' l ∧ Below w.heap.size w w' := by
  obtain ⟨a, c, rfl, hc, hm, hcl⟩ := h.open
  obtain ⟨b, o, rfl, _⟩ := hcl.resolve_left (by omega)
  have hs := Lib.hid h
  have kn : ∀ W, (binOp .eql 23 (.slice (some ⟨b, o, none⟩) l.length c) (.slice none 0 0)).run Try.prog W = .ok (.bool false) W := fun W => Lib.run_eql_slice_nil W _ _ _ _ _ _ _ Try.underlying23
  clear hcl h
  go_enter Try.func72, Try.ntmps72
  go_wp2_with (at_builtin; refine wp_app (enc := encB) (l := []) (m := l) encB_one rfl (.tmp 5) (.tmp 6) _ rfl _ _ _ Try.underlying23 infoB rfl w.heap.size _ rfl ?a1 _ rfl ?a2 ?a3 (by omega) ?a5 ?a4)
  case a1 => exact Own.lit encB _ _ _ (Nat.le_refl _) [] _ _ rfl (by simp) rfl
  case a2 => exact hs.out.alloc _
  case a3 => simp; omega
  case a5 => simp
  case a4 =>
    intro v2 w2 ho2 hg2
    have hB' := ((Below.refl w.heap.size w).alloc (Nat.le_refl _) _).grown hg2 (by simp) (by simp [Value.ownBlock])
    go_wp2
    go_ret
    exact ⟨v2, rfl, ho2, hB'⟩
set_option maxHeartbeats 800000 in
theorem mbap_Same (v1 v2 : Value) (x y : Fr) (w : World) (h1 : RdF w v1 x) (h2 : RdF w v2 y) :
    Calls Try.prog 58 #[v1, v2] w fun e w' => e = .returned (.bool (decide (x = y))) ∧ Below w.heap.size w w' := by
  obtain ⟨p1, rfl, r1⟩ := h1
  obtain ⟨p2, rfl, r2⟩ := h2
  obtain ⟨xt, xu, xp⟩ := x
  obtain ⟨yt, yu, yp⟩ := y
  simp only [] at r1 r2 ⊢
  by_cases ht : xt = yt
  · subst ht
    by_cases hu : xu = yu
    · subst hu
      go_enter Try.func58, Try.ntmps58
      go_wp2_with fail
      refine (bytes_Equal _ _ xp yp _ ((r1.alloc _).alloc _) ((r2.alloc _).alloc _)).mono ?_
      rintro e w1 ⟨rfl, rfl⟩
      have hd : decide (xp = yp) = decide ((⟨xt, xu, xp⟩ : Fr) = ⟨xt, xu, yp⟩) := by simp
      rw [hd]
      go_wp2
      go_ret
      exact ⟨rfl, belowA (belowA (Below.refl _ w) _) _⟩
    · have hd : decide ((⟨xt, xu, xp⟩ : Fr) = ⟨xt, yu, yp⟩) = false := by simp [hu]
      have hu' : ((xu.toNat : Int) == (yu.toNat : Int)) = false := by
        rw [beq_eq_false_iff_ne]; intro h; exact hu (UInt8.toNat_inj.1 (by omega))
      have hd' := Lib.hid hd
      clear hu hd
      go_enter Try.func58, Try.ntmps58
      go_wp2_with fail
      go_ret
      exact ⟨by rw [hd'.out]; rfl, belowA (belowA (Below.refl _ w) _) _⟩
  · have hd : decide ((⟨xt, xu, xp⟩ : Fr) = ⟨yt, yu, yp⟩) = false := by simp [ht]
    have ht' : ((xt.toNat : Int) == (yt.toNat : Int)) = false := by
      rw [beq_eq_false_iff_ne]; intro h; exact ht (UInt16.toNat_inj.1 (by omega))
    have hd' := Lib.hid hd
    clear ht hd
    go_enter Try.func58, Try.ntmps58
    go_wp2_with fail
    go_ret
    exact ⟨by rw [hd'.out]; rfl, belowA (belowA (Below.refl _ w) _) _⟩
/-- a frame's bytes -/
def fHead (f : Fr) : List UInt8 := [lowB ((f.tid.toNat : Int) / 256), lowB ((f.tid.toNat : Int) % 256), 0, 0, 0, lowB ((f.pdu.length : Int) + 1), f.unit]
def fBytes (f : Fr) : List UInt8 := fHead f ++ f.pdu
set_option maxRecDepth 100000 in
set_option maxHeartbeats 800000 in
theorem mbap_Bytes_none (v : Value) (f : Fr) (w : World) (h : RdF w v f) (h0 : f.pdu.length = 0) :
    Calls Try.prog 53 #[v] w fun e w' => e = .returned (.tuple #[.slice none 0 0, .int .i64 3]) ∧ Below w.heap.size w w' := by
  obtain ⟨p, rfl, r⟩ := h
  obtain ⟨t, u, l⟩ := f
  simp only [] at r h0 ⊢
  obtain ⟨a, c, rfl, hc, hm, _⟩ := r.open
  rw [h0] at r ⊢
  go_enter Try.func53, Try.ntmps53
  go_wp2
  go_ret2
  exact ⟨rfl, belowA (Below.refl _ w) _⟩
set_option maxRecDepth 100000 in
set_option maxHeartbeats 800000 in
theorem mbap_Bytes_many (v : Value) (f : Fr) (w : World) (h : RdF w v f) (h0 : 253 < f.pdu.length) :
    Calls Try.prog 53 #[v] w fun e w' => e = .returned (.tuple #[.slice none 0 0, .int .i64 4]) ∧ Below w.heap.size w w' := by
  obtain ⟨p, rfl, r⟩ := h
  obtain ⟨t, u, l⟩ := f
  simp only [] at r h0 ⊢
  obtain ⟨a, c, rfl, hc, hm, _⟩ := r.open
  go_enter Try.func53, Try.ntmps53
  go_wp2
  go_ret2
  exact ⟨rfl, belowA (Below.refl _ w) _⟩
set_option maxRecDepth 100000 in
theorem lay_frame (a b c d u : UInt8) (l : List UInt8) :
    lay ((lay (lay (List.replicate (7 + l.length) (0 : UInt8)) 0 [a, b]) 4 [c, d]).set 6 u) 7 l = [a, b, 0, 0, c, d, u] ++ l := by
  rw [Nat.add_comm]
  simp [lay, List.replicate_succ]
  omega
theorem cell_alloc {w : World} {p : Addr} {v : Value} {o : Obj} (h : w.cell? p = some v) : (w.alloc o).cell? p = some v := (World.cell?_alloc_lt _ _ _ (World.block_lt_of_cell? _ _ h)).trans h
theorem cell_madeg {w : World} {xs : Array Value} {t : TypeId} {g : Nat} (k : Nat) (v : Value) (hg : g = w.heap.size) (h : xs[k]? = some v) : (w.alloc (.cells xs t)).cell? ⟨g, k, none⟩ = some v := by
  subst hg; exact cell_made k v h
theorem cell_drew {w : World} {p : Addr} {v : Value} (h : w.cell? p = some v) : w.drew.cell? p = some v := h
theorem infoB1 : (Try.prog.info? 5).map (·.size) = some 1 := by kernel_rfl
theorem two_read {w : World} {g : Nat} {x y : Int} (hx : w.cell? ⟨g, 0, none⟩ = some (.int .u8 x)) (hy : w.cell? ⟨g, 1, none⟩ = some (.int .u8 y)) (x0 : 0 ≤ x) (x1 : x < 256) (y0 : 0 ≤ y) (y1 : y < 256) :
    RdV encB w (.slice (some ⟨g, 0, none⟩) 2 2) [lowB x, lowB y] := by
  refine ⟨_, 2, rfl, by simp, by simp, by simp, .inr ⟨g, 0, rfl, fun j u hu => ?_⟩⟩
  simp only [List.map_cons, List.map_nil, ← encB_low x x0 x1, ← encB_low y y0 y1] at hu
  match j, hu with
  | 0, hu => simp at hu; subst hu; exact hx
  | 1, hu => simp at hu; subst hu; exact hy
  | j + 2, hu => simp at hu
set_option maxHeartbeats 400000 in
theorem word_Put_at (n : Int) (w : World) (h0 : 0 ≤ n) (h1 : n < 65536) :
    Calls Try.prog 49 #[.int .u16 n] w fun e w' => e = .returned (.agg #[.int .u8 (n / 256), .int .u8 (n % 256)]) ∧ w' = w.alloc (.cells #[.int .u8 (n / 256), .int .u8 (n % 256)] 63) := by
  go_enter Try.func49, Try.ntmps49
  go_wp2
  refine bodyPost_ret (v := .agg #[.int .u8 (n / 256), .int .u8 (n % 256)]) (by simp [results, Try.results49, go_sem]) rfl ?_
  exact ⟨rfl, rfl⟩
set_option maxRecDepth 100000 in
set_option maxHeartbeats 1600000 in
theorem mbap_Bytes_ok (v : Value) (f : Fr) (w : World) (h : RdF w v f) (h0 : 0 < f.pdu.length) (h1 : f.pdu.length ≤ 253) :
    Calls Try.prog 53 #[v] w fun e w' => ∃ v', e = .returned (.tuple #[v', .int .i64 0]) ∧ Own encB 5 w' w.heap.size v' (fBytes f) ∧ Below w.heap.size w w' ∧ ∃ A N, v' = .slice A N N := by
  obtain ⟨p, rfl, r⟩ := h
  obtain ⟨t, u, l⟩ := f
  simp only [] at r h0 h1 ⊢
  obtain ⟨a, c, rfl, hc, hm, _⟩ := r.open
  obtain ⟨i0, hi0, hz0, hz1, hz2⟩ := info_parts infoB
  have hs := Lib.hid r
  clear r
  obtain ⟨n, hn, n0, n1⟩ : ∃ n : Int, Hid ((t.toNat : Int) = n) ∧ 0 ≤ n ∧ n < 65536 := ⟨_, Lib.hid rfl, by omega, by have := t.toNat_lt; omega⟩
  obtain ⟨m, hm⟩ : ∃ m : Int, Hid ((u.toNat : Int) = m) := ⟨_, Lib.hid rfl⟩
  rw [hn.out, hm.out]
  go_enter Try.func53, Try.ntmps53
  go_wp2_with (at_make; refine wpList_make_full _ rfl _ _ 23 rfl w.heap.size 5 i0 (.int .u8 0) 1 Try.underlying23 hi0 hz0 hz1 _ _ _ _ (7 + l.length) rfl rfl ?a1 ?a2 ?a3 ?a4 ?a5 ?_)
  case a1 => simp
  case a2 => simp
  case a3 => rw [hz2]; omega
  case a4 => simp only [maxLen]; omega
  case a5 => simp
  intro w1 hown hg1
  have hBx : Below w.heap.size w (w.alloc (.cells #[.int .u16 n, .int .u8 m, .slice a l.length c] 68)) := belowA (Below.refl _ w) _
  have hB1 := belowG hBx hg1 (by simp)
  have ho1 : Own encB 5 w1 w.heap.size (.slice (some ⟨w.heap.size + 1, 0, none⟩) (7 + l.length) (7 + l.length)) (List.replicate (7 + l.length) 0) := by
    exact Own.made (0 : UInt8) (by have q : encB 0 = .int .u8 0 := rfl
                                   simpa [q] using hown) (by omega)
  have c0 : w1.cell? ⟨w.heap.size, 0, none⟩ = some (.int .u16 n) := hg1.cell (cell_made _ _ rfl) (by simp)
  have c1 : w1.cell? ⟨w.heap.size, 1, none⟩ = some (.int .u8 m) := hg1.cell (cell_made _ _ rfl) (by simp)
  have c2 : w1.cell? ⟨w.heap.size, 2, none⟩ = some (.slice a l.length c) := hg1.cell (cell_made _ _ rfl) (by simp)
  clear hown hg1 hBx
  go_upto_region 7 with fail
  go_cut [6, 7] from 22 to 30 (fun x6 x7 wx => ∃ g6 g7 : Nat, x6 = .pointer (some ⟨g6, 0, none⟩) ∧ x7 = .pointer (some ⟨g7, 0, none⟩) ∧ w1.heap.size ≤ g6 ∧ w1.heap.size ≤ g7 ∧
    wx.cell? ⟨g6, 0, none⟩ = some (.int .u8 (n / 256)) ∧ wx.cell? ⟨g6, 1, none⟩ = some (.int .u8 (n % 256)) ∧ wx.cell? ⟨g7, 0, none⟩ = some (.int .u8 0) ∧ wx.cell? ⟨g7, 1, none⟩ = some (.int .u8 ((l.length : Int) + 1)) ∧ Below w1.heap.size w1 wx)
  case first =>
    have q0 : IntKind.i64.wrap ((l.length : Int) + 1) = (l.length : Int) + 1 := IntWalk.i64_in _ (by omega)
    have q1 : IntKind.u16.wrap ((l.length : Int) + 1) = (l.length : Int) + 1 := by simp only [IntKind.wrap, IntKind.signed, IntKind.bits]; simp; omega
    have p1' : ∀ W, Calls Try.prog 49 #[.int .u16 ((l.length : Int) + 1)] W fun e w' => e = .returned (.agg #[.int .u8 0, .int .u8 ((l.length : Int) + 1)]) ∧ w' = W.alloc (.cells #[.int .u8 0, .int .u8 ((l.length : Int) + 1)] 63) := fun W => by
      have := word_Put_at ((l.length : Int) + 1) W (by omega) (by omega)
      rw [show ((l.length : Int) + 1) / 256 = 0 by omega, show ((l.length : Int) + 1) % 256 = (l.length : Int) + 1 by omega] at this
      exact this
    have p1 := Lib.hid p1'
    clear p1'
    go_region_held3 (fun w' => w'.cell? ⟨w.heap.size, 0, none⟩ = some (.int .u16 n) ∧ w'.cell? ⟨w.heap.size, 2, none⟩ = some (.slice a l.length c))
      (((try dsimp only); (repeat' apply And.intro) <;> (repeat (first | assumption | apply cell_drew | apply cell_alloc))))
      (first | (go_at_call_of 49 n; refine (word_Put_at n _ n0 n1).mono ?_; rintro e w' ⟨rfl, rfl⟩) | (go_at_call 49; refine (p1.out _).mono ?_; rintro e w' ⟨rfl, rfl⟩))
    all_goals (go_wp2_with fail)
    all_goals go_meet
    all_goals (refine ⟨_, _, rfl, rfl, by omega, by omega, ?_, ?_, ?_, ?_, ?_⟩)
    all_goals (first | ((repeat (first | apply cell_drew | (refine cell_madeg _ _ ?_ rfl; simp; done) | apply cell_alloc)); done) | (repeat (first | exact Below.refl _ _ | apply Below.drew | apply belowA)))
  case rest =>
    obtain ⟨g6, g7, rfl, rfl, k6, k7, d0, d1, d2, d3, hB2⟩ := hcut
    have ho2 := ho1.below hB2
    replace c0 := cellT hB2 c0
    replace c1 := cellT hB2 c1
    replace c2 := cellT hB2 c2
    have r6 : RdV encB wc (.slice (some ⟨g6, 0, none⟩) 2 2) [lowB (n / 256), lowB (n % 256)] := two_read d0 d1 (by omega) (by omega) (by omega) (by omega)
    have hr := Lib.hid hs.out
    clear d0 d1
    go_wp2_with (refine wp_copy (o := ⟨some 33, _, _, _, _, _⟩) encB_one rfl (.tmp 31) (.tmp 32) _ _ rfl _ Try.underlying23 infoB1 w.heap.size _ _ _ _ ho2 0 _ _ _ rfl _ _ rfl r6 2 ?e1 ?e2 ?e3 ?e4)
    case e1 => exact (Nat.min_eq_left (by omega : 2 ≤ 7 + l.length)).symm
    case e2 => simp; omega
    case e4 =>
    intro w3 ho3 hg3
    obtain ⟨L1, hL1⟩ : ∃ L1, Hid (L1 = lay (List.replicate (7 + l.length) (0 : UInt8)) 0 [lowB (n / 256), lowB (n % 256)]) := ⟨_, Lib.hid rfl⟩
    rw [← hL1.out] at ho3
    have len1 : L1.length = 7 + l.length := by rw [hL1.out, lay_len _ _ _ (by simp; omega)]; simp
    have len1' := Lib.hid len1
    have hg7 : w.heap.size + 1 < w1.heap.size := (ho1.base _ rfl).2
    replace d2 := hg3.cell d2 (by simp; omega)
    replace d3 := hg3.cell d3 (by simp; omega)
    replace c0 := hg3.cell c0 (by simp)
    replace c1 := hg3.cell c1 (by simp)
    replace c2 := hg3.cell c2 (by simp)
    have r7 : RdV encB w3 (.slice (some ⟨g7, 0, none⟩) 2 2) [lowB 0, lowB ((l.length : Int) + 1)] := two_read d2 d3 (by omega) (by omega) (by omega) (by omega)
    have hB3 := belowG (belowT hB1 hB2) hg3 (by simp)
    clear len1 ho1 ho2 hg3 hB1 hB2 hg7 k6 k7
    have z1 : (4 : Int) ≤ 7 + (l.length : Int) := by omega
    have z2 : ¬ (7 + l.length = 4) := by omega
    go_wp2_with fail
    go_region_held3 (fun _ => True) (trivial) ((refine step_copy encB_one rfl (.tmp 35) (.tmp 36) _ _ rfl _ Try.underlying23 infoB1 w.heap.size _ _ _ _ (Own.drew ho3) 4 _ _ _ rfl _ _ rfl (RdV.drew r7) 2 (Nat.min_eq_left (by omega : 2 ≤ 7 + l.length - 4)).symm (by rw [len1'.out]; omega) (fun _ => rfl) ?_; intro w4 ho4 hg4))
    obtain ⟨L2, hL2⟩ : ∃ L2, Hid (L2 = lay L1 4 [lowB 0, lowB ((l.length : Int) + 1)]) := ⟨_, Lib.hid rfl⟩
    replace ho4 : Own encB 5 w4 w.heap.size (.slice (some ⟨w.heap.size + 1, 0, none⟩) (7 + l.length) (7 + l.length)) (lay L1 4 [lowB 0, lowB ((l.length : Int) + 1)]) := ho4
    rw [← hL2.out] at ho4
    have len2 : L2.length = 7 + l.length := by rw [hL2.out, lay_len _ _ _ (by rw [len1'.out]; simp; omega), len1'.out]
    have len2' := Lib.hid len2
    replace c0 := hg4.cell (cell_drew c0) (by simp)
    replace c1 := hg4.cell (cell_drew c1) (by simp)
    replace c2 := hg4.cell (cell_drew c2) (by simp)
    have hB4 := belowG (Below.drew hB3) hg4 (by simp)
    obtain ⟨hca', hfa⟩ := ho4.at 6 (by omega)
    have hca : ∃ x : Value, w4.cell? ⟨w.heap.size + 1, 6, none⟩ = some x := ⟨_, hca'⟩
    obtain ⟨x6, hx6⟩ := hca
    clear hca'
    obtain ⟨hset, hgs⟩ := ho4.set 6 u
    simp only [encB, hm.out] at hset hgs
    clear len2 ho3 hB3 hg4 z1 z2 r7 d2 d3 ho4
    go_wp2_with fail
    replace c0 := hgs.cell c0 (by simp)
    replace c1 := hgs.cell c1 (by simp)
    replace c2 := hgs.cell c2 (by simp)
    have hB5 := belowG hB4 hgs (by simp)
    have rr := hr.out.below hB5
    have len3 : (L2.set 6 u).length = 7 + l.length := by rw [List.length_set]; exact len2'.out
    obtain ⟨L3, hL3⟩ : ∃ L3, Hid (L3 = L2.set 6 u) := ⟨_, Lib.hid rfl⟩
    rw [← hL3.out] at hset len3
    have len3' := Lib.hid len3
    have hw5 : ∃ w5, w5 = w4.setCell ⟨w.heap.size + 1, 6, none⟩ (Value.int IntKind.u8 m) := ⟨_, rfl⟩
    obtain ⟨w5, hw5⟩ := hw5
    rw [← hw5] at c0 c1 c2 hB5 rr hset ⊢
    have z1 : (7 : Int) ≤ 7 + (l.length : Int) := by omega
    have z2 : ¬ (7 + l.length = 7) := by omega
    have z3 : l ≠ [] := by intro h; rw [h] at h0; simp at h0
    clear len3 hw5 hgs hfa hx6 hB4
    go_region_held3 (fun w' => w'.cell? ⟨w.heap.size, 2, none⟩ = some (.slice a l.length c)) (first | assumption | exact hg6.cell (cell_drew c2) (by simp)) ((refine step_copy encB_one rfl (.tmp 43) (.tmp 45) _ _ rfl _ Try.underlying23 infoB1 w.heap.size _ _ _ _ (Own.drew hset) 7 _ _ _ rfl _ _ rfl (RdV.drew rr) l.length (by simp) (by rw [len3'.out]; omega) (fun _ => rfl) ?_; intro w6 ho6 hg6))
    have hB6 := belowG (Below.drew hB5) hg6 (by simp)
    have hfin : lay L3 7 (List.take l.length l) = fBytes ⟨t, u, l⟩ := by
      rw [List.take_length, hL3.out, hL2.out, hL1.out, lay_frame]
      simp only [fBytes, fHead, hn.out]
      rw [show lowB 0 = 0 from rfl]
    replace ho6 : Own encB 5 w6 w.heap.size (.slice (some ⟨w.heap.size + 1, 0, none⟩) (7 + l.length) (7 + l.length)) (lay L3 7 (List.take l.length l)) := ho6
    rw [hfin] at ho6
    clear hfin z1 z2 z3 hset c0 c1 c2 hg6 hB5
    go_wp2
    go_ret2
    exact ⟨_, rfl, ho6, hB6, _, _, rfl⟩
end Go.Proofs.Ytigfninpflemnaa
