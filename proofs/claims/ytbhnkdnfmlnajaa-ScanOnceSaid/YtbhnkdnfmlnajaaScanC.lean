/- scan's functions: their contracts. -/
import Derived.Test.YtbhnkdnfmlnajaaScan
namespace Go.Proofs.Ytbhnkdnfmlnajaa
open Go Go.RowKit Go.Maps
set_option linter.unusedSimpArgs false
set_option linter.unusedVariables false
def MDk (k : Nat) : DataW Unit := MD (if 0 < k then some 0 else none) (if 1 < k then some 0 else none) (if 2 < k then some 0 else none)
theorem MDk_step (k : Nat) (h : k < 3) : MD (st 0 k (some 0) (if 0 < k then some 0 else none)) (st 1 k (some 0) (if 1 < k then some 0 else none)) (st 2 k (some 0) (if 2 < k then some 0 else none)) = MDk (k + 1) := by
  match k, h with
  | 0, _ => rfl
  | 1, _ => rfl
  | 2, _ => rfl
set_option maxHeartbeats 800000 in
theorem begin_w (w : World) (s : Nat) (g r : Int) (x : Option Nat) (h : BX w s 127 #[.int .i64 g, .int .i64 r, .map x]) (hr : 0 ≤ r ∧ r ≤ 1000000) :
    Calls Try.prog 54 #[.pointer (some ⟨s, 0, none⟩)] w fun e w' => e = .returned (.tuple #[]) ∧ ∃ m, Sc w' s m g (r + 1) (some 0) (some 0) (some 0) ∧ w.heap.size ≤ m ∧ w.grownBy w' (some s) := by
  have hmm := @run_makeMap Try.prog
  have c1 := h.cell 1 rfl
  have c2 := h.cell 2 rfl
  have f1 := h.frozen 1
  have f2 := h.frozen 2
  have hs := h.lt
  have hh := Lib.hid h
  clear h
  go_enter Try.func54, Try.ntmps54
  go_wp2
  have hne : s ≠ w.heap.size := by omega
  have e : ((w.setCell ⟨s, 1, none⟩ (.int .i64 (r + 1))).setCell ⟨s, 2, none⟩ (.map (some w.heap.size))).heap.size = w.heap.size := by simp [World.setCell]
  have hB : BX (((w.setCell ⟨s, 1, none⟩ (.int .i64 (r + 1))).setCell ⟨s, 2, none⟩ (.map (some w.heap.size))).alloc (.map #[] 0)) s 127 #[.int .i64 g, .int .i64 (r + 1), .map (some w.heap.size)] := ((hh.out.set 1 _).set 2 _).alloc _
  have hO : own3 (((w.setCell ⟨s, 1, none⟩ (.int .i64 (r + 1))).setCell ⟨s, 2, none⟩ (.map (some w.heap.size))).alloc (.map #[] 0)) w.heap.size (MDk 0) := by
    have := World.ownsMap_made (H := Unit) ((w.setCell ⟨s, 1, none⟩ (.int .i64 (r + 1))).setCell ⟨s, 2, none⟩ (.map (some w.heap.size))) Try.prog 3 (plainElem Try.prog 3)
    rw [e] at this
    exact this.mono (by omega)
  have hG : w.grownBy (((w.setCell ⟨s, 1, none⟩ (.int .i64 (r + 1))).setCell ⟨s, 2, none⟩ (.map (some w.heap.size))).alloc (.map #[] 0)) (some s) := gr_trans (gr_trans gr_set gr_set) (World.grownBy_alloc _ _ _)
  clear e c1 c2 f1 f2 hmm
  generalize ((w.setCell ⟨s, 1, none⟩ (.int .i64 (r + 1))).setCell ⟨s, 2, none⟩ (.map (some w.heap.size))).alloc (.map #[] 0) = W at *
  go_loopw [14] (fun iv wr => ∃ k : Nat, k ≤ 3 ∧ iv = .int .i64 k ∧ BX wr s 127 #[.int .i64 g, .int .i64 (r + 1), .map (some w.heap.size)] ∧ own3 wr w.heap.size (MDk k) ∧ w.grownBy wr (some s)) (fun iv _ => 3 - (intOf iv).toNat)
  case atStart => exact ⟨0, by omega, rfl, hB, hO, hG⟩
  case round =>
    clear hB hO hG
    obtain ⟨k, hk, rfl, hB, hO, hG⟩ := hrel
    have c2 := hB.cell 2 rfl
    have hB := Lib.hid hB
    have hG := Lib.hid hG
    by_cases h3 : k < 3
    · have hstep := Lib.hid (MDk_step k h3)
      have hk3 : (k : Int) = 0 ∨ (k : Int) = 1 ∨ (k : Int) = 2 := by omega
      unfold MDk at hO
      have hk3 := Lib.hid hk3
      go_wp2_with (first | (at_mapUpdate; refine wp_upd3 _ rfl _ _ _ rfl w.heap.size _ _ _ rfl hO _ hk3.out 0 (by decide) rfl rfl ?_; intro w1 hO1 hg1))
      go_roundw
      case rel =>
        rw [hstep.out] at hO1
        exact ⟨k + 1, by omega, by go_num, hB.out.grown hg1 (by intro e; exact hne (Option.some.inj e)), hO1, gr_new hG.out hg1 (Nat.le_refl _)⟩
      case measure => simp [intOf]; omega
    · obtain rfl : k = 3 := by omega
      have hfin := Lib.hid hO
      clear hO
      go_wp2
      go_end0
      exact ⟨rfl, w.heap.size, ⟨hB.out, hfin.out, hne⟩, Nat.le_refl _, hG.out⟩
theorem Next_w (w : World) (s m : Nat) (g r : Int) (o0 o1 o2 : Option Int) (h : Sc w s m g r o0 o1 o2) (c : Int) (hc : (Lit.int .i64 c).wf = true) :
    Calls Try.prog 18 #[.pointer (some ⟨s, 0, none⟩), .int .i64 c] w fun e w' => e = .returned (.tuple #[.int .i64 ((lk o0 o1 o2 c).getD 0), .bool (lk o0 o1 o2 c).isSome]) ∧ w' = w := by
  obtain ⟨hb, ho, _⟩ := h
  have c2 := hb.cell 2 rfl
  clear hb
  go_enter Try.func18, Try.ntmps18
  go_wp2_with (at_lookup; refine wp_look3 _ rfl _ _ rfl m o0 o1 o2 rfl ho c hc rfl ?_)
  go_ret2
  exact ⟨rfl, rfl⟩
theorem Round_w (w : World) (s m : Nat) (g r : Int) (o0 o1 o2 : Option Int) (h : Sc w s m g r o0 o1 o2) :
    Calls Try.prog 20 #[.pointer (some ⟨s, 0, none⟩)] w fun e w' => e = .returned (.int .i64 r) ∧ w' = w := by
  obtain ⟨hb, ho, _⟩ := h
  have c1 := hb.cell 1 rfl
  clear hb ho
  go_enter Try.func20, Try.ntmps20
  go_wp2
  go_ret
  exact ⟨rfl, rfl⟩
def none3 (o0 o1 o2 : Option Int) : Bool := decide (cnt3 o0 o1 o2 = 0)
set_option maxRecDepth 20000 in
theorem Complete_w (w : World) (s m : Nat) (g r : Int) (o0 o1 o2 : Option Int) (h : Sc w s m g r o0 o1 o2) :
    Calls Try.prog 21 #[.pointer (some ⟨s, 0, none⟩)] w fun e w' => e = .returned (.bool (none3 o0 o1 o2)) ∧ w' = w := by
  obtain ⟨hb, ho, _⟩ := h
  have c2 := hb.cell 2 rfl
  clear hb
  unfold none3
  generalize hn : cnt3 o0 o1 o2 = n
  have hn := Lib.hid hn
  go_enter Try.func21, Try.ntmps21
  go_wp2_with (at_len; refine wp_len3 _ rfl _ rfl m o0 o1 o2 rfl ho ?_; rw [hn.out])
  go_ret
  exact ⟨rfl, rfl⟩
theorem st_st (i c : Int) (a b o : Option Int) : st i c a (st i c b o) = st i c a o := by
  unfold st
  split <;> rfl
set_option maxRecDepth 20000 in
set_option maxHeartbeats 800000 in
theorem Done_w (w : World) (s m : Nat) (g r : Int) (o0 o1 o2 : Option Int) (h : Sc w s m g r o0 o1 o2) (c : Int) (hc : (Lit.int .i64 c).wf = true) (hv : ∀ v, lk o0 o1 o2 c = some v → 0 ≤ v ∧ v ≤ 1000) :
    Calls Try.prog 14 #[.pointer (some ⟨s, 0, none⟩), .int .i64 c] w fun e w' => w.grownBy w' (some m) ∧ match lk o0 o1 o2 c with
      | none => e = .returned (.int .i64 8) ∧ Sc w' s m g r o0 o1 o2
      | some v => e = .returned (.int .i64 0) ∧ Sc w' s m g r (st 0 c (if v + 1 = g then none else some (v + 1)) o0) (st 1 c (if v + 1 = g then none else some (v + 1)) o1) (st 2 c (if v + 1 = g then none else some (v + 1)) o2) := by
  obtain ⟨hb, ho, hne⟩ := h
  have c2 := hb.cell 2 rfl
  have c0 := hb.cell 0 rfl
  have hb := Lib.hid hb
  cases hl : lk o0 o1 o2 c with
  | none =>
    have hl := Lib.hid hl
    go_enter Try.func14, Try.ntmps14
    go_wp2_with (at_lookup; refine wp_look3 _ rfl _ _ rfl m o0 o1 o2 rfl ho c hc rfl ?_; rw [hl.out])
    go_ret
    exact ⟨gr_same _ _, rfl, hb.out, ho, hne⟩
  | some v =>
    obtain ⟨v0, v1⟩ := hv v hl
    have h3 : c = 0 ∨ c = 1 ∨ c = 2 := by
      unfold lk at hl
      split at hl
      · omega
      split at hl
      · omega
      split at hl
      · omega
      · cases hl
    have hl := Lib.hid hl
    have hw : IntKind.i64.wrap (v + 1) = v + 1 := IntWalk.i64_in _ (by omega)
    have hyw : (Lit.int .i64 (v + 1)).wf = true := by simp [Lit.wf, IntKind.min, IntKind.max, IntKind.signed, IntKind.bits]; omega
    by_cases he : v + 1 = g
    · obtain rfl : g = v + 1 := he.symm
      have e : (if v + 1 = v + 1 then none else some (v + 1) : Option Int) = none := if_pos rfl
      simp only [e]
      clear e
      go_enter Try.func14, Try.ntmps14
      go_wp2_with (first | (at_lookup; refine wp_look3 _ rfl _ _ rfl m o0 o1 o2 rfl ho c hc rfl ?_; rw [hl.out]) | (at_mapUpdate; refine wp_upd3 _ rfl _ _ _ rfl m o0 o1 o2 rfl ho c h3 (v + 1) hyw rfl rfl ?_; intro w1 ho1 hg1; have hb1 := Lib.hid (hb.out.grown hg1 (by intro e; exact hne (Option.some.inj e))); have c0 := hb1.out.cell 0 rfl; have c2 := hb1.out.cell 2 rfl) | (at_delete; refine wp_del3 _ rfl _ _ rfl m _ _ _ rfl ho1 c h3 rfl ?_; intro w2 ho2 hg2))
      go_ret
      rw [st_st, st_st, st_st] at ho2
      exact ⟨gr_trans hg1 hg2, rfl, hb1.out.grown hg2 (by intro e; exact hne (Option.some.inj e)), ho2, hne⟩
    · have e : (if v + 1 = g then none else some (v + 1) : Option Int) = some (v + 1) := if_neg he
      simp only [e]
      clear e
      have he' : (v + 1 == g) = false := by simpa using he
      go_enter Try.func14, Try.ntmps14
      go_wp2_with (first | (at_lookup; refine wp_look3 _ rfl _ _ rfl m o0 o1 o2 rfl ho c hc rfl ?_; rw [hl.out]) | (at_mapUpdate; refine wp_upd3 _ rfl _ _ _ rfl m o0 o1 o2 rfl ho c h3 (v + 1) hyw rfl rfl ?_; intro w1 ho1 hg1; have hb1 := Lib.hid (hb.out.grown hg1 (by intro e; exact hne (Option.some.inj e))); have c0 := hb1.out.cell 0 rfl; have c2 := hb1.out.cell 2 rfl))
      go_ret
      exact ⟨hg1, rfl, hb1.out, ho1, hne⟩
end Go.Proofs.Ytbhnkdnfmlnajaa
