/- scan: the document's Done, Complete, Begin; the program's Begin; awake. -/
import Derived.Test.YtbhnkdnfmlnajaaScanR
namespace Go.Proofs.Ytbhnkdnfmlnajaa
open Go Go.RowKit Go.Maps
set_option linter.unusedSimpArgs false
set_option linter.unusedVariables false
def sp (i c p : Int) : Int := if c = i then p + 1 else p
abbrev RX (w : World) (t : Nat) (g n p0 p1 p2 : Int) : Prop := BX w t 38 #[.int .i64 g, .int .i64 n, .int .i64 p0, .int .i64 p1, .int .i64 p2]
theorem gr_setd {w : World} {b k : Nat} {v : Value} : w.grownBy (w.setCell ⟨b, k, none⟩ v).drew (some b) := by
  have h := @gr_set w b k v
  exact ⟨h.os, h.tape, h.output, h.size, h.block⟩
theorem gr_below {w w' : World} {r : Option Nat} (h : Below w.heap.size w w') : w.grownBy w' r := ⟨h.os, h.tape, h.output, h.size, fun i hi _ => h.block i hi⟩
set_option maxRecDepth 20000 in
set_option maxHeartbeats 800000 in
theorem rDone_w (w : World) (t : Nat) (g n p0 p1 p2 : Int) (h : RX w t g n p0 p1 p2) (c : Int) (b0 : 0 ≤ p0 ∧ p0 ≤ 1000) (b1 : 0 ≤ p1 ∧ p1 ≤ 1000) (b2 : 0 ≤ p2 ∧ p2 ≤ 1000) :
    Calls Try.prog 15 #[.pointer (some ⟨t, 0, none⟩), .int .i64 c] w fun e w' => w.grownBy w' (some t) ∧ match lk (op g p0) (op g p1) (op g p2) c with
      | none => e = .returned (.int .i64 8) ∧ RX w' t g n p0 p1 p2
      | some v => e = .returned (.int .i64 0) ∧ RX w' t g n (sp 0 c p0) (sp 1 c p1) (sp 2 c p2) := by
  have hh := Lib.hid h
  cases hl : lk (op g p0) (op g p1) (op g p2) c with
  | none =>
    have hl := Lib.hid hl
    clear h
    go_enter Try.func15, Try.ntmps15
    go_wp2_with fail
    refine (rNext_w w t g n p0 p1 p2 hh.out c).mono ?_
    rw [hl.out]
    rintro e w1 ⟨rfl, hB⟩
    have hB := Lib.hid hB
    go_wp2
    go_ret
    exact ⟨gr_below hB.out, rfl, hh.out.below hB.out⟩
  | some v =>
    have h3 : c = 0 ∨ c = 1 ∨ c = 2 := by
      unfold lk at hl
      split at hl
      · omega
      split at hl
      · omega
      split at hl
      · omega
      · cases hl
    have hl := Lib.hid hl
    clear h
    rcases h3 with rfl | rfl | rfl
    · have hw : IntKind.i64.wrap (p0 + 1) = p0 + 1 := IntWalk.i64_in _ (by omega)
      go_enter Try.func15, Try.ntmps15
      go_wp2_with fail
      refine (rNext_w w t g n p0 p1 p2 hh.out 0).mono ?_
      rw [hl.out]
      rintro e w1 ⟨rfl, hB⟩
      have hX := hh.out.below hB
      have c2 := hX.cell 2 rfl
      have f2 := hX.frozen 2
      have hX := Lib.hid hX
      have hB := Lib.hid hB
      go_wp2
      go_region
      go_wp2
      go_ret
      exact ⟨gr_trans (gr_below hB.out) gr_setd, rfl, (hX.out.set 2 _).drew⟩
    · have hw : IntKind.i64.wrap (p1 + 1) = p1 + 1 := IntWalk.i64_in _ (by omega)
      go_enter Try.func15, Try.ntmps15
      go_wp2_with fail
      refine (rNext_w w t g n p0 p1 p2 hh.out 1).mono ?_
      rw [hl.out]
      rintro e w1 ⟨rfl, hB⟩
      have hX := hh.out.below hB
      have c2 := hX.cell 3 rfl
      have f2 := hX.frozen 3
      have hX := Lib.hid hX
      have hB := Lib.hid hB
      go_wp2
      go_region
      go_wp2
      go_ret
      exact ⟨gr_trans (gr_below hB.out) gr_setd, rfl, (hX.out.set 3 _).drew⟩
    · have hw : IntKind.i64.wrap (p2 + 1) = p2 + 1 := IntWalk.i64_in _ (by omega)
      go_enter Try.func15, Try.ntmps15
      go_wp2_with fail
      refine (rNext_w w t g n p0 p1 p2 hh.out 2).mono ?_
      rw [hl.out]
      rintro e w1 ⟨rfl, hB⟩
      have hX := hh.out.below hB
      have c2 := hX.cell 4 rfl
      have f2 := hX.frozen 4
      have hX := Lib.hid hX
      have hB := Lib.hid hB
      go_wp2
      go_region
      go_wp2
      go_ret
      exact ⟨gr_trans (gr_below hB.out) gr_setd, rfl, (hX.out.set 4 _).drew⟩
def all3 (g p0 p1 p2 : Int) : Bool := decide (p0 = g) && decide (p1 = g) && decide (p2 = g)
set_option maxRecDepth 20000 in
set_option maxHeartbeats 800000 in
theorem rComplete_w (w : World) (t : Nat) (g n p0 p1 p2 : Int) (h : RX w t g n p0 p1 p2) :
    Calls Try.prog 22 #[.pointer (some ⟨t, 0, none⟩)] w fun e w' => e = .returned (.bool (all3 g p0 p1 p2)) ∧ Below w.heap.size w w' := by
  have c0 := h.cell 0 rfl
  have c2 := h.cell 2 rfl
  have c3 := h.cell 3 rfl
  have c4 := h.cell 4 rfl
  clear h
  obtain ⟨q, hq⟩ : ∃ q, Hid (q = all3 g p0 p1 p2) := ⟨_, Lib.hid rfl⟩
  rw [← hq.out]
  by_cases h0 : p0 = g
  · by_cases h1 : p1 = g
    · by_cases h2 : p2 = g
      · have : q = true := by rw [hq.out]; unfold all3; simp [h0, h1, h2]
        clear hq
        subst this
        subst h0; subst h1; subst h2
        go_enter Try.func22, Try.ntmps22
        go_wp2
        go_quiet (fail)
        go_wp2
        go_ret
        exact ⟨rfl, ⟨rfl, rfl, rfl, Nat.le_refl _, fun _ _ => rfl⟩⟩
      · have : q = false := by rw [hq.out]; unfold all3; simp [h2]
        clear hq
        subst this
        subst h0; subst h1
        have d2 : (p2 == p1) = false := by simpa using h2
        go_enter Try.func22, Try.ntmps22
        go_wp2
        go_quiet (fail)
        go_wp2
        go_ret
        exact ⟨rfl, ⟨rfl, rfl, rfl, Nat.le_refl _, fun _ _ => rfl⟩⟩
    · have : q = false := by rw [hq.out]; unfold all3; simp [h1]
      clear hq
      subst this
      subst h0
      have d2 : (p1 == p0) = false := by simpa using h1
      go_enter Try.func22, Try.ntmps22
      go_wp2
      go_quiet (fail)
      go_wp2
      go_ret
      exact ⟨rfl, ⟨rfl, rfl, rfl, Nat.le_refl _, fun _ _ => rfl⟩⟩
  · have : q = false := by rw [hq.out]; unfold all3; simp [h0]
    clear hq
    subst this
    have d2 : (p0 == g) = false := by simpa using h0
    go_enter Try.func22, Try.ntmps22
    go_wp2
    go_quiet (fail)
    go_wp2
    go_ret
    exact ⟨rfl, ⟨rfl, rfl, rfl, Nat.le_refl _, fun _ _ => rfl⟩⟩
set_option maxRecDepth 20000 in
set_option maxHeartbeats 800000 in
theorem rBegin_w (w : World) (t : Nat) (g n p0 p1 p2 : Int) (h : RX w t g n p0 p1 p2) (hn : 0 ≤ n ∧ n ≤ 100000) :
    Calls Try.prog 17 #[.pointer (some ⟨t, 0, none⟩)] w fun e w' => w.grownBy w' (some t) ∧ if all3 g p0 p1 p2 = true then e = .returned (.int .i64 0) ∧ RX w' t g (n + 1) 0 0 0 else e = .returned (.int .i64 8) ∧ RX w' t g n p0 p1 p2 := by
  have hh := Lib.hid h
  clear h
  have hw : IntKind.i64.wrap (n + 1) = n + 1 := IntWalk.i64_in _ (by omega)
  cases ha : all3 g p0 p1 p2 with
  | true =>
    have ha := Lib.hid ha
    go_enter Try.func17, Try.ntmps17
    go_wp2_with fail
    refine (rComplete_w w t g n p0 p1 p2 hh.out).mono ?_
    rw [ha.out]
    rintro e w1 ⟨rfl, hB⟩
    have hX := hh.out.below hB
    have c1 := hX.cell 1 rfl
    have c2 := hX.cell 2 rfl
    have c3 := hX.cell 3 rfl
    have c4 := hX.cell 4 rfl
    have f1 := hX.frozen 1
    have f2 := hX.frozen 2
    have f3 := hX.frozen 3
    have f4 := hX.frozen 4
    have hX := Lib.hid hX
    have hB := Lib.hid hB
    go_wp2
    go_ret
    exact ⟨gr_trans (gr_trans (gr_trans (gr_trans (gr_below hB.out) gr_set) gr_set) gr_set) gr_set, rfl, (((hX.out.set 1 _).set 2 _).set 3 _).set 4 _⟩
  | false =>
    have ha := Lib.hid ha
    go_enter Try.func17, Try.ntmps17
    go_wp2_with fail
    refine (rComplete_w w t g n p0 p1 p2 hh.out).mono ?_
    rw [ha.out]
    rintro e w1 ⟨rfl, hB⟩
    have hX := hh.out.below hB
    have hX := Lib.hid hX
    have hB := Lib.hid hB
    go_wp2
    go_ret
    exact ⟨gr_below hB.out, rfl, hX.out⟩
set_option maxRecDepth 20000 in
set_option maxHeartbeats 800000 in
theorem Begin_w (w : World) (s m : Nat) (g r : Int) (o0 o1 o2 : Option Int) (h : Sc w s m g r o0 o1 o2) (hr : 0 ≤ r ∧ r ≤ 1000000) :
    Calls Try.prog 16 #[.pointer (some ⟨s, 0, none⟩)] w fun e w' => w.grownBy w' (some s) ∧ if none3 o0 o1 o2 = true then e = .returned (.int .i64 0) ∧ ∃ m', Sc w' s m' g (r + 1) (some 0) (some 0) (some 0) ∧ w.heap.size ≤ m' else e = .returned (.int .i64 8) ∧ Sc w' s m g r o0 o1 o2 := by
  have hh := Lib.hid h
  clear h
  cases ha : none3 o0 o1 o2 with
  | true =>
    have ha := Lib.hid ha
    go_enter Try.func16, Try.ntmps16
    go_wp2_with fail
    refine (Complete_w w s m g r o0 o1 o2 hh.out).mono ?_
    rw [ha.out]
    rintro e w1 ⟨rfl, rfl⟩
    go_wp2_with fail
    refine (begin_w w1 s g r (some m) hh.out.1 hr).mono ?_
    rintro e w2 ⟨rfl, m', hS, hm, hG⟩
    have hS := Lib.hid hS
    have hG := Lib.hid hG
    go_wp2
    go_ret
    exact ⟨hG.out, rfl, m', hS.out, hm⟩
  | false =>
    have ha := Lib.hid ha
    go_enter Try.func16, Try.ntmps16
    go_wp2_with fail
    refine (Complete_w w s m g r o0 o1 o2 hh.out).mono ?_
    rw [ha.out]
    rintro e w1 ⟨rfl, rfl⟩
    go_wp2
    go_ret
    exact ⟨gr_same _ _, rfl, hh.out⟩
end Go.Proofs.Ytbhnkdnfmlnajaa
