/- The law ScanDoes: its walk. Printed by gscan.py. -/
import Derived.Test.YtbhnkdnfmlnajaaScanD
namespace Go.Proofs.Ytbhnkdnfmlnajaa
open Go Go.RowKit Go.Maps
set_option linter.unusedSimpArgs false
set_option linter.unusedVariables false
def encN (n : Int) : Value := .int .i64 n
theorem cell_drw {w : World} {p : Addr} {v : Value} (h : w.cell? p = some v) : w.drew.cell? p = some v := h
theorem Sc.drw {w : World} {s m : Nat} {g r : Int} {o0 o1 o2 : Option Int} (h : Sc w s m g r o0 o1 o2) : Sc w.drew s m g r o0 o1 o2 := h
theorem none_all (g p0 p1 p2 : Int) (h0 : p0 ≤ g) (h1 : p1 ≤ g) (h2 : p2 ≤ g) : none3 (op g p0) (op g p1) (op g p2) = all3 g p0 p1 p2 := by
  unfold none3 all3 cnt3 op
  by_cases c0 : p0 < g <;> by_cases c1 : p1 < g <;> by_cases c2 : p2 < g <;> simp [c0, c1, c2] <;> omega
theorem op_step (g p v c i : Int) (hp : 0 ≤ p ∧ p ≤ g) (h : c = i → op g p = some v) : op g (sp i c p) = st i c (if v + 1 = g then none else some (v + 1)) (op g p) ∧ 0 ≤ sp i c p ∧ sp i c p ≤ g := by
  unfold sp st
  by_cases e : c = i
  · obtain ⟨rfl, h2⟩ := op_some (h e)
    rw [if_pos e, if_pos e]
    refine ⟨?_, by omega, by omega⟩
    unfold op
    by_cases h3 : p + 1 = g
    · rw [if_neg (by omega), if_pos h3]
    · rw [if_pos (by omega), if_neg h3]
  · rw [if_neg e, if_neg e]
    exact ⟨rfl, hp⟩
theorem lk_at {o0 o1 o2 : Option Int} {c v : Int} (h : lk o0 o1 o2 c = some v) : (c = 0 → o0 = some v) ∧ (c = 1 → o1 = some v) ∧ (c = 2 → o2 = some v) := by
  unfold lk at h
  refine ⟨?_, ?_, ?_⟩ <;> (rintro rfl; simpa using h)
theorem op_zero (g : Int) (h : 1 ≤ g) : op g 0 = some 0 := if_pos (by omega)
def zD (g p0 p1 p2 x : Int) : Int := if (lk (op g p0) (op g p1) (op g p2) x).isSome = true then 0 else 8
def pD (g p0 p1 p2 x i p : Int) : Int := if (lk (op g p0) (op g p1) (op g p2) x).isSome = true then sp i x p else p
theorem pD_le (g p0 p1 p2 x : Int) (h0 : 0 ≤ p0 ∧ p0 ≤ g) (h1 : 0 ≤ p1 ∧ p1 ≤ g) (h2 : 0 ≤ p2 ∧ p2 ≤ g) : (0 ≤ pD g p0 p1 p2 x 0 p0 ∧ pD g p0 p1 p2 x 0 p0 ≤ g) ∧ (0 ≤ pD g p0 p1 p2 x 1 p1 ∧ pD g p0 p1 p2 x 1 p1 ≤ g) ∧ (0 ≤ pD g p0 p1 p2 x 2 p2 ∧ pD g p0 p1 p2 x 2 p2 ≤ g) := by
  unfold pD
  cases hl : lk (op g p0) (op g p1) (op g p2) x with
  | none => simp only [Option.isSome_none, Bool.false_eq_true, if_false]; exact ⟨h0, h1, h2⟩
  | some v =>
    obtain ⟨a0, a1, a2⟩ := lk_at hl
    simp only [Option.isSome_some, if_true]
    exact ⟨(op_step g p0 v x 0 h0 a0).2, (op_step g p1 v x 1 h1 a1).2, (op_step g p2 v x 2 h2 a2).2⟩
theorem Done_u (W : World) (s m : Nat) (g r p0 p1 p2 : Int) (h : Sc W s m g r (op g p0) (op g p1) (op g p2)) (x : Int) (hx : (Lit.int .i64 x).wf = true) (hg : g ≤ 48) (h0 : 0 ≤ p0 ∧ p0 ≤ g) (h1 : 0 ≤ p1 ∧ p1 ≤ g) (h2 : 0 ≤ p2 ∧ p2 ≤ g) :
    Calls Try.prog 14 #[.pointer (some ⟨s, 0, none⟩), .int .i64 x] W fun e w' => W.grownBy w' (some m) ∧ e = .returned (.int .i64 (zD g p0 p1 p2 x)) ∧ Sc w' s m g r (op g (pD g p0 p1 p2 x 0 p0)) (op g (pD g p0 p1 p2 x 1 p1)) (op g (pD g p0 p1 p2 x 2 p2)) := by
  refine (Done_w W s m g r _ _ _ h x hx ?_).mono ?_
  · intro v hv
    obtain ⟨a0, a1, a2⟩ := lk_at hv
    have h3 : x = 0 ∨ x = 1 ∨ x = 2 := by
      unfold lk at hv
      split at hv
      · omega
      split at hv
      · omega
      split at hv
      · omega
      · cases hv
    rcases h3 with h3 | h3 | h3
    · have := op_some (a0 h3); omega
    · have := op_some (a1 h3); omega
    · have := op_some (a2 h3); omega
  · rintro e w' ⟨hG, hm⟩
    refine ⟨hG, ?_⟩
    unfold zD pD
    cases hl : lk (op g p0) (op g p1) (op g p2) x with
    | none =>
      rw [hl] at hm
      simp only [Option.isSome_none, Bool.false_eq_true, if_false]
      exact hm
    | some v =>
      rw [hl] at hm
      obtain ⟨a0, a1, a2⟩ := lk_at hl
      simp only [Option.isSome_some, if_true]
      rw [(op_step g p0 v x 0 h0 a0).1, (op_step g p1 v x 1 h1 a1).1, (op_step g p2 v x 2 h2 a2).1]
      exact hm
theorem rDone_u (W : World) (t : Nat) (g n p0 p1 p2 : Int) (h : RX W t g n p0 p1 p2) (x : Int) (hg : g ≤ 48) (h0 : 0 ≤ p0 ∧ p0 ≤ g) (h1 : 0 ≤ p1 ∧ p1 ≤ g) (h2 : 0 ≤ p2 ∧ p2 ≤ g) :
    Calls Try.prog 15 #[.pointer (some ⟨t, 0, none⟩), .int .i64 x] W fun e w' => W.grownBy w' (some t) ∧ e = .returned (.int .i64 (zD g p0 p1 p2 x)) ∧ RX w' t g n (pD g p0 p1 p2 x 0 p0) (pD g p0 p1 p2 x 1 p1) (pD g p0 p1 p2 x 2 p2) := by
  refine (rDone_w W t g n p0 p1 p2 h x (by omega) (by omega) (by omega)).mono ?_
  rintro e w' ⟨hG, hm⟩
  refine ⟨hG, ?_⟩
  unfold zD pD
  cases hl : lk (op g p0) (op g p1) (op g p2) x with
  | none =>
    rw [hl] at hm
    simp only [Option.isSome_none, Bool.false_eq_true, if_false]
    exact hm
  | some v =>
    rw [hl] at hm
    simp only [Option.isSome_some, if_true]
    exact hm
theorem Begin_u (W : World) (s m : Nat) (g r p0 p1 p2 : Int) (h : Sc W s m g r (op g p0) (op g p1) (op g p2)) (hr : 0 ≤ r ∧ r ≤ 1000000) (hg : 1 ≤ g) (h0 : p0 ≤ g) (h1 : p1 ≤ g) (h2 : p2 ≤ g) (a : Bool) (ha : all3 g p0 p1 p2 = a) :
    Calls Try.prog 16 #[.pointer (some ⟨s, 0, none⟩)] W fun e w' => W.grownBy w' (some s) ∧ e = .returned (.int .i64 (if a = true then 0 else 8)) ∧ ∃ M, (M = m ∨ W.heap.size ≤ M) ∧ Sc w' s M g (if a = true then r + 1 else r) (op g (if a = true then 0 else p0)) (op g (if a = true then 0 else p1)) (op g (if a = true then 0 else p2)) := by
  refine (Begin_w W s m g r _ _ _ h hr).mono ?_
  rintro e w' ⟨hG, hm⟩
  rw [none_all g p0 p1 p2 h0 h1 h2, ha] at hm
  refine ⟨hG, ?_⟩
  cases a with
  | true =>
    rw [if_pos rfl] at hm
    obtain ⟨he, M, hS, hM⟩ := hm
    simp only [if_true]
    rw [op_zero g hg]
    exact ⟨he, M, .inr hM, hS⟩
  | false =>
    rw [if_neg (by decide)] at hm
    simp only [Bool.false_eq_true, if_false]
    exact ⟨hm.1, m, .inl rfl, hm.2⟩
theorem rBegin_u (W : World) (t : Nat) (g n p0 p1 p2 : Int) (h : RX W t g n p0 p1 p2) (hn : 0 ≤ n ∧ n ≤ 100000) (a : Bool) (ha : all3 g p0 p1 p2 = a) :
    Calls Try.prog 17 #[.pointer (some ⟨t, 0, none⟩)] W fun e w' => W.grownBy w' (some t) ∧ e = .returned (.int .i64 (if a = true then 0 else 8)) ∧ RX w' t g (if a = true then n + 1 else n) (if a = true then 0 else p0) (if a = true then 0 else p1) (if a = true then 0 else p2) := by
  refine (rBegin_w W t g n p0 p1 p2 h hn).mono ?_
  rintro e w' ⟨hG, hm⟩
  rw [ha] at hm
  refine ⟨hG, ?_⟩
  cases a with
  | true => simpa using hm
  | false => simpa using hm
set_option maxRecDepth 20000 in
set_option maxHeartbeats 1600000 in
theorem awake17_w (w : World) : Calls Try.prog 11 #[] w fun e w' => e = .returned (.bool true) ∧ Below w.heap.size w w' := by
  have hz : ∀ v : Int, (some 0 : Option Int) = some v → 0 ≤ v ∧ v ≤ 1000 := by intro v h; cases h; omega
  go_enter Try.func11, Try.ntmps11
  go_wp2_with fail
  refine (New_w w 1 (by omega)).mono ?_
  rintro e w1 ⟨s, m, rfl, hS, hs, hm, hlt, hB⟩
  have hS := Lib.hid hS
  have hB := Lib.hid hB
  go_wp2_with fail
  refine (Next_w w1 s m 1 1 _ _ _ hS.out 0 (by decide)).mono ?_
  rintro e w2 ⟨rfl, rfl⟩
  go_wp2_with fail
  refine (Done_w w2 s m 1 1 _ _ _ hS.out 0 (by decide) hz).mono ?_
  rintro e w3 ⟨hG3, hm3⟩
  obtain ⟨rfl, hS3⟩ : e = .returned (.int .i64 0) ∧ Sc w3 s m 1 1 none (some 0) (some 0) := hm3
  have hS3 := Lib.hid hS3
  have hB3 := Lib.hid (belowG hB.out hG3 (by rintro k hk; obtain rfl := Option.some.inj hk; exact hm))
  go_wp2_with fail
  refine (Next_w w3 s m 1 1 _ _ _ hS3.out 0 (by decide)).mono ?_
  rintro e w4 ⟨rfl, rfl⟩
  go_wp2_with fail
  refine (Begin_w w4 s m 1 1 _ _ _ hS3.out (by omega)).mono ?_
  rintro e w5 ⟨hG5, hm5⟩
  obtain ⟨rfl, hS5⟩ : e = .returned (.int .i64 8) ∧ Sc w5 s m 1 1 none (some 0) (some 0) := hm5
  have hS5 := Lib.hid hS5
  have hB5 := Lib.hid (belowG hB3.out hG5 (by rintro k hk; obtain rfl := Option.some.inj hk; exact hs))
  go_wp2_with fail
  refine (Done_w w5 s m 1 1 _ _ _ hS5.out 1 (by decide) hz).mono ?_
  rintro e w6 ⟨hG6, hm6⟩
  obtain ⟨rfl, hS6⟩ : e = .returned (.int .i64 0) ∧ Sc w6 s m 1 1 none none (some 0) := hm6
  have hS6 := Lib.hid hS6
  have hB6 := Lib.hid (belowG hB5.out hG6 (by rintro k hk; obtain rfl := Option.some.inj hk; exact hm))
  go_wp2_with fail
  refine (Done_w w6 s m 1 1 _ _ _ hS6.out 2 (by decide) hz).mono ?_
  rintro e w7 ⟨hG7, hm7⟩
  obtain ⟨rfl, hS7⟩ : e = .returned (.int .i64 0) ∧ Sc w7 s m 1 1 none none none := hm7
  have hS7 := Lib.hid hS7
  have hB7 := Lib.hid (belowG hB6.out hG7 (by rintro k hk; obtain rfl := Option.some.inj hk; exact hm))
  go_wp2_with fail
  refine (Complete_w w7 s m 1 1 _ _ _ hS7.out).mono ?_
  rintro e w8 ⟨rfl, rfl⟩
  go_wp2_with fail
  refine (Begin_w w8 s m 1 1 _ _ _ hS7.out (by omega)).mono ?_
  rintro e w9 ⟨hG9, hm9⟩
  obtain ⟨rfl, m', hS9, hm'⟩ : e = .returned (.int .i64 0) ∧ ∃ m', Sc w9 s m' 1 2 (some 0) (some 0) (some 0) ∧ w8.heap.size ≤ m' := hm9
  have hS9 := Lib.hid hS9
  have hB9 := Lib.hid (belowG hB7.out hG9 (by rintro k hk; obtain rfl := Option.some.inj hk; exact hs))
  have hr := Lib.hid (show none3 none none none = true from rfl)
  clear hS hS3 hS5 hS6 hS7 hG3 hG5 hG6 hG7 hG9 hB hB3 hB5 hB6
  go_wp2_with fail
  refine (Round_w w9 s m' 1 2 _ _ _ hS9.out).mono ?_
  rintro e w10 ⟨rfl, rfl⟩
  go_wp2_with fail
  refine (Done_w w10 s m' 1 2 _ _ _ hS9.out 3 (by decide) (by intro v h; cases h)).mono ?_
  rintro e w11 ⟨hG11, hm11⟩
  obtain ⟨rfl, hS11⟩ : e = .returned (.int .i64 8) ∧ Sc w11 s m' 1 2 (some 0) (some 0) (some 0) := hm11
  have hB11 := Lib.hid (belowG hB9.out hG11 (by rintro k hk; obtain rfl := Option.some.inj hk; exact Nat.le_trans hB7.out.size hm'))
  go_wp2
  go_ret
  exact ⟨rfl, hB11.out⟩
set_option maxRecDepth 100000 in
set_option maxHeartbeats 6400000 in
theorem ScanDoes_w (w : World) (g : Int) (vl : Value) (l : List Int) (hl : RdV encN w vl l) (hw : ∀ x ∈ l, (Lit.int .i64 x).wf = true) :
    Calls Try.prog 3 #[.int .i64 g, vl] w fun e w' => e = .returned (.bool true) ∧ Below w.heap.size w w' := by
  obtain ⟨A, cp, rfl, hcp, hm0, hcl⟩ := hl.open
  have hcl := Lib.hid hcl
  have hw := Lib.hid hw
  clear hl
  go_enter Try.func3, Try.ntmps3
  go_wp2_with fail
  refine (awake17_w _).mono ?_
  rintro e w1 ⟨rfl, hB1⟩
  have hB1 := Lib.hid hB1
  by_cases h5 : 500 < l.length
  · go_wp2
    go_ret
    exact ⟨rfl, hB1.out⟩
  have h5' : ¬ (500 : Int) < (l.length : Int) := by omega
  by_cases hg : 1 ≤ g ∧ g ≤ 48
  case neg =>
    go_wp2_with fail
    refine (New_no w1 g (by omega)).mono ?_
    rintro e w2 ⟨rfl, rfl⟩
    go_wp2_with fail
    refine (rNew_no _ g (by omega)).mono ?_
    rintro e w3 ⟨rfl, rfl⟩
    go_wp2
    go_ret
    exact ⟨rfl, hB1.out⟩
  go_wp2_with fail
  refine (New_w w1 g hg).mono ?_
  rintro e w2 ⟨s, m, rfl, hS, hs, hm, hlt, hB2⟩
  have hmlt : m < w2.heap.size := hS.2.1.lt
  have hS := Lib.hid hS
  have hB2 := Lib.hid (belowT hB1.out hB2)
  go_wp2_with fail
  refine (rNew_w w2 g hg).mono ?_
  rintro e w3 ⟨rfl, hX, hB3⟩
  obtain ⟨t, ht⟩ : ∃ t, t = w2.heap.size := ⟨_, rfl⟩
  have hsw : w.heap.size ≤ w1.heap.size := hB1.out.size
  rw [← ht] at hX ⊢
  have hst : s ≠ t := by omega
  have hmt : m ≠ t := by omega
  have hms : w.heap.size ≤ m := by omega
  have hss : w.heap.size ≤ s := by omega
  have htt : w.heap.size ≤ t := by have := hB2.out.size; omega
  have hS := Lib.hid (hS.out.grown (gr_below (r := none) hB3) (by simp) (by simp))
  have hX := Lib.hid hX
  have hB := Lib.hid (belowT hB2.out hB3)
  rw [← op_zero g hg.1] at hS
  clear hB1 hB2 hB3 ht hm hs hlt hmlt hsw
  go_wp2_with fail
  go_loopw [10] (fun iv wr => ∃ (k m : Nat) (r p0 p1 p2 : Int), k ≤ l.length ∧ iv = .int .i64 k ∧ Sc wr s m g r (op g p0) (op g p1) (op g p2) ∧ RX wr t g r p0 p1 p2 ∧ Hid ((0 ≤ p0 ∧ p0 ≤ g) ∧ (0 ≤ p1 ∧ p1 ≤ g) ∧ (0 ≤ p2 ∧ p2 ≤ g) ∧ 1 ≤ r ∧ r ≤ k + 1) ∧ w.heap.size ≤ m ∧ m ≠ t ∧ Below w.heap.size w wr) (fun iv _ => l.length - (intOf iv).toNat)
  case atStart => exact ⟨0, m, 1, 0, 0, 0, Nat.zero_le _, rfl, hS.out, hX.out, Lib.hid (by omega), hms, hmt, hB.out⟩
  case round =>
    clear hS hX hB hms hmt
    obtain ⟨k, m, r, p0, p1, p2, hk, rfl, hS, hX, hbd, hms, hmt, hB⟩ := hrel
    have hS := Lib.hid hS
    have hX := Lib.hid hX
    have hB := Lib.hid hB
    by_cases hlt : k < l.length
    case neg =>
      obtain rfl : k = l.length := by omega
      go_wp2
      go_ret
      exact ⟨rfl, hB.out⟩
    obtain ⟨pb, po, hA, hcells⟩ := hcl.out.resolve_left (by intro e; rw [e] at hlt; simp at hlt)
    subst hA
    have hc0 := hcells k hlt
    have hpb : pb < w.heap.size := World.block_lt_of_cell? _ _ hc0
    have hck := (hB.out.cell (p := ⟨pb, po + k, none⟩) hpb).trans hc0
    have hwf := Lib.hid (hw.out _ (List.getElem_mem hlt))
    simp only [encN] at hck hc0
    obtain ⟨x, hx⟩ : ∃ x, Hid (x = l[k]) := ⟨_, Lib.hid rfl⟩
    rw [← hx.out] at hck hwf
    clear hcells hc0
    have hg48 := hg.2
    have hg1 := hg.1
    have hpm : m ≠ pb := by omega
    have hpt : t ≠ pb := by omega
    by_cases hx0 : -1 ≤ x
    · by_cases hx1 : x ≤ 3
      · have hd1 := fun W (h : Sc W s m g r (op g p0) (op g p1) (op g p2)) => Done_u W s m g r p0 p1 p2 h x hwf.out hg48 hbd.out.1 hbd.out.2.1 hbd.out.2.2.1
        have hd2 := fun W (h : RX W t g r p0 p1 p2) => rDone_u W t g r p0 p1 p2 h x hg48 hbd.out.1 hbd.out.2.1 hbd.out.2.2.1
        have hle := pD_le g p0 p1 p2 x hbd.out.1 hbd.out.2.1 hbd.out.2.2.1
        generalize zD g p0 p1 p2 x = z at hd1 hd2
        generalize pD g p0 p1 p2 x 0 p0 = P0 at hd1 hd2 hle
        generalize pD g p0 p1 p2 x 1 p1 = P1 at hd1 hd2 hle
        generalize pD g p0 p1 p2 x 2 p2 = P2 at hd1 hd2 hle
        have hd1 := Lib.hid hd1
        have hd2 := Lib.hid hd2
        have hbd := Lib.hid (show (0 ≤ P0 ∧ P0 ≤ g) ∧ (0 ≤ P1 ∧ P1 ≤ g) ∧ (0 ≤ P2 ∧ P2 ≤ g) ∧ 1 ≤ r ∧ r ≤ ((k + 1 : Nat) : Int) + 1 from ⟨hle.1, hle.2.1, hle.2.2, hbd.out.2.2.2.1, by have := hbd.out.2.2.2.2; omega⟩)
        clear hle
        go_wp2_with fail
        go_region_held3 (fun w' => w'.cell? ⟨pb, po + k, none⟩ = some (.int .i64 x)) (first | assumption | exact cell_drw hck | exact hgA.cell (cell_drw hck) (by simpa using hpm.symm) | exact hgB.cell (hgA.cell (cell_drw hck) (by simpa using hpm.symm)) (by simpa using hpt.symm))
          (first | (go_at_call 14; refine (hd1.out _ (hS.out.drw)).mono ?_; rintro e wA ⟨hgA, rfl, hSA⟩) | (go_at_call 15; refine (hd2.out _ ((BX.drew hX.out).grown hgA (by simpa using hmt.symm))).mono ?_; rintro e wB ⟨hgB, rfl, hXB⟩))
        obtain ⟨M, R, hS, hX, hB, hbd, hMs, hMt⟩ : ∃ M R, Hid (Sc wB s M g R (op g P0) (op g P1) (op g P2)) ∧ Hid (RX wB t g R P0 P1 P2) ∧ Hid (Below w.heap.size w wB) ∧ Hid ((0 ≤ P0 ∧ P0 ≤ g) ∧ (0 ≤ P1 ∧ P1 ≤ g) ∧ (0 ≤ P2 ∧ P2 ≤ g) ∧ 1 ≤ R ∧ R ≤ ((k + 1 : Nat) : Int) + 1) ∧ w.heap.size ≤ M ∧ M ≠ t :=
          ⟨m, r, Lib.hid (hSA.grown hgB (by simpa using hst) (by simpa using hmt)), Lib.hid hXB, Lib.hid (belowG (belowG (Below.drew hB.out) hgA (by rintro k hk; obtain rfl := Option.some.inj hk; exact hms)) hgB (by rintro k hk; obtain rfl := Option.some.inj hk; exact htt)), hbd, hms, hmt⟩
        clear hSA hXB hgA hgB hd1 hd2 hck
        go_wp2_with fail
        go_loopw [11] (fun cv wi => ∃ j : Nat, j ≤ 5 ∧ cv = .int .i64 ((j : Int) - 1) ∧ Sc wi s M g R (op g P0) (op g P1) (op g P2) ∧ RX wi t g R P0 P1 P2 ∧ Below w.heap.size w wi) (fun cv _ => (4 - intOf cv).toNat)
        case atStart => exact ⟨0, by omega, rfl, hS.out, hX.out, hB.out⟩
        case round =>
          clear hS hX hB
          obtain ⟨j, hj, rfl, hS, hX, hB⟩ := hrel
          have hS := Lib.hid hS
          have hX := Lib.hid hX
          have hB := Lib.hid hB
          by_cases hj5 : j < 5
          · have hcw : (Lit.int .i64 ((j : Int) - 1)).wf = true := by simp [Lit.wf, IntKind.min, IntKind.max, IntKind.signed, IntKind.bits]; omega
            have hcw := Lib.hid hcw
            have hle : (j : Int) - 1 ≤ 3 := by omega
            have hn1 := Next_w _ s M g R _ _ _ hS.out ((j : Int) - 1) hcw.out
            have hn2 := fun W (h : RX W t g R P0 P1 P2) => rNext_w W t g R P0 P1 P2 h ((j : Int) - 1)
            generalize (lk (op g P0) (op g P1) (op g P2) ((j : Int) - 1)).getD 0 = va at hn1 hn2
            generalize (lk (op g P0) (op g P1) (op g P2) ((j : Int) - 1)).isSome = vb at hn1 hn2
            have hn1 := Lib.hid hn1
            have hn2 := Lib.hid hn2
            go_wp2_with fail
            refine hn1.out.mono ?_
            rintro e wa ⟨rfl, rfl⟩
            go_wp2_with fail
            refine (hn2.out _ hX.out).mono ?_
            rintro e wb ⟨rfl, hBb⟩
            have hS := Lib.hid (hS.out.grown (gr_below (r := none) hBb) (by simp) (by simp))
            have hX := Lib.hid (hX.out.below hBb)
            have hB := Lib.hid (belowT hB.out hBb)
            clear hBb hn1 hn2
            go_wp2
            go_roundw
            case rel => exact ⟨j + 1, by omega, by go_num, hS.out, hX.out, hB.out⟩
            case measure => simp [intOf]; omega
          · obtain rfl : j = 5 := by omega
            have hle : ¬ ((5 : Nat) : Int) - 1 ≤ 3 := by omega
            have hn3 := fun W (h : Sc W s M g R (op g P0) (op g P1) (op g P2)) => Complete_w W s M g R _ _ _ h
            have hn4 := fun W (h : RX W t g R P0 P1 P2) => rComplete_w W t g R P0 P1 P2 h
            rw [none_all g P0 P1 P2 hbd.out.1.2 hbd.out.2.1.2 hbd.out.2.2.1.2] at hn3
            generalize all3 g P0 P1 P2 = va at hn3 hn4
            have hn3 := Lib.hid hn3
            have hn4 := Lib.hid hn4
            have hc1 := hX.out.cell 1 rfl
            go_wp2_with fail
            go_region_held3 (fun w' => w'.cell? ⟨t, 1, none⟩ = some (.int .i64 R)) (first | assumption | exact cell_drw hc1 | exact (BX.below (BX.drew hX.out) hBc).cell 1 rfl)
              (first | (go_at_call 20; refine (Round_w _ s M g R _ _ _ hS.out.drw).mono ?_; rintro e wa ⟨rfl, rfl⟩) | (go_at_call 21; refine (hn3.out _ hS.out.drw).mono ?_; rintro e wb ⟨rfl, rfl⟩) | (go_at_call 22; refine (hn4.out _ (BX.drew hX.out)).mono ?_; rintro e wc ⟨rfl, hBc⟩))
            have hS := Lib.hid (hS.out.drw.grown (gr_below (r := none) hBc) (by simp) (by simp))
            have hX := Lib.hid ((BX.drew hX.out).below hBc)
            have hB := Lib.hid (belowT (Below.drew hB.out) hBc)
            clear hBc hn3 hn4
            go_wp2
            go_roundw
            case rel => exact ⟨k + 1, M, R, P0, P1, P2, by omega, by go_num, hS.out, hX.out, hbd, hMs, hMt, hB.out⟩
            case measure => simp [intOf]; omega
      · have hx1' : decide (x ≤ 3) = false := by simpa using hx1
        have hb1 := fun W (h : Sc W s m g r (op g p0) (op g p1) (op g p2)) => Begin_u W s m g r p0 p1 p2 h (by have := hbd.out.2.2.2; omega) hg1 hbd.out.1.2 hbd.out.2.1.2 hbd.out.2.2.1.2 (all3 g p0 p1 p2) rfl
        have hb2 := fun W (h : RX W t g r p0 p1 p2) => rBegin_u W t g r p0 p1 p2 h (by have := hbd.out.2.2.2; omega) (all3 g p0 p1 p2) rfl
        have hle : ∀ a : Bool, (0 ≤ (if a = true then 0 else p0) ∧ (if a = true then 0 else p0) ≤ g) ∧ (0 ≤ (if a = true then 0 else p1) ∧ (if a = true then 0 else p1) ≤ g) ∧ (0 ≤ (if a = true then 0 else p2) ∧ (if a = true then 0 else p2) ≤ g) ∧ 1 ≤ (if a = true then r + 1 else r) ∧ (if a = true then r + 1 else r) ≤ ((k + 1 : Nat) : Int) + 1 := by
          intro a
          have := hbd.out
          cases a <;> simp only [if_true, if_false, Bool.false_eq_true] <;> omega
        have hle := hle (all3 g p0 p1 p2)
        generalize all3 g p0 p1 p2 = a at hb1 hb2 hle
        generalize (if a = true then (0 : Int) else 8) = z at hb1 hb2
        generalize (if a = true then (0 : Int) else p0) = P0 at hb1 hb2 hle
        generalize (if a = true then (0 : Int) else p1) = P1 at hb1 hb2 hle
        generalize (if a = true then (0 : Int) else p2) = P2 at hb1 hb2 hle
        generalize (if a = true then r + 1 else r) = R at hb1 hb2 hle
        have hb1 := Lib.hid hb1
        have hb2 := Lib.hid hb2
        have hbd := Lib.hid hle
        have htl := hX.out.lt
        clear hle
        go_wp2_with fail
        refine (hb1.out _ hS.out).mono ?_
        rintro e wA ⟨hgA, rfl, M, hM, hSA⟩
        have hXA := Lib.hid (hX.out.grown hgA (by simpa using hst.symm))
        have hMt : M ≠ t := by rcases hM with hM | hM <;> omega
        have hMs : w.heap.size ≤ M := by have := hB.out.size; rcases hM with hM | hM <;> omega
        have hSA := Lib.hid hSA
        go_wp2_with fail
        refine (hb2.out _ hXA.out).mono ?_
        rintro e wB ⟨hgB, rfl, hXB⟩
        have hS := Lib.hid (hSA.out.grown hgB (by simpa using hst) (by simpa using hMt))
        have hX := Lib.hid hXB
        have hB := Lib.hid (belowG (belowG hB.out hgA (by rintro k hk; obtain rfl := Option.some.inj hk; exact hss)) hgB (by rintro k hk; obtain rfl := Option.some.inj hk; exact htt))
        clear hSA hXA hXB hgA hgB hb1 hb2 hck hM htl
        go_wp2_with fail
        go_loopw [11] (fun cv wi => ∃ j : Nat, j ≤ 5 ∧ cv = .int .i64 ((j : Int) - 1) ∧ Sc wi s M g R (op g P0) (op g P1) (op g P2) ∧ RX wi t g R P0 P1 P2 ∧ Below w.heap.size w wi) (fun cv _ => (4 - intOf cv).toNat)
        case atStart => exact ⟨0, by omega, rfl, hS.out, hX.out, hB.out⟩
        case round =>
          clear hS hX hB
          obtain ⟨j, hj, rfl, hS, hX, hB⟩ := hrel
          have hS := Lib.hid hS
          have hX := Lib.hid hX
          have hB := Lib.hid hB
          by_cases hj5 : j < 5
          · have hcw : (Lit.int .i64 ((j : Int) - 1)).wf = true := by simp [Lit.wf, IntKind.min, IntKind.max, IntKind.signed, IntKind.bits]; omega
            have hcw := Lib.hid hcw
            have hle : (j : Int) - 1 ≤ 3 := by omega
            have hn1 := Next_w _ s M g R _ _ _ hS.out ((j : Int) - 1) hcw.out
            have hn2 := fun W (h : RX W t g R P0 P1 P2) => rNext_w W t g R P0 P1 P2 h ((j : Int) - 1)
            generalize (lk (op g P0) (op g P1) (op g P2) ((j : Int) - 1)).getD 0 = va at hn1 hn2
            generalize (lk (op g P0) (op g P1) (op g P2) ((j : Int) - 1)).isSome = vb at hn1 hn2
            have hn1 := Lib.hid hn1
            have hn2 := Lib.hid hn2
            go_wp2_with fail
            refine hn1.out.mono ?_
            rintro e wa ⟨rfl, rfl⟩
            go_wp2_with fail
            refine (hn2.out _ hX.out).mono ?_
            rintro e wb ⟨rfl, hBb⟩
            have hS := Lib.hid (hS.out.grown (gr_below (r := none) hBb) (by simp) (by simp))
            have hX := Lib.hid (hX.out.below hBb)
            have hB := Lib.hid (belowT hB.out hBb)
            clear hBb hn1 hn2
            go_wp2
            go_roundw
            case rel => exact ⟨j + 1, by omega, by go_num, hS.out, hX.out, hB.out⟩
            case measure => simp [intOf]; omega
          · obtain rfl : j = 5 := by omega
            have hle : ¬ ((5 : Nat) : Int) - 1 ≤ 3 := by omega
            have hn3 := fun W (h : Sc W s M g R (op g P0) (op g P1) (op g P2)) => Complete_w W s M g R _ _ _ h
            have hn4 := fun W (h : RX W t g R P0 P1 P2) => rComplete_w W t g R P0 P1 P2 h
            rw [none_all g P0 P1 P2 hbd.out.1.2 hbd.out.2.1.2 hbd.out.2.2.1.2] at hn3
            generalize all3 g P0 P1 P2 = va at hn3 hn4
            have hn3 := Lib.hid hn3
            have hn4 := Lib.hid hn4
            have hc1 := hX.out.cell 1 rfl
            go_wp2_with fail
            go_region_held3 (fun w' => w'.cell? ⟨t, 1, none⟩ = some (.int .i64 R)) (first | assumption | exact cell_drw hc1 | exact (BX.below (BX.drew hX.out) hBc).cell 1 rfl)
              (first | (go_at_call 20; refine (Round_w _ s M g R _ _ _ hS.out.drw).mono ?_; rintro e wa ⟨rfl, rfl⟩) | (go_at_call 21; refine (hn3.out _ hS.out.drw).mono ?_; rintro e wb ⟨rfl, rfl⟩) | (go_at_call 22; refine (hn4.out _ (BX.drew hX.out)).mono ?_; rintro e wc ⟨rfl, hBc⟩))
            have hS := Lib.hid (hS.out.drw.grown (gr_below (r := none) hBc) (by simp) (by simp))
            have hX := Lib.hid ((BX.drew hX.out).below hBc)
            have hB := Lib.hid (belowT (Below.drew hB.out) hBc)
            clear hBc hn3 hn4
            go_wp2
            go_roundw
            case rel => exact ⟨k + 1, M, R, P0, P1, P2, by omega, by go_num, hS.out, hX.out, hbd, hMs, hMt, hB.out⟩
            case measure => simp [intOf]; omega
    · have hx0' : decide (-1 ≤ x) = false := by simpa using hx0
      have hb1 := fun W (h : Sc W s m g r (op g p0) (op g p1) (op g p2)) => Begin_u W s m g r p0 p1 p2 h (by have := hbd.out.2.2.2; omega) hg1 hbd.out.1.2 hbd.out.2.1.2 hbd.out.2.2.1.2 (all3 g p0 p1 p2) rfl
      have hb2 := fun W (h : RX W t g r p0 p1 p2) => rBegin_u W t g r p0 p1 p2 h (by have := hbd.out.2.2.2; omega) (all3 g p0 p1 p2) rfl
      have hle : ∀ a : Bool, (0 ≤ (if a = true then 0 else p0) ∧ (if a = true then 0 else p0) ≤ g) ∧ (0 ≤ (if a = true then 0 else p1) ∧ (if a = true then 0 else p1) ≤ g) ∧ (0 ≤ (if a = true then 0 else p2) ∧ (if a = true then 0 else p2) ≤ g) ∧ 1 ≤ (if a = true then r + 1 else r) ∧ (if a = true then r + 1 else r) ≤ ((k + 1 : Nat) : Int) + 1 := by
        intro a
        have := hbd.out
        cases a <;> simp only [if_true, if_false, Bool.false_eq_true] <;> omega
      have hle := hle (all3 g p0 p1 p2)
      generalize all3 g p0 p1 p2 = a at hb1 hb2 hle
      generalize (if a = true then (0 : Int) else 8) = z at hb1 hb2
      generalize (if a = true then (0 : Int) else p0) = P0 at hb1 hb2 hle
      generalize (if a = true then (0 : Int) else p1) = P1 at hb1 hb2 hle
      generalize (if a = true then (0 : Int) else p2) = P2 at hb1 hb2 hle
      generalize (if a = true then r + 1 else r) = R at hb1 hb2 hle
      have hb1 := Lib.hid hb1
      have hb2 := Lib.hid hb2
      have hbd := Lib.hid hle
      have htl := hX.out.lt
      clear hle
      go_wp2_with fail
      refine (hb1.out _ hS.out).mono ?_
      rintro e wA ⟨hgA, rfl, M, hM, hSA⟩
      have hXA := Lib.hid (hX.out.grown hgA (by simpa using hst.symm))
      have hMt : M ≠ t := by rcases hM with hM | hM <;> omega
      have hMs : w.heap.size ≤ M := by have := hB.out.size; rcases hM with hM | hM <;> omega
      have hSA := Lib.hid hSA
      go_wp2_with fail
      refine (hb2.out _ hXA.out).mono ?_
      rintro e wB ⟨hgB, rfl, hXB⟩
      have hS := Lib.hid (hSA.out.grown hgB (by simpa using hst) (by simpa using hMt))
      have hX := Lib.hid hXB
      have hB := Lib.hid (belowG (belowG hB.out hgA (by rintro k hk; obtain rfl := Option.some.inj hk; exact hss)) hgB (by rintro k hk; obtain rfl := Option.some.inj hk; exact htt))
      clear hSA hXA hXB hgA hgB hb1 hb2 hck hM htl
      go_wp2_with fail
      go_loopw [11] (fun cv wi => ∃ j : Nat, j ≤ 5 ∧ cv = .int .i64 ((j : Int) - 1) ∧ Sc wi s M g R (op g P0) (op g P1) (op g P2) ∧ RX wi t g R P0 P1 P2 ∧ Below w.heap.size w wi) (fun cv _ => (4 - intOf cv).toNat)
      case atStart => exact ⟨0, by omega, rfl, hS.out, hX.out, hB.out⟩
      case round =>
        clear hS hX hB
        obtain ⟨j, hj, rfl, hS, hX, hB⟩ := hrel
        have hS := Lib.hid hS
        have hX := Lib.hid hX
        have hB := Lib.hid hB
        by_cases hj5 : j < 5
        · have hcw : (Lit.int .i64 ((j : Int) - 1)).wf = true := by simp [Lit.wf, IntKind.min, IntKind.max, IntKind.signed, IntKind.bits]; omega
          have hcw := Lib.hid hcw
          have hle : (j : Int) - 1 ≤ 3 := by omega
          have hn1 := Next_w _ s M g R _ _ _ hS.out ((j : Int) - 1) hcw.out
          have hn2 := fun W (h : RX W t g R P0 P1 P2) => rNext_w W t g R P0 P1 P2 h ((j : Int) - 1)
          generalize (lk (op g P0) (op g P1) (op g P2) ((j : Int) - 1)).getD 0 = va at hn1 hn2
          generalize (lk (op g P0) (op g P1) (op g P2) ((j : Int) - 1)).isSome = vb at hn1 hn2
          have hn1 := Lib.hid hn1
          have hn2 := Lib.hid hn2
          go_wp2_with fail
          refine hn1.out.mono ?_
          rintro e wa ⟨rfl, rfl⟩
          go_wp2_with fail
          refine (hn2.out _ hX.out).mono ?_
          rintro e wb ⟨rfl, hBb⟩
          have hS := Lib.hid (hS.out.grown (gr_below (r := none) hBb) (by simp) (by simp))
          have hX := Lib.hid (hX.out.below hBb)
          have hB := Lib.hid (belowT hB.out hBb)
          clear hBb hn1 hn2
          go_wp2
          go_roundw
          case rel => exact ⟨j + 1, by omega, by go_num, hS.out, hX.out, hB.out⟩
          case measure => simp [intOf]; omega
        · obtain rfl : j = 5 := by omega
          have hle : ¬ ((5 : Nat) : Int) - 1 ≤ 3 := by omega
          have hn3 := fun W (h : Sc W s M g R (op g P0) (op g P1) (op g P2)) => Complete_w W s M g R _ _ _ h
          have hn4 := fun W (h : RX W t g R P0 P1 P2) => rComplete_w W t g R P0 P1 P2 h
          rw [none_all g P0 P1 P2 hbd.out.1.2 hbd.out.2.1.2 hbd.out.2.2.1.2] at hn3
          generalize all3 g P0 P1 P2 = va at hn3 hn4
          have hn3 := Lib.hid hn3
          have hn4 := Lib.hid hn4
          have hc1 := hX.out.cell 1 rfl
          go_wp2_with fail
          go_region_held3 (fun w' => w'.cell? ⟨t, 1, none⟩ = some (.int .i64 R)) (first | assumption | exact cell_drw hc1 | exact (BX.below (BX.drew hX.out) hBc).cell 1 rfl)
            (first | (go_at_call 20; refine (Round_w _ s M g R _ _ _ hS.out.drw).mono ?_; rintro e wa ⟨rfl, rfl⟩) | (go_at_call 21; refine (hn3.out _ hS.out.drw).mono ?_; rintro e wb ⟨rfl, rfl⟩) | (go_at_call 22; refine (hn4.out _ (BX.drew hX.out)).mono ?_; rintro e wc ⟨rfl, hBc⟩))
          have hS := Lib.hid (hS.out.drw.grown (gr_below (r := none) hBc) (by simp) (by simp))
          have hX := Lib.hid ((BX.drew hX.out).below hBc)
          have hB := Lib.hid (belowT (Below.drew hB.out) hBc)
          clear hBc hn3 hn4
          go_wp2
          go_roundw
          case rel => exact ⟨k + 1, M, R, P0, P1, P2, by omega, by go_num, hS.out, hX.out, hbd, hMs, hMt, hB.out⟩
          case measure => simp [intOf]; omega
end Go.Proofs.Ytbhnkdnfmlnajaa
