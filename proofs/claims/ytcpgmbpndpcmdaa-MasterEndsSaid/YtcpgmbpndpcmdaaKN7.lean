/- Texts of mine, laid together: RdrB, RdrC, Pmon, PrimR, FLMasterEnds, FMas, FRtu, FRef01, FCrc, GCrc, GRef01. -/
import Derived.Test.YtcpgmbpndpcmdaaKN6
import Derived.Deep.RegionHeld3
import Derived.Deep.CutBlock
import Derived.Deep.DeepCutAuto
import Derived.Recover
import Derived.Defers
namespace Go.Proofs.Ytcpgmbpndpcmdaa
open Go Go.RowKit
set_option linter.unusedSimpArgs false
set_option linter.unusedVariables false
theorem bits_w (v : Value) (l : List UInt8) (n : Int) (w : World) (h : RdV encB w v l) (hl : l.length ≤ 100000) (h0 : 0 ≤ n) (h1 : n ≤ 2000) :
    Calls Try.prog 78 #[v, .int .i64 n] w fun e w' => ∃ v', e = .returned (.tuple #[v', .bool (bitsTell l n).1]) ∧ Own encT 4 w' w.heap.size v' (bitsTell l n).2 ∧ Below w.heap.size w w' := by
  obtain ⟨m, rfl⟩ := Int.eq_ofNat_of_zero_le h0
  rw [bitsTell_nat]
  by_cases hf : bitsFit l m
  · rw [wBits_yes hf]
    exact word_Bits_yes v l m w h hf (by omega)
  · rw [wBits_no hf]
    exact (word_Bits_no v l m w h (.inr (by simpa using hf)) (by omega) (by omega)).mono fun e w' ⟨h3, h4⟩ => ⟨_, h3, own_nil _ _ _ _, by rw [← h4]; exact Below.refl _ _⟩
theorem words_w (v : Value) (l : List UInt8) (w : World) (h : RdV encB w v l) (hl : l.length ≤ 100000) :
    Calls Try.prog 80 #[v] w fun e w' => ∃ v', e = .returned (.tuple #[v', .bool (wordsTell l).1]) ∧ Own encW 26 w' w.heap.size v' (wordsTell l).2 ∧ Below w.heap.size w w' := by
  rcases (by omega : l.length % 2 = 1 ∨ l.length % 2 = 0) with hn | hn
  · rw [wordsTell_no hn]
    exact (word_Words_no v l w h hn).mono fun e w' ⟨h3, h4⟩ => ⟨_, h3, own_nil _ _ _ _, by rw [← h4]; exact Below.refl _ _⟩
  · rw [wordsTell_yes hn]
    exact word_Words_yes v l w h hn hl
theorem rd_grown {α : Type} {enc : α → Value} {w w' : World} {V : Value} {l : List α} {g : Nat} (h : RdV enc w V l) (hw : w.grownBy w' (some g)) (hg : ∀ p n c, V = .slice (some p) n c → l ≠ [] → p.block ≠ g) : RdV enc w' V l := by
  obtain ⟨A', c', rfl, h1, h2, h3, h4⟩ := h
  refine ⟨_, _, rfl, h1, h2, h3, h4.imp id ?_⟩
  rintro ⟨b, o, rfl, hc⟩
  refine ⟨b, o, rfl, fun j u hu => ?_⟩
  have := hc j u hu
  rw [World.cell?_of_block (w := w)]
  · exact this
  · obtain ⟨_, _, _, _, h5⟩ := hw
    exact h5 b (World.block_lt_of_cell? _ _ this) (by
      intro e
      exact hg ⟨b, o, none⟩ _ _ rfl (by rintro rfl; simp at hu) (by simpa using e))
theorem Rr.blk {w : World} {g : Nat} {l : List UInt8} (h : Rr w g l) : g < w.heap.size := by
  obtain ⟨⟨A, c, h1, h2, h3⟩, h4⟩ := h
  exact World.block_lt_of_cell? _ _ h1
theorem Rr.below {w w' : World} {g : Nat} {l : List UInt8} (h : Rr w g l) (hb : Below w.heap.size w w') : Rr w' g l := h.row (row := none) (grown_below hb) (by intro j hj; cases hj)
theorem Rr.drew {w : World} {g : Nat} {l : List UInt8} (h : Rr w g l) : Rr w.drew g l := by
  obtain ⟨⟨A, c, h1, h2, h3⟩, h4⟩ := h
  exact ⟨⟨A, c, (show w.drew.cell? _ = _ from h1), h2.drew, h3⟩, h4⟩
theorem cell_drew' {w : World} {p : Addr} {v : Value} (h : w.cell? p = some v) : w.drew.cell? p = some v := h
theorem own_other {α : Type} {enc : α → Value} {e : TypeId} {w : World} {base b k : Nat} {v u : Value} {l : List α} (h : Own enc e w base v l) (hb : b < base) : Own enc e (w.setCell ⟨b, k, none⟩ u) base v l :=
  h.kept (row := some b) ⟨rfl, rfl, rfl, by simp [World.setCell], fun i _ hi => Below.heap_setCell _ _ _ _ (fun e => hi (by rw [e]))⟩
    (by cases hv : v.ownBlock with
        | none => exact .inl rfl
        | some j => exact .inr (fun hh => by have := (h.base j hv).1; injection hh with hh; omega))
theorem Rr.other {w : World} {g b k : Nat} {l : List UInt8} {v : Value} (h : Rr w g l) (hb : g < b) : Rr (w.setCell ⟨b, k, none⟩ v) g l :=
  h.row (row := some b) ⟨rfl, rfl, rfl, by simp [World.setCell], fun i _ hi => Below.heap_setCell _ _ _ _ (fun e => hi (by rw [e]))⟩ (by rintro j hj; cases hj; exact hb)
theorem grown_set {w w1 : World} {g b k : Nat} {v : Value} (h : w.grownBy w1 (some g)) (hb : w.heap.size ≤ b) : w.grownBy (w1.setCell ⟨b, k, none⟩ v) (some g) :=
  ⟨h.os, h.tape, h.output, by simpa [World.setCell] using h.size, fun i hi hr => (Below.heap_setCell _ _ _ _ (by show i ≠ b; omega)).trans (h.block i hi hr)⟩
theorem toW_ofW (l : List UInt16) : toW (ofW l) = l := by
  unfold toW ofW
  rw [List.map_map]
  conv => rhs; rw [← List.map_id l]
  refine List.map_congr_left fun c _ => ?_
  show UInt16.ofNat ((c.toNat : Int)).toNat = c
  simp
theorem txS_size (addr : Int) : ∀ (m i : Nat) (r : List UInt8) (ts : List ByteArray) (q : List UInt8), txS addr i m r = some (ts, q) → ∀ s ∈ ts, s.size ≤ 255
  | 0, i, r, ts, q, h => by
    cases h
    intro s hs
    cases hs
  | m + 1, i, [], ts, q, h => by cases h
  | m + 1, i, c :: r, ts, q, h => by
    simp only [txS] at h
    split at h
    · cases hp : cntS r with
      | none => rw [hp] at h; cases h
      | some p =>
        rw [hp, Option.bind_some] at h
        obtain ⟨p1, p2⟩ := p
        cases ht : txS addr (i + 1) m p2 with
        | none => rw [ht] at h; cases h
        | some u =>
          rw [ht] at h
          cases h
          obtain ⟨u1, u2⟩ := u
          have h1 := txS_size addr m (i + 1) p2 u1 u2 ht
          have h2 := (cntS_open hp).2
          intro s hs
          rcases List.mem_cons.1 hs with rfl | hs
          · show p1.toArray.size ≤ 255
            simpa using h2
          · exact h1 s hs
    · cases h
theorem texts_size (a : Rq) (r : List UInt8) (ts : List ByteArray) (q : List UInt8) (h : textsS a.addr a.cnt r = some (ts, q)) : (∀ s ∈ ts, s.size ≤ 255) ∧ ts.length ≤ 255 := by
  unfold textsS at h
  split at h
  · cases hr : r.drop 5 with
    | nil => rw [hr] at h; cases h
    | cons c r2 =>
      rw [hr] at h
      have hc := c.toNat_lt
      obtain ⟨_, e2⟩ := txS_open _ _ _ _ _ _ h
      exact ⟨txS_size _ _ _ _ _ _ h, by omega⟩
  · cases h
def Mid (w wx : World) (g : Nat) (a : Rq) (vw vb : Value) (spec : Option An) (x8 : Value) : Prop :=
  ∃ (isv : Bool) (x : An) (rest : List UInt8) (v1 v2 v3 : Value), x8 = .bool isv ∧ x.exc = 0 ∧ AnOk x ∧ BX wx w.heap.size 28 #[.int .i64 a.code, .int .i64 a.addr, .int .i64 a.cnt, .int .i64 a.to_, vw, vb, .int .u16 a.and_, .int .u16 a.or_] ∧ BX wx (w.heap.size + 1) 48 #[.int .i64 0, v1, v2, v3] ∧
    Own encT 4 wx (w.heap.size + 2) v1 x.bits ∧ Own encW 26 wx (w.heap.size + 2) v2 (toW x.words) ∧ Own encS 9 wx (w.heap.size + 2) v3 x.texts ∧ Rr wx g rest ∧ w.grownBy wx (some g) ∧ spec = if isv = true ∧ rest = [] ∧ ansV a x = true then some x else none
set_option maxRecDepth 100000 in
set_option maxHeartbeats 3200000 in
theorem body_w (w : World) (g : Nat) (l : List UInt8) (a : Rq) (hr : RightP a) (oa : RqOk a) (vw vb : Value) (a1 : RdV encW w vw (toW a.words)) (a2 : RdV encT w vb a.bits) (i1 : ∀ p n c, vw = .slice (some p) n c → toW a.words ≠ [] → p.block ≠ g) (i2 : ∀ p n c, vb = .slice (some p) n c → a.bits ≠ [] → p.block ≠ g) (h : Rr w g l) :
    Calls Try.prog 84 #[.pointer (some ⟨g, 0, none⟩), rqW a vw vb] w fun e w' =>
      w.grownBy w' (some g) ∧ match bodyS a l with | some x => x.exc = 0 ∧ ∃ v1 v2 v3, e = .returned (anW x v1 v2 v3) ∧ Own encT 4 w' w.heap.size v1 x.bits ∧ Own encW 26 w' w.heap.size v2 (toW x.words) ∧ Own encS 9 w' w.heap.size v3 x.texts | none => e = .panicked PV := by
  have hgl := h.blk
  have hh := Lib.hid h
  have ha1 := Lib.hid a1
  have ha2 := Lib.hid a2
  have hi1 := Lib.hid i1
  have hi2 := Lib.hid i2
  have hoa := Lib.hid oa
  have hrr := Lib.hid hr
  obtain ⟨spec, hspec⟩ : ∃ s, Hid (s = bodyS a l) := ⟨_, Lib.hid rfl⟩
  rw [← hspec.out]
  obtain ⟨b1, hb1⟩ : ∃ b, Hid (b = rdBits a.code) := ⟨_, Lib.hid rfl⟩
  obtain ⟨b2, hb2⟩ : ∃ b, Hid (b = rdWords a.code) := ⟨_, Lib.hid rfl⟩
  obtain ⟨b3, hb3⟩ : ∃ b, Hid (b = rdTexts a.code) := ⟨_, Lib.hid rfl⟩
  clear h a1 a2 i1 i2 oa hr
  unfold rqW
  go_enter Try.func84, Try.ntmps84
  go_wp2_with fail
  refine (reads_w a.code _).mono ?_
  rintro e w1 ⟨rfl, hB1⟩
  rw [← hb1.out, ← hb2.out, ← hb3.out]
  have hq : BX w1 w.heap.size 28 #[.int .i64 a.code, .int .i64 a.addr, .int .i64 a.cnt, .int .i64 a.to_, vw, vb, .int .u16 a.and_, .int .u16 a.or_] := ((BX.made rfl).alloc _).below hB1
  have hx : BX w1 (w.heap.size + 1) 48 #[.int .i64 0, .slice none 0 0, .slice none 0 0, .slice none 0 0] := (BX.made (by simp)).below hB1
  have hG1 : w.grownBy w1 (some g) := grown_trans (grown_alloc (grown_alloc (grown_same w _) _) _) (grown_below hB1)
  have hR1 : Rr w1 g l := ((hh.out.alloc _).alloc _).below hB1
  have hq := Lib.hid hq
  have hx := Lib.hid hx
  have hG1 := Lib.hid hG1
  have hR1 := Lib.hid hR1
  clear hB1
  go_upto_block 0 with fail
  go_cut [8] (fun x8 wx => Hid (Mid w wx g a vw vb spec x8))
  case first =>
    have q2 := hq.out.cell 2 rfl
    have hok0 : AnOk anZ := anZ_ok
    have hcnt := formed_le a hrr.out.1
    obtain ⟨hc0, hc1, hd0, hd1, _⟩ := hcnt
    have hdd := Lib.hid (show 0 ≤ a.addr ∧ a.addr ≤ 65535 from ⟨hd0, hd1⟩)
    have hcc := Lib.hid (show 0 ≤ a.cnt ∧ a.cnt ≤ 65535 from ⟨hc0, by omega⟩)
    have hc0 := Lib.hid hc0
    have hc1 := Lib.hid hc1
    clear hd0 hd1
    cases b1 with
    | true =>
      cases hp : cntS l with
      | none =>
        have hs2 : spec = none := by rw [hspec.out]; unfold bodyS; rw [if_pos hb1.out.symm, hp]; rfl
        have hcall : ∀ W, Rr W g l → Calls Try.prog 85 #[.pointer (some ⟨g, 0, none⟩)] W fun e w' => W.grownBy w' (some g) ∧ e = .panicked PV := fun W hW => by
          have := counted_c W g l hW
          rw [hp] at this
          exact this
        have hcall := Lib.hid hcall
        clear hspec hp
        subst hs2
        go_wp2_with fail
        refine wp_region_held_drew (S := fun w' => w'.cell? ⟨w.heap.size, 2, none⟩ = some (.int .i64 a.cnt)) (by kernel_rfl) (cell_drew' q2) (fun hHeld => ?_)
        refine wpAnyH_take (i := 0) (v := ?_) rfl (by kernel_rfl) (by kernel_rfl) (by kernel_rfl) (fun _ _ _ h => h) (Or.inl ⟨by rfl, ?_⟩) (by assumption) ?_
        rotate_left
        · intro w hSw
          go_simp
          try with_reducible rfl
        simp only [Act.put, List.setIfInBounds_toArray, List.set_cons_zero, List.set_cons_succ]
        refine wpAnyH_take (i := 2) (v := ?_) rfl (by kernel_rfl) (by kernel_rfl) (by kernel_rfl) (fun _ _ _ h => h) (Or.inl ⟨by rfl, ?_⟩) (by assumption) ?_
        rotate_left
        · intro w hSw
          go_simp
          try with_reducible rfl
        simp only [Act.put, List.setIfInBounds_toArray, List.set_cons_zero, List.set_cons_succ]
        refine wpAnyH_take (i := 3) (v := ?_) rfl (by kernel_rfl) (by kernel_rfl) (by kernel_rfl) (fun _ _ _ h => h) (Or.inl ⟨by rfl, ?_⟩) (by assumption) ?_
        rotate_left
        · intro w hSw
          go_simp
          try with_reducible rfl
        simp only [Act.put, List.setIfInBounds_toArray, List.set_cons_zero, List.set_cons_succ]
        refine wpAnyH_ready (rs := [1]) (by kernel_rfl) (by simp) ?_
        refine AllReadyH.cons rfl (fun K hK => ?_) AllReadyH.nil
        go_simp
        go_wp2_with fail
        refine (hcall.out _ hR1.out.drew).mono ?_
        rintro e w2 ⟨hG2, rfl⟩
        exact ⟨rfl, grown_trans (grown_drew hG1.out) hG2, rfl⟩
      | some p =>
        obtain ⟨p1, p2⟩ := p
        have hs2 : Hid (spec = if (bitsTell p1 a.cnt).1 = true ∧ p2 = [] ∧ ansV a ⟨0, (bitsTell p1 a.cnt).2, [], []⟩ = true then some ⟨0, (bitsTell p1 a.cnt).2, [], []⟩ else none) := Lib.hid (by rw [hspec.out]; unfold bodyS; rw [if_pos hb1.out.symm, hp]; rfl)
        have hpl : p1.length ≤ 255 := (cntS_open hp).2
        have hcall : ∀ W, Rr W g l → Calls Try.prog 85 #[.pointer (some ⟨g, 0, none⟩)] W fun e w' => W.grownBy w' (some g) ∧ ∃ v, e = .returned v ∧ RdV encB w' v p1 ∧ Rr w' g p2 := fun W hW => by
          have := counted_c W g l hW
          rw [hp] at this
          exact this
        have hcall := Lib.hid hcall
        clear hspec hp
        go_wp2_with fail
        go_region_held3 (fun w' => w'.cell? ⟨w.heap.size, 2, none⟩ = some (.int .i64 a.cnt)) (first | assumption | exact cell_drew' q2 | exact (((hq.out.drew.grown hG2 (by simp; omega)).below hB3).other (by omega) _ _).cell 2 rfl)
          (first | (go_at_call 85; refine (hcall.out _ hR1.out.drew).mono ?_; rintro e w2 ⟨hG2, v2, rfl, hrd, hR2⟩; have q2 := (hq.out.drew.grown hG2 (by simp; omega)).cell 2 rfl) | (go_at_call 78; refine (bits_w _ p1 a.cnt _ hrd (by omega) hc0.out hc1.out).mono ?_; rintro e w3 ⟨v3, rfl, ho, hB3⟩; obtain ⟨A3, k3, rfl, _⟩ := ho.rd.open; have hx3 := (hx.out.drew.grown hG2 (by simp; omega)).below hB3; have y0 := hx3.cell 1 rfl; have f0 := hx3.frozen 1; have q2 := ((hq.out.drew.grown hG2 (by simp; omega)).below hB3).cell 2 rfl))
        have hM : Hid (Mid w (w3.setCell ⟨w.heap.size + 1, 1, none⟩ (.slice A3 (bitsTell p1 a.cnt).2.length k3)) g a vw vb spec (.bool (bitsTell p1 a.cnt).1)) := by
          have hsz : w.heap.size + 2 ≤ w2.heap.size := (hx.out.drew.grown hG2 (by simp; omega)).lt
          exact Lib.hid ⟨_, ⟨0, (bitsTell p1 a.cnt).2, [], []⟩, p2, _, _, _, rfl, rfl, ⟨(by intro x hx; cases hx), by simp, by simp⟩, ((hq.out.drew.grown hG2 (by simp; omega)).below hB3).other (by omega) _ _, hx3.set 1 _, own_other (ho.lower hsz) (by omega), Own.nil _ _ _ _, Own.nil _ _ _ _, (hR2.below hB3).other (by omega), grown_set (grown_trans (grown_trans (grown_drew hG1.out) hG2) (grown_below hB3)) (by omega), hs2.out⟩
        clear hs2 hG2 hR2 hrd ho hB3 hx3 y0 f0
        go_wp2_with fail
        go_meet
        exact hM
    | false =>
    cases b2 with
    | true =>
      have u1 : ¬ rdBits a.code = true := by rw [← hb1.out]; decide
      cases hp : cntS l with
      | none =>
        have hs2 : spec = none := by rw [hspec.out]; unfold bodyS; rw [if_neg u1, if_pos hb2.out.symm, hp]; rfl
        clear hspec
        subst hs2
        go_wp2_with fail
        refine (counted_c _ g l hR1.out).mono ?_
        rw [hp]
        rintro e w2 ⟨hG2, rfl⟩
        exact ⟨rfl, grown_trans hG1.out hG2, rfl⟩
      | some p =>
        obtain ⟨p1, p2⟩ := p
        have hs2 : Hid (spec = if (wordsTell p1).1 = true ∧ p2 = [] ∧ ansV a ⟨0, [], ofW (wordsTell p1).2, []⟩ = true then some ⟨0, [], ofW (wordsTell p1).2, []⟩ else none) := Lib.hid (by rw [hspec.out]; unfold bodyS; rw [if_neg u1, if_pos hb2.out.symm, hp]; rfl)
        have hpl : p1.length ≤ 255 := (cntS_open hp).2
        clear hspec
        go_wp2_with fail
        refine (counted_c _ g l hR1.out).mono ?_
        rw [hp]
        rintro e w2 ⟨hG2, v2, rfl, hrd, hR2⟩
        have hq2 := Lib.hid (hq.out.grown hG2 (by simp; omega))
        have hx2 := Lib.hid (hx.out.grown hG2 (by simp; omega))
        have hsz : w.heap.size + 2 ≤ w2.heap.size := hx2.out.lt
        have hG2 := Lib.hid (grown_trans hG1.out hG2)
        have hR2 := Lib.hid hR2
        have hrd := Lib.hid hrd
        clear hq hx hG1 hR1 hp q2
        go_wp2_with fail
        refine (words_w _ p1 _ hrd.out (by omega)).mono ?_
        rintro e w3 ⟨v3, rfl, ho, hB3⟩
        have hx3 := hx2.out.below hB3
        have y0 := hx3.cell 2 rfl
        have f0 := hx3.frozen 2
        obtain ⟨A3, k3, rfl, _⟩ := ho.rd.open
        have hM : Hid (Mid w (w3.setCell ⟨w.heap.size + 1, 2, none⟩ (.slice A3 (wordsTell p1).2.length k3)) g a vw vb spec (.bool (wordsTell p1).1)) := by
          have hw := toW_ofW (wordsTell p1).2
          refine Lib.hid ⟨_, ⟨0, [], ofW (wordsTell p1).2, []⟩, p2, _, _, _, rfl, rfl, ⟨ofW_words _, by simp, by simp⟩, (hq2.out.below hB3).other (by omega) _ _, hx3.set 2 _, Own.nil _ _ _ _, ?_, Own.nil _ _ _ _, (hR2.out.below hB3).other (by omega), grown_set (grown_trans hG2.out (grown_below hB3)) (by omega), hs2.out⟩
          rw [hw]
          exact own_other (ho.lower hsz) (by omega)
        clear hs2 hq2 hx2 hG2 hR2 hrd ho hB3 hx3
        go_wp2_with fail
        go_meet
        exact hM
    | false =>
    have u1 : ¬ rdBits a.code = true := by rw [← hb1.out]; decide
    have u2 : ¬ rdWords a.code = true := by rw [← hb2.out]; decide
    cases b3 with
    | true =>
      have q0 := hq.out.cell 0 rfl
      have q1 := hq.out.cell 1 rfl
      have q3 := hq.out.cell 3 rfl
      have q4 := hq.out.cell 4 rfl
      have q5 := hq.out.cell 5 rfl
      have q6 := hq.out.cell 6 rfl
      have q7 := hq.out.cell 7 rfl
      cases hp : textsS a.addr a.cnt l with
      | none =>
        have hs2 : spec = none := by rw [hspec.out]; unfold bodyS; rw [if_neg u1, if_neg u2, if_pos hb3.out.symm, hp]; rfl
        clear hspec
        subst hs2
        go_wp2_with fail
        refine (texts_c _ g l a.code a.addr a.cnt a.to_ a.and_ a.or_ vw vb hR1.out hdd.out hcc.out).mono ?_
        rw [hp]
        rintro e w2 ⟨hG2, rfl⟩
        exact ⟨rfl, grown_trans hG1.out hG2, rfl⟩
      | some p =>
        obtain ⟨p1, p2⟩ := p
        have hs2 : Hid (spec = if p2 = [] ∧ ansV a ⟨0, [], [], p1⟩ = true then some ⟨0, [], [], p1⟩ else none) := Lib.hid (by rw [hspec.out]; unfold bodyS; rw [if_neg u1, if_neg u2, if_pos hb3.out.symm, hp]; rfl)
        have hpt := Lib.hid (texts_size a l p1 p2 hp)
        clear hspec
        go_wp2_with fail
        refine (texts_c _ g l a.code a.addr a.cnt a.to_ a.and_ a.or_ vw vb hR1.out hdd.out hcc.out).mono ?_
        rw [hp]
        rintro e w3 ⟨hG2, v3, rfl, ho, hR2⟩
        have hq3 := hq.out.grown hG2 (by simp; omega)
        have hx3 := hx.out.grown hG2 (by simp; omega)
        have hsz : w.heap.size + 2 ≤ w1.heap.size := hx.out.lt
        have y0 := hx3.cell 3 rfl
        have f0 := hx3.frozen 3
        obtain ⟨A3, k3, rfl, _⟩ := ho.rd.open
        have hM : Hid (Mid w (w3.setCell ⟨w.heap.size + 1, 3, none⟩ (.slice A3 p1.length k3)) g a vw vb spec (.bool true)) := by
          refine Lib.hid ⟨true, ⟨0, [], [], p1⟩, p2, _, _, _, rfl, rfl, ⟨(by intro x hx; cases hx), fun s hs => Nat.le_trans (hpt.out.1 s hs) (by decide), Nat.le_trans hpt.out.2 (by decide)⟩, hq3.other (by omega) _ _, hx3.set 3 _, Own.nil _ _ _ _, Own.nil _ _ _ _, own_other (ho.lower hsz) (by omega), hR2.other (by omega), grown_set (grown_trans hG1.out hG2) (by omega), by rw [hs2.out]; simp⟩
        clear hs2 hq hx hG1 hR1 hp q0 q1 q2 q3 q4 q5 q6 q7 hG2 hR2 ho hx3 hq3
        go_wp2_with fail
        go_meet
        exact hM
    | false =>
      have u3 : ¬ rdTexts a.code = true := by rw [← hb3.out]; decide
      have q0 := hq.out.cell 0 rfl
      have q1 := hq.out.cell 1 rfl
      have q3 := hq.out.cell 3 rfl
      have q4 := hq.out.cell 4 rfl
      have q5 := hq.out.cell 5 rfl
      have q6 := hq.out.cell 6 rfl
      have q7 := hq.out.cell 7 rfl
      have hz : ansV a anZ = true := by
        unfold ansV ansB anZ
        have e1 : rdBits a.code = false := by simpa using u1
        have e2 : rdWords a.code = false := by simpa using u2
        have e3 : rdTexts a.code = false := by simpa using u3
        simp [hrr.out, e1, e2, e3]
      have hs2 : Hid (spec = if l = toB ((ansTextV a anZ).drop 1) ∧ ansV a anZ = true then some anZ else none) := Lib.hid (by rw [hspec.out]; unfold bodyS; rw [if_neg u1, if_neg u2, if_neg u3])
      have hcall := ansBytes_w a hoa.out hrr.out hz g vw vb w1 hR1.out.blk (rd_grown ha1.out hG1.out hi1.out) (rd_grown ha2.out hG1.out hi2.out) hi1.out hi2.out
      unfold rqW at hcall
      have hcall := Lib.hid hcall
      obtain ⟨T, hT⟩ : ∃ T, Hid (T = toB ((ansTextV a anZ).drop 1)) := ⟨_, Lib.hid rfl⟩
      have hlen : (ansTextV a anZ).length = T.length + 1 := by
        rw [hT.out]
        obtain ⟨r, hr2⟩ := ansText_head a anZ hrr.out (by decide)
        rw [hr2]
        simp [toB]
      have hlen := Lib.hid hlen
      rw [← hT.out] at hs2
      clear hspec
      go_wp2_with fail
      refine hcall.out.mono ?_
      rintro e w2 ⟨⟨p, c, rfl, hrd, hpg⟩, hB2⟩
      obtain ⟨A', c', he, hle, hm, hcl⟩ := hrd.open
      injection he with e1 e2 e3
      subst e1; subst e3
      have h5 : 4 ≤ T.length := by
        have h1 := text_five a hrr.out.1 u1 u2 u3
        have h2 : (ansTextV a anZ).length = T.length + 1 := hlen.out
        unfold ansTextV at h2
        rw [if_neg (by decide), if_neg u1, if_neg u2, if_neg u3] at h2
        split at h2
        · omega
        · rw [List.length_take] at h2
          omega
      have hTl : (toB (ansTextV a anZ)).length = T.length + 1 := by simp only [toB, List.length_map]; exact hlen.out
      have hTd : (toB (ansTextV a anZ)).drop 1 = T := by rw [hT.out]; unfold toB; rw [List.map_drop]
      obtain ⟨pb, po, hpe, _⟩ := hcl.resolve_left (by omega)
      obtain rfl := Option.some.inj hpe
      have hcut : RdV encB w2 (.slice (some ⟨pb, po + 1, none⟩) T.length (c - 1)) T := by
        have hc := hrd.cut 1 T.length (c - 1) (some ⟨pb, po + 1, none⟩) (.inl (by simp [addr_add])) (by omega) (by omega)
        rw [hTd, List.take_of_length_le (Nat.le_refl _)] at hc
        exact hc
      have hcut := Lib.hid hcut
      have hq2 := Lib.hid (hq.out.below hB2)
      have hx2 := Lib.hid (hx.out.below hB2)
      have hG2 := Lib.hid (grown_trans hG1.out (grown_below hB2))
      have hR2 := Lib.hid (hR1.out.below hB2)
      have hpb : ∀ q, some (⟨pb, po + 1, none⟩ : Addr) = some q → q.block ≠ g := by
        rintro q hq
        obtain rfl := Option.some.inj hq
        exact hpg
      have hpb := Lib.hid hpb
      have hle2 : 1 ≤ c := by omega
      have hle4 : ¬ (c = 1) := by omega
      have hle3 : T.length + 1 ≤ c := by omega
      rw [hlen.out]
      clear hrd hB2 hq hx hG1 hR1 hcall q0 q1 q2 q3 q4 q5 q6 q7 hTl hTd hle hm e2 hpg
      go_wp2_with fail
      refine (want_c _ g l T _ T.length _ rfl hR2.out hcut.out hpb.out).mono ?_
      rintro e w3 ⟨hG3, hif⟩
      have hq3 := hq2.out.grown hG3 (by simp; omega)
      have hx3 := hx2.out.grown hG3 (by simp; omega)
      by_cases hd : l.take T.length = T
      · rw [if_pos hd] at hif
        obtain ⟨rfl, hR3⟩ := hif
        have hM : Hid (Mid w w3 g a vw vb spec (.bool true)) := by
          refine Lib.hid ⟨true, anZ, l.drop T.length, _, _, _, rfl, rfl, anZ_ok, hq3, hx3, Own.nil _ _ _ _, Own.nil _ _ _ _, Own.nil _ _ _ _, hR3, grown_trans hG2.out hG3, ?_⟩
          rw [hs2.out]
          have hiff : (l = T ∧ ansV a anZ = true) ↔ (true = true ∧ l.drop T.length = [] ∧ ansV a anZ = true) := by
            constructor
            · rintro ⟨h1, h2⟩
              exact ⟨rfl, by rw [h1]; simp, h2⟩
            · rintro ⟨_, h1, h2⟩
              refine ⟨?_, h2⟩
              rw [← List.take_append_drop T.length l, h1, hd, List.append_nil]
          by_cases hc : l = T ∧ ansV a anZ = true
          · rw [if_pos hc, if_pos (hiff.1 hc)]
          · rw [if_neg hc, if_neg (fun h => hc (hiff.2 h))]
        clear hs2 hq2 hx2 hG2 hR2 hG3 hq3 hx3 hR3 hd hT hlen
        go_wp2_with fail
        go_meet
        exact hM
      · rw [if_neg hd] at hif
        subst hif
        have e : spec = none := by
          rw [hs2.out, if_neg]
          rintro ⟨h1, _⟩
          apply hd
          rw [h1, List.take_of_length_le (Nat.le_refl _)]
        exact ⟨rfl, grown_trans hG2.out hG3, by rw [e]⟩
  case rest =>
    obtain ⟨isv, x, rest, v1, v2, v3, rfl, hxe, hok, hq2, hx2, ho1, ho2, ho3, hR, hG, hs⟩ := hcut.out
    obtain ⟨A1, k1, rfl, _⟩ := ho1.rd.open
    obtain ⟨A2, k2, rfl, _⟩ := ho2.rd.open
    obtain ⟨A3, k3, rfl, _⟩ := ho3.rd.open
    have q0 := hq2.cell 0 rfl
    have q1 := hq2.cell 1 rfl
    have q2 := hq2.cell 2 rfl
    have q3 := hq2.cell 3 rfl
    have q4 := hq2.cell 4 rfl
    have q5 := hq2.cell 5 rfl
    have q6 := hq2.cell 6 rfl
    have q7 := hq2.cell 7 rfl
    have y0 := hx2.cell 0 rfl
    have y1 := hx2.cell 1 rfl
    have y2 := hx2.cell 2 rfl
    have y3 := hx2.cell 3 rfl
    obtain ⟨A, c, hcell, hrd, hlt⟩ := hR.ex
    have hG := Lib.hid hG
    have hx2 := Lib.hid hx2
    have ho1 := Lib.hid ho1
    have ho2 := Lib.hid ho2
    have ho3 := Lib.hid ho3
    have hok := Lib.hid hok
    have hxe := Lib.hid hxe
    have hs := Lib.hid hs
    clear hcut hrd hlt hR hq2 hq hx hG1 hR1 hh
    cases isv with
    | false =>
      have hs2 : Hid (spec = none) := Lib.hid (by rw [hs.out]; simp)
      clear hs
      go_wp2
      exact ⟨rfl, hG.out, by first | rfl | rw [hs2.out]⟩
    | true =>
      cases rest with
      | cons z zs =>
        have hs2 : Hid (spec = none) := Lib.hid (by rw [hs.out]; simp)
        clear hs
        have hz : (0 : Int) < ((z :: zs).length : Int) := by simp only [List.length_cons]; omega
        generalize (z :: zs).length = m at hcell hz
        go_wp2
        exact ⟨rfl, hG.out, by first | rfl | rw [hs2.out]⟩
      | nil =>
        have hcall := ansRight_w a x hok.out vw vb _ _ _ wc hoa.out.w (rd_grown ha1.out hG.out hi1.out) (rd_grown ha2.out hG.out hi2.out) ho1.out.rd ho2.out.rd ho3.out.rd
        unfold rqW anW at hcall
        rw [hxe.out] at hcall
        have hcall := Lib.hid hcall
        go_wp2_with fail
        refine hcall.out.mono ?_
        rintro e w2 ⟨rfl, hB2⟩
        have hx3 := hx2.out.below hB2
        have y0 := hx3.cell 0 rfl
        have y1 := hx3.cell 1 rfl
        have y2 := hx3.cell 2 rfl
        have y3 := hx3.cell 3 rfl
        have f0 := hx3.frozen 0
        have f1 := hx3.frozen 1
        have f2 := hx3.frozen 2
        have f3 := hx3.frozen 3
        have hG2 := Lib.hid (grown_trans hG.out (grown_below hB2))
        have ho1 := Lib.hid (ho1.out.below hB2)
        have ho2 := Lib.hid (ho2.out.below hB2)
        have ho3 := Lib.hid (ho3.out.below hB2)
        clear hB2 hx3 hcall
        cases hav : ansV a x with
        | false =>
          have hs2 : Hid (spec = none) := Lib.hid (by rw [hs.out, hav]; simp)
          clear hs
          go_wp2
          exact ⟨rfl, hG2.out, by first | rfl | rw [hs2.out]⟩
        | true =>
          have hs2 : spec = some x := by rw [hs.out, hav]; simp
          clear hs
          subst hs2
          go_wp2
          refine bodyPost_ret (v := .agg #[.int .i64 0, .slice A1 x.bits.length k1, .slice A2 (toW x.words).length k2, .slice A3 x.texts.length k3]) (by simp [results, Try.results84, go_sem, y0, y1, y2, y3]) rfl ?_
          refine ⟨?_, _, _, _, by unfold anW; rw [hxe.out], ?_, ?_, ?_⟩
          · exact grown_set (grown_set (grown_set (grown_set hG2.out (by simp)) (by simp)) (by simp)) (by simp)
          · exact (own_other (own_other (own_other (own_other ho1.out (by omega)) (by omega)) (by omega)) (by omega)).lower (by omega)
          · exact (own_other (own_other (own_other (own_other ho2.out (by omega)) (by omega)) (by omega)) (by omega)).lower (by omega)
          · exact (own_other (own_other (own_other (own_other ho3.out (by omega)) (by omega)) (by omega)) (by omega)).lower (by omega)
end Go.Proofs.Ytcpgmbpndpcmdaa
namespace Go.Proofs.Ytcpgmbpndpcmdaa
open Go Go.RowKit
set_option linter.unusedSimpArgs false
set_option linter.unusedVariables false
theorem rd_blk {α : Type} {enc : α → Value} {w : World} {V : Value} {l : List α} (h : RdV enc w V l) (p : Addr) (n c : Nat) (hp : V = .slice (some p) n c) (hl : l ≠ []) : p.block < w.heap.size := by
  obtain ⟨A, c', rfl, _, _, hcl⟩ := h.open
  injection hp with e1 e2 e3
  subst e1
  cases l with
  | nil => exact absurd rfl hl
  | cons x l =>
    obtain ⟨b, o, hb, hc⟩ := hcl.resolve_left (by simp)
    obtain rfl := Option.some.inj hb
    exact World.block_lt_of_cell? _ _ (hc 0 (by simp))
theorem belowS' {B : Nat} {a w : World} {p : Addr} {v : Value} (h : Below B a w) (hp : B ≤ p.block) : Below B a (w.setCell p v) := h.setCell hp v
theorem assert_no (T : TypeId) (w : World) : Sem.run Try.prog (Instr.typeAssert .nilIface T 138 true) w = .ok (.tuple #[.agg #[], .bool false]) w := by kernel_rfl
theorem assert_yes (T : TypeId) (w : World) : Sem.run Try.prog (Instr.typeAssert (.iface 138 (.agg #[])) T 138 true) w = .ok (.tuple #[.agg #[], .bool true]) w := by kernel_rfl
set_option maxRecDepth 10000 in
theorem catch_idle_w (p q : Addr) (w : World) :
    CallsD Try.prog 82 #[.pointer (some p), .pointer (some q)] .returning w fun e u' w' => e = .returned (.tuple #[]) ∧ u' = .returning ∧ w' = w.alloc (.cells #[] 138) := by
  refine callsD_of_wpS Try.func82 rfl fun c₀ cs hu => ?_
  simp only [Try.ntmps82, List.size_toArray, List.length_cons, List.length_nil, Nat.reduceAdd, Nat.reduceSub, Array.replicate_succ,
     Array.replicate_zero, List.push_toArray, List.append_toArray, List.nil_append, List.cons_append]
  have ka := fun T w => assert_no T w
  have kb := fun T w => assert_yes T w
  apply wpS_seq
  apply wpS_region
  simp [wpOpsS, go_sem, recoverD, hu, Exit.thenS, ka, kb, storeCells]
  apply wpS_seq
  apply wpS_region
  simp [wpOpsS, go_sem, Exit.thenS]
  refine wpS_cond (t := false) (by simp [Act.eval]) ?_
  simp only [Bool.false_eq_true, if_false]
  refine wpS_of_wp (wp_skip ?_)
  cases c₀
  simp_all [bodyPostS, results, Try.results82]
set_option maxRecDepth 10000 in
theorem catch_w (B1 B2 : Nat) (t1 t2 : TypeId) (c0 c1 c2 c3 d0 : Value) (w : World) (h1 : BX w B1 t1 #[c0, c1, c2, c3]) (h2 : BX w B2 t2 #[d0]) (hne : B1 ≠ B2) :
    CallsD Try.prog 82 #[.pointer (some ⟨B1, 0, none⟩), .pointer (some ⟨B2, 0, none⟩)] (.panicking PV) w fun e u' w' =>
      e = .returned (.tuple #[]) ∧ u' = .panicking [{ v := .iface 138 (.agg #[]), recovered := true }] ∧ (∀ B, B ≤ B1 → B ≤ B2 → B ≤ w.heap.size → Below B w w') ∧ BX w' B1 t1 #[.int .i64 0, .slice none 0 0, .slice none 0 0, .slice none 0 0] ∧ BX w' B2 t2 #[.int .i64 2] := by
  refine callsD_of_wpS Try.func82 rfl fun c₀ cs hu => ?_
  simp only [Try.ntmps82, List.size_toArray, List.length_cons, List.length_nil, Nat.reduceAdd, Nat.reduceSub, Array.replicate_succ,
     Array.replicate_zero, List.push_toArray, List.append_toArray, List.nil_append, List.cons_append]
  have ka := fun T w => assert_no T w
  have kb := fun T w => assert_yes T w
  apply wpS_seq
  apply wpS_region
  simp [wpOpsS, go_sem, recoverD, hu, Exit.thenS, ka, kb, storeCells]
  have f0 := h1.frozen 0
  have f1 := h1.frozen 1
  have f2 := h1.frozen 2
  have f3 := h1.frozen 3
  have y0 := h1.cell 0 rfl
  have y1 := h1.cell 1 rfl
  have y2 := h1.cell 2 rfl
  have y3 := h1.cell 3 rfl
  have g0 := h2.frozen 0
  have z0 := h2.cell 0 rfl
  have hl1 := h1.lt
  have hl2 := h2.lt
  apply wpS_seq
  apply wpS_region
  simp [wpOpsS, go_sem, Exit.thenS]
  refine wpS_cond (t := true) (by simp [Act.eval]) ?_
  simp only [if_true]
  apply wpS_region
  simp [wpOpsS, go_sem, f0, f1, f2, f3, y0, y1, y2, y3, g0, z0, hl1, hl2, bodyPostS, results, Try.results82]
  refine ⟨fun B hB1 hB2 hB3 => ?_, ?_, ?_⟩
  · exact (belowS' (belowS' (belowS' (belowS' (belowS' (Below.refl B w) hB1) hB1) hB1) hB1) hB2).alloc (by simpa [World.setCell] using hB3) _
  · exact (((((h1.set 0 _).set 1 _).set 2 _).set 3 _).other hne 0 _).alloc _
  · exact (((((h2.other hne.symm 0 _).other hne.symm 1 _).other hne.symm 2 _).other hne.symm 3 _).set 0 _).alloc _
theorem take_no2 (w : World) (g : Nat) (A : Option Addr) (k c n : Nat) (hcell : w.cell? ⟨g, 0, none⟩ = some (.slice A k c)) (hn : k < n) :
    Calls Try.prog 83 #[.pointer (some ⟨g, 0, none⟩), .int .i64 (n : Int)] w fun e w' => e = .panicked PV ∧ w' = w := by
  go_enter Try.func83, Try.ntmps83
  go_wp2
  first | exact ⟨rfl, rfl⟩ | simp [bodyPost]
def RdPost (w : World) (x : An) (er : Int) (e : Ending) (w' : World) : Prop := Below w.heap.size w w' ∧ ∃ v1 v2 v3, e = .returned (.tuple #[anW x v1 v2 v3, .int .i64 er]) ∧ Own encT 4 w' w.heap.size v1 x.bits ∧ Own encW 26 w' w.heap.size v2 (toW x.words) ∧ Own encS 9 w' w.heap.size v3 x.texts
theorem RdPost.none {w w' : World} (er : Int) (h : Below w.heap.size w w') : RdPost w anZ er (.returned (.tuple #[.agg #[.int .i64 0, .slice none 0 0, .slice none 0 0, .slice none 0 0], .int .i64 er])) w' :=
  ⟨h, _, _, _, rfl, Own.nil _ _ _ _, Own.nil _ _ _ _, Own.nil _ _ _ _⟩
def outS (a : Rq) (l : List UInt8) : An × Int := if RightP a then (readS a l).elim (anZ, (2 : Int)) (fun x => (x, 0)) else (anZ, 1)
abbrev DF (b1 b2 : Nat) : List Deferred := [{ target := .fn (.func 82) #[.pointer (some ⟨b1, 0, none⟩), .pointer (some ⟨b2, 0, none⟩)], args := #[] }]
theorem panic_end (w w2 : World) (tmps : Array Value) (c0 c1 c2 c3 d0 : Value) (b1 b2 : Nat) (e1 : b1 = w.heap.size + 1) (e2 : b2 = w.heap.size + 1 + 1) (h4 : tmps[4]? = some (.pointer (some ⟨b1, 0, none⟩))) (h5 : tmps[5]? = some (.pointer (some ⟨b2, 0, none⟩))) (hx : BX w2 b1 48 #[c0, c1, c2, c3]) (he : BX w2 b2 32 #[d0]) (hB : Below w.heap.size w w2) :
    bodyPostD Try.prog Try.f75 (RdPost w anZ 2) (.panic PV) { tmps := tmps, defers := DF b1 b2 } w2 := by
  show Leaves _ _ _ _ _ _ _
  refine leaves_cons (f := 82) (args := #[.pointer (some ⟨b1, 0, none⟩), .pointer (some ⟨b2, 0, none⟩)]) (by simp) (by simp [go_sem]) ?_
  have hlt := hx.lt
  refine (catch_w b1 b2 48 32 c0 c1 c2 c3 d0 w2 hx he (by omega)).mono ?_
  rintro e u' w'' ⟨rfl, rfl, hb, hx2, he2⟩
  have y0 := hx2.cell 0 rfl
  have y1 := hx2.cell 1 rfl
  have y2 := hx2.cell 2 rfl
  have y3 := hx2.cell 3 rfl
  have z0 := he2.cell 0 rfl
  have hB2 := hB.trans (hb w.heap.size (by omega) (by omega) hB.size)
  simp at y0 y1 y2 y3 z0
  simp [Leaves, settle, results, Try.results75, go_sem, h4, h5, y0, y1, y2, y3, z0]
  exact RdPost.none 2 hB2
theorem ret_end (w w2 : World) (tmps : Array Value) (x : An) (v1 v2 v3 : Value) (b1 b2 : Nat) (e1 : b1 = w.heap.size + 1) (e2 : b2 = w.heap.size + 1 + 1) (h4 : tmps[4]? = some (.pointer (some ⟨b1, 0, none⟩))) (h5 : tmps[5]? = some (.pointer (some ⟨b2, 0, none⟩))) (hx : BX w2 b1 48 #[.int .i64 x.exc, v1, v2, v3]) (he : BX w2 b2 32 #[.int .i64 0]) (hB : Below w.heap.size w w2)
    (o1 : Own encT 4 w2 w.heap.size v1 x.bits) (o2 : Own encW 26 w2 w.heap.size v2 (toW x.words)) (o3 : Own encS 9 w2 w.heap.size v3 x.texts) :
    Leaves Try.prog Try.f75 tmps (RdPost w x 0) (DF b1 b2) .returning w2 := by
  refine leaves_cons (f := 82) (args := #[.pointer (some ⟨b1, 0, none⟩), .pointer (some ⟨b2, 0, none⟩)]) (by simp) (by simp [go_sem]) ?_
  have hlt := hx.lt
  refine (catch_idle_w ⟨b1, 0, none⟩ ⟨b2, 0, none⟩ w2).mono ?_
  rintro e u' w'' ⟨rfl, rfl, rfl⟩
  obtain ⟨A1, k1, rfl, _⟩ := o1.rd.open
  obtain ⟨A2, k2, rfl, _⟩ := o2.rd.open
  obtain ⟨A3, k3, rfl, _⟩ := o3.rd.open
  have hx2 := hx.alloc (.cells #[] 138)
  have he2 := he.alloc (.cells #[] 138)
  have y0 := hx2.cell 0 rfl
  have y1 := hx2.cell 1 rfl
  have y2 := hx2.cell 2 rfl
  have y3 := hx2.cell 3 rfl
  have z0 := he2.cell 0 rfl
  simp at y0 y1 y2 y3 z0
  simp [Leaves, settle, results, Try.results75, go_sem, h4, h5, y0, y1, y2, y3, z0]
  exact ⟨belowA hB _, _, _, _, rfl, o1.alloc _, o2.alloc _, o3.alloc _⟩
set_option maxRecDepth 100000 in
set_option maxHeartbeats 3200000 in
theorem Read_w (w : World) (a : Rq) (oa : RqOk a) (vw vb vl : Value) (l : List UInt8) (a1 : RdV encW w vw (toW a.words)) (a2 : RdV encT w vb a.bits) (a3 : RdV encB w vl l) : Calls Try.prog 75 #[rqW a vw vb, vl] w (RdPost w (outS a l).1 (outS a l).2) := by
  have hmf : ∀ (fn : Fn) (first cap : Array Value) (w : World), (Instr.makeFunc fn first cap).run Try.prog w = .ok (.func fn first cap) w := fun _ _ _ _ => rfl
  obtain ⟨A, cp, rfl, hcp, hm, hcl⟩ := a3.open
  have ha1 := Lib.hid a1
  have ha2 := Lib.hid a2
  have ha3 := Lib.hid a3
  have hoa := Lib.hid oa
  have hcl := Lib.hid hcl
  obtain ⟨spec, hspec⟩ : ∃ s, Hid (s = outS a l) := ⟨_, Lib.hid rfl⟩
  rw [← hspec.out]
  clear a1 a2 a3 oa
  unfold rqW
  go_enter_defers Try.func75, Try.ntmps75
  go_wp2_with fail
  refine (askRight_w a vw vb _ hoa.out.w (((ha1.out.alloc _).alloc _).alloc _) (((ha2.out.alloc _).alloc _).alloc _)).mono ?_
  rintro e w1 ⟨rfl, hB1⟩
  have hq : BX w1 w.heap.size 28 #[.int .i64 a.code, .int .i64 a.addr, .int .i64 a.cnt, .int .i64 a.to_, vw, vb, .int .u16 a.and_, .int .u16 a.or_] := (((BX.made rfl).alloc _).alloc _).below hB1
  have hx : BX w1 (w.heap.size + 1) 48 #[.int .i64 0, .slice none 0 0, .slice none 0 0, .slice none 0 0] := ((BX.made (by simp)).alloc _).below hB1
  have he : BX w1 (w.heap.size + 2) 32 #[.int .i64 0] := (BX.made (by simp)).below hB1
  have hG1 : Below w.heap.size w w1 := belowT (belowA (belowA (belowA (Below.refl _ w) _) _) _) hB1
  have hG1 := Lib.hid hG1
  clear hB1
  by_cases hr : RightP a
  case neg =>
    have hs2 : spec = (anZ, 1) := by rw [hspec.out]; unfold outS; rw [if_neg hr]
    clear hspec
    subst hs2
    have hd : decide (RightP a) = false := decide_eq_false hr
    rw [hd]
    have f0 := hx.frozen 0
    have f1 := hx.frozen 1
    have f2 := hx.frozen 2
    have f3 := hx.frozen 3
    have y0 := hx.cell 0 rfl
    have y1 := hx.cell 1 rfl
    have y2 := hx.cell 2 rfl
    have y3 := hx.cell 3 rfl
    have g0 := he.frozen 0
    have z0 := he.cell 0 rfl
    clear hr hd hq
    go_wp2
    simp [bodyPostD, Leaves, settle, results, Try.results75, go_sem, y0, y1, y2, y3, z0]
    exact RdPost.none 1 (belowS' (belowS' (belowS' (belowS' (belowS' hG1.out (by simp)) (by simp)) (by simp)) (by simp)) (by simp; omega))
  have hd : decide (RightP a) = true := decide_eq_true hr
  rw [hd]
  have hcode := code_le hr
  have hs2 : Hid (spec = (readS a l).elim (anZ, (2 : Int)) (fun x => (x, 0))) := Lib.hid (by rw [hspec.out]; unfold outS; rw [if_pos hr])
  have hq := Lib.hid hq
  have hx := Lib.hid hx
  have he := Lib.hid he
  have hrr := Lib.hid hr
  have hl0 := hx.out.lt
  have hl00 := he.out.lt
  have hsw := hG1.out.size
  clear hspec hd hr
  have hb1 : ∀ (W : World), Below w1.heap.size w1 W → BX W (w.heap.size + 1) 48 #[.int .i64 0, .slice none 0 0, .slice none 0 0, .slice none 0 0] ∧ BX W (w.heap.size + 2) 32 #[.int .i64 0] := fun W hW => ⟨hx.out.below hW, he.out.below hW⟩
  have hb1 := Lib.hid hb1
  cases l with
  | nil =>
    have hs3 : spec = (anZ, 2) := by rw [hs2.out]; rfl
    clear hs2
    subst hs3
    go_wp2_with fail
    refine (take_no2 _ _ A 0 cp 1 (cell_made 0 _ rfl) (by omega)).mono ?_
    rintro e w2 ⟨rfl, rfl⟩
    exact panic_end w _ _ _ _ _ _ _ _ _ rfl rfl rfl rfl (hx.out.alloc _) (he.out.alloc _) (belowA hG1.out _)
  | cons c r =>
    obtain ⟨pb, po, hA, hcells⟩ := hcl.out.resolve_left (by simp)
    subst hA
    have hpb : pb < w.heap.size := by
      have := hcells 0 (by simp)
      exact World.block_lt_of_cell? _ _ this
    have hsz := hG1.out.size
    have hne12 : w.heap.size + 1 ≠ w.heap.size + 1 + 1 := by omega
    have hne21 : w.heap.size + 1 + 1 ≠ w.heap.size + 1 := by omega
    have hR : Rr (w1.alloc (.cells #[.slice (some ⟨pb, po, none⟩) (c :: r).length cp] 142)) w1.heap.size (c :: r) := by
      refine ⟨⟨some ⟨pb, po, none⟩, cp, cell_made 0 _ rfl, (ha3.out.below hG1.out).alloc _, ?_⟩, ?_⟩
      · rintro p hp
        obtain rfl := Option.some.inj hp
        show pb < w1.heap.size
        omega
      · exact (BX.made (t := 142) rfl).frozen 0
    have hR := Lib.hid hR
    have hcells := Lib.hid hcells
    clear hcl hb1
    go_wp2_with fail
    refine (take_ok _ w1.heap.size (c :: r) 1 hR.out (by simp)).mono ?_
    rintro e w2 ⟨v1, rfl, h1, h2, h3⟩
    rw [take_head] at h1
    obtain ⟨b', o', c1, rfl, hc⟩ := h1.each (by simp)
    have k1 := hc 0 (by simp)
    have hn2 := c.toNat_lt
    simp only [encB, List.getElem_cons_zero, Nat.add_zero] at k1
    have hq2 := Lib.hid ((hq.out.alloc _).grown h3 (by intro e; have e := Option.some.inj e; have := hq.out.lt; omega))
    have hx2 := Lib.hid ((hx.out.alloc _).grown h3 (by intro e; have e := Option.some.inj e; have := hx.out.lt; omega))
    have he2 := Lib.hid ((he.out.alloc _).grown h3 (by intro e; have e := Option.some.inj e; have := he.out.lt; omega))
    have hB2 := Lib.hid (belowG (belowA hG1.out _) h3 (by rintro k hk; obtain rfl := Option.some.inj hk; exact hsz))
    have h2 : Rr w2 w1.heap.size r := h2
    have hR2 := Lib.hid h2
    have hl2 : w1.heap.size < w2.heap.size := hR2.out.blk
    obtain ⟨n, hn⟩ : ∃ n, Hid (n = c.toNat) := ⟨_, Lib.hid rfl⟩
    rw [← hn.out] at k1 hn2
    have q0 := hq2.out.cell 0 rfl
    clear hc h1 h2 h3 hq hx he hR
    have hw8 : IntKind.u8.wrap a.code = a.code := by rw [wrap_u8]; omega
    have hor : Go.bits .or .u8 a.code 128 = a.code + 128 := by
      have h := of_decide_eq_true hrr.out.1.1
      rcases h with h | h | h | h | h | h | h | h | h | h | h <;> rw [h] <;> decide
    by_cases d1 : (n : Int) = a.code + 128
    · have d1' : ((n : Int) == a.code + 128) = true := by simpa using d1
      have d2 : ¬ ((n : Int) = a.code) := by omega
      have d2' : ((n : Int) != a.code) = true := by simpa using d2
      match r, hn, hs2, hcells, ha3, hR2 with
      | [], hn, hs2, hcells, ha3, hR2 =>
        have hs3 : spec = (anZ, 2) := by rw [hs2.out, readS_cons, if_neg (by rintro ⟨_, h, _⟩; simp at h), if_neg (by rw [← hn.out]; exact d2)]; rfl
        clear hs2
        subst hs3
        go_wp2
        exact panic_end w _ _ _ _ _ _ _ _ _ rfl rfl rfl rfl hx2.out he2.out hB2.out
      | y :: z :: r', hn, hs2, hcells, ha3, hR2 =>
        have hs3 : spec = (anZ, 2) := by rw [hs2.out, readS_cons, if_neg (by rintro ⟨_, h, _⟩; simp at h), if_neg (by rw [← hn.out]; exact d2)]; rfl
        clear hs2
        subst hs3
        have hlen : ¬ (((c :: y :: z :: r').length : Int) = 2) := by simp only [List.length_cons]; omega
        have hlen' : (((c :: y :: z :: r').length : Int) == 2) = false := by simpa using hlen
        generalize (c :: y :: z :: r').length = m at hlen hlen' ⊢
        go_wp2
        exact panic_end w _ _ _ _ _ _ _ _ _ rfl rfl rfl rfl hx2.out he2.out hB2.out
      | [y], hn, hs2, hcells, ha3, hR2 =>
        have hc1 : w2.cell? ⟨pb, po + 1, none⟩ = some (encB y) := (hB2.out.cell hpb).trans (hcells.out 1 (by simp))
        have hy2 := y.toNat_lt
        have hm2 : 2 ≤ cp := by simpa using hcp
        obtain ⟨m, hm⟩ : ∃ m, Hid (m = y.toNat) := ⟨_, Lib.hid rfl⟩
        simp only [encB] at hc1
        rw [← hm.out] at hc1 hy2
        have hw64 : IntKind.i64.wrap (m : Int) = (m : Int) := IntWalk.i64_in _ (by omega)
        by_cases d3 : 0 < m
        · have hs3 : spec = (⟨(m : Int), [], [], []⟩, 0) := by rw [hs2.out, readS_cons, if_pos ⟨by rw [← hn.out]; exact d1, rfl, by simp only [List.getD_cons_zero]; rw [← hm.out]; exact d3⟩]; simp only [List.getD_cons_zero]; rw [← hm.out]; rfl
          clear hs2
          subst hs3
          have d3' : (0 : Int) < (m : Int) := by omega
          have f0 := hx2.out.frozen 0
          have f1 := hx2.out.frozen 1
          have f2 := hx2.out.frozen 2
          have f3 := hx2.out.frozen 3
          have y0 := hx2.out.cell 0 rfl
          have y1 := hx2.out.cell 1 rfl
          have y2 := hx2.out.cell 2 rfl
          have y3 := hx2.out.cell 3 rfl
          have g0 := he2.out.frozen 0
          have z0 := he2.out.cell 0 rfl
          go_wp2
          exact ret_end w _ _ ⟨(m : Int), [], [], []⟩ _ _ _ (w.heap.size + 1) (w.heap.size + 1 + 1) rfl rfl rfl rfl (((((hx2.out.set 0 _).set 1 _).set 2 _).set 3 _).other hne12 0 _) (((((he2.out.other hne21 0 _).other hne21 1 _).other hne21 2 _).other hne21 3 _).set 0 _)
            (belowS' (belowS' (belowS' (belowS' (belowS' hB2.out (by simp)) (by simp)) (by simp)) (by simp)) (by simp; omega)) (Own.nil _ _ _ _) (Own.nil _ _ _ _) (Own.nil _ _ _ _)
        · have hs3 : spec = (anZ, 2) := by rw [hs2.out, readS_cons, if_neg (by rintro ⟨_, _, h⟩; simp only [List.getD_cons_zero] at h; rw [← hm.out] at h; exact d3 h), if_neg (by rw [← hn.out]; exact d2)]; rfl
          clear hs2
          subst hs3
          obtain rfl : m = 0 := by omega
          go_wp2
          exact panic_end w _ _ _ _ _ _ _ _ _ rfl rfl rfl rfl hx2.out he2.out hB2.out
    · have d1' : ((n : Int) == a.code + 128) = false := by simpa using d1
      by_cases d2 : (n : Int) = a.code
      · have d2' : ((n : Int) != a.code) = false := by simpa using d2
        have hs3 : Hid (spec = (bodyS a r).elim (anZ, (2 : Int)) (fun x => (x, 0))) := Lib.hid (by rw [hs2.out, readS_cons, if_neg (by rw [← hn.out]; intro h; exact d1 h.1), if_pos (by rw [← hn.out]; exact d2)])
        have q1 := hq2.out.cell 1 rfl
        have q2 := hq2.out.cell 2 rfl
        have q3 := hq2.out.cell 3 rfl
        have q4 := hq2.out.cell 4 rfl
        have q5 := hq2.out.cell 5 rfl
        have q6 := hq2.out.cell 6 rfl
        have q7 := hq2.out.cell 7 rfl
        have hbody := body_w w2 w1.heap.size r a hrr.out hoa.out vw vb (ha1.out.below hB2.out) (ha2.out.below hB2.out) (fun p n c e h => by have := rd_blk ha1.out p n c e h; omega) (fun p n c e h => by have := rd_blk ha2.out p n c e h; omega) hR2.out
        unfold rqW at hbody
        have hbody := Lib.hid hbody
        clear hs2
        go_wp2_with fail
        refine hbody.out.mono ?_
        rintro e w3 ⟨hG3, hm⟩
        have hx3 := hx2.out.grown hG3 (by intro e; have e := Option.some.inj e; omega)
        have he3 := he2.out.grown hG3 (by intro e; have e := Option.some.inj e; omega)
        have hB3 : Below w.heap.size w w3 := belowG hB2.out hG3 (by rintro k hk; obtain rfl := Option.some.inj hk; omega)
        cases hbs : bodyS a r with
        | none =>
          rw [hbs] at hm
          have hs4 : spec = (anZ, 2) := by rw [hs3.out, hbs]; rfl
          simp only at hm
          subst hm
          clear hs3
          subst hs4
          exact panic_end w _ _ _ _ _ _ _ _ _ rfl rfl rfl rfl hx3 he3 hB3
        | some x =>
          rw [hbs] at hm
          have hs4 : spec = (x, 0) := by rw [hs3.out, hbs]; rfl
          clear hs3
          subst hs4
          obtain ⟨hx0, v1, v2, v3, rfl, o1, o2, o3⟩ := hm
          obtain ⟨A1, j1, rfl, _⟩ := o1.rd.open
          obtain ⟨A2, j2, rfl, _⟩ := o2.rd.open
          obtain ⟨A3, j3, rfl, _⟩ := o3.rd.open
          have f0 := hx3.frozen 0
          have f1 := hx3.frozen 1
          have f2 := hx3.frozen 2
          have f3 := hx3.frozen 3
          have y0 := hx3.cell 0 rfl
          have y1 := hx3.cell 1 rfl
          have y2 := hx3.cell 2 rfl
          have y3 := hx3.cell 3 rfl
          have g0 := he3.frozen 0
          have z0 := he3.cell 0 rfl
          have hsz2 : w.heap.size + 3 ≤ w2.heap.size := by have := he2.out.lt; omega
          have hx3 := Lib.hid hx3
          have he3 := Lib.hid he3
          have hB3 := Lib.hid hB3
          have o1 := Lib.hid o1
          have o2 := Lib.hid o2
          have o3 := Lib.hid o3
          have hx0 := Lib.hid hx0
          clear hG3 hbs q0 q1 q2 q3 q4 q5 q6 q7 hq2 hx2 he2 hB2 hR2 hbody k1
          unfold anW
          go_wp2
          refine ret_end w _ _ x (.slice A1 x.bits.length j1) (.slice A2 (toW x.words).length j2) (.slice A3 x.texts.length j3) (w.heap.size + 1) (w.heap.size + 1 + 1) rfl rfl rfl rfl (by rw [hx0.out]; exact (((((hx3.out.set 0 _).set 1 _).set 2 _).set 3 _).other hne12 0 _)) (((((he3.out.other hne21 0 _).other hne21 1 _).other hne21 2 _).other hne21 3 _).set 0 _)
            (belowS' (belowS' (belowS' (belowS' (belowS' hB3.out (by simp)) (by simp)) (by simp)) (by simp)) (by simp; omega)) ?_ ?_ ?_
          · exact (own_other (own_other (own_other (own_other (own_other o1.out (by omega)) (by omega)) (by omega)) (by omega)) (by omega)).lower (by omega)
          · exact (own_other (own_other (own_other (own_other (own_other o2.out (by omega)) (by omega)) (by omega)) (by omega)) (by omega)).lower (by omega)
          · exact (own_other (own_other (own_other (own_other (own_other o3.out (by omega)) (by omega)) (by omega)) (by omega)) (by omega)).lower (by omega)
      · have d2' : ((n : Int) != a.code) = true := by simpa using d2
        have hs3 : spec = (anZ, 2) := by rw [hs2.out, readS_cons, if_neg (by rw [← hn.out]; intro h; exact d1 h.1), if_neg (by rw [← hn.out]; exact d2)]; rfl
        clear hs2
        subst hs3
        go_wp2
        exact panic_end w _ _ _ _ _ _ _ _ _ rfl rfl rfl rfl hx2.out he2.out hB2.out
end Go.Proofs.Ytcpgmbpndpcmdaa
namespace Go.Proofs.Ytcpgmbpndpcmdaa
open Go
set_option linter.unusedSimpArgs false
set_option linter.unusedVariables false
def leR {β : Type} (x y : Option β) : Prop := ∀ r, x = some r → y = some r
theorem leR_refl {β : Type} (x : Option β) : leR x x := fun _ h => h
theorem leR_bi {α β : Type} {x x' : Option α} {k k' : α → Option β} (h : leR x x') (hk : ∀ a, leR (k a) (k' a)) : leR (bi x k) (bi x' k') := by
  intro r e
  obtain ⟨a, e1, e2⟩ := bi_eq e
  rw [h a e1, bi_some]
  exact hk a r e2
theorem leR_bind {α β : Type} {x x' : Option α} {k k' : α → Option β} (h : leR x x') (hk : ∀ a, leR (k a) (k' a)) : leR (x.bind k) (x'.bind k') := by
  intro r e
  obtain ⟨a, e1, e2⟩ := Option.bind_eq_some_iff.1 e
  rw [h a e1]
  exact hk a r e2
theorem leR_map {α β : Type} {x x' : Option α} (f : α → β) (h : leR x x') : leR (x.map f) (x'.map f) := by
  intro r e
  obtain ⟨a, e1, e2⟩ := Option.map_eq_some_iff.1 e
  rw [h a e1, Option.map_some, e2]
variable {cf cf' : CF}
theorem callP_mono (hc : CLe cf cf') (f : FuncId) (ti : Bool) (args : List DV) : leR (callP cf f ti args) (callP cf' f ti args) :=
  leR_bi (leR_refl _) fun bs => leR_bi (fun r h => hc f bs [] 0 r h) fun r => leR_refl _
theorem callO_mono (hc : CLe cf cf') (f : FuncId) (args : List DV) (H : Heap) : leR (callO cf f args H) (callO cf' f args H) :=
  leR_bi (fun r h => hc f args H _ r h) fun r => leR_refl _
theorem callW_mono (hc : CLe cf cf') (f : FuncId) (args : List DV) (H : Heap) (fl : Nat) : leR (callW cf f args H fl) (callW cf' f args H fl) :=
  leR_bi (fun r h => hc f args H _ r h) fun r => leR_refl _
theorem callD_mono (hc : CLe cf cf') (m : CM) (fl : Nat) (f : FuncId) (args : List DV) (H : Heap) : leR (callD cf m fl f args H) (callD cf' m fl f args H) := by
  cases m with
  | pure ti => exact leR_bind (leR_refl _) fun bs => leR_bind (fun r h => hc f bs [] 0 r h) fun r => leR_refl _
  | ro => exact leR_bind (fun r h => hc f args H _ r h) fun r => leR_refl _
  | rw => exact leR_bind (fun r h => hc f args H _ r h) fun r => leR_refl _
  | keep => exact leR_map _ (fun r h => hc f args H _ r h)
theorem callV_mono (hc : CLe cf cf') (md : FuncId → CM) (fl : Nat) (f : DV) (args : List DV) (H : Heap) : leR (callV cf md fl f args H) (callV cf' md fl f args H) := by
  unfold callV
  cases fnOf f with
  | none =>
    dsimp only
    split
    · exact callD_mono hc _ _ _ _ _
    · exact leR_refl _
  | some p => exact callD_mono hc _ _ _ _ _
theorem callVG_mono (hc : CLe cf cf') (md : FuncId → CM) (fl : Nat) (f : DV) (args : List DV) (H : Heap) : leR (callVG cf md fl f args H) (callVG cf' md fl f args H) := leR_map _ (callV_mono hc _ _ _ _ _)
theorem callVP_mono (hc : CLe cf cf') (md : FuncId → CM) (f : DV) (args : List DV) : leR (callVP cf md f args) (callVP cf' md f args) := by
  unfold callVP
  cases fnOf f with
  | none => exact leR_refl _
  | some p =>
    dsimp only
    cases md p.1 with
    | pure ti => exact callP_mono hc _ _ _
    | _ => exact leR_refl _
inductive leO : OpR → OpR → Prop where
  | same (r : OpR) : leO r r
  | a {x y : Option DV} (h : leR x y) : leO (.a x) (.a y)
  | b {x y : Option (DV × Heap)} (h : leR x y) : leO (.b x) (.b y)
theorem callR_mono (hc : CLe cf cf') (P : Program) (md : FuncId → CM) (fl : Nat) (t : TypeId) (c : Call) (ρ : Operand → DV) (H : Heap) : leO (callR P cf md fl t c ρ H) (callR P cf' md fl t c ρ H) := by
  unfold callR
  cases hcal : c.callee with
  | builtin b => cases b <;> exact .same _
  | value f =>
    cases f with
    | func g =>
      dsimp only
      cases md g with
      | pure ti => exact .a (callP_mono hc _ _ _)
      | ro => exact .a (callO_mono hc _ _ _)
      | rw => exact .b (callW_mono hc _ _ _ _)
      | keep => exact .b fun r h => hc _ _ _ _ r h
    | tmp k =>
      dsimp only
      cases vpu md t with
      | true => exact .a (callVP_mono hc _ _ _)
      | false => exact .b (callVG_mono hc _ _ _ _ _)
    | const v => exact .b (callVG_mono hc _ _ _ _ _)
    | global g => exact .b (callVG_mono hc _ _ _ _ _)
  | _ => exact .same _
theorem opR_mono (hc : CLe cf cf') (P : Program) (md : FuncId → CM) (fl N : Nat) (st : Bool) (nid : Nat) (o : Oper) (s : List DV) (H : Heap) : leO (opR ⟨P, cf, md, fl, N⟩ st nid o s H) (opR ⟨P, cf', md, fl, N⟩ st nid o s H) := by
  unfold opR
  cases ho : o.op with
  | call c => exact callR_mono hc _ _ _ _ _ _ _
  | _ => exact .same _
theorem stepG_mono {r r' : OpR} (h : leO r r') (g : Option (DV × Bool)) (H : Heap) {k k' : DV → Heap → R} (hk : ∀ d H, leR (k d H) (k' d H)) : leR (stepG g r H k) (stepG g r' H k') := by
  have hw : ∀ (c : DV) (w : Bool) {x y : Option DV}, leR x y → leR (wantF c w x) (wantF c w y) := by
    intro c w x y h
    unfold wantF
    cases guardD c w with
    | none => exact leR_refl _
    | some b => cases b with
      | true => exact h
      | false => exact leR_refl _
  have hh : ∀ (c : DV) (w : Bool) {x y : Option (DV × Heap)}, leR x y → leR (wantH c w H x) (wantH c w H y) := by
    intro c w x y h
    unfold wantH
    cases guardD c w with
    | none => exact leR_refl _
    | some b => cases b with
      | true => exact h
      | false => exact leR_refl _
  cases g with
  | none =>
    cases h with
    | same => cases r with
      | m d => exact hk d H
      | a x => exact leR_bi (leR_refl _) fun d => hk d H
      | b x => exact leR_bi (leR_refl _) fun p => hk p.1 p.2
      | h d x => exact leR_bi (leR_refl _) fun H' => hk d H'
    | a h => exact leR_bi h fun d => hk d H
    | b h => exact leR_bi h fun p => hk p.1 p.2
  | some p =>
    cases h with
    | same => cases r with
      | m d => exact leR_bi (leR_refl _) fun d => hk d H
      | a x => exact leR_bi (leR_refl _) fun d => hk d H
      | b x => exact leR_bi (leR_refl _) fun p => hk p.1 p.2
      | h d x => exact leR_bi (leR_refl _) fun p => hk p.1 p.2
    | a h => exact leR_bi (hw _ _ h) fun d => hk d H
    | b h => exact leR_bi (hh _ _ h) fun p => hk p.1 p.2
theorem opsG_mono (hc : CLe cf cf') (P : Program) (md : FuncId → CM) (fl N : Nat) (st : Bool) (ops : Array Oper) : ∀ (l : List Oper) (nid : Nat) (s : List DV) (H : Heap) (k k' : KF), (∀ s H, leR (k s H) (k' s H)) → leR (opsG ⟨P, cf, md, fl, N⟩ st ops l nid s H k) (opsG ⟨P, cf', md, fl, N⟩ st ops l nid s H k') := by
  intro l
  induction l with
  | nil => intro nid s H k k' hk; exact hk s H
  | cons o l ih =>
    intro nid s H k k' hk
    unfold opsG
    cases moveOf o with
    | some x =>
      simp only [evalK_eq, forceL_eq]
      exact ih _ _ _ _ _ hk
    | none =>
      dsimp only
      cases guardOf ops o s with
      | none => exact leR_refl _
      | some g =>
        refine stepG_mono (opR_mono hc _ _ _ _ _ _ _ _ _) g H fun d H' => ?_
        simp only [forceL_eq]
        cases isAl o with
        | true => exact ih _ _ _ _ _ hk
        | false => exact ih _ _ _ _ _ hk
theorem loopG_mono (keep out : List Nat) (N : Nat) {body body' : List DV → Heap → (Ex → KF) → R} (hb : ∀ s H (k k' : Ex → KF), (∀ x s H, leR (k x s H) (k' x s H)) → leR (body s H k) (body' s H k')) : ∀ (m : Nat) (s : List DV) (H : Heap) (k k' : Ex → KF), (∀ x s H, leR (k x s H) (k' x s H)) → leR (loopG keep out N body m s H k) (loopG keep out N body' m s H k') := by
  intro m
  induction m with
  | zero => intro s H k k' hk; exact leR_refl _
  | succ m ih =>
    intro s H k k' hk
    rw [loopG_succ, loopG_succ]
    refine hb s H _ _ fun x s H => ?_
    cases x with
    | normal => simp only [forceL_eq]; exact ih _ _ _ _ hk
    | exit i => simp only [forceL_eq]; exact hk _ _ _
    | ret => simp only [forceL_eq]; exact hk _ _ _
theorem execG_mono (hc : CLe cf cf') (P : Program) (md : FuncId → CM) (fl N n : Nat) : ∀ (c : Code) (ks : List (List Nat × List Nat)) (s : List DV) (H : Heap) (k k' : Ex → KF), (∀ x s H, leR (k x s H) (k' x s H)) → leR (execG ⟨P, cf, md, fl, N⟩ n c ks s H k) (execG ⟨P, cf', md, fl, N⟩ n c ks s H k') := by
  intro c
  induction c with
  | skip => intro ks s H k k' hk; exact hk _ _ _
  | region id ops draw =>
    intro ks s H k k' hk
    unfold execG
    simp only [holesF_eq]
    cases (draw && !drawOk ops (ops.toList.map (sCls md false))) with
    | false => exact opsG_mono hc _ _ _ _ _ _ _ _ _ _ _ _ fun s H => hk _ _ _
    | true =>
      dsimp only
      cases drawOk ops (ops.toList.map fun o => sCls md (isElLd P ops o) o) with
      | true => exact opsG_mono hc _ _ _ _ _ _ _ _ _ _ _ _ fun s H => hk _ _ _
      | false => exact leR_refl _
  | seq a b iha ihb =>
    intro ks s H k k' hk
    unfold execG
    refine iha _ _ _ _ _ fun x s H => ?_
    cases x with
    | normal => exact ihb _ _ _ _ _ hk
    | exit i => exact hk _ _ _
    | ret => exact hk _ _ _
  | cond c a b iha ihb =>
    intro ks s H k k' hk
    unfold execG
    have ha := iha (ks.take (nloops a)) s H k k' hk
    have hb := ihb (ks.drop (nloops a)) s H k k' hk
    intro r e
    unfold condR at e ⊢
    split at e
    · exact ha r e
    · exact hb r e
    · cases e
  | block id b ih =>
    intro ks s H k k' hk
    unfold execG
    refine ih _ _ _ _ _ fun x s H => ?_
    cases x with
    | normal => exact hk _ _ _
    | exit i =>
      dsimp only
      split
      · exact hk _ _ _
      · exact hk _ _ _
    | ret => exact hk _ _ _
  | loop b ih =>
    intro ks s H k k' hk
    unfold execG
    simp only [forceL_eq]
    refine loopG_mono (body := execG ⟨P, cf, md, fl, N⟩ n b ks.tail) (body' := execG ⟨P, cf', md, fl, N⟩ n b ks.tail) _ _ _ (fun s H k k' hk => ih ks.tail s H k k' hk) _ _ _ _ _ fun x s H => ?_
    cases x with
    | normal => exact leR_refl _
    | exit i => exact hk _ _ _
    | ret => exact hk _ _ _
  | scope b ih => intro ks s H k k' hk; exact ih _ _ _ _ _ hk
  | exit id => intro ks s H k k' hk; exact hk _ _ _
  | ret => intro ks s H k k' hk; exact hk _ _ _
  | _ => intros; exact leR_refl _
structure ELe (E E' : Env) : Prop where
  md : E'.md = E.md
  ks : E'.ks = E.ks
  some : ∀ f g, E.prim f = some g → ∀ args H r, g args H = some r → ∃ g', E'.prim f = some g' ∧ g' args H = some r
  none : ∀ f, E.prim f = none → E'.prim f = none
theorem callG_mono (P : Program) {E E' : Env} (hE : ELe E E') : ∀ n, CLe (callG P E n) (callG P E' n) := by
  intro n
  induction n with
  | zero => intro f args H fl r h; cases h
  | succ n ih =>
    intro f args H fl r h
    rw [callG_eq] at h ⊢
    unfold bodyG at h ⊢
    cases hp : E.prim f with
    | some g =>
      rw [hp] at h
      obtain ⟨g', h1, h2⟩ := hE.some f g hp args H r h
      rw [h1]
      exact h2
    | none =>
      rw [hp] at h
      rw [hE.none f hp]
      dsimp only at h ⊢
      cases hf : P.funcs[f]? with
      | none => rw [hf] at h; cases h
      | some fn =>
        rw [hf] at h
        dsimp only at h ⊢
        cases hb : fn.body with
        | none => rw [hb] at h; cases h
        | some c =>
          rw [hb] at h
          dsimp only at h ⊢
          split at h
          · cases h
          · rename_i hlt
            rw [if_neg hlt]
            simp only [forceL_eq] at h ⊢
            rw [hE.md, hE.ks]
            exact execG_mono ih P E.md fl fn.ntmps n c (E.ks f) _ H _ _ (fun x s H => leR_refl _) r h
end Go.Proofs.Ytcpgmbpndpcmdaa
namespace Go.Proofs.Ytcpgmbpndpcmdaa
open Go Go.RowKit
set_option linter.unusedSimpArgs false
set_option linter.unusedVariables false
def dRq : DV → Option Rq
  | .agg [.flat (.int .i64 c), .flat (.int .i64 ad), .flat (.int .i64 k), .flat (.int .i64 t), .list _ ws _, .list _ bs _, .flat (.int .u16 an), .flat (.int .u16 o)] => (mapO dW ws).bind fun w => (mapO dT bs).map fun b => ⟨c, ad, k, t, ofW w, b, an, o⟩
  | _ => none
def primRead : Prim
  | [ra, .list _ bs _], H => (dRq ra).bind fun a => (mapO dB bs).bind fun l => if (0 ≤ a.and_ ∧ a.and_ < 65536) ∧ (0 ≤ a.or_ ∧ a.or_ < 65536) ∧ a.words.length ≤ 3000 ∧ a.bits.length ≤ 30000 then some (.tup [anE (outS a l).1 .sh .sh .sh, .flat (.int .i64 (outS a l).2)], H) else none
  | _, _ => none
theorem map_eqS {α β : Type} {f : α → β} {x : Option α} {b : β} (h : x.map f = some b) : ∃ a, x = some a ∧ f a = b := Option.map_eq_some_iff.1 h
theorem dRq_open {ra : DV} {a : Rq} (h : dRq ra = some a) : ∃ c ad k t s1 ws t1 s2 bs t2 an o w b, ra = .agg [.flat (.int .i64 c), .flat (.int .i64 ad), .flat (.int .i64 k), .flat (.int .i64 t), .list s1 ws t1, .list s2 bs t2, .flat (.int .u16 an), .flat (.int .u16 o)] ∧ mapO dW ws = some w ∧ mapO dT bs = some b ∧ a = ⟨c, ad, k, t, ofW w, b, an, o⟩ := by
  unfold dRq at h
  split at h
  · obtain ⟨w, h1, h⟩ := Option.bind_eq_some_iff.1 h
    obtain ⟨b, h2, rfl⟩ := map_eqS h
    exact ⟨_, _, _, _, _, _, _, _, _, _, _, _, w, b, rfl, h1, h2, rfl⟩
  · cases h
theorem dRq_rep {I : Nat → Nat → Prop} {w : World} {G : Gh} {ra : DV} {a : Rq} {V : Value} (h : dRq ra = some a) (hr : Rep I w G ra V) : ∃ vw vb, V = rqW a vw vb ∧ RdV encW w vw (toW a.words) ∧ RdV encT w vb a.bits ∧ Words a.words := by
  obtain ⟨c, ad, k, t, s1, ws, t1, s2, bs, t2, an, o, l, b, rfl, h1, h2, rfl⟩ := dRq_open h
  unfold Rep at hr
  obtain ⟨vs, rfl, hr⟩ := hr
  unfold RepL at hr
  obtain ⟨x1, r1, e1, k1, hr⟩ := hr
  unfold RepL at hr
  obtain ⟨x2, r2, e2, k2, hr⟩ := hr
  unfold RepL at hr
  obtain ⟨x3, r3, e3, k3, hr⟩ := hr
  unfold RepL at hr
  obtain ⟨x4, r4, e4, k4, hr⟩ := hr
  unfold RepL at hr
  obtain ⟨x5, r5, e5, k5, hr⟩ := hr
  unfold RepL at hr
  obtain ⟨x6, r6, e6, k6, hr⟩ := hr
  unfold RepL at hr
  obtain ⟨x7, r7, e7, k7, hr⟩ := hr
  unfold RepL at hr
  obtain ⟨x8, r8, e8, k8, hr⟩ := hr
  unfold RepL at hr
  unfold Rep at k1 k2 k3 k4 k7 k8
  subst hr; subst e8; subst e7; subst e6; subst e5; subst e4; subst e3; subst e2
  subst k1; subst k2; subst k3; subst k4; subst k7; subst k8
  have hv : vs = #[.int .i64 c, .int .i64 ad, .int .i64 k, .int .i64 t, x5, x6, .int .u16 an, .int .u16 o] := by apply Array.ext'; simpa using e1
  subst hv
  have w1 := list_rd dW_some (fun a => rfl) k5 h1
  have w2 := list_rd dT_some (fun a => rfl) k6 h2
  exact ⟨x5, x6, rfl, by rw [toW_ofW]; exact w1, w2, ofW_words l⟩
theorem outS_words (a : Rq) (l : List UInt8) : Words (outS a l).1.words := by
  unfold outS
  split
  · rename_i hr
    cases h : readS a l with
    | none => intro x hx; cases hx
    | some x => exact (read_sound a hr l x h).2.2
  · intro x hx; cases hx
theorem primR_ok {args : List DV} {r : DV} {H H' : Heap} (h : primRead args H = some (r, H')) : H' = H ∧ ∀ fl, CallOk Try.prog 75 args H fl r H := by
  unfold primRead at h
  split at h
  · rename_i ra s bs t H0
    obtain ⟨a, ha, h⟩ := Option.bind_eq_some_iff.1 h
    obtain ⟨l, hl, h⟩ := Option.bind_eq_some_iff.1 h
    split at h
    · rename_i hc
      obtain ⟨c1, c2, c3, c4⟩ := hc
      simp only [Option.some.injEq, Prod.mk.injEq] at h
      obtain ⟨rfl, rfl⟩ := h
      refine ⟨rfl, fun fl B G w vs hB hH hr hfl => ⟨?_, fun _ _ => rfl, Nat.le_refl _⟩⟩
      simp only [RepL] at hr
      obtain ⟨va, _, e1, hva, vl, _, rfl, hvl, rfl⟩ := hr
      have hv : vs = #[va, vl] := by apply Array.ext'; simpa using e1
      subst hv
      obtain ⟨vw, vb, rfl, w1, w2, w3⟩ := dRq_rep ha hva
      have w4 := list_rd dB_some (fun a => rfl) hvl hl
      refine (Read_w w a ⟨w3, c1, c2, c3, c4⟩ vw vb vl l w1 w2 w4).mono fun e w' ⟨hb, v1, v2, v3, he, o1, o2, o3⟩ => ⟨_, G, he, Keep.below G hb, hH.below hb, ?_⟩
      have e1 := mkl_eW (toW (outS a l).1.words) .sh
      rw [ofW_toW _ (outS_words a l)] at e1
      have r1 : Rep (ImmB B G) w' G (LV 1 Bo (outS a l).1.bits .sh) v1 := own_rep (e' := eT) (fun _ => rfl) (fun _ => ⟨rfl, rfl⟩) hB hH o1
      have r2 : Rep (ImmB B G) w' G (LV 1 (I .u16) (outS a l).1.words .sh) v2 := by rw [← e1]; exact own_rep (fun _ => rfl) (fun _ => ⟨rfl, rfl⟩) hB hH o2
      have r3 : Rep (ImmB B G) w' G (LV 1 Sg (outS a l).1.texts .sh) v3 := own_rep (enc := encS) (e' := Sg) (fun _ => rfl) (fun _ => ⟨rfl, rfl⟩) hB hH o3
      unfold anE anW
      simp only [Rep, RepL]
      exact ⟨_, rfl, _, _, rfl, ⟨_, rfl, _, _, rfl, rfl, _, _, rfl, r1, _, _, rfl, r2, _, _, rfl, r3, rfl⟩, _, _, rfl, rfl, rfl⟩
    · cases h
  · cases h
def ENV2 : Env where
  md := ENV.md
  ks := ENV.ks
  prim f := bif f == 75 then some primRead else ENV.prim f
theorem ele2 : ELe ENV ENV2 := by
  refine ⟨rfl, rfl, fun f g hf args H r h => ?_, fun f hf => ?_⟩
  · by_cases c : f = 75
    · subst c
      have e : ENV.prim 75 = some primNo := by kernel_rfl
      rw [e] at hf
      obtain rfl := Option.some.inj hf
      cases h
    · have c' : (f == 75) = false := by simpa using c
      exact ⟨g, by unfold ENV2; simp only [c', cond_false]; exact hf, h⟩
  · by_cases c : f = 75
    · subst c
      have e : ENV.prim 75 = some primNo := by kernel_rfl
      rw [e] at hf
      cases hf
    · have c' : (f == 75) = false := by simpa using c
      unfold ENV2
      simp only [c', cond_false]
      exact hf
theorem primSound2 : PrimSound Try.prog ENV2 := by
  intro f g args H d H' hf h
  unfold ENV2 at hf
  by_cases c : f = 75
  · subst c
    simp only [BEq.rfl, cond_true, Option.some.injEq] at hf
    subst hf
    obtain ⟨rfl, h⟩ := primR_ok h
    exact ⟨⟨_, Try.func75, rfl⟩, h, fun _ h => h⟩
  · have c' : (f == 75) = false := by simpa using c
    simp only [c', cond_false] at hf
    exact primSound f g args H d H' hf h
noncomputable def cP2 (n : Nat) (f : FuncId) (ti : Bool) (args : List DV) : Option DV := callP (callG Try.prog ENV2 n) f ti args
theorem cP_up {n : Nat} {f : FuncId} {ti : Bool} {args : List DV} {r : DV} (h : cP n f ti args = some r) : cP2 n f ti args = some r := callP_mono (callG_mono Try.prog ele2 n) f ti args r h
theorem cP2_of {n f : Nat} {ti : Bool} {args args' : List DV} {H' : Heap} {r r' : DV} (h1 : mapO argEl args = some args') (h2 : callG Try.prog ENV2 n f args' [] 0 = some (r, H')) (h3 : outD ti H' r = some r') : cP2 n f ti args = some r' := by
  unfold cP2 callP
  rw [h1, bi_some, h2, bi_some]
  exact h3
noncomputable def cO2 (n : Nat) (f : FuncId) (args : List DV) (H : Heap) : Option DV := callO (callG Try.prog ENV2 n) f args H
noncomputable def cW2 (n : Nat) (f : FuncId) (args : List DV) (H : Heap) (fl : Nat) : R := callW (callG Try.prog ENV2 n) f args H fl
noncomputable def cK2 (n : Nat) (f : FuncId) (args : List DV) (H : Heap) (fl : Nat) : R := callG Try.prog ENV2 n f args H fl
noncomputable def cV2 (n fl : Nat) (f : DV) (args : List DV) (H : Heap) : R := callVG (callG Try.prog ENV2 n) ENV2.md fl f args H
theorem cW2_of {n f : Nat} {args : List DV} {H H' H2 : Heap} {fl : Nat} {r r' : DV} (h1 : callG Try.prog ENV2 n f args H fl = some (r, H')) (h2 : oldD H.length H' r = some r') (h3 : cutH H.length H' = some H2) : cW2 n f args H fl = some (r', H2) := by
  unfold cW2 callW
  rw [h1, bi_some, h2, bi_some, h3, bi_some]
theorem cO2_of {n f : Nat} {args : List DV} {H H' : Heap} {r r' : DV} (h1 : callG Try.prog ENV2 n f args H H.length = some (r, H')) (h2 : oldD H.length H' r = some r') : cO2 n f args H = some r' := by
  unfold cO2 callO
  rw [h1, bi_some]
  exact h2
theorem law_call2 {n f : Nat} {args : List DV} {H' : Heap} (h : callG Try.prog ENV2 n f args [] 0 = some (.flat (.bool true), H')) {w : World} {vs : Array Value} (hr : RepL Any w [] args vs.toList) :
    Calls Try.prog f vs w fun e w' => e = .returned (.bool true) ∧ Below w.heap.size w w' :=
  (pure_call mixed noOwn primSound2 (callG_ok _ _ _ _ _ _ _ _ h) hr).mono fun e w' ⟨V, he, hb, I, G, hV⟩ => by
    simp only [Rep] at hV
    subst hV
    exact ⟨he, hb⟩
theorem Read_c (n : Nat) (hn : 1 ≤ n) (a : Rq) (oa : RqOk a) (b : List Int) (hb : Bytes b) (t1 t2 t : Tag) : cP2 n 75 false [rqE a t1 t2, LV 1 (I .u8) b t] = some (.tup [anE (ansReadV a b).1 .sh .sh .sh, I .i64 (ansReadV a b).2]) := by
  obtain ⟨n, rfl⟩ : ∃ m, n = m + 1 := ⟨n - 1, by omega⟩
  have hp : ENV2.prim 75 = some primRead := by kernel_rfl
  have e : outS a (toB b) = ansReadV a b := by
    unfold outS
    by_cases hr : RightP a
    · rw [if_pos hr]
      have := read_is a hr (toB b) _ _ rfl
      rw [ofB_toB b hb] at this
      exact this.symm
    · rw [if_neg hr]
      unfold ansReadV
      rw [if_neg hr]
  have hr : primRead [rqE a .sh .sh, LV 1 (I .u8) b .sh] [] = some (.tup [anE (outS a (toB b)).1 .sh .sh .sh, .flat (.int .i64 (outS a (toB b)).2)], []) := by
    obtain ⟨s, e1, _⟩ := LV_list 1 (I .u8) b .sh
    obtain ⟨s1, e2, _⟩ := LV_list 1 (I .u16) a.words .sh
    obtain ⟨s2, e3, _⟩ := LV_list 1 Bo a.bits .sh
    have hd : dRq (rqE a .sh .sh) = some a := by
      unfold rqE
      rw [e2, e3]
      unfold dRq
      simp only
      rw [mapO_dW _ oa.w, mapO_dT, Option.bind_some, Option.map_some, ofW_toW _ oa.w]
    rw [e1]
    unfold primRead
    simp only
    rw [hd, Option.bind_some, mapO_dB b hb, Option.bind_some, if_pos ⟨oa.a, oa.o, oa.lw, oa.lb⟩]
  rw [e] at hr
  refine cP2_of (args' := [rqE a .sh .sh, LV 1 (I .u8) b .sh]) (H' := []) (r := .tup [anE (ansReadV a b).1 .sh .sh .sh, I .i64 (ansReadV a b).2]) (by simp [argEl_eq, rqE]) ?_ (by simp [anE])
  rw [callG_eq]
  unfold bodyG
  rw [hp]
  exact hr
end Go.Proofs.Ytcpgmbpndpcmdaa
namespace Go.Proofs.Ytcpgmbpndpcmdaa
open Go
set_option maxRecDepth 100000
set_option linter.unusedVariables false
def s_triunelaw08_MasterEnds_I3 (x2 x3 x4 x7 x8 x16 x18 x19 : DV) : List DV := [.any, .any, x2, x3, x4, .any, .any, x7, x8, .any, .any, .any, .any, .any, .any, .any, x16, .any, x18, x19, .any, .any, .any, .any, .any, .any, .any, .any, .any, .any, .any, .any, .any, .any, .any, .any, .any, .any, .any, .any, .any, .any, .any, .any, .any, .any, .any, .any, .any, .any, .any, .any, .any, .any, .any, .any, .any, .any, .any, .any, .any, .any, .any, .any, .any, .any, .any, .any, .any, .any, .any, .any, .any, .any, .any, .any, .any, .any, .any, .any, .any, .any, .any, .any, .any, .any, .any, .any, .any, .any, .any, .any, .any, .any, .any, .any, .any, .any, .any, .any, .any, .any, .any, .any, .any, .any, .any, .any, .any, .any, .any, .any, .any, .any, .any, .any, .any, .any, .any, .any, .any, .any, .any, .any, .any, .any, .any, .any, .any, .any, .any, .any, .any, .any, .any, .any, .any, .any, .any, .any, .any, .any, .any, .any, .any, .any, .any, .any, .any, .any, .any, .any, .any, .any, .any, .any, .any, .any, .any, .any, .any, .any, .any, .any, .any, .any, .any, .any, .any, .any, .any, .any, .any, .any, .any, .any, .any, .any, .any, .any, .any, .any, .any, .any, .any, .any, .any, .any, .any, .any, .any, .any, .any, .any, .any, .any, .any, .any, .any, .any, .any, .any, .any, .any, .any, .any, .any, .any, .any, .any, .any, .any, .any, .any, .any, .any, .any, .any, .any]
def s_triunelaw08_MasterEnds_O3 (x6 : DV) : List DV := [.any, .any, .any, .any, .any, .any, x6, .any, .any, .any, .any, .any, .any, .any, .any, .any, .any, .any, .any, .any, .any, .any, .any, .any, .any, .any, .any, .any, .any, .any, .any, .any, .any, .any, .any, .any, .any, .any, .any, .any, .any, .any, .any, .any, .any, .any, .any, .any, .any, .any, .any, .any, .any, .any, .any, .any, .any, .any, .any, .any, .any, .any, .any, .any, .any, .any, .any, .any, .any, .any, .any, .any, .any, .any, .any, .any, .any, .any, .any, .any, .any, .any, .any, .any, .any, .any, .any, .any, .any, .any, .any, .any, .any, .any, .any, .any, .any, .any, .any, .any, .any, .any, .any, .any, .any, .any, .any, .any, .any, .any, .any, .any, .any, .any, .any, .any, .any, .any, .any, .any, .any, .any, .any, .any, .any, .any, .any, .any, .any, .any, .any, .any, .any, .any, .any, .any, .any, .any, .any, .any, .any, .any, .any, .any, .any, .any, .any, .any, .any, .any, .any, .any, .any, .any, .any, .any, .any, .any, .any, .any, .any, .any, .any, .any, .any, .any, .any, .any, .any, .any, .any, .any, .any, .any, .any, .any, .any, .any, .any, .any, .any, .any, .any, .any, .any, .any, .any, .any, .any, .any, .any, .any, .any, .any, .any, .any, .any, .any, .any, .any, .any, .any, .any, .any, .any, .any, .any, .any, .any, .any, .any, .any, .any, .any, .any, .any, .any, .any, .any]
noncomputable abbrev s_triunelaw08_MasterEnds_b3 (n fl : Nat) : List DV → Heap → (Ex → KF) → R := execG ⟨Try.prog, callG Try.prog ENV2 n, ENV2.md, fl, 219⟩ n (loopAt (bodyOf Try.f3) 3) []
noncomputable def s_triunelaw08_MasterEnds_B3 (n fl : Nat) (rec : DV → DV → DV → DV → DV → DV → DV → DV → Heap → R) (k : Ex → KF) (x2 x3 x4 x7 x8 x16 x18 x19 : DV) (H : Heap) : R :=
  bi (fieldD 2 1 x3) fun d0 =>
  bi (loadG false 1 d0 H) fun d1 =>
  bi (mulK .i64 (I .i64 3) d1) fun d2 =>
  bi (fieldD 3 1 x3) fun d3 =>
  bi (loadG false 1 d3 H) fun d4 =>
  bi (mulK .i64 d2 d4) fun d5 =>
  bi (ltK .i64 x19 d5) fun d6 =>
  condR d6 (
  bi (lenD x2) fun d7 =>
  bi (ltK .i64 x19 d7) fun d8 =>
  condR d8 (
   bi (idxSl 1 x2 x19) fun d9 =>
   bi (loadG false 1 d9 H) fun d10 =>
   bi (cK2 n 12 [x8, d10] H fl) fun p11 =>
  bi (cW2 n 13 [x8] (p11.2 ++ [.hole]) fl) fun p12 =>
  bi (extD 0 p12.1) fun d13 =>
  bi (extD 1 p12.1) fun d14 =>
  bi (allocG 50 (.agg [(I .i64 0), (I .i64 0), (.list 0 [] .ti), (.list 0 [] .ti), (.list 0 [] .ti)]) (List.length p11.2) p12.2) fun h15 =>
  bi (storeG 5 (.ptr (List.length p11.2) 0) d14 h15 fl) fun h16 =>
  bi (lenD d13) fun d17 =>
  bi (gtK .i64 d17 (I .i64 0)) fun d18 =>
  condR d18 (
   bi (cP2 n 14 false [d13, x16]) fun d19 =>
   bi (addK .i64 x18 (I .i64 1)) fun d20 =>
   bi (notD d19) fun d21 =>
   bi (wantF d21 false (some d20)) fun d22 =>
   bi (wantF d21 false (fieldD 3 1 x3)) fun d23 =>
   bi (wantF d21 false (loadG false 1 d23 h16)) fun d24 =>
   bi (wantF d21 false (gtK .i64 d22 d24)) fun d25 =>
   bi (pickD d21 (Bo true) d25) fun d26 =>
   bi (wantF d26 false (some (.ptr (List.length p11.2) 0))) fun d27 =>
   bi (wantF d26 false (loadG false 1 d27 h16)) fun d28 =>
   bi (wantF d26 false (neK .i64 d28 (I .i64 0))) fun d29 =>
   bi (pickD d26 (Bo true) d29) fun d30 =>
   condR d30 (
  k .ret (s_triunelaw08_MasterEnds_O3 (Bo false)) h16) (
  bi (loadG false 1 (.ptr (List.length p11.2) 0) h16) fun d31 =>
  bi (neK .i64 d31 (I .i64 0)) fun d32 =>
  condR d32 (
   bi (cW2 n 13 [x8] (h16 ++ [.hole]) fl) fun p33 =>
   bi (extD 0 p33.1) fun d34 =>
   bi (extD 1 p33.1) fun d35 =>
   bi (allocG 50 (.agg [(I .i64 0), (I .i64 0), (.list 0 [] .ti), (.list 0 [] .ti), (.list 0 [] .ti)]) (List.length h16) p33.2) fun h36 =>
   bi (storeG 5 (.ptr (List.length h16) 0) d35 h36 fl) fun h37 =>
   bi (wantF x7 true (some x8)) fun d38 =>
   bi (wantF x7 true (cO2 n 15 [d38] h37)) fun d39 =>
   bi (wantF x7 true (notD d39)) fun d40 =>
   bi (pickD x7 d40 (Bo false)) fun d41 =>
   bi (wantF d41 true (some (.ptr (List.length h16) 0))) fun d42 =>
   bi (wantF d41 true (loadG false 1 d42 h37)) fun d43 =>
   bi (wantF d41 true (eqK .i64 d43 (I .i64 0))) fun d44 =>
   bi (pickD d41 d44 (Bo false)) fun d45 =>
   bi (wantF d45 true (some (.ptr (List.length p11.2) 0))) fun d46 =>
   bi (wantF d45 true (loadG false 1 d46 h37)) fun d47 =>
   bi (wantF d45 true (neK .i64 d47 (I .i64 1))) fun d48 =>
   bi (wantF d45 true (some d48)) fun d49 =>
   bi (wantF d49 false (loadG true 8 x4 h37)) fun d50 =>
   bi (wantF d49 false (some (.ptr (List.length p11.2) 1))) fun d51 =>
   bi (wantF d49 false (loadG true 4 d51 h37)) fun d52 =>
   bi (wantF d49 false (cP2 n 16 false [d50, d52])) fun d53 =>
   bi (wantF d45 true (pickD d49 (Bo true) d53)) fun d54 =>
   bi (pickD d45 d54 (Bo false)) fun d55 =>
   bi (wantF d55 true (some (.ptr (List.length p11.2) 0))) fun d56 =>
   bi (wantF d55 true (loadG false 1 d56 h37)) fun d57 =>
   bi (wantF d55 true (eqK .i64 d57 (I .i64 1))) fun d58 =>
   bi (wantF d55 true (some d58)) fun d59 =>
   bi (wantF d59 false (some d20)) fun d60 =>
   bi (wantF d59 false (fieldD 3 1 x3)) fun d61 =>
   bi (wantF d59 false (loadG false 1 d61 h37)) fun d62 =>
   bi (wantF d59 false (eqK .i64 d60 d62)) fun d63 =>
   bi (wantF d55 true (pickD d59 (Bo true) d63)) fun d64 =>
   bi (pickD d55 d64 (Bo false)) fun d65 =>
  k .ret (s_triunelaw08_MasterEnds_O3 d65) h37) (
  bi (addK .i64 x19 (I .i64 1)) fun d66 =>
  rec x2 x3 x4 x7 x8 x16 d20 d66 h16))) (
  bi (loadG false 1 (.ptr (List.length p11.2) 0) h16) fun d67 =>
  bi (neK .i64 d67 (I .i64 0)) fun d68 =>
  condR d68 (
   bi (cW2 n 13 [x8] (h16 ++ [.hole]) fl) fun p69 =>
   bi (extD 0 p69.1) fun d70 =>
   bi (extD 1 p69.1) fun d71 =>
   bi (allocG 50 (.agg [(I .i64 0), (I .i64 0), (.list 0 [] .ti), (.list 0 [] .ti), (.list 0 [] .ti)]) (List.length h16) p69.2) fun h72 =>
   bi (storeG 5 (.ptr (List.length h16) 0) d71 h72 fl) fun h73 =>
   bi (wantF x7 true (some x8)) fun d74 =>
   bi (wantF x7 true (cO2 n 15 [d74] h73)) fun d75 =>
   bi (wantF x7 true (notD d75)) fun d76 =>
   bi (pickD x7 d76 (Bo false)) fun d77 =>
   bi (wantF d77 true (some (.ptr (List.length h16) 0))) fun d78 =>
   bi (wantF d77 true (loadG false 1 d78 h73)) fun d79 =>
   bi (wantF d77 true (eqK .i64 d79 (I .i64 0))) fun d80 =>
   bi (pickD d77 d80 (Bo false)) fun d81 =>
   bi (wantF d81 true (some (.ptr (List.length p11.2) 0))) fun d82 =>
   bi (wantF d81 true (loadG false 1 d82 h73)) fun d83 =>
   bi (wantF d81 true (neK .i64 d83 (I .i64 1))) fun d84 =>
   bi (wantF d81 true (some d84)) fun d85 =>
   bi (wantF d85 false (loadG true 8 x4 h73)) fun d86 =>
   bi (wantF d85 false (some (.ptr (List.length p11.2) 1))) fun d87 =>
   bi (wantF d85 false (loadG true 4 d87 h73)) fun d88 =>
   bi (wantF d85 false (cP2 n 16 false [d86, d88])) fun d89 =>
   bi (wantF d81 true (pickD d85 (Bo true) d89)) fun d90 =>
   bi (pickD d81 d90 (Bo false)) fun d91 =>
   bi (wantF d91 true (some (.ptr (List.length p11.2) 0))) fun d92 =>
   bi (wantF d91 true (loadG false 1 d92 h73)) fun d93 =>
   bi (wantF d91 true (eqK .i64 d93 (I .i64 1))) fun d94 =>
   bi (wantF d91 true (some d94)) fun d95 =>
   bi (wantF d95 false (some x18)) fun d96 =>
   bi (wantF d95 false (fieldD 3 1 x3)) fun d97 =>
   bi (wantF d95 false (loadG false 1 d97 h73)) fun d98 =>
   bi (wantF d95 false (eqK .i64 d96 d98)) fun d99 =>
   bi (wantF d91 true (pickD d95 (Bo true) d99)) fun d100 =>
   bi (pickD d91 d100 (Bo false)) fun d101 =>
  k .ret (s_triunelaw08_MasterEnds_O3 d101) h73) (
  bi (addK .i64 x19 (I .i64 1)) fun d102 =>
  rec x2 x3 x4 x7 x8 x16 x18 d102 h16))) (
  bi (cW2 n 13 [x8] (H ++ [.hole]) fl) fun p103 =>
  bi (extD 0 p103.1) fun d104 =>
  bi (extD 1 p103.1) fun d105 =>
  bi (allocG 50 (.agg [(I .i64 0), (I .i64 0), (.list 0 [] .ti), (.list 0 [] .ti), (.list 0 [] .ti)]) (List.length H) p103.2) fun h106 =>
  bi (storeG 5 (.ptr (List.length H) 0) d105 h106 fl) fun h107 =>
  bi (lenD d104) fun d108 =>
  bi (gtK .i64 d108 (I .i64 0)) fun d109 =>
  condR d109 (
   bi (cP2 n 14 false [d104, x16]) fun d110 =>
   bi (addK .i64 x18 (I .i64 1)) fun d111 =>
   bi (notD d110) fun d112 =>
   bi (wantF d112 false (some d111)) fun d113 =>
   bi (wantF d112 false (fieldD 3 1 x3)) fun d114 =>
   bi (wantF d112 false (loadG false 1 d114 h107)) fun d115 =>
   bi (wantF d112 false (gtK .i64 d113 d115)) fun d116 =>
   bi (pickD d112 (Bo true) d116) fun d117 =>
   bi (wantF d117 false (some (.ptr (List.length H) 0))) fun d118 =>
   bi (wantF d117 false (loadG false 1 d118 h107)) fun d119 =>
   bi (wantF d117 false (neK .i64 d119 (I .i64 0))) fun d120 =>
   bi (pickD d117 (Bo true) d120) fun d121 =>
   condR d121 (
  k .ret (s_triunelaw08_MasterEnds_O3 (Bo false)) h107) (
  bi (loadG false 1 (.ptr (List.length H) 0) h107) fun d122 =>
  bi (neK .i64 d122 (I .i64 0)) fun d123 =>
  condR d123 (
   bi (cW2 n 13 [x8] (h107 ++ [.hole]) fl) fun p124 =>
   bi (extD 0 p124.1) fun d125 =>
   bi (extD 1 p124.1) fun d126 =>
   bi (allocG 50 (.agg [(I .i64 0), (I .i64 0), (.list 0 [] .ti), (.list 0 [] .ti), (.list 0 [] .ti)]) (List.length h107) p124.2) fun h127 =>
   bi (storeG 5 (.ptr (List.length h107) 0) d126 h127 fl) fun h128 =>
   bi (wantF x7 true (some x8)) fun d129 =>
   bi (wantF x7 true (cO2 n 15 [d129] h128)) fun d130 =>
   bi (wantF x7 true (notD d130)) fun d131 =>
   bi (pickD x7 d131 (Bo false)) fun d132 =>
   bi (wantF d132 true (some (.ptr (List.length h107) 0))) fun d133 =>
   bi (wantF d132 true (loadG false 1 d133 h128)) fun d134 =>
   bi (wantF d132 true (eqK .i64 d134 (I .i64 0))) fun d135 =>
   bi (pickD d132 d135 (Bo false)) fun d136 =>
   bi (wantF d136 true (some (.ptr (List.length H) 0))) fun d137 =>
   bi (wantF d136 true (loadG false 1 d137 h128)) fun d138 =>
   bi (wantF d136 true (neK .i64 d138 (I .i64 1))) fun d139 =>
   bi (wantF d136 true (some d139)) fun d140 =>
   bi (wantF d140 false (loadG true 8 x4 h128)) fun d141 =>
   bi (wantF d140 false (some (.ptr (List.length H) 1))) fun d142 =>
   bi (wantF d140 false (loadG true 4 d142 h128)) fun d143 =>
   bi (wantF d140 false (cP2 n 16 false [d141, d143])) fun d144 =>
   bi (wantF d136 true (pickD d140 (Bo true) d144)) fun d145 =>
   bi (pickD d136 d145 (Bo false)) fun d146 =>
   bi (wantF d146 true (some (.ptr (List.length H) 0))) fun d147 =>
   bi (wantF d146 true (loadG false 1 d147 h128)) fun d148 =>
   bi (wantF d146 true (eqK .i64 d148 (I .i64 1))) fun d149 =>
   bi (wantF d146 true (some d149)) fun d150 =>
   bi (wantF d150 false (some d111)) fun d151 =>
   bi (wantF d150 false (fieldD 3 1 x3)) fun d152 =>
   bi (wantF d150 false (loadG false 1 d152 h128)) fun d153 =>
   bi (wantF d150 false (eqK .i64 d151 d153)) fun d154 =>
   bi (wantF d146 true (pickD d150 (Bo true) d154)) fun d155 =>
   bi (pickD d146 d155 (Bo false)) fun d156 =>
  k .ret (s_triunelaw08_MasterEnds_O3 d156) h128) (
  bi (addK .i64 x19 (I .i64 1)) fun d157 =>
  rec x2 x3 x4 x7 x8 x16 d111 d157 h107))) (
  bi (loadG false 1 (.ptr (List.length H) 0) h107) fun d158 =>
  bi (neK .i64 d158 (I .i64 0)) fun d159 =>
  condR d159 (
   bi (cW2 n 13 [x8] (h107 ++ [.hole]) fl) fun p160 =>
   bi (extD 0 p160.1) fun d161 =>
   bi (extD 1 p160.1) fun d162 =>
   bi (allocG 50 (.agg [(I .i64 0), (I .i64 0), (.list 0 [] .ti), (.list 0 [] .ti), (.list 0 [] .ti)]) (List.length h107) p160.2) fun h163 =>
   bi (storeG 5 (.ptr (List.length h107) 0) d162 h163 fl) fun h164 =>
   bi (wantF x7 true (some x8)) fun d165 =>
   bi (wantF x7 true (cO2 n 15 [d165] h164)) fun d166 =>
   bi (wantF x7 true (notD d166)) fun d167 =>
   bi (pickD x7 d167 (Bo false)) fun d168 =>
   bi (wantF d168 true (some (.ptr (List.length h107) 0))) fun d169 =>
   bi (wantF d168 true (loadG false 1 d169 h164)) fun d170 =>
   bi (wantF d168 true (eqK .i64 d170 (I .i64 0))) fun d171 =>
   bi (pickD d168 d171 (Bo false)) fun d172 =>
   bi (wantF d172 true (some (.ptr (List.length H) 0))) fun d173 =>
   bi (wantF d172 true (loadG false 1 d173 h164)) fun d174 =>
   bi (wantF d172 true (neK .i64 d174 (I .i64 1))) fun d175 =>
   bi (wantF d172 true (some d175)) fun d176 =>
   bi (wantF d176 false (loadG true 8 x4 h164)) fun d177 =>
   bi (wantF d176 false (some (.ptr (List.length H) 1))) fun d178 =>
   bi (wantF d176 false (loadG true 4 d178 h164)) fun d179 =>
   bi (wantF d176 false (cP2 n 16 false [d177, d179])) fun d180 =>
   bi (wantF d172 true (pickD d176 (Bo true) d180)) fun d181 =>
   bi (pickD d172 d181 (Bo false)) fun d182 =>
   bi (wantF d182 true (some (.ptr (List.length H) 0))) fun d183 =>
   bi (wantF d182 true (loadG false 1 d183 h164)) fun d184 =>
   bi (wantF d182 true (eqK .i64 d184 (I .i64 1))) fun d185 =>
   bi (wantF d182 true (some d185)) fun d186 =>
   bi (wantF d186 false (some x18)) fun d187 =>
   bi (wantF d186 false (fieldD 3 1 x3)) fun d188 =>
   bi (wantF d186 false (loadG false 1 d188 h164)) fun d189 =>
   bi (wantF d186 false (eqK .i64 d187 d189)) fun d190 =>
   bi (wantF d182 true (pickD d186 (Bo true) d190)) fun d191 =>
   bi (pickD d182 d191 (Bo false)) fun d192 =>
  k .ret (s_triunelaw08_MasterEnds_O3 d192) h164) (
  bi (addK .i64 x19 (I .i64 1)) fun d193 =>
  rec x2 x3 x4 x7 x8 x16 x18 d193 h107)))) (
  k (.exit 6) (s_triunelaw08_MasterEnds_O3 .any) H)
noncomputable def s_triunelaw08_MasterEnds_L3 (n fl : Nat) (k : Ex → KF) : Nat → DV → DV → DV → DV → DV → DV → DV → DV → Heap → R
  | 0, _, _, _, _, _, _, _, _, _ => none
  | m + 1, x2, x3, x4, x7, x8, x16, x18, x19, H => s_triunelaw08_MasterEnds_B3 n fl (s_triunelaw08_MasterEnds_L3 n fl k m) k x2 x3 x4 x7 x8 x16 x18 x19 H
theorem s_triunelaw08_MasterEnds_S3 (n fl m : Nat) (k : Ex → KF) (x2 x3 x4 x7 x8 x16 x18 x19 : DV) (H : Heap) : loopG [2, 3, 4, 7, 8, 16, 18, 19] [6] 219 (s_triunelaw08_MasterEnds_b3 n fl) (m + 1) (s_triunelaw08_MasterEnds_I3 x2 x3 x4 x7 x8 x16 x18 x19) H k = s_triunelaw08_MasterEnds_B3 n fl (fun x2 x3 x4 x7 x8 x16 x18 x19 H => loopG [2, 3, 4, 7, 8, 16, 18, 19] [6] 219 (s_triunelaw08_MasterEnds_b3 n fl) m (s_triunelaw08_MasterEnds_I3 x2 x3 x4 x7 x8 x16 x18 x19) H k) k x2 x3 x4 x7 x8 x16 x18 x19 H := by kernel_rfl
theorem s_triunelaw08_MasterEnds_L3_eq (n fl : Nat) (k : Ex → KF) : ∀ (m : Nat) (x2 x3 x4 x7 x8 x16 x18 x19 : DV) (H : Heap), loopG [2, 3, 4, 7, 8, 16, 18, 19] [6] 219 (s_triunelaw08_MasterEnds_b3 n fl) m (s_triunelaw08_MasterEnds_I3 x2 x3 x4 x7 x8 x16 x18 x19) H k = s_triunelaw08_MasterEnds_L3 n fl k m x2 x3 x4 x7 x8 x16 x18 x19 H := by
  intro m
  induction m with
  | zero => intros; rfl
  | succ m ih =>
    intro x2 x3 x4 x7 x8 x16 x18 x19 H
    rw [s_triunelaw08_MasterEnds_S3, show (fun x2 x3 x4 x7 x8 x16 x18 x19 H => loopG [2, 3, 4, 7, 8, 16, 18, 19] [6] 219 (s_triunelaw08_MasterEnds_b3 n fl) m (s_triunelaw08_MasterEnds_I3 x2 x3 x4 x7 x8 x16 x18 x19) H k) = s_triunelaw08_MasterEnds_L3 n fl k m from by funext x2 x3 x4 x7 x8 x16 x18 x19 H; exact ih _ _ _ _ _ _ _ _ _]
    rw [s_triunelaw08_MasterEnds_L3]
def s_triunelaw08_MasterEnds_I2 (x2 x3 x4 x7 x8 x13 : DV) : List DV := [.any, .any, x2, x3, x4, .any, .any, x7, x8, .any, .any, .any, .any, x13, .any, .any, .any, .any, .any, .any, .any, .any, .any, .any, .any, .any, .any, .any, .any, .any, .any, .any, .any, .any, .any, .any, .any, .any, .any, .any, .any, .any, .any, .any, .any, .any, .any, .any, .any, .any, .any, .any, .any, .any, .any, .any, .any, .any, .any, .any, .any, .any, .any, .any, .any, .any, .any, .any, .any, .any, .any, .any, .any, .any, .any, .any, .any, .any, .any, .any, .any, .any, .any, .any, .any, .any, .any, .any, .any, .any, .any, .any, .any, .any, .any, .any, .any, .any, .any, .any, .any, .any, .any, .any, .any, .any, .any, .any, .any, .any, .any, .any, .any, .any, .any, .any, .any, .any, .any, .any, .any, .any, .any, .any, .any, .any, .any, .any, .any, .any, .any, .any, .any, .any, .any, .any, .any, .any, .any, .any, .any, .any, .any, .any, .any, .any, .any, .any, .any, .any, .any, .any, .any, .any, .any, .any, .any, .any, .any, .any, .any, .any, .any, .any, .any, .any, .any, .any, .any, .any, .any, .any, .any, .any, .any, .any, .any, .any, .any, .any, .any, .any, .any, .any, .any, .any, .any, .any, .any, .any, .any, .any, .any, .any, .any, .any, .any, .any, .any, .any, .any, .any, .any, .any, .any, .any, .any, .any, .any, .any, .any, .any, .any, .any, .any, .any, .any, .any, .any]
def s_triunelaw08_MasterEnds_O2 (x2 x3 x4 x6 x7 x8 : DV) : List DV := [.any, .any, x2, x3, x4, .any, x6, x7, x8, .any, .any, .any, .any, .any, .any, .any, .any, .any, .any, .any, .any, .any, .any, .any, .any, .any, .any, .any, .any, .any, .any, .any, .any, .any, .any, .any, .any, .any, .any, .any, .any, .any, .any, .any, .any, .any, .any, .any, .any, .any, .any, .any, .any, .any, .any, .any, .any, .any, .any, .any, .any, .any, .any, .any, .any, .any, .any, .any, .any, .any, .any, .any, .any, .any, .any, .any, .any, .any, .any, .any, .any, .any, .any, .any, .any, .any, .any, .any, .any, .any, .any, .any, .any, .any, .any, .any, .any, .any, .any, .any, .any, .any, .any, .any, .any, .any, .any, .any, .any, .any, .any, .any, .any, .any, .any, .any, .any, .any, .any, .any, .any, .any, .any, .any, .any, .any, .any, .any, .any, .any, .any, .any, .any, .any, .any, .any, .any, .any, .any, .any, .any, .any, .any, .any, .any, .any, .any, .any, .any, .any, .any, .any, .any, .any, .any, .any, .any, .any, .any, .any, .any, .any, .any, .any, .any, .any, .any, .any, .any, .any, .any, .any, .any, .any, .any, .any, .any, .any, .any, .any, .any, .any, .any, .any, .any, .any, .any, .any, .any, .any, .any, .any, .any, .any, .any, .any, .any, .any, .any, .any, .any, .any, .any, .any, .any, .any, .any, .any, .any, .any, .any, .any, .any, .any, .any, .any, .any, .any, .any]
noncomputable abbrev s_triunelaw08_MasterEnds_b2 (n fl : Nat) : List DV → Heap → (Ex → KF) → R := execG ⟨Try.prog, callG Try.prog ENV2 n, ENV2.md, fl, 219⟩ n (loopAt (bodyOf Try.f3) 2) []
noncomputable def s_triunelaw08_MasterEnds_B2 (n fl : Nat) (rec : DV → DV → DV → DV → DV → DV → Heap → R) (k : Ex → KF) (x2 x3 x4 x7 x8 x13 : DV) (H : Heap) : R :=
  bi (lenD x2) fun d0 =>
  bi (ltK .i64 x13 d0) fun d1 =>
  condR d1 (
  bi (idxSl 1 x2 x13) fun d2 =>
  bi (loadG false 1 d2 H) fun d3 =>
  bi (lenD d3) fun d4 =>
  bi (gtK .i64 d4 (I .i64 400)) fun d5 =>
  condR d5 (
  k .ret (s_triunelaw08_MasterEnds_O2 x2 x3 x4 x7 x7 x8) H) (
  bi (addK .i64 x13 (I .i64 1)) fun d6 =>
  rec x2 x3 x4 x7 x8 d6 H)) (
  k (.exit 4) (s_triunelaw08_MasterEnds_O2 x2 x3 x4 .any x7 x8) H)
noncomputable def s_triunelaw08_MasterEnds_L2 (n fl : Nat) (k : Ex → KF) : Nat → DV → DV → DV → DV → DV → DV → Heap → R
  | 0, _, _, _, _, _, _, _ => none
  | m + 1, x2, x3, x4, x7, x8, x13, H => s_triunelaw08_MasterEnds_B2 n fl (s_triunelaw08_MasterEnds_L2 n fl k m) k x2 x3 x4 x7 x8 x13 H
theorem s_triunelaw08_MasterEnds_S2 (n fl m : Nat) (k : Ex → KF) (x2 x3 x4 x7 x8 x13 : DV) (H : Heap) : loopG [2, 3, 4, 7, 8, 13] [2, 3, 4, 6, 7, 8] 219 (s_triunelaw08_MasterEnds_b2 n fl) (m + 1) (s_triunelaw08_MasterEnds_I2 x2 x3 x4 x7 x8 x13) H k = s_triunelaw08_MasterEnds_B2 n fl (fun x2 x3 x4 x7 x8 x13 H => loopG [2, 3, 4, 7, 8, 13] [2, 3, 4, 6, 7, 8] 219 (s_triunelaw08_MasterEnds_b2 n fl) m (s_triunelaw08_MasterEnds_I2 x2 x3 x4 x7 x8 x13) H k) k x2 x3 x4 x7 x8 x13 H := by kernel_rfl
theorem s_triunelaw08_MasterEnds_L2_eq (n fl : Nat) (k : Ex → KF) : ∀ (m : Nat) (x2 x3 x4 x7 x8 x13 : DV) (H : Heap), loopG [2, 3, 4, 7, 8, 13] [2, 3, 4, 6, 7, 8] 219 (s_triunelaw08_MasterEnds_b2 n fl) m (s_triunelaw08_MasterEnds_I2 x2 x3 x4 x7 x8 x13) H k = s_triunelaw08_MasterEnds_L2 n fl k m x2 x3 x4 x7 x8 x13 H := by
  intro m
  induction m with
  | zero => intros; rfl
  | succ m ih =>
    intro x2 x3 x4 x7 x8 x13 H
    rw [s_triunelaw08_MasterEnds_S2, show (fun x2 x3 x4 x7 x8 x13 H => loopG [2, 3, 4, 7, 8, 13] [2, 3, 4, 6, 7, 8] 219 (s_triunelaw08_MasterEnds_b2 n fl) m (s_triunelaw08_MasterEnds_I2 x2 x3 x4 x7 x8 x13) H k) = s_triunelaw08_MasterEnds_L2 n fl k m from by funext x2 x3 x4 x7 x8 x13 H; exact ih _ _ _ _ _ _ _]
    rw [s_triunelaw08_MasterEnds_L2]
def s_triunelaw08_MasterEnds_I1 (x2 x3 x4 x7 x8 x10 x12 : DV) : List DV := [.any, .any, x2, x3, x4, .any, .any, x7, x8, .any, x10, .any, x12, .any, .any, .any, .any, .any, .any, .any, .any, .any, .any, .any, .any, .any, .any, .any, .any, .any, .any, .any, .any, .any, .any, .any, .any, .any, .any, .any, .any, .any, .any, .any, .any, .any, .any, .any, .any, .any, .any, .any, .any, .any, .any, .any, .any, .any, .any, .any, .any, .any, .any, .any, .any, .any, .any, .any, .any, .any, .any, .any, .any, .any, .any, .any, .any, .any, .any, .any, .any, .any, .any, .any, .any, .any, .any, .any, .any, .any, .any, .any, .any, .any, .any, .any, .any, .any, .any, .any, .any, .any, .any, .any, .any, .any, .any, .any, .any, .any, .any, .any, .any, .any, .any, .any, .any, .any, .any, .any, .any, .any, .any, .any, .any, .any, .any, .any, .any, .any, .any, .any, .any, .any, .any, .any, .any, .any, .any, .any, .any, .any, .any, .any, .any, .any, .any, .any, .any, .any, .any, .any, .any, .any, .any, .any, .any, .any, .any, .any, .any, .any, .any, .any, .any, .any, .any, .any, .any, .any, .any, .any, .any, .any, .any, .any, .any, .any, .any, .any, .any, .any, .any, .any, .any, .any, .any, .any, .any, .any, .any, .any, .any, .any, .any, .any, .any, .any, .any, .any, .any, .any, .any, .any, .any, .any, .any, .any, .any, .any, .any, .any, .any, .any, .any, .any, .any, .any, .any]
def s_triunelaw08_MasterEnds_O1 (x2 x3 x4 x7 x8 : DV) : List DV := [.any, .any, x2, x3, x4, .any, .any, x7, x8, .any, .any, .any, .any, .any, .any, .any, .any, .any, .any, .any, .any, .any, .any, .any, .any, .any, .any, .any, .any, .any, .any, .any, .any, .any, .any, .any, .any, .any, .any, .any, .any, .any, .any, .any, .any, .any, .any, .any, .any, .any, .any, .any, .any, .any, .any, .any, .any, .any, .any, .any, .any, .any, .any, .any, .any, .any, .any, .any, .any, .any, .any, .any, .any, .any, .any, .any, .any, .any, .any, .any, .any, .any, .any, .any, .any, .any, .any, .any, .any, .any, .any, .any, .any, .any, .any, .any, .any, .any, .any, .any, .any, .any, .any, .any, .any, .any, .any, .any, .any, .any, .any, .any, .any, .any, .any, .any, .any, .any, .any, .any, .any, .any, .any, .any, .any, .any, .any, .any, .any, .any, .any, .any, .any, .any, .any, .any, .any, .any, .any, .any, .any, .any, .any, .any, .any, .any, .any, .any, .any, .any, .any, .any, .any, .any, .any, .any, .any, .any, .any, .any, .any, .any, .any, .any, .any, .any, .any, .any, .any, .any, .any, .any, .any, .any, .any, .any, .any, .any, .any, .any, .any, .any, .any, .any, .any, .any, .any, .any, .any, .any, .any, .any, .any, .any, .any, .any, .any, .any, .any, .any, .any, .any, .any, .any, .any, .any, .any, .any, .any, .any, .any, .any, .any, .any, .any, .any, .any, .any, .any]
noncomputable abbrev s_triunelaw08_MasterEnds_b1 (n fl : Nat) : List DV → Heap → (Ex → KF) → R := execG ⟨Try.prog, callG Try.prog ENV2 n, ENV2.md, fl, 219⟩ n (loopAt (bodyOf Try.f3) 1) []
noncomputable def s_triunelaw08_MasterEnds_B1 (n fl : Nat) (rec : DV → DV → DV → DV → DV → DV → DV → Heap → R) (k : Ex → KF) (x2 x3 x4 x7 x8 x10 x12 : DV) (H : Heap) : R :=
  bi (fieldD 5 1 x10) fun d0 =>
  bi (loadG false 1 d0 H) fun d1 =>
  bi (lenD d1) fun d2 =>
  bi (ltK .i64 x12 d2) fun d3 =>
  condR d3 (
  bi (fieldD 5 1 x10) fun d4 =>
  bi (loadG false 1 d4 H) fun d5 =>
  bi (fieldD 5 1 x10) fun d6 =>
  bi (loadG false 1 d6 H) fun d7 =>
  bi (idxSl 1 d7 x12) fun d8 =>
  bi (loadG false 1 d8 H) fun d9 =>
  bi (notD d9) fun d10 =>
  bi (idxSl 1 d5 x12) fun d11 =>
  bi (storeG 1 d11 d10 H fl) fun h12 =>
  bi (addK .i64 x12 (I .i64 1)) fun d13 =>
  rec x2 x3 x4 x7 x8 x10 d13 h12) (
  k (.exit 2) (s_triunelaw08_MasterEnds_O1 x2 x3 x4 x7 x8) H)
noncomputable def s_triunelaw08_MasterEnds_L1 (n fl : Nat) (k : Ex → KF) : Nat → DV → DV → DV → DV → DV → DV → DV → Heap → R
  | 0, _, _, _, _, _, _, _, _ => none
  | m + 1, x2, x3, x4, x7, x8, x10, x12, H => s_triunelaw08_MasterEnds_B1 n fl (s_triunelaw08_MasterEnds_L1 n fl k m) k x2 x3 x4 x7 x8 x10 x12 H
theorem s_triunelaw08_MasterEnds_S1 (n fl m : Nat) (k : Ex → KF) (x2 x3 x4 x7 x8 x10 x12 : DV) (H : Heap) : loopG [2, 3, 4, 7, 8, 10, 12] [2, 3, 4, 7, 8] 219 (s_triunelaw08_MasterEnds_b1 n fl) (m + 1) (s_triunelaw08_MasterEnds_I1 x2 x3 x4 x7 x8 x10 x12) H k = s_triunelaw08_MasterEnds_B1 n fl (fun x2 x3 x4 x7 x8 x10 x12 H => loopG [2, 3, 4, 7, 8, 10, 12] [2, 3, 4, 7, 8] 219 (s_triunelaw08_MasterEnds_b1 n fl) m (s_triunelaw08_MasterEnds_I1 x2 x3 x4 x7 x8 x10 x12) H k) k x2 x3 x4 x7 x8 x10 x12 H := by kernel_rfl
theorem s_triunelaw08_MasterEnds_L1_eq (n fl : Nat) (k : Ex → KF) : ∀ (m : Nat) (x2 x3 x4 x7 x8 x10 x12 : DV) (H : Heap), loopG [2, 3, 4, 7, 8, 10, 12] [2, 3, 4, 7, 8] 219 (s_triunelaw08_MasterEnds_b1 n fl) m (s_triunelaw08_MasterEnds_I1 x2 x3 x4 x7 x8 x10 x12) H k = s_triunelaw08_MasterEnds_L1 n fl k m x2 x3 x4 x7 x8 x10 x12 H := by
  intro m
  induction m with
  | zero => intros; rfl
  | succ m ih =>
    intro x2 x3 x4 x7 x8 x10 x12 H
    rw [s_triunelaw08_MasterEnds_S1, show (fun x2 x3 x4 x7 x8 x10 x12 H => loopG [2, 3, 4, 7, 8, 10, 12] [2, 3, 4, 7, 8] 219 (s_triunelaw08_MasterEnds_b1 n fl) m (s_triunelaw08_MasterEnds_I1 x2 x3 x4 x7 x8 x10 x12) H k) = s_triunelaw08_MasterEnds_L1 n fl k m from by funext x2 x3 x4 x7 x8 x10 x12 H; exact ih _ _ _ _ _ _ _ _]
    rw [s_triunelaw08_MasterEnds_L1]
def s_triunelaw08_MasterEnds_I0 (x2 x3 x4 x7 x8 x10 x11 : DV) : List DV := [.any, .any, x2, x3, x4, .any, .any, x7, x8, .any, x10, x11, .any, .any, .any, .any, .any, .any, .any, .any, .any, .any, .any, .any, .any, .any, .any, .any, .any, .any, .any, .any, .any, .any, .any, .any, .any, .any, .any, .any, .any, .any, .any, .any, .any, .any, .any, .any, .any, .any, .any, .any, .any, .any, .any, .any, .any, .any, .any, .any, .any, .any, .any, .any, .any, .any, .any, .any, .any, .any, .any, .any, .any, .any, .any, .any, .any, .any, .any, .any, .any, .any, .any, .any, .any, .any, .any, .any, .any, .any, .any, .any, .any, .any, .any, .any, .any, .any, .any, .any, .any, .any, .any, .any, .any, .any, .any, .any, .any, .any, .any, .any, .any, .any, .any, .any, .any, .any, .any, .any, .any, .any, .any, .any, .any, .any, .any, .any, .any, .any, .any, .any, .any, .any, .any, .any, .any, .any, .any, .any, .any, .any, .any, .any, .any, .any, .any, .any, .any, .any, .any, .any, .any, .any, .any, .any, .any, .any, .any, .any, .any, .any, .any, .any, .any, .any, .any, .any, .any, .any, .any, .any, .any, .any, .any, .any, .any, .any, .any, .any, .any, .any, .any, .any, .any, .any, .any, .any, .any, .any, .any, .any, .any, .any, .any, .any, .any, .any, .any, .any, .any, .any, .any, .any, .any, .any, .any, .any, .any, .any, .any, .any, .any, .any, .any, .any, .any, .any, .any]
def s_triunelaw08_MasterEnds_O0 (x2 x3 x4 x7 x8 x10 : DV) : List DV := [.any, .any, x2, x3, x4, .any, .any, x7, x8, .any, x10, .any, .any, .any, .any, .any, .any, .any, .any, .any, .any, .any, .any, .any, .any, .any, .any, .any, .any, .any, .any, .any, .any, .any, .any, .any, .any, .any, .any, .any, .any, .any, .any, .any, .any, .any, .any, .any, .any, .any, .any, .any, .any, .any, .any, .any, .any, .any, .any, .any, .any, .any, .any, .any, .any, .any, .any, .any, .any, .any, .any, .any, .any, .any, .any, .any, .any, .any, .any, .any, .any, .any, .any, .any, .any, .any, .any, .any, .any, .any, .any, .any, .any, .any, .any, .any, .any, .any, .any, .any, .any, .any, .any, .any, .any, .any, .any, .any, .any, .any, .any, .any, .any, .any, .any, .any, .any, .any, .any, .any, .any, .any, .any, .any, .any, .any, .any, .any, .any, .any, .any, .any, .any, .any, .any, .any, .any, .any, .any, .any, .any, .any, .any, .any, .any, .any, .any, .any, .any, .any, .any, .any, .any, .any, .any, .any, .any, .any, .any, .any, .any, .any, .any, .any, .any, .any, .any, .any, .any, .any, .any, .any, .any, .any, .any, .any, .any, .any, .any, .any, .any, .any, .any, .any, .any, .any, .any, .any, .any, .any, .any, .any, .any, .any, .any, .any, .any, .any, .any, .any, .any, .any, .any, .any, .any, .any, .any, .any, .any, .any, .any, .any, .any, .any, .any, .any, .any, .any, .any]
noncomputable abbrev s_triunelaw08_MasterEnds_b0 (n fl : Nat) : List DV → Heap → (Ex → KF) → R := execG ⟨Try.prog, callG Try.prog ENV2 n, ENV2.md, fl, 219⟩ n (loopAt (bodyOf Try.f3) 0) []
noncomputable def s_triunelaw08_MasterEnds_B0 (n fl : Nat) (rec : DV → DV → DV → DV → DV → DV → DV → Heap → R) (k : Ex → KF) (x2 x3 x4 x7 x8 x10 x11 : DV) (H : Heap) : R :=
  bi (fieldD 4 1 x10) fun d0 =>
  bi (loadG false 1 d0 H) fun d1 =>
  bi (lenD d1) fun d2 =>
  bi (ltK .i64 x11 d2) fun d3 =>
  condR d3 (
  bi (fieldD 4 1 x10) fun d4 =>
  bi (loadG false 1 d4 H) fun d5 =>
  bi (fieldD 4 1 x10) fun d6 =>
  bi (loadG false 1 d6 H) fun d7 =>
  bi (idxSl 1 d7 x11) fun d8 =>
  bi (loadG false 1 d8 H) fun d9 =>
  bi (addK .u16 d9 (I .u16 1)) fun d10 =>
  bi (idxSl 1 d5 x11) fun d11 =>
  bi (storeG 1 d11 d10 H fl) fun h12 =>
  bi (addK .i64 x11 (I .i64 1)) fun d13 =>
  rec x2 x3 x4 x7 x8 x10 d13 h12) (
  k (.exit 0) (s_triunelaw08_MasterEnds_O0 x2 x3 x4 x7 x8 x10) H)
noncomputable def s_triunelaw08_MasterEnds_L0 (n fl : Nat) (k : Ex → KF) : Nat → DV → DV → DV → DV → DV → DV → DV → Heap → R
  | 0, _, _, _, _, _, _, _, _ => none
  | m + 1, x2, x3, x4, x7, x8, x10, x11, H => s_triunelaw08_MasterEnds_B0 n fl (s_triunelaw08_MasterEnds_L0 n fl k m) k x2 x3 x4 x7 x8 x10 x11 H
theorem s_triunelaw08_MasterEnds_S0 (n fl m : Nat) (k : Ex → KF) (x2 x3 x4 x7 x8 x10 x11 : DV) (H : Heap) : loopG [2, 3, 4, 7, 8, 10, 11] [2, 3, 4, 7, 8, 10] 219 (s_triunelaw08_MasterEnds_b0 n fl) (m + 1) (s_triunelaw08_MasterEnds_I0 x2 x3 x4 x7 x8 x10 x11) H k = s_triunelaw08_MasterEnds_B0 n fl (fun x2 x3 x4 x7 x8 x10 x11 H => loopG [2, 3, 4, 7, 8, 10, 11] [2, 3, 4, 7, 8, 10] 219 (s_triunelaw08_MasterEnds_b0 n fl) m (s_triunelaw08_MasterEnds_I0 x2 x3 x4 x7 x8 x10 x11) H k) k x2 x3 x4 x7 x8 x10 x11 H := by kernel_rfl
theorem s_triunelaw08_MasterEnds_L0_eq (n fl : Nat) (k : Ex → KF) : ∀ (m : Nat) (x2 x3 x4 x7 x8 x10 x11 : DV) (H : Heap), loopG [2, 3, 4, 7, 8, 10, 11] [2, 3, 4, 7, 8, 10] 219 (s_triunelaw08_MasterEnds_b0 n fl) m (s_triunelaw08_MasterEnds_I0 x2 x3 x4 x7 x8 x10 x11) H k = s_triunelaw08_MasterEnds_L0 n fl k m x2 x3 x4 x7 x8 x10 x11 H := by
  intro m
  induction m with
  | zero => intros; rfl
  | succ m ih =>
    intro x2 x3 x4 x7 x8 x10 x11 H
    rw [s_triunelaw08_MasterEnds_S0, show (fun x2 x3 x4 x7 x8 x10 x11 H => loopG [2, 3, 4, 7, 8, 10, 11] [2, 3, 4, 7, 8, 10] 219 (s_triunelaw08_MasterEnds_b0 n fl) m (s_triunelaw08_MasterEnds_I0 x2 x3 x4 x7 x8 x10 x11) H k) = s_triunelaw08_MasterEnds_L0 n fl k m from by funext x2 x3 x4 x7 x8 x10 x11 H; exact ih _ _ _ _ _ _ _ _]
    rw [s_triunelaw08_MasterEnds_L0]
noncomputable def s_triunelaw08_MasterEnds (n : Nat) (H : Heap) (fl : Nat) (a0 a1 a2 : DV) : R :=
  bi (allocG 23 a0 (List.length H) (H ++ [.hole, .hole])) fun h0 =>
  bi (allocG 28 a1 (List.length H + 1) h0) fun h1 =>
  bi (cP2 n 5 false []) fun d2 =>
  bi (loadG true 4 (.ptr (List.length H) 0) h1) fun d3 =>
  bi (cK2 n 6 [d3] h1 fl) fun p4 =>
  bi (extD 0 p4.1) fun d5 =>
  bi (extD 1 p4.1) fun d6 =>
  bi (binD Try.prog .eql 31 (.tmp 31) (.const (.pointer none)) d5 (.flat (.pointer none))) fun d7 =>
  condR d7 (
   bi (wantF d2 true (some d6)) fun d8 =>
   bi (wantF d2 true (eqK .i64 d8 (I .i64 1))) fun d9 =>
   bi (pickD d2 d9 (Bo false)) fun d10 =>
   bi (wantF d10 true (loadG true 4 (.ptr (List.length H) 0) p4.2)) fun d11 =>
   bi (wantF d10 true (cP2 n 7 false [d11])) fun d12 =>
   bi (wantF d10 true (notD d12)) fun d13 =>
   bi (pickD d10 d13 (Bo false)) fun d14 =>
  some (d14, p4.2)) (
  bi (loadG true 8 (.ptr (List.length H + 1) 0) p4.2) fun d15 =>
  bi (cP2 n 8 false [d15]) fun d16 =>
  bi (wantF d16 false (some (.ptr (List.length H) 2))) fun d17 =>
  bi (wantF d16 false (loadG false 1 d17 p4.2)) fun d18 =>
  bi (wantF d16 false (gtK .i64 d18 (I .i64 60))) fun d19 =>
  bi (pickD d16 (Bo true) d19) fun d20 =>
  bi (wantF d20 false (some a2)) fun d21 =>
  bi (wantF d20 false (lenD d21)) fun d22 =>
  bi (wantF d20 false (gtK .i64 d22 (I .i64 200))) fun d23 =>
  bi (pickD d20 (Bo true) d23) fun d24 =>
  condR d24 (
  some (d2, p4.2)) (
  bi (loadG true 8 (.ptr (List.length H + 1) 0) (p4.2 ++ [.hole])) fun d25 =>
  bi (allocG 28 (.agg [(I .i64 0), (I .i64 0), (I .i64 0), (I .i64 0), (.list 0 [] .ti), (.list 0 [] .ti), (I .u16 0), (I .u16 0)]) (List.length p4.2) (p4.2 ++ [.hole])) fun h26 =>
  bi (storeG 8 (.ptr (List.length p4.2) 0) d25 h26 fl) fun h27 =>
  bi (buildL false 1 0 (I .u16 0) []) fun d28 =>
  bi (loadG false 1 (.ptr (List.length H + 1) 4) h27) fun d29 =>
  bi (appG 26 false 1 2 d28 d29 h27 fl) fun p30 =>
  bi (storeG 1 (.ptr (List.length p4.2) 4) p30.1 p30.2 fl) fun h31 =>
  bi (buildL false 1 0 (Bo false) []) fun d32 =>
  bi (loadG false 1 (.ptr (List.length H + 1) 5) h31) fun d33 =>
  bi (appG 4 false 1 1 d32 d33 h31 fl) fun p34 =>
  bi (storeG 1 (.ptr (List.length p4.2) 5) p34.1 p34.2 fl) fun h35 =>
  bi (loadG true 8 (.ptr (List.length p4.2) 0) h35) fun d36 =>
  bi (cW2 n 9 [d5, d36] h35 fl) fun p37 =>
  bi (neK .i64 p37.1 (I .i64 0)) fun d38 =>
  condR d38 (
  some (d2, p37.2)) (
  loopG [2, 3, 4, 7, 8, 10, 11] [2, 3, 4, 7, 8, 10] 219 (s_triunelaw08_MasterEnds_b0 n fl) n (s_triunelaw08_MasterEnds_I0 a2 (.ptr (List.length H) 0) (.ptr (List.length H + 1) 0) d2 d5 (.ptr (List.length p4.2) 0) (I .i64 0)) p37.2 fun x S39 h39 => match x with
  | .normal => none
  | .exit i39 => (
  if i39 = 0 then (
  loopG [2, 3, 4, 7, 8, 10, 12] [2, 3, 4, 7, 8] 219 (s_triunelaw08_MasterEnds_b1 n fl) n (s_triunelaw08_MasterEnds_I1 (S39.getD 2 .any) (S39.getD 3 .any) (S39.getD 4 .any) (S39.getD 7 .any) (S39.getD 8 .any) (S39.getD 10 .any) (I .i64 0)) h39 fun x S40 h40 => match x with
  | .normal => none
  | .exit i40 => (
  if i40 = 2 then (
  loopG [2, 3, 4, 7, 8, 13] [2, 3, 4, 6, 7, 8] 219 (s_triunelaw08_MasterEnds_b2 n fl) n (s_triunelaw08_MasterEnds_I2 (S40.getD 2 .any) (S40.getD 3 .any) (S40.getD 4 .any) (S40.getD 7 .any) (S40.getD 8 .any) (I .i64 0)) h40 fun x S41 h41 => match x with
  | .normal => none
  | .exit i41 => (
  if i41 = 4 then (
  bi (loadG true 8 (S41.getD 4 .any) h41) fun d42 =>
  bi (cP2 n 10 false [d42]) fun d43 =>
  bi (extD 0 d43) fun d44 =>
  bi (extD 1 d43) fun d45 =>
  bi (fieldD 0 1 (S41.getD 3 .any)) fun d46 =>
  bi (loadG false 1 d46 h41) fun d47 =>
  bi (buildS (.agg [(I .u8 0), (.list 0 [] .ti)]) [(0, 1), (1, 1)] [(0, d47), (1, d44)]) fun d48 =>
  bi (cP2 n 11 false [d48]) fun d49 =>
  bi (extD 0 d49) fun d50 =>
  bi (extD 1 d49) fun d51 =>
  loopG [2, 3, 4, 7, 8, 16, 18, 19] [6] 219 (s_triunelaw08_MasterEnds_b3 n fl) n (s_triunelaw08_MasterEnds_I3 (S41.getD 2 .any) (S41.getD 3 .any) (S41.getD 4 .any) (S41.getD 7 .any) (S41.getD 8 .any) d50 (I .i64 0) (I .i64 0)) h41 fun x S52 h52 => match x with
  | .normal => none
  | .exit i52 => (
  if i52 = 6 then (
  some ((Bo false), h52)) else (
  none))
  | .ret => (
  some ((S52.getD 6 .any), h52))) else (
  none))
  | .ret => (
  some ((S41.getD 6 .any), h41))) else (
  none))
  | .ret => (
  some (.any, h40))) else (
  none))
  | .ret => (
  some (.any, h39)))))
theorem s_triunelaw08_MasterEnds_eq (n : Nat) (H : Heap) (fl : Nat) (a0 a1 a2 : DV) : callG Try.prog ENV2 (n + 1) 3 [a0, a1, a2] H fl = s_triunelaw08_MasterEnds n H fl a0 a1 a2 := by kernel_rfl
end Go.Proofs.Ytcpgmbpndpcmdaa
namespace Go.Proofs.Ytcpgmbpndpcmdaa
open Go
set_option maxRecDepth 100000
set_option linter.unusedVariables false
noncomputable def s_master_within (n : Nat) (H : Heap) (fl : Nat) (a0 a1 : DV) : R :=
  bi (geK .i64 a0 (I .i64 1)) fun d0 =>
  bi (wantF d0 true (some a0)) fun d1 =>
  bi (wantF d0 true (some a1)) fun d2 =>
  bi (wantF d0 true (leK .i64 d1 d2)) fun d3 =>
  bi (pickD d0 d3 (Bo false)) fun d4 =>
  some (d4, H)
theorem s_master_within_eq (n : Nat) (H : Heap) (fl : Nat) (a0 a1 : DV) : callG Try.prog ENV2 (n + 1) 20 [a0, a1] H fl = s_master_within n H fl a0 a1 := by kernel_rfl
noncomputable def s_master_Right (n : Nat) (H : Heap) (fl : Nat) (a0 : DV) : R :=
  bi (allocG 23 a0 (List.length H) (H ++ [.hole])) fun h0 =>
  bi (loadG false 1 (.ptr (List.length H) 0) h0) fun d1 =>
  bi (geK .u8 d1 (I .u8 1)) fun d2 =>
  bi (wantF d2 true (some (.ptr (List.length H) 0))) fun d3 =>
  bi (wantF d2 true (loadG false 1 d3 h0)) fun d4 =>
  bi (wantF d2 true (leK .u8 d4 (I .u8 247))) fun d5 =>
  bi (pickD d2 d5 (Bo false)) fun d6 =>
  bi (wantF d6 true (some (.ptr (List.length H) 1))) fun d7 =>
  bi (wantF d6 true (loadG false 1 d7 h0)) fun d8 =>
  bi (wantF d6 true (cP2 n 20 false [d8, (I .i64 20)])) fun d9 =>
  bi (pickD d6 d9 (Bo false)) fun d10 =>
  bi (wantF d10 true (some (.ptr (List.length H) 2))) fun d11 =>
  bi (wantF d10 true (loadG false 1 d11 h0)) fun d12 =>
  bi (wantF d10 true (cP2 n 20 false [d12, (I .i64 1000)])) fun d13 =>
  bi (pickD d10 d13 (Bo false)) fun d14 =>
  bi (wantF d14 true (some (.ptr (List.length H) 3))) fun d15 =>
  bi (wantF d14 true (loadG false 1 d15 h0)) fun d16 =>
  bi (wantF d14 true (cP2 n 20 false [d16, (I .i64 5)])) fun d17 =>
  bi (pickD d14 d17 (Bo false)) fun d18 =>
  some (d18, h0)
theorem s_master_Right_eq (n : Nat) (H : Heap) (fl : Nat) (a0 : DV) : callG Try.prog ENV2 (n + 1) 7 [a0] H fl = s_master_Right n H fl a0 := by kernel_rfl
noncomputable def s_master_New (n : Nat) (H : Heap) (fl : Nat) (a0 : DV) : R :=
  bi (allocG 23 a0 (List.length H) (H ++ [.hole])) fun h0 =>
  bi (loadG true 4 (.ptr (List.length H) 0) h0) fun d1 =>
  bi (cP2 n 7 false [d1]) fun d2 =>
  bi (notD d2) fun d3 =>
  condR d3 (
  some ((.tup [(.flat (.pointer none)), (I .i64 1)]), h0)) (
  bi (loadG true 4 (.ptr (List.length H) 0) (h0 ++ [.hole])) fun d4 =>
  bi (loadG false 1 (.ptr (List.length H) 1) (h0 ++ [.hole])) fun d5 =>
  bi (buildS (.agg [(I .u8 0), (I .i64 0), (I .i64 0), (I .i64 0), (I .i64 0), (I .i64 0), (I .i64 0), (I .i64 0), (I .i64 0), (I .i64 0), (I .i64 0), (I .i64 0), (.list 0 [] .ti), (.list 0 [] .ti), (I .u16 0), (I .u16 0), (.list 0 [] .ti)]) [(0, 4), (4, 1), (5, 1), (6, 1), (7, 1), (8, 8), (16, 1)] [(0, d4), (2, d5)]) fun d6 =>
  bi (allocG 62 d6 (List.length h0) (h0 ++ [.hole])) fun h7 =>
  some ((.tup [(.ptr (List.length h0) 0), (I .i64 0)]), h7))
theorem s_master_New_eq (n : Nat) (H : Heap) (fl : Nat) (a0 : DV) : callG Try.prog ENV2 (n + 1) 6 [a0] H fl = s_master_New n H fl a0 := by kernel_rfl
noncomputable def s___master_Master__Busy (n : Nat) (H : Heap) (fl : Nat) (a0 : DV) : R :=
  bi (nilD a0) fun d0 =>
  bi (fieldD 4 1 d0) fun d1 =>
  bi (loadG false 1 d1 H) fun d2 =>
  bi (neK .i64 d2 (I .i64 0)) fun d3 =>
  some (d3, H)
theorem s___master_Master__Busy_eq (n : Nat) (H : Heap) (fl : Nat) (a0 : DV) : callG Try.prog ENV2 (n + 1) 15 [a0] H fl = s___master_Master__Busy n H fl a0 := by kernel_rfl
noncomputable def s___master_Master__turn (n : Nat) (H : Heap) (fl : Nat) (a0 a1 : DV) : R :=
  bi (nilD a0) fun d0 =>
  bi (fieldD 4 1 d0) fun d1 =>
  bi (storeG 1 d1 a1 H fl) fun h2 =>
  bi (nilD a0) fun d3 =>
  bi (fieldD 6 1 d3) fun d4 =>
  bi (storeG 1 d4 (I .i64 0) h2 fl) fun h5 =>
  bi (nilD a0) fun d6 =>
  bi (fieldD 16 1 d6) fun d7 =>
  bi (storeG 1 d7 (.list 0 [] .ti) h5 fl) fun h8 =>
  some ((.tup []), h8)
theorem s___master_Master__turn_eq (n : Nat) (H : Heap) (fl : Nat) (a0 a1 : DV) : callG Try.prog ENV2 (n + 1) 24 [a0, a1] H fl = s___master_Master__turn n H fl a0 a1 := by kernel_rfl
noncomputable def s___master_Master__Take (n : Nat) (H : Heap) (fl : Nat) (a0 a1 : DV) : R :=
  bi (lenD a1) fun d0 =>
  bi (eqK .i64 d0 (I .i64 0)) fun d1 =>
  condR d1 (
  some ((.tup []), H)) (
  bi (nilD a0) fun d2 =>
  bi (fieldD 5 1 d2) fun d3 =>
  bi (storeG 1 d3 (I .i64 0) H fl) fun h4 =>
  bi (nilD a0) fun d5 =>
  bi (fieldD 4 1 d5) fun d6 =>
  bi (loadG false 1 d6 h4) fun d7 =>
  bi (eqK .i64 d7 (I .i64 2)) fun d8 =>
  condR d8 (
   bi (nilD a0) fun d9 =>
   bi (fieldD 16 1 d9) fun d10 =>
   bi (loadG false 1 d10 h4) fun d11 =>
   bi (lenD a1) fun d12 =>
   bi (nilD a0) fun d13 =>
   bi (fieldD 16 1 d13) fun d14 =>
   bi (loadG false 1 d14 h4) fun d15 =>
   bi (lenD d15) fun d16 =>
   bi (subK .i64 (I .i64 300) d16) fun d17 =>
   bi (minI d12 d17) fun d18 =>
   bi (slX 1 a1 none (some d18) none) fun d19 =>
   bi (appG 5 false 1 1 d11 d19 h4 fl) fun p20 =>
   bi (nilD a0) fun d21 =>
   bi (fieldD 16 1 d21) fun d22 =>
   bi (storeG 1 d22 p20.1 p20.2 fl) fun h23 =>
  some ((.tup []), h23)) (
  some ((.tup []), h4)))
theorem s___master_Master__Take_eq (n : Nat) (H : Heap) (fl : Nat) (a0 a1 : DV) : callG Try.prog ENV2 (n + 1) 12 [a0, a1] H fl = s___master_Master__Take n H fl a0 a1 := by kernel_rfl
noncomputable def s___master_Master__failed (n : Nat) (H : Heap) (fl : Nat) (a0 a1 : DV) : R :=
  bi (allocG 50 (.agg [(I .i64 0), (I .i64 0), (.list 0 [] .ti), (.list 0 [] .ti), (.list 0 [] .ti)]) (List.length H) (H ++ [.hole])) fun h0 =>
  bi (nilD a0) fun d1 =>
  bi (fieldD 7 1 d1) fun d2 =>
  bi (loadG false 1 d2 h0) fun d3 =>
  bi (nilD a0) fun d4 =>
  bi (fieldD 0 4 d4) fun d5 =>
  bi (fieldD 3 1 d5) fun d6 =>
  bi (loadG false 1 d6 h0) fun d7 =>
  bi (ltK .i64 d3 d7) fun d8 =>
  condR d8 (
   bi (cW2 n 24 [a0, (I .i64 1)] h0 fl) fun p9 =>
   bi (buildS (.agg [(I .i64 0), (I .i64 0), (.list 0 [] .ti), (.list 0 [] .ti), (.list 0 [] .ti)]) [(0, 1), (1, 4)] []) fun d10 =>
   bi (storeG 5 (.ptr (List.length H) 0) d10 p9.2 fl) fun h11 =>
  bi (cellR true 5 (.ptr (List.length H) 0) h11) fun r0 =>
  some (r0, h11)) (
  bi (cW2 n 24 [a0, (I .i64 0)] h0 fl) fun p12 =>
  bi (buildS (.agg [(I .i64 0), (I .i64 0), (.list 0 [] .ti), (.list 0 [] .ti), (.list 0 [] .ti)]) [(0, 1), (1, 4)] [(0, a1)]) fun d13 =>
  bi (storeG 5 (.ptr (List.length H) 0) d13 p12.2 fl) fun h14 =>
  bi (cellR true 5 (.ptr (List.length H) 0) h14) fun r0 =>
  some (r0, h14))
theorem s___master_Master__failed_eq (n : Nat) (H : Heap) (fl : Nat) (a0 a1 : DV) : callG Try.prog ENV2 (n + 1) 51 [a0, a1] H fl = s___master_Master__failed n H fl a0 a1 := by kernel_rfl
noncomputable def s___master_Master__rest (n : Nat) (H : Heap) (fl : Nat) (a0 : DV) : R :=
  bi (allocG 50 (.agg [(I .i64 0), (I .i64 0), (.list 0 [] .ti), (.list 0 [] .ti), (.list 0 [] .ti)]) (List.length H) (H ++ [.hole])) fun h0 =>
  bi (buildS (.agg [(I .i64 0), (I .i64 0), (.list 0 [] .ti), (.list 0 [] .ti), (.list 0 [] .ti)]) [(0, 1), (1, 4)] []) fun d1 =>
  bi (storeG 5 (.ptr (List.length H) 0) d1 h0 fl) fun h2 =>
  bi (cellR true 5 (.ptr (List.length H) 0) h2) fun r1 =>
  some ((.tup [(.list 0 [] .ti), r1]), h2)
theorem s___master_Master__rest_eq (n : Nat) (H : Heap) (fl : Nat) (a0 : DV) : callG Try.prog ENV2 (n + 1) 29 [a0] H fl = s___master_Master__rest n H fl a0 := by kernel_rfl
noncomputable def s___master_Master__send (n : Nat) (H : Heap) (fl : Nat) (a0 : DV) : R :=
  bi (allocG 50 (.agg [(I .i64 0), (I .i64 0), (.list 0 [] .ti), (.list 0 [] .ti), (.list 0 [] .ti)]) (List.length H) (H ++ [.hole])) fun h0 =>
  bi (nilD a0) fun d1 =>
  bi (fieldD 5 1 d1) fun d2 =>
  bi (loadG false 1 d2 h0) fun d3 =>
  bi (nilD a0) fun d4 =>
  bi (fieldD 0 4 d4) fun d5 =>
  bi (fieldD 1 1 d5) fun d6 =>
  bi (loadG false 1 d6 h0) fun d7 =>
  bi (ltK .i64 d3 d7) fun d8 =>
  bi (wantF d8 true (some a0)) fun d9 =>
  bi (wantF d8 true (nilD d9)) fun d10 =>
  bi (wantF d8 true (fieldD 6 1 d10)) fun d11 =>
  bi (wantF d8 true (loadG false 1 d11 h0)) fun d12 =>
  bi (wantF d8 true (some a0)) fun d13 =>
  bi (wantF d8 true (nilD d13)) fun d14 =>
  bi (wantF d8 true (fieldD 0 4 d14)) fun d15 =>
  bi (wantF d8 true (fieldD 2 1 d15)) fun d16 =>
  bi (wantF d8 true (loadG false 1 d16 h0)) fun d17 =>
  bi (wantF d8 true (ltK .i64 d12 d17)) fun d18 =>
  bi (pickD d8 d18 (Bo false)) fun d19 =>
  condR d19 (
   bi (cO2 n 29 [a0] h0) fun d20 =>
   bi (extD 0 d20) fun d21 =>
   bi (extD 1 d20) fun d22 =>
   bi (storeG 5 (.ptr (List.length H) 0) d22 h0 fl) fun h23 =>
  bi (cellR true 5 (.ptr (List.length H) 0) h23) fun r1 =>
  some ((.tup [d21, r1]), h23)) (
  bi (nilD a0) fun d24 =>
  bi (fieldD 8 8 d24) fun d25 =>
  bi (loadG true 8 d25 h0) fun d26 =>
  bi (cP2 n 10 false [d26]) fun d27 =>
  bi (extD 0 d27) fun d28 =>
  bi (extD 1 d27) fun d29 =>
  bi (nilD a0) fun d30 =>
  bi (fieldD 0 4 d30) fun d31 =>
  bi (fieldD 0 1 d31) fun d32 =>
  bi (loadG false 1 d32 h0) fun d33 =>
  bi (buildS (.agg [(I .u8 0), (.list 0 [] .ti)]) [(0, 1), (1, 1)] [(0, d33), (1, d28)]) fun d34 =>
  bi (cP2 n 11 false [d34]) fun d35 =>
  bi (extD 0 d35) fun d36 =>
  bi (extD 1 d35) fun d37 =>
  bi (cW2 n 24 [a0, (I .i64 2)] h0 fl) fun p38 =>
  bi (nilD a0) fun d39 =>
  bi (fieldD 5 1 d39) fun d40 =>
  bi (storeG 1 d40 (I .i64 0) p38.2 fl) fun h41 =>
  bi (nilD a0) fun d42 =>
  bi (fieldD 7 1 d42) fun d43 =>
  bi (loadG false 1 d43 h41) fun d44 =>
  bi (addK .i64 d44 (I .i64 1)) fun d45 =>
  bi (nilD a0) fun d46 =>
  bi (fieldD 7 1 d46) fun d47 =>
  bi (storeG 1 d47 d45 h41 fl) fun h48 =>
  bi (buildS (.agg [(I .i64 0), (I .i64 0), (.list 0 [] .ti), (.list 0 [] .ti), (.list 0 [] .ti)]) [(0, 1), (1, 4)] []) fun d49 =>
  bi (storeG 5 (.ptr (List.length H) 0) d49 h48 fl) fun h50 =>
  bi (cellR true 5 (.ptr (List.length H) 0) h50) fun r1 =>
  some ((.tup [d36, r1]), h50))
theorem s___master_Master__send_eq (n : Nat) (H : Heap) (fl : Nat) (a0 : DV) : callG Try.prog ENV2 (n + 1) 30 [a0] H fl = s___master_Master__send n H fl a0 := by kernel_rfl
noncomputable def s___master_Master__told (n : Nat) (H : Heap) (fl : Nat) (a0 : DV) : R :=
  bi (allocG 48 (.agg [(I .i64 0), (.list 0 [] .ti), (.list 0 [] .ti), (.list 0 [] .ti)]) (List.length H) (H ++ [.hole])) fun h0 =>
  bi (nilD a0) fun d1 =>
  bi (fieldD 16 1 d1) fun d2 =>
  bi (loadG false 1 d2 (h0 ++ [.hole])) fun d3 =>
  bi (cP2 n 74 false [d3]) fun d4 =>
  bi (extD 0 d4) fun d5 =>
  bi (extD 1 d4) fun d6 =>
  bi (allocG 44 (.agg [(I .u8 0), (.list 0 [] .ti)]) (List.length h0) (h0 ++ [.hole])) fun h7 =>
  bi (storeG 2 (.ptr (List.length h0) 0) d5 h7 fl) fun h8 =>
  bi (neK .i64 d6 (I .i64 0)) fun d9 =>
  bi (wantF d9 false (some (.ptr (List.length h0) 0))) fun d10 =>
  bi (wantF d9 false (loadG false 1 d10 h8)) fun d11 =>
  bi (wantF d9 false (some a0)) fun d12 =>
  bi (wantF d9 false (nilD d12)) fun d13 =>
  bi (wantF d9 false (fieldD 0 4 d13)) fun d14 =>
  bi (wantF d9 false (fieldD 0 1 d14)) fun d15 =>
  bi (wantF d9 false (loadG false 1 d15 h8)) fun d16 =>
  bi (wantF d9 false (neK .u8 d11 d16)) fun d17 =>
  bi (pickD d9 (Bo true) d17) fun d18 =>
  condR d18 (
   bi (buildS (.agg [(I .i64 0), (.list 0 [] .ti), (.list 0 [] .ti), (.list 0 [] .ti)]) [(0, 1), (1, 1), (2, 1), (3, 1)] []) fun d19 =>
   bi (storeG 4 (.ptr (List.length H) 0) d19 h8 fl) fun h20 =>
  bi (cellR true 4 (.ptr (List.length H) 0) h20) fun r0 =>
  some ((.tup [r0, (Bo false)]), h20)) (
  bi (nilD a0) fun d21 =>
  bi (fieldD 8 8 d21) fun d22 =>
  bi (loadG true 8 d22 (h8 ++ [.hole])) fun d23 =>
  bi (loadG false 1 (.ptr (List.length h0) 1) (h8 ++ [.hole])) fun d24 =>
  bi (cP2 n 75 false [d23, d24]) fun d25 =>
  bi (extD 0 d25) fun d26 =>
  bi (extD 1 d25) fun d27 =>
  bi (allocG 48 (.agg [(I .i64 0), (.list 0 [] .ti), (.list 0 [] .ti), (.list 0 [] .ti)]) (List.length h8) (h8 ++ [.hole])) fun h28 =>
  bi (storeG 4 (.ptr (List.length h8) 0) d26 h28 fl) fun h29 =>
  bi (loadG true 4 (.ptr (List.length h8) 0) h29) fun d30 =>
  bi (eqK .i64 d27 (I .i64 0)) fun d31 =>
  bi (storeG 4 (.ptr (List.length H) 0) d30 h29 fl) fun h32 =>
  bi (cellR true 4 (.ptr (List.length H) 0) h32) fun r0 =>
  some ((.tup [r0, d31]), h32))
theorem s___master_Master__told_eq (n : Nat) (H : Heap) (fl : Nat) (a0 : DV) : callG Try.prog ENV2 (n + 1) 50 [a0] H fl = s___master_Master__told n H fl a0 := by kernel_rfl
noncomputable def s___master_Master__wait (n : Nat) (H : Heap) (fl : Nat) (a0 : DV) : R :=
  bi (allocG 50 (.agg [(I .i64 0), (I .i64 0), (.list 0 [] .ti), (.list 0 [] .ti), (.list 0 [] .ti)]) (List.length H) (H ++ [.hole])) fun h0 =>
  bi (nilD a0) fun d1 =>
  bi (fieldD 16 1 d1) fun d2 =>
  bi (loadG false 1 d2 h0) fun d3 =>
  bi (lenD d3) fun d4 =>
  bi (gtK .i64 d4 (I .i64 0)) fun d5 =>
  bi (wantF d5 true (some a0)) fun d6 =>
  bi (wantF d5 true (nilD d6)) fun d7 =>
  bi (wantF d5 true (fieldD 5 1 d7)) fun d8 =>
  bi (wantF d5 true (loadG false 1 d8 h0)) fun d9 =>
  bi (wantF d5 true (some a0)) fun d10 =>
  bi (wantF d5 true (nilD d10)) fun d11 =>
  bi (wantF d5 true (fieldD 0 4 d11)) fun d12 =>
  bi (wantF d5 true (fieldD 1 1 d12)) fun d13 =>
  bi (wantF d5 true (loadG false 1 d13 h0)) fun d14 =>
  bi (wantF d5 true (geK .i64 d9 d14)) fun d15 =>
  bi (pickD d5 d15 (Bo false)) fun d16 =>
  condR d16 (
   bi (cO2 n 50 [a0] (h0 ++ [.hole])) fun d17 =>
   bi (extD 0 d17) fun d18 =>
   bi (extD 1 d17) fun d19 =>
   bi (allocG 48 (.agg [(I .i64 0), (.list 0 [] .ti), (.list 0 [] .ti), (.list 0 [] .ti)]) (List.length h0) (h0 ++ [.hole])) fun h20 =>
   bi (storeG 4 (.ptr (List.length h0) 0) d18 h20 fl) fun h21 =>
   bi (notD d19) fun d22 =>
   condR d22 (
    bi (cW2 n 51 [a0, (I .i64 3)] h21 fl) fun p23 =>
    bi (storeG 5 (.ptr (List.length H) 0) p23.1 p23.2 fl) fun h24 =>
  bi (cellR true 5 (.ptr (List.length H) 0) h24) fun r1 =>
  some ((.tup [(.list 0 [] .ti), r1]), h24)) (
   bi (cW2 n 24 [a0, (I .i64 0)] h21 fl) fun p25 =>
   bi (loadG true 4 (.ptr (List.length h0) 0) p25.2) fun d26 =>
   bi (buildS (.agg [(I .i64 0), (I .i64 0), (.list 0 [] .ti), (.list 0 [] .ti), (.list 0 [] .ti)]) [(0, 1), (1, 4)] [(0, (I .i64 1)), (1, d26)]) fun d27 =>
   bi (storeG 5 (.ptr (List.length H) 0) d27 p25.2 fl) fun h28 =>
  bi (cellR true 5 (.ptr (List.length H) 0) h28) fun r1 =>
  some ((.tup [(.list 0 [] .ti), r1]), h28))) (
   bi (wantF d5 true (some a0)) fun d29 =>
   bi (wantF d5 true (nilD d29)) fun d30 =>
   bi (wantF d5 true (fieldD 6 1 d30)) fun d31 =>
   bi (wantF d5 true (loadG false 1 d31 h0)) fun d32 =>
   bi (wantF d5 true (some a0)) fun d33 =>
   bi (wantF d5 true (nilD d33)) fun d34 =>
   bi (wantF d5 true (fieldD 0 4 d34)) fun d35 =>
   bi (wantF d5 true (fieldD 2 1 d35)) fun d36 =>
   bi (wantF d5 true (loadG false 1 d36 h0)) fun d37 =>
   bi (wantF d5 true (mulK .i64 (I .i64 2) d37)) fun d38 =>
   bi (wantF d5 true (geK .i64 d32 d38)) fun d39 =>
   bi (pickD d5 d39 (Bo false)) fun d40 =>
   condR d40 (
    bi (cW2 n 51 [a0, (I .i64 3)] h0 fl) fun p41 =>
    bi (storeG 5 (.ptr (List.length H) 0) p41.1 p41.2 fl) fun h42 =>
  bi (cellR true 5 (.ptr (List.length H) 0) h42) fun r1 =>
  some ((.tup [(.list 0 [] .ti), r1]), h42)) (
    bi (notD d5) fun d43 =>
    bi (wantF d43 true (some a0)) fun d44 =>
    bi (wantF d43 true (nilD d44)) fun d45 =>
    bi (wantF d43 true (fieldD 6 1 d45)) fun d46 =>
    bi (wantF d43 true (loadG false 1 d46 h0)) fun d47 =>
    bi (wantF d43 true (some a0)) fun d48 =>
    bi (wantF d43 true (nilD d48)) fun d49 =>
    bi (wantF d43 true (fieldD 0 4 d49)) fun d50 =>
    bi (wantF d43 true (fieldD 2 1 d50)) fun d51 =>
    bi (wantF d43 true (loadG false 1 d51 h0)) fun d52 =>
    bi (wantF d43 true (geK .i64 d47 d52)) fun d53 =>
    bi (pickD d43 d53 (Bo false)) fun d54 =>
    condR d54 (
     bi (cW2 n 51 [a0, (I .i64 2)] h0 fl) fun p55 =>
     bi (storeG 5 (.ptr (List.length H) 0) p55.1 p55.2 fl) fun h56 =>
  bi (cellR true 5 (.ptr (List.length H) 0) h56) fun r1 =>
  some ((.tup [(.list 0 [] .ti), r1]), h56)) (
  bi (cO2 n 29 [a0] h0) fun d57 =>
  bi (extD 0 d57) fun d58 =>
  bi (extD 1 d57) fun d59 =>
  bi (storeG 5 (.ptr (List.length H) 0) d59 h0 fl) fun h60 =>
  bi (cellR true 5 (.ptr (List.length H) 0) h60) fun r1 =>
  some ((.tup [d58, r1]), h60))))
theorem s___master_Master__wait_eq (n : Nat) (H : Heap) (fl : Nat) (a0 : DV) : callG Try.prog ENV2 (n + 1) 31 [a0] H fl = s___master_Master__wait n H fl a0 := by kernel_rfl
noncomputable def s___master_Master__Tick (n : Nat) (H : Heap) (fl : Nat) (a0 : DV) : R :=
  bi (allocG 50 (.agg [(I .i64 0), (I .i64 0), (.list 0 [] .ti), (.list 0 [] .ti), (.list 0 [] .ti)]) (List.length H) (H ++ [.hole])) fun h0 =>
  bi (nilD a0) fun d1 =>
  bi (fieldD 5 1 d1) fun d2 =>
  bi (loadG false 1 d2 h0) fun d3 =>
  bi (addK .i64 d3 (I .i64 1)) fun d4 =>
  bi (minI d4 (I .i64 1048576)) fun d5 =>
  bi (nilD a0) fun d6 =>
  bi (fieldD 5 1 d6) fun d7 =>
  bi (storeG 1 d7 d5 h0 fl) fun h8 =>
  bi (nilD a0) fun d9 =>
  bi (fieldD 6 1 d9) fun d10 =>
  bi (loadG false 1 d10 h8) fun d11 =>
  bi (addK .i64 d11 (I .i64 1)) fun d12 =>
  bi (nilD a0) fun d13 =>
  bi (fieldD 6 1 d13) fun d14 =>
  bi (storeG 1 d14 d12 h8 fl) fun h15 =>
  bi (buildA (.agg [(.flat .nilFunc), (.flat .nilFunc), (.flat .nilFunc)]) 1 [(0, (.clo (.func 29) [a0] [])), (1, (.clo (.func 30) [a0] [])), (2, (.clo (.func 31) [a0] []))]) fun d16 =>
  bi (nilD a0) fun d17 =>
  bi (fieldD 4 1 d17) fun d18 =>
  bi (loadG false 1 d18 h15) fun d19 =>
  bi (idxV false 1 3 d16 d19) fun d20 =>
  bi (cV2 n fl d20 [] h15) fun p21 =>
  bi (extD 0 p21.1) fun d22 =>
  bi (extD 1 p21.1) fun d23 =>
  bi (storeG 5 (.ptr (List.length H) 0) d23 p21.2 fl) fun h24 =>
  bi (cellR true 5 (.ptr (List.length H) 0) h24) fun r1 =>
  some ((.tup [d22, r1]), h24)
theorem s___master_Master__Tick_eq (n : Nat) (H : Heap) (fl : Nat) (a0 : DV) : callG Try.prog ENV2 (n + 1) 13 [a0] H fl = s___master_Master__Tick n H fl a0 := by kernel_rfl
end Go.Proofs.Ytcpgmbpndpcmdaa
namespace Go.Proofs.Ytcpgmbpndpcmdaa
open Go
set_option maxRecDepth 100000
set_option linter.unusedVariables false
noncomputable def s_rtu_within (n : Nat) (H : Heap) (fl : Nat) (a0 a1 a2 : DV) : R :=
  bi (ltK .i64 a0 a1) fun d0 =>
  condR d0 (
   bi (buildS (.agg [(I .i64 0), (.flat .nilIface)]) [(0, 1), (1, 1)] [(0, a0), (1, (.iface 32 (I .i64 3)))]) fun d1 =>
  some ((.iface 95 d1), H)) (
   bi (gtK .i64 a0 a2) fun d2 =>
   condR d2 (
    bi (buildS (.agg [(I .i64 0), (.flat .nilIface)]) [(0, 1), (1, 1)] [(0, a0), (1, (.iface 32 (I .i64 4)))]) fun d3 =>
  some ((.iface 95 d3), H)) (
  some ((.flat .nilIface), H)))
theorem s_rtu_within_eq (n : Nat) (H : Heap) (fl : Nat) (a0 a1 a2 : DV) : callG Try.prog ENV (n + 1) 26 [a0, a1, a2] H fl = s_rtu_within n H fl a0 a1 a2 := by kernel_rfl
def s_rtu_told_I0 (x0 x7 x8 x9 : DV) : List DV := [x0, .any, .any, .any, .any, .any, .any, x7, x8, x9, .any, .any, .any, .any, .any, .any, .any, .any, .any]
def s_rtu_told_O0 (x4 : DV) : List DV := [.any, .any, .any, .any, x4, .any, .any, .any, .any, .any, .any, .any, .any, .any, .any, .any, .any, .any, .any]
noncomputable abbrev s_rtu_told_b0 (n fl : Nat) : List DV → Heap → (Ex → KF) → R := execG ⟨Try.prog, callG Try.prog ENV n, ENV.md, fl, 19⟩ n (loopAt (bodyOf Try.f27) 0) []
noncomputable def s_rtu_told_B0 (n fl : Nat) (rec : DV → DV → DV → DV → Heap → R) (k : Ex → KF) (x0 x7 x8 x9 : DV) (H : Heap) : R :=
  bi (ltK .i64 x9 x8) fun d0 =>
  condR d0 (
  bi (idxSl 1 x7 x9) fun d1 =>
  bi (loadG false 1 d1 H) fun d2 =>
  bi (cO n 48 [x0, (.iface 32 d2)] H) fun d3 =>
  condR d3 (
  k .ret (s_rtu_told_O0 d2) H) (
  bi (addK .i64 x9 (I .i64 1)) fun d4 =>
  rec x0 x7 x8 d4 H)) (
  k (.exit 0) (s_rtu_told_O0 .any) H)
noncomputable def s_rtu_told_L0 (n fl : Nat) (k : Ex → KF) : Nat → DV → DV → DV → DV → Heap → R
  | 0, _, _, _, _, _ => none
  | m + 1, x0, x7, x8, x9, H => s_rtu_told_B0 n fl (s_rtu_told_L0 n fl k m) k x0 x7 x8 x9 H
theorem s_rtu_told_S0 (n fl m : Nat) (k : Ex → KF) (x0 x7 x8 x9 : DV) (H : Heap) : loopG [0, 7, 8, 9] [4] 19 (s_rtu_told_b0 n fl) (m + 1) (s_rtu_told_I0 x0 x7 x8 x9) H k = s_rtu_told_B0 n fl (fun x0 x7 x8 x9 H => loopG [0, 7, 8, 9] [4] 19 (s_rtu_told_b0 n fl) m (s_rtu_told_I0 x0 x7 x8 x9) H k) k x0 x7 x8 x9 H := by kernel_rfl
theorem s_rtu_told_L0_eq (n fl : Nat) (k : Ex → KF) : ∀ (m : Nat) (x0 x7 x8 x9 : DV) (H : Heap), loopG [0, 7, 8, 9] [4] 19 (s_rtu_told_b0 n fl) m (s_rtu_told_I0 x0 x7 x8 x9) H k = s_rtu_told_L0 n fl k m x0 x7 x8 x9 H := by
  intro m
  induction m with
  | zero => intros; rfl
  | succ m ih =>
    intro x0 x7 x8 x9 H
    rw [s_rtu_told_S0, show (fun x0 x7 x8 x9 H => loopG [0, 7, 8, 9] [4] 19 (s_rtu_told_b0 n fl) m (s_rtu_told_I0 x0 x7 x8 x9) H k) = s_rtu_told_L0 n fl k m from by funext x0 x7 x8 x9 H; exact ih _ _ _ _ _]
    rw [s_rtu_told_L0]
noncomputable def s_rtu_told (n : Nat) (H : Heap) (fl : Nat) (a0 a1 : DV) : R :=
  bi (lenD a1) fun d0 =>
  loopG [0, 7, 8, 9] [4] 19 (s_rtu_told_b0 n fl) n (s_rtu_told_I0 a0 a1 d0 (I .i64 0)) H fun x S1 h1 => match x with
  | .normal => none
  | .exit i1 => (
  if i1 = 0 then (
  some ((I .i64 0), h1)) else (
  none))
  | .ret => (
  some ((S1.getD 4 .any), h1))
theorem s_rtu_told_eq (n : Nat) (H : Heap) (fl : Nat) (a0 a1 : DV) : callG Try.prog ENV (n + 1) 27 [a0, a1] H fl = s_rtu_told n H fl a0 a1 := by kernel_rfl
noncomputable def s_rtu_Bytes (n : Nat) (H : Heap) (fl : Nat) (a0 : DV) : R :=
  bi (allocG 44 a0 (List.length H) (H ++ [.hole])) fun h0 =>
  bi (loadG false 1 (.ptr (List.length H) 1) h0) fun d1 =>
  bi (lenD d1) fun d2 =>
  bi (cO n 26 [d2, (I .i64 1), (I .i64 253)] h0) fun d3 =>
  bi (binD Try.prog .neq 70 (.tmp 9) (.const .nilIface) d3 (.flat .nilIface)) fun d4 =>
  condR d4 (
   bi (buildL false 1 2 (I .i64 0) [(0, (I .i64 3)), (1, (I .i64 4))]) fun d5 =>
   bi (cO n 27 [d3, d5] h0) fun d6 =>
  some ((.tup [(.list 0 [] .ti), d6]), h0)) (
  bi (loadG false 1 (.ptr (List.length H) 0) h0) fun d7 =>
  bi (buildL false 1 1 (I .u8 0) [(0, d7)]) fun d8 =>
  bi (loadG false 1 (.ptr (List.length H) 1) h0) fun d9 =>
  bi (appG 5 false 1 1 d8 d9 h0 fl) fun p10 =>
  bi (cP n 28 false [p10.1]) fun d11 =>
  some ((.tup [d11, (I .i64 0)]), p10.2))
theorem s_rtu_Bytes_eq (n : Nat) (H : Heap) (fl : Nat) (a0 : DV) : callG Try.prog ENV (n + 1) 11 [a0] H fl = s_rtu_Bytes n H fl a0 := by kernel_rfl
noncomputable def s_rtu_Read (n : Nat) (H : Heap) (fl : Nat) (a0 : DV) : R :=
  bi (allocG 44 (.agg [(I .u8 0), (.list 0 [] .ti)]) (List.length H) (H ++ [.hole])) fun h0 =>
  bi (lenD a0) fun d1 =>
  bi (cO n 26 [d1, (I .i64 4), (I .i64 256)] h0) fun d2 =>
  bi (binD Try.prog .neq 70 (.tmp 10) (.const .nilIface) d2 (.flat .nilIface)) fun d3 =>
  condR d3 (
   bi (buildS (.agg [(I .u8 0), (.list 0 [] .ti)]) [(0, 1), (1, 1)] []) fun d4 =>
   bi (buildL false 1 2 (I .i64 0) [(0, (I .i64 3)), (1, (I .i64 4))]) fun d5 =>
   bi (cO n 27 [d2, d5] h0) fun d6 =>
   bi (storeG 2 (.ptr (List.length H) 0) d4 h0 fl) fun h7 =>
  bi (cellR true 2 (.ptr (List.length H) 0) h7) fun r0 =>
  some ((.tup [r0, d6]), h7)) (
  bi (cP n 81 false [a0]) fun d8 =>
  bi (extD 0 d8) fun d9 =>
  bi (extD 1 d8) fun d10 =>
  bi (notD d10) fun d11 =>
  condR d11 (
   bi (buildS (.agg [(I .u8 0), (.list 0 [] .ti)]) [(0, 1), (1, 1)] []) fun d12 =>
   bi (storeG 2 (.ptr (List.length H) 0) d12 h0 fl) fun h13 =>
  bi (cellR true 2 (.ptr (List.length H) 0) h13) fun r0 =>
  some ((.tup [r0, (I .i64 6)]), h13)) (
  bi (idxSl 1 d9 (I .i64 0)) fun d14 =>
  bi (loadG false 1 d14 h0) fun d15 =>
  bi (slX 1 d9 (some (I .i64 1)) none none) fun d16 =>
  bi (buildS (.agg [(I .u8 0), (.list 0 [] .ti)]) [(0, 1), (1, 1)] [(0, d15), (1, d16)]) fun d17 =>
  bi (storeG 2 (.ptr (List.length H) 0) d17 h0 fl) fun h18 =>
  bi (cellR true 2 (.ptr (List.length H) 0) h18) fun r0 =>
  some ((.tup [r0, (I .i64 0)]), h18)))
theorem s_rtu_Read_eq (n : Nat) (H : Heap) (fl : Nat) (a0 : DV) : callG Try.prog ENV (n + 1) 74 [a0] H fl = s_rtu_Read n H fl a0 := by kernel_rfl
end Go.Proofs.Ytcpgmbpndpcmdaa
namespace Go.Proofs.Ytcpgmbpndpcmdaa
open Go
set_option maxRecDepth 100000
set_option linter.unusedVariables false
end Go.Proofs.Ytcpgmbpndpcmdaa
namespace Go.Proofs.Ytcpgmbpndpcmdaa
open Go
set_option maxRecDepth 100000
set_option linter.unusedVariables false
def s_crc_More_I1 (x0 x8 x9 x10 x18 : DV) : List DV := [x0, .any, .any, .any, .any, .any, .any, .any, x8, x9, x10, .any, .any, .any, .any, .any, .any, .any, x18, .any, .any, .any, .any, .any, .any, .any, .any, .any, .any, .any, .any]
def s_crc_More_O1 (x0 x8 x9 x10 : DV) : List DV := [x0, .any, .any, .any, .any, .any, .any, .any, x8, x9, x10, .any, .any, .any, .any, .any, .any, .any, .any, .any, .any, .any, .any, .any, .any, .any, .any, .any, .any, .any, .any]
noncomputable abbrev s_crc_More_b1 (n fl : Nat) : List DV → Heap → (Ex → KF) → R := execG ⟨Try.prog, callG Try.prog ENV n, ENV.md, fl, 31⟩ n (loopAt (bodyOf Try.f73) 1) []
noncomputable def s_crc_More_B1 (n fl : Nat) (rec : DV → DV → DV → DV → DV → Heap → R) (k : Ex → KF) (x0 x8 x9 x10 x18 : DV) (H : Heap) : R :=
  bi (ltK .i64 x18 (I .i64 8)) fun d0 =>
  condR d0 (
  bi (andK .u16 x0 (I .u16 1)) fun d1 =>
  bi (shrK .u16 x0 (I .u64 1)) fun d2 =>
  bi (unD Try.prog .neg d1) fun d3 =>
  bi (andK .u16 (I .u16 40961) d3) fun d4 =>
  bi (xorK .u16 d2 d4) fun d5 =>
  bi (addK .i64 x18 (I .i64 1)) fun d6 =>
  rec d5 x8 x9 x10 d6 H) (
  k (.exit 2) (s_crc_More_O1 x0 x8 x9 x10) H)
noncomputable def s_crc_More_L1 (n fl : Nat) (k : Ex → KF) : Nat → DV → DV → DV → DV → DV → Heap → R
  | 0, _, _, _, _, _, _ => none
  | m + 1, x0, x8, x9, x10, x18, H => s_crc_More_B1 n fl (s_crc_More_L1 n fl k m) k x0 x8 x9 x10 x18 H
theorem s_crc_More_S1 (n fl m : Nat) (k : Ex → KF) (x0 x8 x9 x10 x18 : DV) (H : Heap) : loopG [0, 8, 9, 10, 18] [0, 8, 9, 10] 31 (s_crc_More_b1 n fl) (m + 1) (s_crc_More_I1 x0 x8 x9 x10 x18) H k = s_crc_More_B1 n fl (fun x0 x8 x9 x10 x18 H => loopG [0, 8, 9, 10, 18] [0, 8, 9, 10] 31 (s_crc_More_b1 n fl) m (s_crc_More_I1 x0 x8 x9 x10 x18) H k) k x0 x8 x9 x10 x18 H := by kernel_rfl
theorem s_crc_More_L1_eq (n fl : Nat) (k : Ex → KF) : ∀ (m : Nat) (x0 x8 x9 x10 x18 : DV) (H : Heap), loopG [0, 8, 9, 10, 18] [0, 8, 9, 10] 31 (s_crc_More_b1 n fl) m (s_crc_More_I1 x0 x8 x9 x10 x18) H k = s_crc_More_L1 n fl k m x0 x8 x9 x10 x18 H := by
  intro m
  induction m with
  | zero => intros; rfl
  | succ m ih =>
    intro x0 x8 x9 x10 x18 H
    rw [s_crc_More_S1, show (fun x0 x8 x9 x10 x18 H => loopG [0, 8, 9, 10, 18] [0, 8, 9, 10] 31 (s_crc_More_b1 n fl) m (s_crc_More_I1 x0 x8 x9 x10 x18) H k) = s_crc_More_L1 n fl k m from by funext x0 x8 x9 x10 x18 H; exact ih _ _ _ _ _ _]
    rw [s_crc_More_L1]
def s_crc_More_I0 (x0 x8 x9 x10 : DV) : List DV := [x0, .any, .any, .any, .any, .any, .any, .any, x8, x9, x10, .any, .any, .any, .any, .any, .any, .any, .any, .any, .any, .any, .any, .any, .any, .any, .any, .any, .any, .any, .any]
def s_crc_More_O0 (x0 : DV) : List DV := [x0, .any, .any, .any, .any, .any, .any, .any, .any, .any, .any, .any, .any, .any, .any, .any, .any, .any, .any, .any, .any, .any, .any, .any, .any, .any, .any, .any, .any, .any, .any]
noncomputable abbrev s_crc_More_b0 (n fl : Nat) : List DV → Heap → (Ex → KF) → R := execG ⟨Try.prog, callG Try.prog ENV n, ENV.md, fl, 31⟩ n (loopAt (bodyOf Try.f73) 0) [([0, 8, 9, 10, 18], [0, 8, 9, 10])]
noncomputable def s_crc_More_B0 (n fl : Nat) (rec : DV → DV → DV → DV → Heap → R) (k : Ex → KF) (x0 x8 x9 x10 : DV) (H : Heap) : R :=
  bi (ltK .i64 x10 x9) fun d0 =>
  condR d0 (
  bi (idxSl 1 x8 x10) fun d1 =>
  bi (loadG false 1 d1 H) fun d2 =>
  bi (cvK .u16 d2) fun d3 =>
  bi (xorK .u16 x0 d3) fun d4 =>
  loopG [0, 8, 9, 10, 18] [0, 8, 9, 10] 31 (s_crc_More_b1 n fl) n (s_crc_More_I1 d4 x8 x9 x10 (I .i64 0)) H fun x S5 h5 => match x with
  | .normal => none
  | .exit i5 => (
  if i5 = 2 then (
  bi (addK .i64 (S5.getD 10 .any) (I .i64 1)) fun d6 =>
  rec (S5.getD 0 .any) (S5.getD 8 .any) (S5.getD 9 .any) d6 h5) else (
  if i5 = 1 then (
  bi (addK .i64 (S5.getD 10 .any) (I .i64 1)) fun d7 =>
  rec (S5.getD 0 .any) (S5.getD 8 .any) (S5.getD 9 .any) d7 h5) else (
  k (.exit i5) (s_crc_More_O0 (S5.getD 0 .any)) h5)))
  | .ret => (
  k .ret (s_crc_More_O0 (S5.getD 0 .any)) h5)) (
  k (.exit 0) (s_crc_More_O0 x0) H)
noncomputable def s_crc_More_L0 (n fl : Nat) (k : Ex → KF) : Nat → DV → DV → DV → DV → Heap → R
  | 0, _, _, _, _, _ => none
  | m + 1, x0, x8, x9, x10, H => s_crc_More_B0 n fl (s_crc_More_L0 n fl k m) k x0 x8 x9 x10 H
theorem s_crc_More_S0 (n fl m : Nat) (k : Ex → KF) (x0 x8 x9 x10 : DV) (H : Heap) : loopG [0, 8, 9, 10] [0] 31 (s_crc_More_b0 n fl) (m + 1) (s_crc_More_I0 x0 x8 x9 x10) H k = s_crc_More_B0 n fl (fun x0 x8 x9 x10 H => loopG [0, 8, 9, 10] [0] 31 (s_crc_More_b0 n fl) m (s_crc_More_I0 x0 x8 x9 x10) H k) k x0 x8 x9 x10 H := by kernel_rfl
theorem s_crc_More_L0_eq (n fl : Nat) (k : Ex → KF) : ∀ (m : Nat) (x0 x8 x9 x10 : DV) (H : Heap), loopG [0, 8, 9, 10] [0] 31 (s_crc_More_b0 n fl) m (s_crc_More_I0 x0 x8 x9 x10) H k = s_crc_More_L0 n fl k m x0 x8 x9 x10 H := by
  intro m
  induction m with
  | zero => intros; rfl
  | succ m ih =>
    intro x0 x8 x9 x10 H
    rw [s_crc_More_S0, show (fun x0 x8 x9 x10 H => loopG [0, 8, 9, 10] [0] 31 (s_crc_More_b0 n fl) m (s_crc_More_I0 x0 x8 x9 x10) H k) = s_crc_More_L0 n fl k m from by funext x0 x8 x9 x10 H; exact ih _ _ _ _ _]
    rw [s_crc_More_L0]
noncomputable def s_crc_More (n : Nat) (H : Heap) (fl : Nat) (a0 a1 : DV) : R :=
  bi (lenD a1) fun d0 =>
  loopG [0, 8, 9, 10] [0] 31 (s_crc_More_b0 n fl) n (s_crc_More_I0 a0 a1 d0 (I .i64 0)) H fun x S1 h1 => match x with
  | .normal => none
  | .exit i1 => (
  if i1 = 0 then (
  some ((S1.getD 0 .any), h1)) else (
  none))
  | .ret => (
  some (.any, h1))
theorem s_crc_More_eq (n : Nat) (H : Heap) (fl : Nat) (a0 a1 : DV) : callG Try.prog ENV (n + 1) 73 [a0, a1] H fl = s_crc_More n H fl a0 a1 := by kernel_rfl
noncomputable def s_crc_Sum (n : Nat) (H : Heap) (fl : Nat) (a0 : DV) : R :=
  bi (cP n 73 false [(I .u16 65535), a0]) fun d0 =>
  some (d0, H)
theorem s_crc_Sum_eq (n : Nat) (H : Heap) (fl : Nat) (a0 : DV) : callG Try.prog ENV (n + 1) 49 [a0] H fl = s_crc_Sum n H fl a0 := by kernel_rfl
noncomputable def s_crc_Put (n : Nat) (H : Heap) (fl : Nat) (a0 : DV) : R :=
  bi (cP n 49 false [a0]) fun d0 =>
  bi (lenD a0) fun d1 =>
  bi (lenD a0) fun d2 =>
  bi (slX 1 a0 none (some d1) (some d2)) fun d3 =>
  bi (cvK .u8 d0) fun d4 =>
  bi (shrK .u16 d0 (I .u64 8)) fun d5 =>
  bi (cvK .u8 d5) fun d6 =>
  bi (buildL false 1 2 (I .u8 0) [(0, d4), (1, d6)]) fun d7 =>
  bi (appG 5 false 1 1 d3 d7 H fl) fun p8 =>
  some (p8.1, p8.2)
theorem s_crc_Put_eq (n : Nat) (H : Heap) (fl : Nat) (a0 : DV) : callG Try.prog ENV (n + 1) 28 [a0] H fl = s_crc_Put n H fl a0 := by kernel_rfl
noncomputable def s_crc_Cut (n : Nat) (H : Heap) (fl : Nat) (a0 : DV) : R :=
  bi (lenD a0) fun d0 =>
  bi (ltK .i64 d0 (I .i64 2)) fun d1 =>
  bi (wantF d1 false (some a0)) fun d2 =>
  bi (wantF d1 false (cP n 49 false [d2])) fun d3 =>
  bi (wantF d1 false (neK .u16 d3 (I .u16 0))) fun d4 =>
  bi (pickD d1 (Bo true) d4) fun d5 =>
  condR d5 (
  some ((.tup [(.list 0 [] .ti), (Bo false)]), H)) (
  bi (lenD a0) fun d6 =>
  bi (subK .i64 d6 (I .i64 2)) fun d7 =>
  bi (slX 1 a0 none (some d7) none) fun d8 =>
  bi (appG 5 false 1 1 (.list 0 [] .ti) d8 H fl) fun p9 =>
  some ((.tup [p9.1, (Bo true)]), p9.2))
theorem s_crc_Cut_eq (n : Nat) (H : Heap) (fl : Nat) (a0 : DV) : callG Try.prog ENV (n + 1) 81 [a0] H fl = s_crc_Cut n H fl a0 := by kernel_rfl
end Go.Proofs.Ytcpgmbpndpcmdaa
namespace Go.Proofs.Ytcpgmbpndpcmdaa
open Go
set_option linter.unusedSimpArgs false
set_option linter.unusedVariables false
theorem xorI_nat (k : IntKind) (a b : Nat) (hk : k.signed = false) (ha : a < 2 ^ k.bits) (hb : b < 2 ^ k.bits) : xorI k a b = ((a ^^^ b : Nat) : Int) := by
  unfold xorI IntKind.wrap
  have h : a ^^^ b < 2 ^ k.bits := Nat.xor_lt_two_pow ha hb
  simp only [hk, Bool.false_and, Bool.false_eq_true, if_false]
  rw [BitVec.toNat_xor, BitVec.toNat_ofInt, BitVec.toNat_ofInt]
  have e1 : ((a : Int) % ((2 ^ k.bits : Nat) : Int)).toNat = a := by rw [Int.emod_eq_of_lt (by omega) (by exact_mod_cast ha)]; simp
  have e2 : ((b : Int) % ((2 ^ k.bits : Nat) : Int)).toNat = b := by rw [Int.emod_eq_of_lt (by omega) (by exact_mod_cast hb)]; simp
  rw [e1, e2]
  have : (2 : Int) ^ k.bits = ((2 ^ k.bits : Nat) : Int) := by simp
  rw [this]
  exact Int.emod_eq_of_lt (by omega) (by exact_mod_cast h)
theorem andI_nat (k : IntKind) (a b : Nat) (hk : k.signed = false) (ha : a < 2 ^ k.bits) (hb : b < 2 ^ k.bits) : andI k a b = ((a &&& b : Nat) : Int) := by
  unfold andI IntKind.wrap
  have h : a &&& b < 2 ^ k.bits := Nat.lt_of_le_of_lt Nat.and_le_left ha
  simp only [hk, Bool.false_and, Bool.false_eq_true, if_false]
  rw [BitVec.toNat_and, BitVec.toNat_ofInt, BitVec.toNat_ofInt]
  have e1 : ((a : Int) % ((2 ^ k.bits : Nat) : Int)).toNat = a := by rw [Int.emod_eq_of_lt (by omega) (by exact_mod_cast ha)]; simp
  have e2 : ((b : Int) % ((2 ^ k.bits : Nat) : Int)).toNat = b := by rw [Int.emod_eq_of_lt (by omega) (by exact_mod_cast hb)]; simp
  rw [e1, e2]
  have : (2 : Int) ^ k.bits = ((2 ^ k.bits : Nat) : Int) := by simp
  rw [this]
  exact Int.emod_eq_of_lt (by omega) (by exact_mod_cast h)
theorem shrI_1 (x : Int) : shrI .u16 x 1 = x / 2 := by
  unfold shrI
  have : (2 : Int) ^ min (1 : Int).toNat IntKind.u16.bits = 2 := rfl
  rw [this, Int.fdiv_eq_ediv_of_nonneg _ (by omega)]
theorem neg_0 : unD Try.prog .neg (I .u16 0) = some (I .u16 0) := by kernel_rfl
theorem neg_1 : unD Try.prog .neg (I .u16 1) = some (I .u16 65535) := by kernel_rfl
def nB (l : List Int) : List UInt8 := l.map lowB
theorem nB_length (l : List Int) : (nB l).length = l.length := by simp [nB]
theorem nB_get (l : List Int) (i : Nat) (h : i < l.length) : (nB l)[i]'(by rw [nB_length]; exact h) = lowB l[i] := by simp [nB]
def sumN (l : List Int) : Nat := nMore 65535 (nB l)
theorem sumN_lt (l : List Int) : sumN l < 65536 := nMore_lt _ _ (by omega)
theorem crc_L1 (n fl : Nat) (K : Ex → KF) (x8 x9 x10 : DV) (x0 : Nat) (hx : x0 < 65536) : ∀ (m j : Nat) (H : Heap), 8 < m + j → j ≤ 8 →
    s_crc_More_L1 n fl K m (I .u16 (nBits j x0)) x8 x9 x10 (I .i64 j) H = K (.exit 2) (s_crc_More_O1 (I .u16 (nBits 8 x0)) x8 x9 x10) H := by
  intro m
  induction m with
  | zero => intro j H h; omega
  | succ m ih =>
    intro j H hm hj
    unfold s_crc_More_L1 s_crc_More_B1
    by_cases h : j < 8
    · have ih' := ih (j + 1) H (by omega) (by omega)
      have hj2 : ((j + 1 : Nat) : Int) = (j : Int) + 1 := by omega
      rw [hj2] at ih'
      have hb := nBits_lt j x0 hx
      have e1 : nBits (j + 1) x0 = nBit (nBits j x0) := rfl
      rw [e1] at ih'
      generalize nBits j x0 = y at *
      have a1 : andI .u16 (y : Int) 1 = ((y % 2 : Nat) : Int) := by
        have := andI_nat .u16 y 1 rfl (by exact hb) (by decide)
        rw [Nat.and_one_is_mod] at this
        exact this
      have s1 := shrI_1 (y : Int)
      have hy2 : ((y : Int) / 2) = ((y / 2 : Nat) : Int) := by omega
      rcases (by omega : y % 2 = 0 ∨ y % 2 = 1) with h0 | h0
      · rw [h0] at a1
        have n0 := neg_0
        have a2 : andI .u16 40961 0 = 0 := by decide
        have x1 : xorI .u16 ((y : Int) / 2) 0 = (nBit y : Int) := by
          rw [hy2]
          have := xorI_nat .u16 (y / 2) 0 rfl (by show y / 2 < 65536; omega) (by decide)
          unfold nBit
          rw [if_neg (by omega)]
          exact this
        simp only [Int.natCast_zero] at a1
        simp -implicitDefEqProofs (disch := first | omega | (simp only [List.length_set, List.length_append, List.length_cons, List.length_nil, List.length_take, List.length_drop, List.length_map]; omega) | simp) [wrap_i64, wrap_u16_id, wrap_u8_id, tdiv_pos, tmod_pos, -getElem?_pos, -getElem?_neg, -List.length_eq_zero_iff, -List.getElem_cons_drop, h, a1, s1, n0, a2, x1, ih']
      · rw [h0] at a1
        have n0 := neg_1
        have a2 : andI .u16 40961 65535 = 40961 := by decide
        have x1 : xorI .u16 ((y : Int) / 2) 40961 = (nBit y : Int) := by
          rw [hy2]
          have := xorI_nat .u16 (y / 2) 40961 rfl (by show y / 2 < 65536; omega) (by decide)
          unfold nBit
          rw [if_pos h0]
          exact this
        simp only [Int.natCast_one] at a1
        simp -implicitDefEqProofs (disch := first | omega | (simp only [List.length_set, List.length_append, List.length_cons, List.length_nil, List.length_take, List.length_drop, List.length_map]; omega) | simp) [wrap_i64, wrap_u16_id, wrap_u8_id, tdiv_pos, tmod_pos, -getElem?_pos, -getElem?_neg, -List.length_eq_zero_iff, -List.getElem_cons_drop, h, a1, s1, n0, a2, x1, ih']
    · have : j = 8 := by omega
      subst this
      simp -implicitDefEqProofs (disch := first | omega | (simp only [List.length_set, List.length_append, List.length_cons, List.length_nil, List.length_take, List.length_drop, List.length_map]; omega) | simp) [wrap_i64, wrap_u16_id, wrap_u8_id, tdiv_pos, tmod_pos, -getElem?_pos, -getElem?_neg, -List.length_eq_zero_iff, -List.getElem_cons_drop]
theorem lowB_of (x : Int) (h : 0 ≤ x ∧ x < 256) : x = ((lowB x).toNat : Int) := (lowB_nat x h.1 h.2).symm
theorem nMore_snoc (s : Nat) (l : List UInt8) (k : Nat) (h : k < l.length) : nMore s (l.take (k + 1)) = nBits 8 (nMore s (l.take k) ^^^ (l[k]).toNat) := by
  unfold nMore; rw [List.take_succ_eq_append_getElem h, List.foldl_append]; rfl
theorem crc_L0 (n fl : Nat) (K : Ex → KF) (s : Nat) (hs : s < 65536) (l : List Int) (t : Tag) (hb : Bytes l) (hl : l.length ≤ 100000) (hn : 9 ≤ n) : ∀ (m i : Nat) (H : Heap), l.length < m + i → i ≤ l.length →
    s_crc_More_L0 n fl K m (I .u16 (nMore s ((nB l).take i))) (LV 1 (I .u8) l t) (I .i64 l.length) (I .i64 i) H = K (.exit 0) (s_crc_More_O0 (I .u16 (nMore s (nB l)))) H := by
  intro m
  induction m with
  | zero => intro i H h; omega
  | succ m ih =>
    intro i H hm hi
    unfold s_crc_More_L0 s_crc_More_B0
    by_cases h : i < l.length
    · have ih' := ih (i + 1) H (by omega) (by omega)
      have hi2 : ((i + 1 : Nat) : Int) = (i : Int) + 1 := by omega
      rw [hi2, nMore_snoc s (nB l) i (by rw [nB_length]; exact h), nB_get l i h] at ih'
      have hy := nMore_lt ((nB l).take i) s hs
      generalize nMore s ((nB l).take i) = y at *
      have hx := hb _ (List.getElem_mem h)
      have hc := (lowB l[i]).toNat_lt
      have e := lowB_of l[i] hx
      have hxx : y ^^^ (lowB l[i]).toNat < 65536 := Nat.xor_lt_two_pow (n := 16) hy (by omega)
      have x1 : xorI .u16 (y : Int) l[i] = ((y ^^^ (lowB l[i]).toNat : Nat) : Int) := by
        conv => lhs; rw [e]
        exact xorI_nat .u16 y _ rfl hy (by show _ < 65536; omega)
      have q : ∀ K, loopG [0, 8, 9, 10, 18] [0, 8, 9, 10] 31 (s_crc_More_b1 n fl) n (s_crc_More_I1 (I .u16 ((y ^^^ (lowB l[i]).toNat : Nat) : Int)) (LV 1 (I .u8) l t) (I .i64 l.length) (I .i64 i) (I .i64 0)) H K = _ := fun K => (s_crc_More_L1_eq _ _ _ _ _ _ _ _ _ _).trans (crc_L1 n fl K (LV 1 (I .u8) l t) (I .i64 l.length) (I .i64 i) (y ^^^ (lowB l[i]).toNat) hxx n 0 H (by omega) (by omega))
      simp -implicitDefEqProofs (disch := first | omega | (simp only [List.length_set, List.length_append, List.length_cons, List.length_nil, List.length_take, List.length_drop, List.length_map]; omega) | simp) [wrap_i64, wrap_u16_id, wrap_u8_id, tdiv_pos, tmod_pos, -getElem?_pos, -getElem?_neg, -List.length_eq_zero_iff, -List.getElem_cons_drop, h, x1, q, s_crc_More_O1, ih']
    · have : i = l.length := by omega
      subst this
      have e : (nB l).take l.length = nB l := List.take_of_length_le (by rw [nB_length]; omega)
      rw [e]
      simp -implicitDefEqProofs (disch := first | omega | (simp only [List.length_set, List.length_append, List.length_cons, List.length_nil, List.length_take, List.length_drop, List.length_map]; omega) | simp) [wrap_i64, wrap_u16_id, wrap_u8_id, tdiv_pos, tmod_pos, -getElem?_pos, -getElem?_neg, -List.length_eq_zero_iff, -List.getElem_cons_drop]
theorem crc_More_c (n : Nat) (s : Nat) (hs : s < 65536) (l : List Int) (t : Tag) (hb : Bytes l) (hl : l.length ≤ 100000) (hn : l.length + 12 ≤ n) : cP n 73 false [I .u16 s, LV 1 (I .u8) l t] = some (I .u16 (nMore s (nB l))) := by
  obtain ⟨n, rfl⟩ : ∃ m, n = m + 1 := ⟨n - 1, by omega⟩
  have q : ∀ K, loopG [0, 8, 9, 10] [0] 31 (s_crc_More_b0 n 0) n (s_crc_More_I0 (I .u16 s) (LV 1 (I .u8) l .sh) (I .i64 l.length) (I .i64 0)) [] K = _ := fun K => (s_crc_More_L0_eq _ _ _ _ _ _ _ _ _).trans (crc_L0 n 0 K s hs l .sh hb hl (by omega) n 0 [] (by omega) (by omega))
  exact cP_of (args' := [I .u16 s, LV 1 (I .u8) l .sh]) (by simp [argEl_eq]) ((s_crc_More_eq _ _ _ _ _).trans (by unfold s_crc_More; simp -implicitDefEqProofs (disch := first | omega | (simp only [List.length_set, List.length_append, List.length_cons, List.length_nil, List.length_take, List.length_drop, List.length_map]; omega) | simp) [wrap_i64, wrap_u16_id, wrap_u8_id, tdiv_pos, tmod_pos, -getElem?_pos, -getElem?_neg, -List.length_eq_zero_iff, -List.getElem_cons_drop, q, s_crc_More_O0]; first | exact rfl | exact ⟨rfl, rfl⟩)) (by simp)
theorem crc_Sum_c (n : Nat) (l : List Int) (t : Tag) (hb : Bytes l) (hl : l.length ≤ 100000) (hn : l.length + 14 ≤ n) : cP n 49 false [LV 1 (I .u8) l t] = some (I .u16 (sumN l)) := by
  obtain ⟨n, rfl⟩ : ∃ m, n = m + 1 := ⟨n - 1, by omega⟩
  have q : cP n 73 false [I .u16 65535, LV 1 (I .u8) l .sh] = some (I .u16 (nMore 65535 (nB l))) := crc_More_c n 65535 (by omega) l .sh hb hl (by omega)
  unfold sumN
  exact cP_of (args' := [LV 1 (I .u8) l .sh]) (by simp [argEl_eq]) ((s_crc_Sum_eq _ _ _ _).trans (by unfold s_crc_Sum; simp -implicitDefEqProofs (disch := first | omega | (simp only [List.length_set, List.length_append, List.length_cons, List.length_nil, List.length_take, List.length_drop, List.length_map]; omega) | simp) [wrap_i64, wrap_u16_id, wrap_u8_id, tdiv_pos, tmod_pos, -getElem?_pos, -getElem?_neg, -List.length_eq_zero_iff, -List.getElem_cons_drop, q]; first | exact rfl | exact ⟨rfl, rfl⟩)) (by simp)
def putI (l : List Int) : List Int := l ++ [(sumN l : Int) % 256, (sumN l : Int) / 256]
theorem putI_length (l : List Int) : (putI l).length = l.length + 2 := by simp [putI]
theorem buildL_u2 (a b : Int) : buildL false 1 2 (I .u8 0) [(0, I .u8 a), (1, I .u8 b)] = some (LV 1 (I .u8) [a, b] .ti) := rfl
theorem shrI_8 (x : Int) : shrI .u16 x 8 = x / 256 := shrI_w8 x
theorem crc_Put_c (n : Nat) (l : List Int) (t : Tag) (hb : Bytes l) (hl : l.length ≤ 100000) (hn : l.length + 16 ≤ n) : cP n 28 false [LV 1 (I .u8) l t] = some (LV 1 (I .u8) (putI l) .sh) := by
  obtain ⟨n, rfl⟩ : ∃ m, n = m + 1 := ⟨n - 1, by omega⟩
  have q := crc_Sum_c n l .sh hb hl (by omega)
  have hs := sumN_lt l
  unfold putI
  generalize sumN l = s at *
  have e1 : IntKind.wrap .u8 (s : Int) = ((s : Int) % 256) := wrap_u8 _
  have e2 : IntKind.wrap .u8 ((s : Int) / 256) = ((s : Int) / 256) := by rw [wrap_u8]; omega
  have e3 := buildL_u2 ((s : Int) % 256) ((s : Int) / 256)
  have e4 := shrI_8 (s : Int)
  have ha := appG_ti (e := 5) (ag := false) (sz := 1) (by_ := 1) (enc := I .u8) (xs := l) (ys := [((s : Int) % 256), ((s : Int) / 256)]) (t' := .ti) (H := []) (fl := 0) (by simp) rfl (by simp; omega) (by simp; omega)
  exact cP_of (args' := [LV 1 (I .u8) l .sh]) (by simp [argEl_eq]) ((s_crc_Put_eq _ _ _ _).trans (by unfold s_crc_Put; simp -implicitDefEqProofs (disch := first | omega | (simp only [List.length_set, List.length_append, List.length_cons, List.length_nil, List.length_take, List.length_drop, List.length_map]; omega) | simp) [wrap_i64, wrap_u16_id, wrap_u8_id, tdiv_pos, tmod_pos, -getElem?_pos, -getElem?_neg, -List.length_eq_zero_iff, -List.getElem_cons_drop, q, e1, e2, e3, e4, ha, List.take_length]; first | exact rfl | exact ⟨rfl, rfl⟩)) (by simp)
theorem nil_LV (t : Tag) : DV.list 0 [] t = LV 1 (I .u8) [] t := rfl
theorem crc_Cut_no (n : Nat) (l : List Int) (t : Tag) (hb : Bytes l) (hl : l.length ≤ 100000) (hn : l.length + 16 ≤ n) (hc : l.length < 2 ∨ sumN l ≠ 0) : cP n 81 false [LV 1 (I .u8) l t] = some (.tup [.list 0 [] .sh, Bo false]) := by
  obtain ⟨n, rfl⟩ : ∃ m, n = m + 1 := ⟨n - 1, by omega⟩
  have q := crc_Sum_c n l .sh hb hl (by omega)
  by_cases c1 : l.length < 2
  · exact cP_of (args' := [LV 1 (I .u8) l .sh]) (by simp [argEl_eq]) ((s_crc_Cut_eq _ _ _ _).trans (by unfold s_crc_Cut; simp -implicitDefEqProofs (disch := first | omega | (simp only [List.length_set, List.length_append, List.length_cons, List.length_nil, List.length_take, List.length_drop, List.length_map]; omega) | simp) [wrap_i64, wrap_u16_id, wrap_u8_id, tdiv_pos, tmod_pos, -getElem?_pos, -getElem?_neg, -List.length_eq_zero_iff, -List.getElem_cons_drop, c1]; first | exact rfl | exact ⟨rfl, rfl⟩)) (by simp)
  · have c2 := hc.resolve_left c1
    exact cP_of (args' := [LV 1 (I .u8) l .sh]) (by simp [argEl_eq]) ((s_crc_Cut_eq _ _ _ _).trans (by unfold s_crc_Cut; simp -implicitDefEqProofs (disch := first | omega | (simp only [List.length_set, List.length_append, List.length_cons, List.length_nil, List.length_take, List.length_drop, List.length_map]; omega) | simp) [wrap_i64, wrap_u16_id, wrap_u8_id, tdiv_pos, tmod_pos, -getElem?_pos, -getElem?_neg, -List.length_eq_zero_iff, -List.getElem_cons_drop, c1, q, c2]; first | exact rfl | exact ⟨rfl, rfl⟩)) (by simp)
theorem crc_Cut_c (n : Nat) (l : List Int) (t : Tag) (hb : Bytes l) (hl : l.length ≤ 100000) (hn : l.length + 16 ≤ n) (h2 : 2 ≤ l.length) (h0 : sumN l = 0) : cP n 81 false [LV 1 (I .u8) l t] = some (.tup [LV 1 (I .u8) (l.take (l.length - 2)) .sh, Bo true]) := by
  obtain ⟨n, rfl⟩ : ∃ m, n = m + 1 := ⟨n - 1, by omega⟩
  have q := crc_Sum_c n l .sh hb hl (by omega)
  simp only [h0, Int.natCast_zero] at q
  have e : ((l.length : Int) - 2).toNat = l.length - 2 := by omega
  obtain ⟨t2, H', ha, _⟩ := appG_all (e := 5) (ag := false) (sz := 1) (by_ := 1) (n0 := 0) (enc := I .u8) (xs := []) (ys := l.take (l.length - 2)) (t := .ti) (t' := .sh) (H := []) (fl := 0) (by omega) (by omega) (.inl rfl) rfl (by simp; omega) (by simp; omega)
  rw [← nil_LV, List.nil_append] at ha
  exact cP_of (r := .tup [LV 1 (I .u8) (l.take (l.length - 2)) t2, Bo true]) (args' := [LV 1 (I .u8) l .sh]) (by simp [argEl_eq]) ((s_crc_Cut_eq _ _ _ _).trans (by unfold s_crc_Cut; simp -implicitDefEqProofs (disch := first | omega | (simp only [List.length_set, List.length_append, List.length_cons, List.length_nil, List.length_take, List.length_drop, List.length_map]; omega) | simp) [wrap_i64, wrap_u16_id, wrap_u8_id, tdiv_pos, tmod_pos, -getElem?_pos, -getElem?_neg, -List.length_eq_zero_iff, -List.getElem_cons_drop, q, e, ha]; first | exact rfl | exact ⟨rfl, rfl⟩)) (by simp)
end Go.Proofs.Ytcpgmbpndpcmdaa
namespace Go.Proofs.Ytcpgmbpndpcmdaa
open Go
set_option linter.unusedSimpArgs false
set_option linter.unusedVariables false
set_option maxRecDepth 100000
end Go.Proofs.Ytcpgmbpndpcmdaa
