/- Layer 4 (mbap): Read. -/
import Derived.Test.YtigfninpflemnaaMbap
namespace Go.Proofs.Ytigfninpflemnaa
open Go.RowKit

/-- the word at a place, where it is there -/
def numV (l : List UInt8) (i : Nat) : Nat := if i + 2 ≤ l.length then numAt l i else 0
theorem numV_lt (l : List UInt8) (i : Nat) : numV l i < 65536 := by unfold numV; split; exact numAt_lt l i; omega
theorem mbap_number (v : Value) (l : List UInt8) (i : Nat) (w : World) (h : RdV encB w v l) (hi : i ≤ 1000) :
    Calls Try.prog 71 #[v, .int .i64 (i : Int)] w fun e w' => e = .returned (.tuple #[.int .i64 (numV l i : Int), .bool (decide (i + 2 ≤ l.length))]) ∧ Below w.heap.size w w' := by
  by_cases hn : i + 2 ≤ l.length
  · rw [show decide (i + 2 ≤ l.length) = true by simp [hn], show numV l i = numAt l i by simp [numV, hn]]
    exact number_yes v l i w h hn hi
  · rw [show decide (i + 2 ≤ l.length) = false by simp [hn], show numV l i = 0 by simp [numV, hn]]
    exact (number_no v l i w h (by omega) hi).mono fun e w' ⟨he, hw⟩ => ⟨he, hw ▸ Below.refl _ _⟩
/-- what reading tells: its error, how many bytes, the frame -/
def fCode (b : List UInt8) : Int :=
  if numV b 2 ≠ 0 ∨ (6 ≤ b.length ∧ (numV b 4 < 2 ∨ 254 < numV b 4)) then 2 else if b.length < 6 ∨ b.length < 6 + numV b 4 then 3 else 0
def fLen (b : List UInt8) : Int := if fCode b = 0 then 6 + (numV b 4 : Int) else 0
def fFrame (b : List UInt8) : Fr := if fCode b = 0 then ⟨UInt16.ofNat (numV b 0), b.getD 6 0, (b.drop 7).take (numV b 4 - 1)⟩ else ⟨0, 0, []⟩
theorem own_set_other {α : Type} {enc : α → Value} {e : TypeId} {w : World} {base : Nat} {v : Value} {l : List α} {p : Addr} {u : Value} (h : Own enc e w base v l) (hp : p.block < base) : Own enc e (w.setCell p u) base v l :=
  h.kept (row := some p.block) ⟨rfl, rfl, rfl, by simp [World.setCell], fun k _ hk => Below.heap_setCell _ _ _ _ (fun hh => hk (by rw [hh]))⟩
    (by cases hv : v.ownBlock with
        | none => exact .inl rfl
        | some k => exact .inr (fun hh => by have := (h.base k hv).1; injection hh with hh; omega))
theorem belowS {B : Nat} {a w : World} {p : Addr} {v : Value} (h : Below B a w) (hp : B ≤ p.block) : Below B a (w.setCell p v) := h.setCell hp v
theorem frozen_made {w : World} {xs : Array Value} {t : TypeId} (k : Nat) : (w.alloc (.cells xs t)).frozen? ⟨w.heap.size, k, none⟩ = false := by
  unfold World.frozen?
  rw [show (w.alloc (.cells xs t)).heap[w.heap.size]? = some (.cells xs t) from heap_alloc_new w _]
  simp
theorem frozenT {w w' : World} {p : Addr} (hB : Below w.heap.size w w') (hp : p.block < w.heap.size) (h : w.frozen? p = false) : w'.frozen? p = false :=
  (World.frozen?_of_block (hB.block _ hp)).trans h

set_option maxRecDepth 100000 in
set_option maxHeartbeats 1600000 in
theorem mbap_Read_bad (v : Value) (b : List UInt8) (w : World) (h : RdV encB w v b) (hl : b.length ≤ 100000) (hc : fCode b ≠ 0) :
    Calls Try.prog 55 #[v] w fun e w' => e = .returned (.tuple #[.agg #[.int .u16 0, .int .u8 0, .slice none 0 0], .int .i64 0, .int .i64 (fCode b)]) ∧ Below w.heap.size w w' := by
  obtain ⟨a, c, rfl, hcap, hm, _⟩ := h.open
  obtain ⟨z, hz, z1⟩ : ∃ z, Hid (numV b 2 = z) ∧ z < 65536 := ⟨_, Lib.hid rfl, numV_lt _ _⟩
  obtain ⟨n, hn, n1⟩ : ∃ n, Hid (numV b 4 = n) ∧ n < 65536 := ⟨_, Lib.hid rfl, numV_lt _ _⟩
  obtain ⟨k, hk⟩ : ∃ k, Hid (fCode b = k) := ⟨_, Lib.hid rfl⟩
  have hk2 : k = if z ≠ 0 ∨ (6 ≤ b.length ∧ (n < 2 ∨ 254 < n)) then 2 else if b.length < 6 ∨ b.length < 6 + n then 3 else 0 := by
    rw [← hk.out]; unfold fCode; rw [hz.out, hn.out]
  rw [hk.out] at hc ⊢
  have hs := Lib.hid h
  have hk2' := Lib.hid hk2
  have hc' := Lib.hid hc
  clear hk2 hc h
  go_enter Try.func55, Try.ntmps55
  go_wp2_with fail
  refine (mbap_number _ b 2 _ (hs.out.alloc _) (by omega)).mono ?_
  rintro e w1 ⟨rfl, hB1⟩
  rw [hz.out]
  have q0 : w1.cell? ⟨w.heap.size, 0, none⟩ = some (.int .u16 0) := cellT hB1 (cell_made 0 _ rfl)
  have q1 : w1.cell? ⟨w.heap.size, 1, none⟩ = some (.int .u8 0) := cellT hB1 (cell_made 1 _ rfl)
  have q2 : w1.cell? ⟨w.heap.size, 2, none⟩ = some (.slice none 0 0) := cellT hB1 (cell_made 2 _ rfl)
  have f0 : w1.frozen? ⟨w.heap.size, 0, none⟩ = false := frozenT hB1 (by simp) (frozen_made 0)
  have f1 : w1.frozen? ⟨w.heap.size, 1, none⟩ = false := frozenT hB1 (by simp) (frozen_made 1)
  have f2 : w1.frozen? ⟨w.heap.size, 2, none⟩ = false := frozenT hB1 (by simp) (frozen_made 2)
  have hlt : w.heap.size < w1.heap.size := by have := hB1.size; simp at this; omega
  have B1 := belowT (belowA (Below.refl _ w) _) hB1
  go_wp2_with fail
  refine (mbap_number _ b 4 _ (hs.out.below B1) (by omega)).mono ?_
  rintro e w2 ⟨rfl, hB2⟩
  rw [hn.out]
  have B2 := belowT B1 hB2
  replace q0 := cellT hB2 q0
  replace q1 := cellT hB2 q1
  replace q2 := cellT hB2 q2
  replace f0 := frozenT hB2 hlt f0
  replace f1 := frozenT hB2 hlt f1
  replace f2 := frozenT hB2 hlt f2
  clear hB1 hB2 B1 hlt
  by_cases A : z = 0
  · by_cases h6 : 6 ≤ b.length
    · have d6 : decide (4 + 2 ≤ b.length) = true := by simp; omega
      by_cases h2 : n < 2 ∨ 254 < n
      · obtain rfl : k = 2 := by rw [hk2'.out, if_pos (.inr ⟨h6, h2⟩)]
        rcases h2 with h2 | h2
        · go_wp2
          refine bodyPost_ret (v := .tuple #[.agg #[.int .u16 0, .int .u8 0, .slice none 0 0], .int .i64 0, .int .i64 2]) (by simp [results, Try.results55, go_sem, q0, q1, q2]) rfl ?_
          exact ⟨rfl, belowS (belowS (belowS B2 (Nat.le_refl _)) (Nat.le_refl _)) (Nat.le_refl _)⟩
        · go_wp2
          refine bodyPost_ret (v := .tuple #[.agg #[.int .u16 0, .int .u8 0, .slice none 0 0], .int .i64 0, .int .i64 2]) (by simp [results, Try.results55, go_sem, q0, q1, q2]) rfl ?_
          exact ⟨rfl, belowS (belowS (belowS B2 (Nat.le_refl _)) (Nat.le_refl _)) (Nat.le_refl _)⟩
      · have h7 : b.length < 6 + n := by
          have := hc'.out
          rcases Nat.lt_or_ge b.length (6 + n) with h | h
          · exact h
          · exact absurd (by rw [hk2'.out, if_neg (by omega), if_neg (by omega)]) this
        have : k = 3 := by rw [hk2'.out, if_neg (by omega), if_pos (by omega)]
        subst this
        have h3 : 2 ≤ n := by omega
        have h4 : n ≤ 254 := by omega
        clear h2
        go_wp2
        refine bodyPost_ret (v := .tuple #[.agg #[.int .u16 0, .int .u8 0, .slice none 0 0], .int .i64 0, .int .i64 3]) (by simp [results, Try.results55, go_sem, q0, q1, q2]) rfl ?_
        exact ⟨rfl, belowS (belowS (belowS B2 (Nat.le_refl _)) (Nat.le_refl _)) (Nat.le_refl _)⟩
    · have : k = 3 := by rw [hk2'.out, if_neg (by omega), if_pos (by omega)]
      subst this
      have d6 : decide (4 + 2 ≤ b.length) = false := by simp; omega
      go_wp2
      refine bodyPost_ret (v := .tuple #[.agg #[.int .u16 0, .int .u8 0, .slice none 0 0], .int .i64 0, .int .i64 3]) (by simp [results, Try.results55, go_sem, q0, q1, q2]) rfl ?_
      exact ⟨rfl, belowS (belowS (belowS B2 (Nat.le_refl _)) (Nat.le_refl _)) (Nat.le_refl _)⟩
  · obtain rfl : k = 2 := by rw [hk2'.out, if_pos (.inl A)]
    have A' : ((z : Int) != 0) = true := by simp; omega
    clear A
    go_wp2
    refine bodyPost_ret (v := .tuple #[.agg #[.int .u16 0, .int .u8 0, .slice none 0 0], .int .i64 0, .int .i64 2]) (by simp [results, Try.results55, go_sem, q0, q1, q2]) rfl ?_
    exact ⟨rfl, belowS (belowS (belowS B2 (Nat.le_refl _)) (Nat.le_refl _)) (Nat.le_refl _)⟩
theorem fCode_ok {b : List UInt8} (h : fCode b = 0) : numV b 2 = 0 ∧ 6 ≤ b.length ∧ 2 ≤ numV b 4 ∧ numV b 4 ≤ 254 ∧ 6 + numV b 4 ≤ b.length := by
  unfold fCode at h
  split at h
  · omega
  · split at h
    · omega
    · omega
set_option maxRecDepth 100000 in
set_option maxHeartbeats 1600000 in
theorem mbap_Read_ok (v : Value) (b : List UInt8) (w : World) (h : RdV encB w v b) (hl : b.length ≤ 100000) (hc : fCode b = 0) :
    Calls Try.prog 55 #[v] w fun e w' => ∃ fv, e = .returned (.tuple #[fv, .int .i64 (fLen b), .int .i64 0]) ∧ RdF w' fv (fFrame b) ∧ Below w.heap.size w w' := by
  obtain ⟨g1, g2, g3, g4, g5⟩ := fCode_ok hc
  obtain ⟨a, c, rfl, hcap, hm, hcl⟩ := h.open
  obtain ⟨bb, o, rfl, hcell⟩ := hcl.resolve_left (by omega)
  clear hcl
  obtain ⟨n, hn⟩ : ∃ n, Hid (numV b 4 = n) := ⟨_, Lib.hid rfl⟩
  obtain ⟨x, hx, x1⟩ : ∃ x, Hid (numV b 0 = x) ∧ x < 65536 := ⟨_, Lib.hid rfl, numV_lt _ _⟩
  have g1' := Lib.hid g1
  rw [hn.out] at g3 g4 g5
  have c6 := hcell 6 (by omega)
  obtain ⟨y, hy⟩ : ∃ y, Hid ((b[6].toNat : Int) = y) := ⟨_, Lib.hid rfl⟩
  rw [encB, hy.out] at c6
  have hbb : bb < w.heap.size := World.block_lt_of_cell? _ _ c6
  have hs := Lib.hid h
  have hcut := Lib.hid (h.cut 7 (6 + n - 7) (c - 7) (some ⟨bb, o + 7, none⟩) (.inl (by simp [addr_add])) (by omega) (by omega))
  have hc' := Lib.hid hc
  clear hcell g1 hc h
  go_enter Try.func55, Try.ntmps55
  go_wp2_with fail
  refine (mbap_number _ b 2 _ (hs.out.alloc _) (by omega)).mono ?_
  rintro e w1 ⟨rfl, hB1⟩
  rw [g1'.out]
  have q0 : w1.cell? ⟨w.heap.size, 0, none⟩ = some (.int .u16 0) := cellT hB1 (cell_made 0 _ rfl)
  have q1 : w1.cell? ⟨w.heap.size, 1, none⟩ = some (.int .u8 0) := cellT hB1 (cell_made 1 _ rfl)
  have q2 : w1.cell? ⟨w.heap.size, 2, none⟩ = some (.slice none 0 0) := cellT hB1 (cell_made 2 _ rfl)
  have f0 : w1.frozen? ⟨w.heap.size, 0, none⟩ = false := frozenT hB1 (by simp) (frozen_made 0)
  have f1 : w1.frozen? ⟨w.heap.size, 1, none⟩ = false := frozenT hB1 (by simp) (frozen_made 1)
  have f2 : w1.frozen? ⟨w.heap.size, 2, none⟩ = false := frozenT hB1 (by simp) (frozen_made 2)
  have hlt : w.heap.size < w1.heap.size := by have := hB1.size; simp at this; omega
  have B1 := belowT (belowA (Below.refl _ w) _) hB1
  go_wp2_with fail
  refine (mbap_number _ b 4 _ (hs.out.below B1) (by omega)).mono ?_
  rintro e w2 ⟨rfl, hB2⟩
  rw [hn.out]
  have B2 := belowT B1 hB2
  have d6 : decide (4 + 2 ≤ b.length) = true := by simp; omega
  replace q0 := cellT hB2 q0
  replace q1 := cellT hB2 q1
  replace q2 := cellT hB2 q2
  replace f0 := frozenT hB2 hlt f0
  replace f1 := frozenT hB2 hlt f1
  replace f2 := frozenT hB2 hlt f2
  replace hlt := Nat.lt_of_lt_of_le hlt hB2.size
  clear hB1 hB2 B1
  go_wp2_with fail
  refine (mbap_number _ b 0 _ (hs.out.below B2) (by omega)).mono ?_
  rintro e w3 ⟨rfl, hB3⟩
  rw [hx.out]
  have B3 := belowT B2 hB3
  have d0 : decide (0 + 2 ≤ b.length) = true := by simp; omega
  replace q0 := cellT hB3 q0
  replace q1 := cellT hB3 q1
  replace q2 := cellT hB3 q2
  replace f0 := frozenT hB3 hlt f0
  replace f1 := frozenT hB3 hlt f1
  replace f2 := frozenT hB3 hlt f2
  replace hlt := Nat.lt_of_lt_of_le hlt hB3.size
  replace c6 := (B3.cell hbb).trans c6
  have hne : w.heap.size ≠ bb := by omega
  clear hB3 B2
  go_wp2_with fail
  have w1' : IntKind.i64.wrap (6 + (n : Int)) = 6 + (n : Int) := IntWalk.i64_in _ (by omega)
  have w2' : IntKind.u16.wrap (x : Int) = (x : Int) := IntWalk.u16_in _ (by omega)
  have w3' : (6 + (n : Int)).toNat = 6 + n := by omega
  have w4' : (7 : Int) ≤ 6 + (n : Int) := by omega
  have w5' : 6 + (n : Int) ≤ (c : Int) := by omega
  have w6' : (0 : Int) ≤ 6 + (n : Int) := by omega
  have w7' : ¬ (c = 7) := by omega
  have w8' : (6 : Int) < (b.length : Int) := by omega
  go_region_held3 (fun w' => w'.cell? ⟨bb, o + 6, none⟩ = some (.int .u8 y)) (first | assumption | (go_keep; done))
    ((go_at_call 72; refine (bytes_Clone _ _ _ (hcut.out.below (Below.drew B3)) (by simp; omega) (by simp; omega)).mono ?_; rintro e w4 ⟨v4, rfl, ho4, hB4⟩; obtain ⟨a4, k4, rfl, _⟩ := ho4.rd.open; have c6 := (hB4.cell (p := ⟨bb, o + 6, none⟩) (World.block_lt_of_cell? _ _ c6)).trans c6; have q0 := cellT hB4 (cell_drew q0); have q1 := cellT hB4 (cell_drew q1); have q2 := cellT hB4 (cell_drew q2); have f0 := frozenT hB4 (w := w3.drew) hlt f0; have f1 := frozenT hB4 (w := w3.drew) hlt f1; have f2 := frozenT hB4 (w := w3.drew) hlt f2))
  have hB5 : Below w.heap.size w w4 := (Below.drew B3).trans (hB4.mono (by have := hlt; simp; omega))
  have e1 : fLen b = 6 + (n : Int) := by unfold fLen; rw [if_pos hc'.out, hn.out]
  have e2 : fFrame b = ⟨UInt16.ofNat x, b[6], (b.drop 7).take (n - 1)⟩ := by
    unfold fFrame; rw [if_pos hc'.out, hx.out, hn.out]
    simp [List.getD, List.getElem?_eq_getElem (show 6 < b.length by omega)]
  have e3 : ((UInt16.ofNat x).toNat : Int) = x := by rw [UInt16.toNat_ofNat']; omega
  have e1' := Lib.hid e1
  have e2' := Lib.hid e2
  have e4 : 6 + n - 7 = n - 1 := by omega
  have e5 := Lib.hid e3
  clear e1 e2 e3 w1' w2' w3' w4' w5' w6' w7'
  go_wp2
  refine bodyPost_ret (v := .tuple #[.agg #[.int .u16 (x : Int), .int .u8 y, .slice a4 (List.take (6 + n - 7) (List.drop 7 b)).length k4], .int .i64 (6 + (n : Int)), .int .i64 0]) (by simp [results, Try.results55, go_sem, q0, q1, q2]) rfl ?_
  rw [e1'.out, e2'.out]
  refine ⟨_, rfl, ⟨.slice a4 (List.take (6 + n - 7) (List.drop 7 b)).length k4, ?_, ?_⟩, belowS (belowS (belowS hB5 (Nat.le_refl _)) (Nat.le_refl _)) (Nat.le_refl _)⟩
  · rw [e5.out, hy.out]
  · rw [← e4]; exact (own_set_other (own_set_other (own_set_other ho4 (by simpa using hlt)) (by simpa using hlt)) (by simpa using hlt)).rd
theorem mbap_Read (v : Value) (b : List UInt8) (w : World) (h : RdV encB w v b) (hl : b.length ≤ 100000) :
    Calls Try.prog 55 #[v] w fun e w' => ∃ fv, e = .returned (.tuple #[fv, .int .i64 (fLen b), .int .i64 (fCode b)]) ∧ RdF w' fv (fFrame b) ∧ Below w.heap.size w w' := by
  by_cases hc : fCode b = 0
  · refine (mbap_Read_ok v b w h hl hc).mono fun e w' he => ?_
    rw [hc]; exact he
  · refine (mbap_Read_bad v b w h hl hc).mono fun e w' ⟨he, hB⟩ => ?_
    rw [show fLen b = 0 by unfold fLen; rw [if_neg hc], show fFrame b = ⟨0, 0, []⟩ by unfold fFrame; rw [if_neg hc]]
    exact ⟨_, he, ⟨.slice none 0 0, rfl, RdV.nil encB w'⟩, hB⟩
end Go.Proofs.Ytigfninpflemnaa
