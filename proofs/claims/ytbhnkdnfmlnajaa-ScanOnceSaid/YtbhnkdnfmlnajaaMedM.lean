/- vote.Median, walked: its contract of the old kind. -/
import Derived.Test.YtbhnkdnfmlnajaaMedS
import Derived.Test.YtbhnkdnfmlnajaaPlainV
namespace Go.Proofs.Ytbhnkdnfmlnajaa
open Go Go.RowKit Go.Sort
set_option linter.unusedSimpArgs false
set_option linter.unusedVariables false
theorem take_putC (enc : Int → Value) (cur : Array Value) (d : Array Int) (h : d.size ≤ cur.size) (j : Nat) (hj : j < d.size) : (putCells enc 0 d cur)[j]? = some (enc d[j]!) := by
  have h2 : j < cur.size := by omega
  simp [putCells, hj, h2]
set_option maxHeartbeats 1000000 in
set_option maxRecDepth 100000 in
theorem bitsLen64_w (x : Int) (w : World) (h0 : 0 ≤ x) (h1 : x ≤ 12) : Calls Try.prog 163 #[.int .u64 x] w fun e w' => (∃ k : Int, e = .returned (.int .i64 k)) ∧ w' = w := by
  have hx : x = 0 ∨ x = 1 ∨ x = 2 ∨ x = 3 ∨ x = 4 ∨ x = 5 ∨ x = 6 ∨ x = 7 ∨ x = 8 ∨ x = 9 ∨ x = 10 ∨ x = 11 ∨ x = 12 := by omega
  rcases hx with rfl | rfl | rfl | rfl | rfl | rfl | rfl | rfl | rfl | rfl | rfl | rfl | rfl
  all_goals
    go_enter Try.func163, Try.ntmps163
    go_wp2
    go_ret
    exact ⟨⟨_, rfl⟩, rfl⟩
set_option maxHeartbeats 1000000 in
theorem bitsLen_w (x : Int) (w : World) (h0 : 0 ≤ x) (h1 : x ≤ 12) : Calls Try.prog 138 #[.int .u64 x] w fun e w' => (∃ k : Int, e = .returned (.int .i64 k)) ∧ w' = w := by
  go_enter Try.func138, Try.ntmps138
  go_wp2_with (go_at_call 163; refine (bitsLen64_w _ _ h0 h1).mono ?_; rintro e w' ⟨⟨k, rfl⟩, rfl⟩)
  go_ret
  exact ⟨⟨k, rfl⟩, rfl⟩
set_option maxHeartbeats 1000000 in
theorem sort_w (blk off cap : Nat) (d : Array Int) (w : World) (hH : Holds (Value.int .u16) w blk off d) (hsz : d.size ≤ 12) :
    Calls Try.prog 132 #[.slice (some ⟨blk, off, none⟩) d.size cap] w fun e w' =>
      e = .returned (.tuple #[]) ∧ ∃ n, w' = putRow (Value.int .u16) (Sort.ahead w n) blk off (Sort.insertionSort ltInt d 0 d.size) := by
  have hl := fun w => bitsLen_w d.size w (by omega) (by omega)
  have hp := fun k => pdq_w blk off cap k d w hH hsz
  go_enter Try.func132, Try.ntmps132
  go_wp2_with (first
    | (go_at_call 138; refine (hl _).mono ?_; rintro e w' ⟨⟨k, rfl⟩, rfl⟩)
    | (go_at_call 137; refine (hp _).mono ?_; rintro e w' ⟨rfl, n, rfl⟩))
  go_end0
  exact ⟨rfl, n, rfl⟩
theorem ownsRow_put {w : World} {g n : Nat} {e : TypeId} {cur : Array Value} (d d' : Array Int) (hl : d'.size = d.size) (hb : w.heap[g]? = some (.cells cur e (0, 0))) (h3 : d.size ≤ cur.size) :
    (∀ j, j < d.size → (putRow (Value.int .u16) (Sort.ahead w n) g 0 d').cell? ⟨g, j, none⟩ = some (.int .u16 d'[j]!)) ∧ w.grownBy (putRow (Value.int .u16) (Sort.ahead w n) g 0 d') (some g) := by
  refine ⟨fun j hj => ?_, rfl, rfl, rfl, by simp [putRow, mapBlock, Sort.ahead], fun k hk hne => ?_⟩
  · have h1 : (putRow (Value.int .u16) (Sort.ahead w n) g 0 d').heap[g]? = some (.cells (putCells (Value.int .u16) 0 d' cur) e (0, 0)) := by
      simp [putRow, mapBlock, Sort.ahead, Array.getElem?_modify, hb, onCells]
    have h2 := take_putC (Value.int .u16) cur d' (by omega) j (by omega)
    simp only [World.cell?, h1]
    simpa using h2
  · have : g ≠ k := fun e => hne (by rw [e])
    simp [putRow, mapBlock, Sort.ahead, Array.getElem?_modify, this]
set_option maxHeartbeats 1000000 in
/-- slices.Sorted(slices.Values(zs)): what stands in the middle -/
theorem sorted_w (Bs : Nat) (sv : Value) (zs : List Int) (h0 : 0 < zs.length) (hlen : zs.length ≤ 12) (w : World) (hBs : Bs < w.heap.size) (hc : w.cell? ⟨Bs, 0, none⟩ = some sv) (hI : Wds w.heap.size w sv zs) :
    Calls Try.prog 124 #[.func (.func 133) #[] #[.pointer (some ⟨Bs, 0, none⟩)]] w fun e w' => ∃ g cap, e = .returned (.slice (some ⟨g, 0, none⟩) zs.length cap) ∧
      (∀ j, j < zs.length → w'.cell? ⟨g, j, none⟩ = some (.int .u16 (Sort.insertionSort ltInt zs.toArray 0 zs.length)[j]!)) ∧ Below w.heap.size w w' := by
  have hcol := callsIn_wide.1 (collect_in .wide 3 trivial trivial trivial rfl (by omega) Bs sv zs (by omega) w hBs hc hI)
  have hss : (Sort.insertionSort ltInt zs.toArray 0 zs.length).size = zs.toArray.size := (insertionSort_holds (lt := ltInt) swo_ltInt zs.toArray 0 zs.length (by omega) (by simp)).1.1
  go_enter Try.func124, Try.ntmps124
  go_wp2_with (go_at_call 131; refine hcol.mono ?_; rintro e w1 ⟨v, rfl, hrow, hb⟩)
  rcases hrow.2 with ⟨rfl, hz⟩ | ⟨g, cap, cur, rfl, hbase, hg, r1, r2, r3, r4⟩
  · omega
  · have hH : Holds (Value.int .u16) w1 g 0 zs.toArray := by
      intro j hj
      have hj' : j < zs.length := by simpa using hj
      refine ⟨?_, by simp [World.frozen?, hg]⟩
      have h1 := hrow.cellAt j (by omega)
      simpa [hj'] using h1
    have cS := sort_w g 0 cap zs.toArray w1 hH (by simpa using hlen)
    simp only [List.size_toArray] at cS
    go_wp2_with (go_at_call 132; refine cS.mono ?_; rintro e w' ⟨rfl, nn, rfl⟩)
    obtain ⟨c1, c2⟩ := ownsRow_put (n := nn) zs.toArray (Sort.insertionSort ltInt zs.toArray 0 zs.length) hss hg (by simp; omega)
    go_ret
    exact ⟨g, cap, rfl, fun j hj => c1 j (by simpa using hj), hb.grown c2 hb.size (fun j hj => by cases hj; exact hbase)⟩
theorem mid3 (a b c : Int) : (Sort.insertionSort ltInt #[a, b, c] 0 3)[1]! = max (min a b) (min (max a b) c) := by
  unfold Sort.insertionSort
  by_cases h1 : b < a <;> by_cases h2 : c < a <;> by_cases h3 : c < b <;> simp [insOuter, insInner, swp, ltInt, h1, h2, h3] <;> omega
def ofWm (l : List UInt16) : List Int := l.map fun c => (c.toNat : Int)
theorem medI_many (l : List Int) (h : 4 ≤ l.length) : medI l = (0, false) := by
  match l, h with
  | _ :: _ :: _ :: _ :: _, _ => rfl
  | [_, _, _], h => simp at h
  | [_, _], h => simp at h
  | [_], h => simp at h
  | [], h => simp at h
set_option maxHeartbeats 4000000 in
set_option maxRecDepth 100000 in
theorem median_w (v : Value) (l : List UInt16) (w : World) (h : RdV encW w v l) (hl : l.length ≤ 100000) :
    Calls Try.prog 116 #[v] w fun e w' => e = .returned (.tuple #[.int .u16 (medI (ofWm l)).1, .bool (medI (ofWm l)).2]) ∧ Below w.heap.size w w' := by
  match l, h, hl with
  | [], h, hl =>
    obtain ⟨A, c, rfl, _, _, _⟩ := h.open
    go_enter Try.func116, Try.ntmps116
    go_wp2
    go_ret2
    exact ⟨rfl, Below.refl _ _⟩
  | [a], h, hl =>
    obtain ⟨b, o, c, rfl, hc⟩ := h.each (by simp)
    have c0 := hc 0 (by simp)
    simp only [Nat.add_zero, List.getElem_cons_zero, encW] at c0
    go_enter Try.func116, Try.ntmps116
    go_wp2
    go_ret2
    exact ⟨rfl, Below.refl _ _⟩
  | [a, b], h, hl =>
    obtain ⟨bb, o, c, rfl, hc⟩ := h.each (by simp)
    have c0 := hc 0 (by simp)
    have c1 := hc 1 (by simp)
    simp only [Nat.add_zero, List.getElem_cons_zero, List.getElem_cons_succ, encW] at c0 c1
    clear hc h
    go_enter Try.func116, Try.ntmps116
    go_wp2
    go_region
    all_goals go_wp2
    go_ret2
    refine ⟨?_, belowN (Below.refl _ w) 1⟩
    have ha : (0 : Int) ≤ (a.toNat : Int) ∧ (a.toNat : Int) < 65536 := ⟨by omega, by have := a.toNat_lt; omega⟩
    have hb : (0 : Int) ≤ (b.toNat : Int) ∧ (b.toNat : Int) < 65536 := ⟨by omega, by have := b.toNat_lt; omega⟩
    have e1 : IntKind.wrap .u16 (andI .u16 a.toNat b.toNat + xorI .u16 a.toNat b.toNat / 2) = ((a.toNat : Int) + b.toNat) / 2 := by
      rw [(mid_two _ _ ha hb).1]
      exact wrap_u16_id _ (by omega) (by omega)
    have e2 : (medI (ofWm [a, b])) = (IntKind.wrap .u16 (andI .u16 a.toNat b.toNat + xorI .u16 a.toNat b.toNat / 2), true) := by
      rw [e1]
      rfl
    rw [e2]
    rfl
  | [a, b, c], h, hl =>
    obtain ⟨bb, o, cp, rfl, hc⟩ := h.each (by simp)
    have c0 := hc 0 (by simp)
    have c1 := hc 1 (by simp)
    have c2 := hc 2 (by simp)
    simp only [Nat.add_zero, List.getElem_cons_zero, List.getElem_cons_succ, encW] at c0 c1 c2
    have hb : bb < w.heap.size := World.block_lt_of_cell? w _ c0
    have hV := callsIn_wide.1 (values_in .wide 1 trivial rfl (some ⟨bb, o, none⟩) 3 cp w)
    have hS := sorted_w w.heap.size (.slice (some ⟨bb, o, none⟩) 3 cp) [(a.toNat : Int), (b.toNat : Int), (c.toNat : Int)] (by simp) (by simp) (w.alloc (.cells #[.slice (some ⟨bb, o, none⟩) 3 cp] 56)) (by simp) (cell_made 0 _ rfl)
      ⟨bb, o, cp, rfl, by simp; omega, fun j hj => by
        have hb0 : Below w.heap.size w (w.alloc (.cells #[.slice (some ⟨bb, o, none⟩) 3 cp] 56)) := (Below.refl _ w).alloc (Nat.le_refl _) _
        have hj3 : j = 0 ∨ j = 1 ∨ j = 2 := by simp at hj; omega
        rcases hj3 with rfl | rfl | rfl
        · exact (hb0.cell (p := ⟨bb, o + 0, none⟩) hb).trans c0
        · exact (hb0.cell (p := ⟨bb, o + 1, none⟩) hb).trans c1
        · exact (hb0.cell (p := ⟨bb, o + 2, none⟩) hb).trans c2⟩
    have hm := mid3 a.toNat b.toNat c.toNat
    simp only [List.length_cons, List.length_nil, Nat.zero_add, Nat.reduceAdd] at hS hV ⊢
    go_enter Try.func116, Try.ntmps116
    go_wp2_with (first
      | (go_at_call 125; refine hV.mono ?_; rintro e w1 ⟨rfl, rfl⟩)
      | (go_at_call 124; refine hS.mono ?_; rintro e w1 ⟨g, cap, rfl, hcl, hbl⟩; have hc1 := hcl 1 (by omega)))
    go_ret2
    refine ⟨?_, ((Below.refl _ w).alloc (Nat.le_refl _) _).trans (hbl.mono (by simp))⟩
    rfl
  | a :: b :: c :: d :: l, h, hl =>
    obtain ⟨bb, o, cp, rfl, hc⟩ := h.each (by simp)
    rw [medI_many _ (by simp [ofWm])]
    have hn : (a :: b :: c :: d :: l).length = l.length + 4 := rfl
    rw [hn]
    go_enter Try.func116, Try.ntmps116
    go_wp2
    go_ret2
    exact ⟨rfl, Below.refl _ _⟩
end Go.Proofs.Ytbhnkdnfmlnajaa
