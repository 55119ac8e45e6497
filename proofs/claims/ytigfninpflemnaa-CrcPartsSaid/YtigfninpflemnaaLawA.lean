/- The statements of layer 1, walked: each returns true. -/
import Derived.Test.YtigfninpflemnaaRefA
import Derived.Lib.SlBytesConst
namespace Go.Proofs.Ytigfninpflemnaa
open Go.RowKit

/-- what Cut tells of bytes -/
def crcCut (l : List UInt8) : Bool × List UInt8 := if 2 ≤ l.length ∧ crcMore 65535 l = 0 then (true, l.take (l.length - 2)) else (false, [])
theorem crc_Cut (v : Value) (l : List UInt8) (w : World) (h : RdV encB w v l) (hl : l.length ≤ 100000) :
    Calls Try.prog 16 #[v] w fun e w' => ∃ v', e = .returned (.tuple #[v', .bool (crcCut l).1]) ∧ RdV encB w' v' (crcCut l).2 ∧ Below w.heap.size w w' := by
  by_cases hc : 2 ≤ l.length ∧ crcMore 65535 l = 0
  · refine (crc_Cut_yes v l w h hc.1 hc.2 hl).mono ?_
    rintro e w' ⟨v', rfl, ho, hB⟩
    unfold crcCut; rw [if_pos hc]
    exact ⟨v', rfl, ho.rd, hB⟩
  · refine (crc_Cut_no v l w h (by rcases Nat.lt_or_ge l.length 2 with h | h; exact .inl h; exact .inr fun hz => hc ⟨h, hz⟩)).mono ?_
    rintro e w' ⟨rfl, rfl⟩
    unfold crcCut; rw [if_neg hc]
    exact ⟨_, rfl, RdV.nil _ _, Below.refl _ _⟩
theorem ref_Cut (v : Value) (l : List UInt8) (w : World) (h : RdV encB w v l) (hl : l.length ≤ 100000) :
    Calls Try.prog 17 #[v] w fun e w' => ∃ v', e = .returned (.tuple #[v', .bool (crcCut l).1]) ∧ RdV encB w' v' (crcCut l).2 ∧ Below w.heap.size w w' := by
  by_cases hc : 2 ≤ l.length ∧ crcMore 65535 l = 0
  · refine (ref_Cut_yes v l w h hc.1 hc.2 hl).mono ?_
    rintro e w' ⟨v', rfl, ho, hB⟩
    unfold crcCut; rw [if_pos hc]
    exact ⟨v', rfl, ho.rd, hB⟩
  · refine (ref_Cut_no v l w h (by rcases Nat.lt_or_ge l.length 2 with h | h; exact .inl h; exact .inr fun hz => hc ⟨h, hz⟩) hl).mono ?_
    rintro e w' ⟨rfl, hB⟩
    unfold crcCut; rw [if_neg hc]
    exact ⟨_, rfl, RdV.nil _ _, hB⟩

theorem crcPut_front (l : List UInt8) : (crcPut l).take ((crcPut l).length - 2) = l := by simp [crcPut]
theorem crcPut_len (l : List UInt8) : (crcPut l).length = l.length + 2 := by simp [crcPut]
set_option maxHeartbeats 400000 in
set_option maxRecDepth 100000 in
theorem awakeA (w : World) : Calls Try.prog 15 #[] w fun e w' => e = .returned (.bool true) ∧ Below w.heap.size w w' := by
  have hsum : (crcMore 65535 [49, 50, 51, 52, 53, 54, 55, 56, 57] == 19255) = true := by decide +kernel
  have hsum' := Lib.hid hsum
  clear hsum
  have kc := fun (w : World) (C : Array Value) (n c : Nat) => Lib.run_convert_bytes_const (P := Try.prog) w 23 5 C n c Try.underlying23 Try.underlying5
  go_enter Try.func15, Try.ntmps15
  go_wp2_with fail
  refine (crc_Put _ [1, 2] _ (RdV.lit encB _ _ _ _ _ _ rfl (Nat.le_refl _) (by simp) rfl) (by simp)).mono ?_
  rintro e w1 ⟨v1, rfl, ho1, hB1⟩
  go_wp2_with fail
  refine (crc_Cut_yes _ _ _ ho1.rd (by simp [crcPut_len]) (crcPut_zero _) (by simp [crcPut_len])).mono ?_
  rintro e w2 ⟨v2, rfl, ho2, hB2⟩
  rw [crcPut_front] at ho2
  obtain ⟨a2, c2, rfl, _, _, hl2⟩ := ho2.rd.open
  obtain ⟨b2, o2, rfl, hcell⟩ := hl2.resolve_left (by simp)
  have hx := hcell 1 (by simp)
  simp only [encB] at hx
  have hlt := World.block_lt_of_cell? _ _ hx
  clear hcell hl2
  simp only [] at hlt
  go_wp2_with fail
  refine (crc_Cut_no _ [1, 2, 3] _ (RdV.lit encB _ _ _ _ _ _ rfl (Nat.le_refl _) (by simp) rfl) (.inr (by decide +kernel))).mono ?_
  rintro e w3 ⟨rfl, hw3⟩
  have hB3 : Below w2.heap.size w2 w3 := hw3 ▸ (Below.refl _ _).alloc (Nat.le_refl _) _
  have hx3 := (hB3.cell (p := ⟨b2, o2 + 1, none⟩) hlt).trans hx
  have hlt3 := Nat.lt_of_lt_of_le hlt hB3.size
  clear hw3 hx hlt
  go_wp2_with fail
  refine (crc_Sum _ [49, 50, 51, 52, 53, 54, 55, 56, 57] _ (RdV.litz encB _ _ _ _ _ _ _ rfl (Nat.le_refl _) (by simp) rfl)).mono ?_
  rintro e w4 ⟨rfl, rfl⟩
  have hsum := hsum'.out
  go_wp2
  go_ret
  exact ⟨rfl, belowA (belowT (belowT (belowT (belowA (Below.refl _ w) _) hB1) hB2) hB3) _⟩

set_option maxRecDepth 100000 in
set_option maxHeartbeats 400000 in
theorem CrcSums_walk (s : Int) (v : Value) (l : List UInt8) (w : World) (hw : (Lit.int .u16 s).wf = true) (h : RdV encB w v l) :
    Calls Try.prog 3 #[.int .u16 s, v] w fun e w' => e = .returned (.bool true) ∧ Below w.heap.size w w' := by
  have hs := Lib.hid h
  have h0 := (bounds_u16 hw).1
  have h1 : s < 65536 := by have := (bounds_u16 hw).2; omega
  clear hw
  obtain ⟨a, c, rfl, hc, hm, hcl⟩ := h.open
  clear h hcl
  by_cases hl : 600 < l.length
  · go_enter Try.func3, Try.ntmps3
    go_wp2_with (go_at_call 15; refine (awakeA _).mono ?_; rintro e w1 ⟨rfl, hB1⟩)
    go_ret
    exact ⟨rfl, hB1⟩
  · go_enter Try.func3, Try.ntmps3
    go_wp2_with fail
    refine (awakeA _).mono ?_
    rintro e w1 ⟨rfl, hB1⟩
    have hs1 := Lib.hid (hs.out.below hB1)
    go_wp2_with fail
    refine (crc_Cut _ l _ hs1.out (by omega)).mono ?_
    rintro e w2 ⟨x2, rfl, hr2, hB2⟩
    have hs2 := Lib.hid (hs1.out.below hB2)
    have hr2' := Lib.hid hr2
    clear hr2
    go_wp2_with fail
    refine (ref_Cut _ l _ hs2.out (by omega)).mono ?_
    rintro e w3 ⟨x3, rfl, hr3, hB3⟩
    have hs3 := Lib.hid (hs2.out.below hB3)
    have hr23 := Lib.hid (hr2'.out.below hB3)
    have hr33 := Lib.hid hr3
    clear hr3
    go_wp2_with fail
    refine (crc_Put _ l _ hs3.out (by omega)).mono ?_
    rintro e w4 ⟨x4, rfl, ho4, hB4⟩
    have hs4 := Lib.hid (hs3.out.below hB4)
    have ho44 := Lib.hid ho4
    clear ho4
    go_wp2_with fail
    refine (ref_Put _ l _ hs4.out (by omega)).mono ?_
    rintro e w5 ⟨x5, rfl, ho5, hB5⟩
    have hs5 := Lib.hid (hs4.out.below hB5)
    have ho55 := Lib.hid ho5
    clear ho5
    go_wp2_with fail
    refine (ref_Same _ _ _ _ _ (ho44.out.rd.below hB5) ho55.out.rd).mono ?_
    rintro e w6 ⟨rfl, n6, rfl⟩
    rw [show decide (crcPut l = crcPut l) = true by simp]
    go_wp2_with fail
    refine (ref_Same _ _ _ _ _ (((hr23.out.below hB4).below hB5).drewN n6) (((hr33.out.below hB4).below hB5).drewN n6)).mono ?_
    rintro e w7 ⟨rfl, n7, rfl⟩
    rw [show decide ((crcCut l).2 = (crcCut l).2) = true by simp]
    go_wp2_with fail
    refine (crc_Sum _ l _ (hs5.out.drewN _)).mono ?_
    rintro e w8 ⟨rfl, rfl⟩
    go_wp2_with fail
    refine (ref_Sum _ l _ (hs5.out.drewN _)).mono ?_
    rintro e w9 ⟨rfl, n9, rfl⟩
    go_wp2_with fail
    refine (crc_More _ _ l _ (hs5.out.drewN _)).mono ?_
    rintro e w10 ⟨rfl, rfl⟩
    go_wp2_with fail
    refine (ref_More _ _ l _ (hs5.out.drewN _) h0 h1).mono ?_
    rintro e w11 ⟨rfl, n11, rfl⟩
    rw [refMore_is _ _ h0 h1]
    go_wp2
    go_ret
    exact ⟨rfl, belowN (belowT (belowT (belowT (belowT hB1 hB2) hB3) hB4) hB5) _⟩

set_option maxRecDepth 100000 in
set_option maxHeartbeats 400000 in
theorem CrcParts_walk (v1 : Value) (l1 : List UInt8) (v2 : Value) (l2 : List UInt8) (w : World) (h1 : RdV encB w v1 l1) (h2 : RdV encB w v2 l2) :
    Calls Try.prog 4 #[v1, v2] w fun e w' => e = .returned (.bool true) ∧ Below w.heap.size w w' := by
  obtain ⟨a1, c1, rfl, hc1, hm1, _⟩ := h1.open
  obtain ⟨a2, c2, rfl, hc2, hm2, _⟩ := h2.open
  by_cases hl : l1.length ≤ 400 ∧ l2.length ≤ 400
  · obtain ⟨k1, k2⟩ := hl
    go_enter Try.func4, Try.ntmps4
    go_wp2_with fail
    refine (awakeA _).mono ?_
    rintro e w1 ⟨rfl, hB1⟩
    go_wp2_with (at_builtin; refine wp_app (enc := encB) (l := []) (m := l1) encB_one rfl (.tmp 21) (.tmp 22) _ rfl _ _ _ Try.underlying23 infoB rfl w1.heap.size _ rfl ?a1 _ rfl ?a2 ?a3 (by omega) (by simp) ?a4)
    case a1 => exact Own.lit encB _ _ _ (Nat.le_refl _) [] _ _ rfl (by simp) rfl
    case a2 => exact (h1.below hB1).alloc _
    case a3 => simp; omega
    intro x2 w2 ho2 hg2
    have hB2 := belowG (belowA (Below.refl _ w1) _) hg2 (by simp [Value.ownBlock])
    clear hg2
    go_wp2_with (at_builtin; refine wp_app (enc := encB) (l := l1) (m := l2) encB_one rfl (.tmp 23) (.tmp 24) _ rfl _ _ _ Try.underlying23 infoB rfl w1.heap.size _ rfl ho2 _ rfl ?b2 ?b3 (by omega) hB2.size ?b4)
    case b2 => exact (h2.below hB1).below hB2
    case b3 => omega
    intro x3 w3 ho3 hg3
    have hB3 := belowT hB1 (belowG hB2 hg3 (fun k hk => (ho2.base k hk).1))
    have ho3' : RdV encB w3 x3 (l1 ++ l2) := by simpa using ho3.rd
    clear hg3 ho3
    have hlen : (l1 ++ l2).length ≤ 800 := by simp; omega
    generalize hL : l1 ++ l2 = L at *
    have hL' := Lib.hid hL
    clear hL
    obtain ⟨a3, c3, rfl, hc3, hm3, _⟩ := ho3'.open
    go_wp2_with fail
    refine (crc_Put _ L _ ho3' (by omega)).mono ?_
    rintro e w4 ⟨x4, rfl, ho4, hB4⟩
    obtain ⟨a4, c4, rfl, hc4, hm4, _⟩ := ho4.rd.open
    go_wp2_with fail
    refine (crc_Cut_yes _ _ _ ho4.rd (by simp [crcPut_len]) (crcPut_zero _) (by simp only [crcPut_len]; omega)).mono ?_
    rintro e w5 ⟨x5, rfl, ho5, hB5⟩
    rw [crcPut_front] at ho5
    go_wp2_with fail
    refine (ref_Same _ _ _ _ _ ho5.rd ((ho3'.below hB4).below hB5)).mono ?_
    rintro e w6 ⟨rfl, n6, rfl⟩
    rw [show decide (L = L) = true by simp]
    have hB6 := belowT (belowT hB3 hB4) hB5
    go_wp2_with fail
    refine (crc_Sum _ l1 _ ((h1.below hB6).drewN _)).mono ?_
    rintro e w7 ⟨rfl, rfl⟩
    go_wp2_with fail
    refine (crc_More _ _ l2 _ ((h2.below hB6).drewN _)).mono ?_
    rintro e w8 ⟨rfl, rfl⟩
    rw [← crcMore_append, hL'.out]
    go_wp2_with fail
    refine (crc_Sum _ L _ (((ho3'.below hB4).below hB5).drewN _)).mono ?_
    rintro e w9 ⟨rfl, rfl⟩
    go_wp2_with fail
    refine (crc_Sum _ _ _ ((ho4.rd.below hB5).drewN _)).mono ?_
    rintro e w10 ⟨rfl, rfl⟩
    rw [crcPut_zero]
    have hlen2 := crcPut_len L
    go_wp2
    go_ret
    exact ⟨rfl, belowN hB6 _⟩
  · have hl' := Lib.hid hl
    clear hl
    by_cases k1 : l1.length ≤ 400
    · have k2 : 400 < l2.length := by have := hl'.out; omega
      go_enter Try.func4, Try.ntmps4
      go_wp2_with (go_at_call 15; refine (awakeA _).mono ?_; rintro e w1 ⟨rfl, hB1⟩)
      go_ret
      exact ⟨rfl, hB1⟩
    · go_enter Try.func4, Try.ntmps4
      go_wp2_with (go_at_call 15; refine (awakeA _).mono ?_; rintro e w1 ⟨rfl, hB1⟩)
      go_ret
      exact ⟨rfl, hB1⟩
end Go.Proofs.Ytigfninpflemnaa
