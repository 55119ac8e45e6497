/- The statements of layer 1, walked: each returns true. -/
import Derived.Test.YtigfninpflemnaaRefA
import Derived.Lib.SlBytesConst
namespace Go.Proofs.Ytigfninpflemnaa
open Go.RowKit

/-- what Cut tells of bytes -/
def crcCut (l : List UInt8) : Bool × List UInt8 := if 2 ≤ l.length ∧ crcMore 65535 l = 0 then (true, l.take (l.length - 2)) else (false, [])
theorem crc_Cut (v : Value) (l : List UInt8) (w : World) (h : RdV encB w v l) (hl : l.length ≤ 100000) :
    Calls Try.prog 16 #[v] w fun e w' => ∃ v', e = .returned (.tuple #[v', .bool (crcCut l).1]) ∧ RdV encB w' v' (crcCut l).2 ∧ Below w.heap.size w w' := by
  by_cases hc : 2 ≤ l.length ∧ crcMore 65535 l = 0
  · refine (crc_Cut_yes v l w h hc.1 hc.2 hl).mono ?_
    rintro e w' ⟨v', rfl, ho, hB⟩
    unfold crcCut; rw [if_pos hc]
    exact ⟨v', rfl, ho.rd, hB⟩
  · refine (crc_Cut_no v l w h (by rcases Nat.lt_or_ge l.length 2 with h | h; exact .inl h; exact .inr fun hz => hc ⟨h, hz⟩)).mono ?_
    rintro e w' ⟨rfl, rfl⟩
    unfold crcCut; rw [if_neg hc]
    exact ⟨_, rfl, RdV.nil _ _, Below.refl _ _⟩
theorem ref_Cut (v : Value) (l : List UInt8) (w : World) (h : RdV encB w v l) (hl : l.length ≤ 100000) :
    Calls Try.prog 17 #[v] w fun e w' => ∃ v', e = .returned (.tuple #[v', .bool (crcCut l).1]) ∧ RdV encB w' v' (crcCut l).2 ∧ Below w.heap.size w w' := by
  by_cases hc : 2 ≤ l.length ∧ crcMore 65535 l = 0
  · refine (ref_Cut_yes v l w h hc.1 hc.2 hl).mono ?_
    rintro e w' ⟨v', rfl, ho, hB⟩
    unfold crcCut; rw [if_pos hc]
    exact ⟨v', rfl, ho.rd, hB⟩
  · refine (ref_Cut_no v l w h (by rcases Nat.lt_or_ge l.length 2 with h | h; exact .inl h; exact .inr fun hz => hc ⟨h, hz⟩) hl).mono ?_
    rintro e w' ⟨rfl, hB⟩
    unfold crcCut; rw [if_neg hc]
    exact ⟨_, rfl, RdV.nil _ _, hB⟩

theorem crcPut_front (l : List UInt8) : (crcPut l).take ((crcPut l).length - 2) = l := by simp [crcPut]
theorem crcPut_len (l : List UInt8) : (crcPut l).length = l.length + 2 := by simp [crcPut]
set_option maxHeartbeats 400000 in
set_option maxRecDepth 100000 in
theorem awakeA (w : World) : Calls Try.prog 15 #[] w fun e w' => e = .returned (.bool true) ∧ Below w.heap.size w w' := by
  have hsum : (crcMore 65535 [49, 50, 51, 52, 53, 54, 55, 56, 57] == 19255) = true := by decide +kernel
  have hsum' := Lib.hid hsum
  clear hsum
  have kc := fun (w : World) (C : Array Value) (n c : Nat) => Lib.run_convert_bytes_const (P := Try.prog) w 23 5 C n c Try.underlying23 Try.underlying5
  go_enter Try.func15, Try.ntmps15
  go_wp2_with fail
  refine (crc_Put _ [1, 2] _ (RdV.lit encB _ _ _ _ _ _ rfl (Nat.le_refl _) (by simp) rfl) (by simp)).mono ?_
  rintro e w1 ⟨v1, rfl, ho1, hB1⟩
  go_wp2_with fail
  refine (crc_Cut_yes _ _ _ ho1.rd (by simp [crcPut_len]) (crcPut_zero _) (by simp [crcPut_len])).mono ?_
  rintro e w2 ⟨v2, rfl, ho2, hB2⟩
  rw [crcPut_front] at ho2
  obtain ⟨a2, c2, rfl, _, _, hl2⟩ := ho2.rd.open
  obtain ⟨b2, o2, rfl, hcell⟩ := hl2.resolve_left (by simp)
  have hx := hcell 1 (by simp)
  simp only [encB] at hx
  have hlt := World.block_lt_of_cell? _ _ hx
  clear hcell hl2
  simp only [] at hlt
  go_wp2_with fail
  refine (crc_Cut_no _ [1, 2, 3] _ (RdV.lit encB _ _ _ _ _ _ rfl (Nat.le_refl _) (by simp) rfl) (.inr (by decide +kernel))).mono ?_
  rintro e w3 ⟨rfl, hw3⟩
  have hB3 : Below w2.heap.size w2 w3 := hw3 ▸ (Below.refl _ _).alloc (Nat.le_refl _) _
  have hx3 := (hB3.cell (p := ⟨b2, o2 + 1, none⟩) hlt).trans hx
  have hlt3 := Nat.lt_of_lt_of_le hlt hB3.size
  clear hw3 hx hlt
  go_wp2_with fail
  refine (crc_Sum _ [49, 50, 51, 52, 53, 54, 55, 56, 57] _ (RdV.litz encB _ _ _ _ _ _ _ rfl (Nat.le_refl _) (by simp) rfl)).mono ?_
  rintro e w4 ⟨rfl, rfl⟩
  have hsum := hsum'.out
  go_wp2
  go_ret
  exact ⟨rfl, (((((Below.refl _ w).alloc (Nat.le_refl _) _).trans (hB1.mono (by simp))).trans (hB2.mono (by have := hB1.size; simp at this; omega))).trans (hB3.mono (by have := hB1.size; have := hB2.size; simp at *; omega))).alloc (by have := hB1.size; have := hB2.size; have := hB3.size; simp at *; omega) _⟩

set_option maxRecDepth 100000 in
set_option maxHeartbeats 400000 in
theorem CrcSums_walk (s : Int) (v : Value) (l : List UInt8) (w : World) (hw : (Lit.int .u16 s).wf = true) (h : RdV encB w v l) :
    Calls Try.prog 3 #[.int .u16 s, v] w fun e w' => e = .returned (.bool true) ∧ Below w.heap.size w w' := by
  have hs := Lib.hid h
  have h0 := (bounds_u16 hw).1
  have h1 : s < 65536 := by have := (bounds_u16 hw).2; omega
  clear hw
  obtain ⟨a, c, rfl, hc, hm, hcl⟩ := h.open
  clear h hcl
  by_cases hl : 600 < l.length
  · go_enter Try.func3, Try.ntmps3
    go_wp2_with (go_at_call 15; refine (awakeA _).mono ?_; rintro e w1 ⟨rfl, hB1⟩)
    go_ret
    exact ⟨rfl, hB1⟩
  · go_enter Try.func3, Try.ntmps3
    go_wp2_with fail
    refine (awakeA _).mono ?_
    rintro e w1 ⟨rfl, hB1⟩
    have hs1 := Lib.hid (hs.out.below hB1)
    go_wp2_with fail
    refine (crc_Cut _ l _ hs1.out (by omega)).mono ?_
    rintro e w2 ⟨x2, rfl, hr2, hB2⟩
    have hs2 := Lib.hid (hs1.out.below hB2)
    have hr2' := Lib.hid hr2
    clear hr2
    go_wp2_with fail
    refine (ref_Cut _ l _ hs2.out (by omega)).mono ?_
    rintro e w3 ⟨x3, rfl, hr3, hB3⟩
    have hs3 := Lib.hid (hs2.out.below hB3)
    have hr23 := Lib.hid (hr2'.out.below hB3)
    have hr33 := Lib.hid hr3
    clear hr3
    go_wp2_with fail
    refine (crc_Put _ l _ hs3.out (by omega)).mono ?_
    rintro e w4 ⟨x4, rfl, ho4, hB4⟩
    have hs4 := Lib.hid (hs3.out.below hB4)
    have ho44 := Lib.hid ho4
    clear ho4
    go_wp2_with fail
    refine (ref_Put _ l _ hs4.out (by omega)).mono ?_
    rintro e w5 ⟨x5, rfl, ho5, hB5⟩
    have hs5 := Lib.hid (hs4.out.below hB5)
    have ho55 := Lib.hid ho5
    clear ho5
    go_wp2_with fail
    refine (ref_Same _ _ _ _ _ (ho44.out.rd.below hB5) ho55.out.rd).mono ?_
    rintro e w6 ⟨rfl, n6, rfl⟩
    rw [show decide (crcPut l = crcPut l) = true by simp]
    go_wp2_with fail
    refine (ref_Same _ _ _ _ _ (((hr23.out.below hB4).below hB5).drewN n6) (((hr33.out.below hB4).below hB5).drewN n6)).mono ?_
    rintro e w7 ⟨rfl, n7, rfl⟩
    rw [show decide ((crcCut l).2 = (crcCut l).2) = true by simp]
    go_wp2_with fail
    refine (crc_Sum _ l _ (hs5.out.drewN _)).mono ?_
    rintro e w8 ⟨rfl, rfl⟩
    go_wp2_with fail
    refine (ref_Sum _ l _ (hs5.out.drewN _)).mono ?_
    rintro e w9 ⟨rfl, n9, rfl⟩
    go_wp2_with fail
    refine (crc_More _ _ l _ (hs5.out.drewN _)).mono ?_
    rintro e w10 ⟨rfl, rfl⟩
    go_wp2_with fail
    refine (ref_More _ _ l _ (hs5.out.drewN _) h0 h1).mono ?_
    rintro e w11 ⟨rfl, n11, rfl⟩
    rw [refMore_is _ _ h0 h1]
    go_wp2
    go_ret
    exact ⟨rfl, belowN (((((hB1.trans (hB2.mono hB1.size)).trans (hB3.mono (Nat.le_trans hB1.size hB2.size))).trans (hB4.mono (by have := hB1.size; have := hB2.size; have := hB3.size; omega))).trans (hB5.mono (by have := hB1.size; have := hB2.size; have := hB3.size; have := hB4.size; omega)))) _⟩
end Go.Proofs.Ytigfninpflemnaa
