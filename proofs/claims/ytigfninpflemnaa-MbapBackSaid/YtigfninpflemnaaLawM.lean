/- The statements of layer 4, walked: each returns true. -/
import Derived.Test.YtigfninpflemnaaPlainM
import Derived.Test.YtigfninpflemnaaRefA
namespace Go.Proofs.Ytigfninpflemnaa
open Go.RowKit

set_option maxRecDepth 100000 in
set_option maxHeartbeats 1600000 in
theorem awakeM (w : World) : Calls Try.prog 52 #[] w fun e w' => e = .returned (.bool true) ∧ Below w.heap.size w w' := by
  go_enter Try.func52, Try.ntmps52
  go_wp2_with fail
  refine (mbap_Bytes_ok _ ⟨1, 2, [3]⟩ _ ⟨_, rfl, RdV.lit encB _ _ _ _ _ _ rfl (Nat.le_refl _) (by simp) rfl⟩ (by simp) (by simp)).mono ?_
  rintro e w1 ⟨x1, rfl, ho1, hB1, A1, N1, rfl⟩
  obtain ⟨L, hL⟩ : ∃ L, Hid (L = fBytes ⟨1, 2, [3]⟩) := ⟨_, Lib.hid rfl⟩
  rw [← hL.out] at ho1
  have hlen : L.length = 8 := by rw [hL.out]; decide
  have B1 := belowT (belowA (Below.refl _ w) _) hB1
  obtain ⟨b1, o1, c1, he, hcell⟩ := ho1.rd.each (by omega)
  injection he with e1 e2 e3
  subst e1; subst e2; subst e3
  have k1 := hcell 1 (by omega)
  have k5 := hcell 5 (by omega)
  have k7 := hcell 7 (by omega)
  have hev : encB (L[1]'(by omega)) = .int .u8 1 ∧ encB (L[5]'(by omega)) = .int .u8 2 ∧ encB (L[7]'(by omega)) = .int .u8 3 := by
    have hh := hL.out
    subst hh
    exact ⟨rfl, rfl, rfl⟩
  rw [hev.1] at k1
  rw [hev.2.1] at k5
  rw [hev.2.2] at k7
  have hr1 := Lib.hid ho1.rd
  have hfull := Lib.hid (frame_back ⟨1, 2, [3]⟩ [9] rfl)
  clear hcell hev ho1
  rw [hlen] at hr1 ⊢
  go_wp2_with (at_builtin; refine wp_app_full (enc := encB) (l := L) (m := [9]) encB_one rfl (.tmp 19) (.tmp 20) _ rfl _ _ _ Try.underlying23 infoB rfl (some ⟨b1, o1, none⟩) ?a0 ?a1 (by simp) _ rfl ?a2 (by simp) ?a3 (by omega) ?a4)
  case a0 => rw [hlen]; rfl
  case a1 => rw [hlen]; exact hr1.out.alloc _
  case a2 => exact RdV.lit encB _ _ _ _ _ _ rfl (Nat.le_refl _) (by simp) rfl
  case a3 => rw [hlen]; simp
  case a4 =>
  intro v2 w2 ho2 hg2
  replace k1 := hg2.cell (cell_alloc k1) (by simp)
  replace k5 := hg2.cell (cell_alloc k5) (by simp)
  replace k7 := hg2.cell (cell_alloc k7) (by simp)
  have B2 := belowG (belowA B1 _) hg2 (by simp)
  clear hg2 B1
  go_wp2_with fail
  refine (mbap_Read _ (L ++ [9]) _ ho2.rd (by simp [hlen])).mono ?_
  rintro e w3 ⟨x3, rfl, hf, hB3⟩
  rw [hL.out, hfull.out.1, hfull.out.2.1, hfull.out.2.2, show ((fBytes ⟨1, 2, [3]⟩).length : Int) = 8 from rfl] at *
  have B3 := belowT B2 hB3
  obtain ⟨p3, rfl, r3⟩ := hf
  obtain ⟨a3, c3, rfl, _⟩ := r3.open
  rw [show (({ tid := 1, unit := 2, pdu := [3] } : Fr).tid.toNat : Int) = 1 from rfl, show (({ tid := 1, unit := 2, pdu := [3] } : Fr).unit.toNat : Int) = 2 from rfl, show ({ tid := 1, unit := 2, pdu := [3] } : Fr).pdu.length = 1 from rfl]
  have r3' := Lib.hid r3
  replace k1 := cellT hB3 k1
  replace k5 := cellT hB3 k5
  replace k7 := cellT hB3 k7
  clear r3 hB3 ho2 hr1 hfull hL B2 hB1
  have hm0 : (w3.alloc (.cells #[.int .u16 1, .int .u8 2, .slice a3 1 c3] 68)).cell? ⟨w3.heap.size, 0, none⟩ = some (.int .u16 1) := cell_made 0 _ rfl
  have hm1 : (w3.alloc (.cells #[.int .u16 1, .int .u8 2, .slice a3 1 c3] 68)).cell? ⟨w3.heap.size, 1, none⟩ = some (.int .u8 2) := cell_made 1 _ rfl
  have hm2 : (w3.alloc (.cells #[.int .u16 1, .int .u8 2, .slice a3 1 c3] 68)).cell? ⟨w3.heap.size, 2, none⟩ = some (.slice a3 1 c3) := cell_made 2 _ rfl
  go_wp2_with fail
  refine (mbap_Read_bad _ [0, 1, 1, 0] _ (RdV.litg encB _ _ _ _ _ _ _ (by simp) rfl (Nat.le_refl _) (by simp) rfl) (by simp) (by decide)).mono ?_
  rintro e w4 ⟨rfl, hB4⟩
  rw [show fCode [0, 1, 1, 0] = 2 by decide]
  replace hm0 := cellT hB4 (cell_alloc hm0)
  replace hm1 := cellT hB4 (cell_alloc hm1)
  replace hm2 := cellT hB4 (cell_alloc hm2)
  replace k1 := cellT hB4 (cell_alloc (cell_alloc k1))
  replace k5 := cellT hB4 (cell_alloc (cell_alloc k5))
  replace k7 := cellT hB4 (cell_alloc (cell_alloc k7))
  have r4 := Lib.hid (((r3'.out.alloc _).alloc _).below hB4)
  have B4 := belowT (belowA (belowA B3 _) _) hB4
  clear hB4 B3 r3'
  go_wp2_with fail
  refine (mbap_Read_bad _ [] _ (RdV.nil encB _) (by simp) (by decide)).mono ?_
  rintro e w5 ⟨rfl, hB5⟩
  rw [show fCode [] = 3 by decide]
  replace hm0 := cellT hB5 (cell_alloc hm0)
  replace hm1 := cellT hB5 (cell_alloc hm1)
  replace hm2 := cellT hB5 (cell_alloc hm2)
  replace k1 := cellT hB5 (cell_alloc k1)
  replace k5 := cellT hB5 (cell_alloc k5)
  replace k7 := cellT hB5 (cell_alloc k7)
  have r5 := Lib.hid ((r4.out.alloc _).below hB5)
  have B5 := belowT (belowA B4 _) hB5
  clear hB5 B4 r4
  replace hm0 := cell_alloc (o := .cells #[.int .u16 0, .int .u8 0, .slice none 0 0] 68) hm0
  replace hm1 := cell_alloc (o := .cells #[.int .u16 0, .int .u8 0, .slice none 0 0] 68) hm1
  replace hm2 := cell_alloc (o := .cells #[.int .u16 0, .int .u8 0, .slice none 0 0] 68) hm2
  replace k1 := cell_alloc (o := .cells #[.int .u16 0, .int .u8 0, .slice none 0 0] 68) k1
  replace k5 := cell_alloc (o := .cells #[.int .u16 0, .int .u8 0, .slice none 0 0] 68) k5
  replace k7 := cell_alloc (o := .cells #[.int .u16 0, .int .u8 0, .slice none 0 0] 68) k7
  go_wp2_with fail
  refine (mbap_Same _ _ ⟨1, 2, [3]⟩ ⟨1, 2, [3]⟩ _ ⟨_, rfl, r5.out.alloc _⟩ ⟨_, rfl, r5.out.alloc _⟩).mono ?_
  rintro e w6 ⟨rfl, hB6⟩
  rw [show decide ((⟨1, 2, [3]⟩ : Fr) = ⟨1, 2, [3]⟩) = true by decide]
  go_wp2
  go_ret
  exact ⟨rfl, belowT (belowA B5 _) hB6⟩

set_option maxRecDepth 100000 in
set_option maxHeartbeats 1600000 in
theorem MbapAgain_walk (v : Value) (b : List UInt8) (w : World) (h : RdV encB w v b) :
    Calls Try.prog 12 #[v] w fun e w' => e = .returned (.bool true) ∧ Below w.heap.size w w' := by
  obtain ⟨a, c, rfl, hcap, hm, _⟩ := h.open
  have hs := Lib.hid h
  clear h
  go_enter Try.func12, Try.ntmps12
  go_wp2_with fail
  refine (awakeM _).mono ?_
  rintro e w1 ⟨rfl, B1⟩
  by_cases hl : b.length ≤ 600
  · go_wp2_with fail
    refine (mbap_Read _ b _ (hs.out.below B1) (by omega)).mono ?_
    rintro e w2 ⟨x2, rfl, hf, hB2⟩
    have B2 := belowT B1 hB2
    obtain ⟨p2, rfl, r2⟩ := hf
    obtain ⟨ap, cp, rfl, hpc, hpm, _⟩ := r2.open
    have r2' := Lib.hid r2
    by_cases hc : fCode b = 0
    · obtain ⟨l0, l1, l2, l3⟩ := frame_again b hc
      obtain ⟨n, hn⟩ : ∃ n : Nat, Hid (fLen b = (n : Int)) := ⟨(fLen b).toNat, Lib.hid (by omega)⟩
      rw [hn.out] at l0 l1 l3 ⊢
      rw [hc]
      have l2' := Lib.hid l2
      have l3' := Lib.hid l3
      clear l2 l3 r2 hc
      go_wp2_with fail
      refine (mbap_Bytes _ (fFrame b) _ ⟨_, rfl, r2'.out.alloc _⟩).mono ?_
      rintro e w3 ⟨x3, rfl, r3, hB3⟩
      have hout : fOut (fFrame b) = b.take n := by unfold fOut; rw [if_pos l2'.out, l3'.out]; simp
      rw [l2'.out]
      rw [hout] at r3
      have B3 := belowT (belowA B2 _) hB3
      have hn2 : n ≤ b.length := by omega
      have rb := (hs.out.below B3).take n c hn2 (by omega)
      clear hout
      go_wp2_with fail
      refine (ref_Same _ _ (b.take n) (b.take n) _ r3 rb).mono ?_
      rintro e w4 ⟨rfl, n4, rfl⟩
      rw [show decide (b.take n = b.take n) = true by simp]
      go_wp2
      go_ret
      exact ⟨rfl, belowN B3 _⟩
    · have l0 : fLen b = 0 := by unfold fLen; rw [if_neg hc]
      have l1 : fFrame b = ⟨0, 0, []⟩ := by unfold fFrame; rw [if_neg hc]
      rw [l0, l1]
      have hc' : (fCode b != 0) = true := by simpa using hc
      clear l0 l1 hc r2 hpc hpm
      go_wp2
      go_ret
      exact ⟨rfl, belowA B2 _⟩
  · go_wp2
    go_ret
    exact ⟨rfl, B1⟩
end Go.Proofs.Ytigfninpflemnaa
