/- MbapBack, walked. -/
import Derived.Test.YtigfninpflemnaaLawM
namespace Go.Proofs.Ytigfninpflemnaa
open Go.RowKit

theorem fOut_ok {f : Fr} (h : fErr f = 0) : fOut f = fBytes f := by unfold fOut; rw [if_pos h]
theorem fBytes_len (f : Fr) : (fBytes f).length = f.pdu.length + 7 := by simp [fBytes, fHead]
set_option maxRecDepth 100000 in
set_option maxHeartbeats 3200000 in
theorem MbapBack_walk (v0 : Value) (f : Fr) (v1 : Value) (more : List UInt8) (cut : Int) (w : World) (h0 : RdF w v0 f) (h1 : RdV encB w v1 more) (hw : (Lit.int .i64 cut).wf = true) :
    Calls Try.prog 11 #[v0, v1, .int .i64 cut] w fun e w' => e = .returned (.bool true) ∧ Below w.heap.size w w' := by
  have n0 := (bounds_i64 hw).1
  have n1 := (bounds_i64 hw).2
  clear hw
  obtain ⟨p0, rfl, r0⟩ := h0
  obtain ⟨t, ht⟩ : ∃ t : Int, Hid ((f.tid.toNat : Int) = t) := ⟨_, Lib.hid rfl⟩
  obtain ⟨u, hu⟩ : ∃ u : Int, Hid ((f.unit.toNat : Int) = u) := ⟨_, Lib.hid rfl⟩
  rw [ht.out, hu.out]
  obtain ⟨ap, cp, rfl, hpc, hpm, _⟩ := r0.open
  obtain ⟨a1, c1, rfl, hmc, hmm, _⟩ := h1.open
  have r0' := Lib.hid r0
  have h1' := Lib.hid h1
  have rdF : ∀ W, Below w.heap.size w W → RdF W (.agg #[.int .u16 t, .int .u8 u, .slice ap f.pdu.length cp]) f := fun W hW => ⟨_, by rw [← ht.out, ← hu.out], r0'.out.below hW⟩
  have rdF' := Lib.hid rdF
  clear r0 h1 rdF
  by_cases hl : f.pdu.length ≤ 400 ∧ more.length ≤ 100
  · obtain ⟨k1, k2⟩ := hl
    go_enter Try.func11, Try.ntmps11
    go_wp2_with fail
    refine (awakeM _).mono ?_
    rintro e w1 ⟨rfl, hB1⟩
    have q0 : w1.cell? ⟨w.heap.size, 0, none⟩ = some (.int .u16 t) := cellT hB1 (cell_made 0 _ rfl)
    have q1 : w1.cell? ⟨w.heap.size, 1, none⟩ = some (.int .u8 u) := cellT hB1 (cell_made 1 _ rfl)
    have q2 : w1.cell? ⟨w.heap.size, 2, none⟩ = some (.slice ap f.pdu.length cp) := cellT hB1 (cell_made 2 _ rfl)
    have B1 := belowT (belowA (Below.refl _ w) _) hB1
    clear hB1
    go_wp2_with fail
    refine (mbap_Bytes _ f _ (rdF'.out _ B1)).mono ?_
    rintro e w2 ⟨x2, rfl, r2, hB2⟩
    replace q0 := cellT hB2 q0
    replace q1 := cellT hB2 q1
    replace q2 := cellT hB2 q2
    have B2 := belowT B1 hB2
    clear hB2 B1
    by_cases he : fErr f = 0
    · rw [he]
      rw [fOut_ok he] at r2
      have hfl := fBytes_len f
      have hback := Lib.hid (frame_back f more he)
      have hcut := Lib.hid (fun k => frame_cut f k he)
      obtain ⟨B, hBe⟩ : ∃ B, Hid (fBytes f = B) := ⟨_, Lib.hid rfl⟩
      rw [hBe.out] at r2 hfl
      obtain ⟨a2, c2, rfl, hcc, _, _⟩ := r2.open
      have r2' := Lib.hid r2
      have hfl' := Lib.hid hfl
      have he' := Lib.hid he
      have hBn : (B.length : Int) = (f.pdu.length : Int) + 7 := by omega
      clear r2 hfl he
      go_wp2_with (at_builtin; refine wp_app (enc := encB) (l := []) (m := B) encB_one rfl (.tmp 41) (.tmp 42) _ rfl _ _ _ Try.underlying23 infoB rfl w2.heap.size _ rfl ?a1 _ rfl ?a2 ?a3 (by omega) ?a5 ?a4)
      case a1 => exact Own.lit encB _ _ _ (Nat.le_refl _) [] _ _ rfl (by simp) rfl
      case a2 => exact r2'.out.alloc _
      case a3 => rw [hfl'.out]; simp; omega
      case a5 => simp
      case a4 =>
      intro v3 w3 ho3 hg3
      have hB3 : Below w2.heap.size w2 w3 := ((Below.refl w2.heap.size w2).alloc (Nat.le_refl _) _).grown hg3 (by simp) (by simp [Value.ownBlock])
      clear hg3
      go_wp2_with (at_builtin; refine wp_app (enc := encB) (l := B) (m := more) encB_one rfl (.tmp 43) (.tmp 44) _ rfl _ _ _ Try.underlying23 infoB rfl w2.heap.size _ rfl ho3 _ rfl ?b2 ?b3 (by omega) ?b5 ?b4)
      case b2 => exact h1'.out.below (belowT B2 hB3)
      case b3 => rw [hfl'.out]; omega
      case b5 => exact hB3.size
      case b4 =>
      intro v4 w4 ho4 hg4
      have hB4 : Below w2.heap.size w2 w4 := hB3.grown hg4 hB3.size (fun k hk => (ho3.base k hk).1)
      replace q0 := cellT hB4 q0
      replace q1 := cellT hB4 q1
      replace q2 := cellT hB4 q2
      have B4 := belowT B2 hB4
      have r4 := Lib.hid (r2'.out.below hB4)
      clear hg4 hB4 hB3 ho3 B2
      go_wp2_with fail
      refine (mbap_Read _ (B ++ more) _ ho4.rd (by rw [List.length_append, hfl'.out]; omega)).mono ?_
      rintro e w5 ⟨x5, rfl, hf, hB5⟩
      rw [← hBe.out] at hf ⊢
      rw [hback.out.2.1] at hf
      rw [hback.out.1, hback.out.2.2]
      rw [hBe.out]
      replace q0 := cellT hB5 q0
      replace q1 := cellT hB5 q1
      replace q2 := cellT hB5 q2
      have B5 := belowT B4 hB5
      have r5 := Lib.hid (r4.out.below hB5)
      obtain ⟨p5, rfl, rp5⟩ := hf
      rw [ht.out, hu.out]
      obtain ⟨a5, c5, rfl, _⟩ := rp5.open
      have f5 : Hid (RdF w5 (.agg #[.int .u16 t, .int .u8 u, .slice a5 f.pdu.length c5]) f) := Lib.hid ⟨_, by rw [ht.out, hu.out], rp5⟩
      clear hB5 B4 r4 ho4 rp5
      have m0 : (w5.alloc (.cells #[.int .u16 t, .int .u8 u, .slice a5 f.pdu.length c5] 68)).cell? ⟨w5.heap.size, 0, none⟩ = some (.int .u16 t) := cell_made 0 _ rfl
      have m1 : (w5.alloc (.cells #[.int .u16 t, .int .u8 u, .slice a5 f.pdu.length c5] 68)).cell? ⟨w5.heap.size, 1, none⟩ = some (.int .u8 u) := cell_made 1 _ rfl
      have m2 : (w5.alloc (.cells #[.int .u16 t, .int .u8 u, .slice a5 f.pdu.length c5] 68)).cell? ⟨w5.heap.size, 2, none⟩ = some (.slice a5 f.pdu.length c5) := cell_made 2 _ rfl
      replace q0 := cell_alloc (o := .cells #[.int .u16 t, .int .u8 u, .slice a5 f.pdu.length c5] 68) q0
      replace q1 := cell_alloc (o := .cells #[.int .u16 t, .int .u8 u, .slice a5 f.pdu.length c5] 68) q1
      replace q2 := cell_alloc (o := .cells #[.int .u16 t, .int .u8 u, .slice a5 f.pdu.length c5] 68) q2
      go_wp2_with fail
      refine (mbap_Same _ _ f f _ (rdF'.out _ (belowA B5 _)) ?_).mono ?_
      · obtain ⟨vp, hv, hr⟩ := f5.out
        exact ⟨vp, hv, hr.alloc _⟩
      rintro e w6 ⟨rfl, hB6⟩
      rw [show decide (f = f) = true by simp]
      replace q2 := cellT hB6 q2
      have B6 := belowT (belowA B5 _) hB6
      have r6 := Lib.hid ((r5.out.alloc _).below hB6)
      clear m0 m1 m2 q0 q1 r5 hB6 B5 f5
      by_cases hk : 0 ≤ cut ∧ cut < (B.length : Int)
      · obtain ⟨k, rfl⟩ := Int.eq_ofNat_of_zero_le hk.1
        have hk2 : (k : Int) < (B.length : Int) := hk.2
        have hk3 : k < B.length := by omega
        have hc3 : fCode (B.take k) = 3 := by
          have := hcut.out k
          rw [hBe.out] at this
          exact this hk3
        have hc3' := Lib.hid hc3
        clear hk hc3
        go_wp2_with fail
        refine (mbap_Read _ (B.take k) _ (r6.out.take k c2 (by omega) (by omega)) (by simp; have := hfl'.out; omega)).mono ?_
        rintro e w7 ⟨x7, rfl, hf, hB7⟩
        rw [hc3'.out]
        have B7 := belowT B6 hB7
        obtain ⟨p7, rfl, rp7⟩ := hf
        obtain ⟨a7, c7, rfl, _⟩ := rp7.open
        clear hB7 rp7 q2
        go_wp2
        go_ret
        exact ⟨rfl, belowA B7 _⟩
      · have hk' := Lib.hid hk
        clear hk
        by_cases hz : 0 ≤ cut
        · have hz2 : (B.length : Int) ≤ cut := by have := hk'.out; omega
          go_wp2
          go_ret
          exact ⟨rfl, B6⟩
        · go_wp2
          go_ret
          exact ⟨rfl, B6⟩
    · have hne : (fErr f != 0) = true := by simpa using he
      have ho : fOut f = [] := by unfold fOut; rw [if_neg he]
      rw [ho] at r2
      obtain ⟨a2, c2, rfl, _⟩ := r2.open
      clear he ho r2
      go_wp2
      go_ret
      exact ⟨rfl, B2⟩
  · have hl' := Lib.hid hl
    clear hl
    by_cases k1 : f.pdu.length ≤ 400
    · have k2 : 100 < more.length := by have := hl'.out; omega
      go_enter Try.func11, Try.ntmps11
      go_wp2_with fail
      refine (awakeM _).mono ?_
      rintro e w1 ⟨rfl, hB1⟩
      have q2 : w1.cell? ⟨w.heap.size, 2, none⟩ = some (.slice ap f.pdu.length cp) := cellT hB1 (cell_made 2 _ rfl)
      have B1 := belowT (belowA (Below.refl _ w) _) hB1
      clear hB1
      go_wp2
      go_ret
      exact ⟨rfl, B1⟩
    · have k2 : 400 < f.pdu.length := by omega
      go_enter Try.func11, Try.ntmps11
      go_wp2_with fail
      refine (awakeM _).mono ?_
      rintro e w1 ⟨rfl, hB1⟩
      have q2 : w1.cell? ⟨w.heap.size, 2, none⟩ = some (.slice ap f.pdu.length cp) := cellT hB1 (cell_made 2 _ rfl)
      have B1 := belowT (belowA (Below.refl _ w) _) hB1
      clear hB1
      go_wp2
      go_ret
      exact ⟨rfl, B1⟩
end Go.Proofs.Ytigfninpflemnaa
