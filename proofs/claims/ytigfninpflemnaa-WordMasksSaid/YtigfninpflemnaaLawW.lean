/- The statements of layer 2, walked: each returns true. -/
import Derived.Test.YtigfninpflemnaaRefW
import Derived.Test.YtigfninpflemnaaRefA
import Derived.Test.YtigfninpflemnaaEq
namespace Go.Proofs.Ytigfninpflemnaa
open Go.RowKit

set_option maxRecDepth 100000 in
set_option maxHeartbeats 800000 in
theorem awakeW (w : World) : Calls Try.prog 37 #[] w fun e w' => e = .returned (.bool true) ∧ Below w.heap.size w w' := by
  have hm : (Go.bits .or .u16 (Go.bits .and .u16 18 242) (Go.bits .andNot .u16 37 242) == 23) = true := by decide
  have hm' := Lib.hid hm
  clear hm
  go_enter Try.func37, Try.ntmps37
  go_wp2_with fail
  refine (word_Words_yes _ [1, 2, 3, 4] _ (RdV.lit encB _ _ _ _ _ _ rfl (Nat.le_refl _) (by simp) rfl) rfl (by simp)).mono ?_
  rintro e w1 ⟨x1, rfl, ho1, hB1⟩
  obtain ⟨b1, o1, c1, rfl, hc1⟩ := ho1.rd.each (by decide)
  have r1 : RdV encW w1 _ [258, 772] := ho1.rd
  have k1 := hc1 1 (by decide)
  rw [show (encW (wWords [1, 2, 3, 4])[1]) = .int .u16 772 from rfl] at k1
  rw [show (wWords [1, 2, 3, 4]).length = 2 from rfl] at r1 ⊢
  clear hc1 ho1
  go_wp2_with fail
  refine (word_Bits_yes _ [5] 3 _ (RdV.lit encB _ _ _ _ _ _ rfl (Nat.le_refl _) (by simp) rfl) (by decide) (by omega)).mono ?_
  rintro e w2 ⟨x2, rfl, ho2, hB2⟩
  obtain ⟨b2, o2, c2, rfl, hc2⟩ := ho2.rd.each (by decide)
  have k2 := hc2 2 (by decide)
  rw [show (encT (wBitsL [5] 3)[2]) = .bool true from rfl] at k2
  rw [show (wBitsL [5] 3).length = 3 from rfl]
  have B2 := belowT (belowA (Below.refl _ w1) _) hB2
  replace k1 := cellT B2 k1
  replace r1 := r1.below B2
  clear hc2 ho2
  go_wp2_with fail
  refine (word_Bits_no _ [5] 2 _ (RdV.lit encB _ _ _ _ _ _ rfl (Nat.le_refl _) (by simp) rfl) (.inr (by decide)) (by omega) (by omega)).mono ?_
  rintro e w3 ⟨rfl, hw3⟩
  have B3 : Below w2.heap.size w2 w3 := hw3 ▸ belowA (Below.refl _ _) _
  replace k1 := cellT B3 k1
  replace k2 := cellT B3 k2
  replace r1 := r1.below B3
  clear hw3
  go_wp2_with fail
  refine (word_Pack _ [true, false, true] _ (RdV.lit encT _ _ _ _ _ _ rfl (Nat.le_refl _) (by simp) rfl) (by simp)).mono ?_
  rintro e w4 ⟨x4, rfl, ho4, hB4⟩
  obtain ⟨b4, o4, c4, rfl, hc4⟩ := ho4.rd.each (by decide)
  have k4 := hc4 0 (by decide)
  rw [show (encB (wPack [true, false, true])[0]) = .int .u8 5 from rfl, Nat.add_zero] at k4
  rw [show (wPack [true, false, true]).length = 1 from rfl]
  have B4 := belowT (belowA (Below.refl _ w3) _) hB4
  replace k1 := cellT B4 k1
  replace k2 := cellT B4 k2
  replace r1 := r1.below B4
  clear hc4 ho4
  go_wp2_with fail
  refine (word_Mask _ _ _ _).mono ?_
  rintro e w5 ⟨rfl, rfl⟩
  have hm := hm'.out
  go_wp2_with fail
  refine (word_Put _ _ (by omega) (by omega)).mono ?_
  rintro e w6 ⟨rfl, hB6⟩
  replace r1 := r1.below hB6
  have heq : ∀ W, (Op.equalIn 10000 63 (.agg #[.int .u8 1, .int .u8 2]) (.agg #[.int .u8 1, .int .u8 2])).run Try.prog W = .ok true W :=
    fun W => run_eq_ints Try.underlying63 (by rfl) Try.underlying5 (by decide) [1, 2] [1, 2] rfl rfl W
  go_wp2_with fail
  refine (word_Bytes _ _ _ r1 (by simp)).mono ?_
  rintro e w7 ⟨x7, rfl, ho7, hB7⟩
  obtain ⟨a7, c7, rfl, _⟩ := ho7.rd.open
  rw [show (wBytes [258, 772]).length = 4 from rfl]
  go_wp2
  go_ret
  have T1 := belowA (Below.refl _ w) (.cells #[.int .u8 1, .int .u8 2, .int .u8 3, .int .u8 4] 5)
  exact ⟨rfl, belowT (belowT (belowT (belowT (belowT (belowT T1 hB1) B2) B3) B4) hB6) hB7⟩

set_option maxRecDepth 100000 in
set_option maxHeartbeats 800000 in
theorem WordTells_walk (v1 : Value) (b : List UInt8) (v2 : Value) (l : List UInt16) (n : Int) (w : World) (h1 : RdV encB w v1 b) (h2 : RdV encW w v2 l) (hw : (Lit.int .i64 n).wf = true) :
    Calls Try.prog 7 #[v1, v2, .int .i64 n] w fun e w' => e = .returned (.bool true) ∧ Below w.heap.size w w' := by
  have n0 := (bounds_i64 hw).1
  have n1 := (bounds_i64 hw).2
  clear hw
  obtain ⟨a1, c1, rfl, _, hm1, _⟩ := h1.open
  obtain ⟨a2, c2, rfl, _, hm2, _⟩ := h2.open
  by_cases hl : b.length ≤ 400 ∧ l.length ≤ 400
  · obtain ⟨k1, k2⟩ := hl
    go_enter Try.func7, Try.ntmps7
    go_wp2_with fail
    refine (awakeW _).mono ?_
    rintro e w1 ⟨rfl, B1⟩
    go_wp2_with fail
    refine (word_Words _ b _ (h1.below B1) (by omega)).mono ?_
    rintro e w2 ⟨x2, rfl, r2, hB2⟩
    have B2 := belowT B1 hB2
    go_wp2_with fail
    refine (refW_Words _ b _ (h1.below B2) (by omega)).mono ?_
    rintro e w3 ⟨x3, rfl, r3, hB3⟩
    have B3 := belowT B2 hB3
    go_wp2_with fail
    refine (refW_Same _ _ _ _ _ (r2.below hB3) r3).mono ?_
    rintro e w4 ⟨rfl, n4, rfl⟩
    rw [show decide ((wordsTell b).2 = (wordsTell b).2) = true by simp]
    have B4 := belowN B3 n4
    clear r2 r3
    go_wp2_with fail
    refine (word_Bits _ b n _ (h1.below B4) (by omega) n1 n0).mono ?_
    rintro e w5 ⟨x5, rfl, r5, hB5⟩
    have B5 := belowT B4 hB5
    go_wp2_with fail
    refine (refW_Bits _ b n _ (h1.below B5) (by omega) n1 n0).mono ?_
    rintro e w6 ⟨x6, rfl, r6, hB6⟩
    have B6 := belowT B5 hB6
    go_wp2_with fail
    refine (refW_SameBits _ _ _ _ _ (r5.below hB6) r6).mono ?_
    rintro e w7 ⟨rfl, n7, rfl⟩
    rw [show decide ((bitsTell b n).2 = (bitsTell b n).2) = true by simp]
    have B7 := belowN B6 n7
    clear r5 r6
    go_wp2_with fail
    refine (word_Bytes _ l _ (h2.below B7) (by omega)).mono ?_
    rintro e w8 ⟨x8, rfl, o8, hB8⟩
    have B8 := belowT B7 hB8
    go_wp2_with fail
    refine (refW_Bytes _ l _ (h2.below B8) (by omega)).mono ?_
    rintro e w9 ⟨x9, rfl, o9, hB9⟩
    have B9 := belowT B8 hB9
    go_wp2_with fail
    refine (ref_Same _ _ _ _ _ (o8.rd.below hB9) o9.rd).mono ?_
    rintro e w10 ⟨rfl, n10, rfl⟩
    rw [show decide (wBytes l = wBytes l) = true by simp]
    have B10 := belowN B9 n10
    clear o8 o9
    go_wp2
    go_ret
    exact ⟨rfl, B10⟩
  · have hl' := Lib.hid hl
    clear hl
    by_cases k1 : b.length ≤ 400
    · have k2 : 400 < l.length := by have := hl'.out; omega
      go_enter Try.func7, Try.ntmps7
      go_wp2_with (go_at_call 37; refine (awakeW _).mono ?_; rintro e w1 ⟨rfl, hB1⟩)
      go_ret
      exact ⟨rfl, hB1⟩
    · go_enter Try.func7, Try.ntmps7
      go_wp2_with (go_at_call 37; refine (awakeW _).mono ?_; rintro e w1 ⟨rfl, hB1⟩)
      go_ret
      exact ⟨rfl, hB1⟩

set_option maxRecDepth 100000 in
set_option maxHeartbeats 800000 in
theorem WordBack_walk (v1 : Value) (l : List UInt16) (v2 : Value) (t : List Bool) (w : World) (h1 : RdV encW w v1 l) (h2 : RdV encT w v2 t) :
    Calls Try.prog 9 #[v1, v2] w fun e w' => e = .returned (.bool true) ∧ Below w.heap.size w w' := by
  obtain ⟨a1, c1, rfl, _, hm1, _⟩ := h1.open
  obtain ⟨a2, c2, rfl, _, hm2, _⟩ := h2.open
  by_cases hl : l.length ≤ 400 ∧ t.length ≤ 400
  · obtain ⟨k1, k2⟩ := hl
    go_enter Try.func9, Try.ntmps9
    go_wp2_with fail
    refine (awakeW _).mono ?_
    rintro e w1 ⟨rfl, B1⟩
    go_wp2_with fail
    refine (word_Bytes _ l _ (h1.below B1) (by omega)).mono ?_
    rintro e w2 ⟨x2, rfl, o2, hB2⟩
    have B2 := belowT B1 hB2
    go_wp2_with fail
    refine (word_Words_yes _ _ _ o2.rd (by rw [wBytes_len]; omega) (by rw [wBytes_len]; omega)).mono ?_
    rintro e w3 ⟨x3, rfl, o3, hB3⟩
    rw [wWords_bytes] at o3
    have B3 := belowT B2 hB3
    go_wp2_with fail
    refine (word_Pack _ t _ (h2.below B3) (by omega)).mono ?_
    rintro e w4 ⟨x4, rfl, o4, hB4⟩
    obtain ⟨a4, c4, rfl, _⟩ := o4.rd.open
    have hpl := Lib.hid (wPack_len t)
    have B4 := belowT B3 hB4
    go_wp2_with fail
    refine (word_Bits_yes _ (wPack t) t.length _ o4.rd (fit_pack t) (by omega)).mono ?_
    rintro e w5 ⟨x5, rfl, o5, hB5⟩
    rw [wBits_pack] at o5
    have B5 := belowT B4 hB5
    go_wp2_with fail
    refine (refW_Same _ _ _ _ _ ((o3.rd.below hB4).below hB5) (h1.below B5)).mono ?_
    rintro e w6 ⟨rfl, n6, rfl⟩
    rw [show decide (l = l) = true by simp]
    have B6 := belowN B5 n6
    go_wp2_with fail
    refine (refW_SameBits _ _ _ _ _ (o5.rd.drewN _) (h2.below B6)).mono ?_
    rintro e w7 ⟨rfl, n7, rfl⟩
    rw [show decide (t = t) = true by simp]
    have B7 := belowN B6 n7
    have hpl2 : ((wPack t).length : Int) = ((t.length : Int) + 7) / 8 := by rw [hpl.out]; omega
    have hpl3 : (((wPack t).length : Int) == ((t.length : Int) + 7) / 8) = true := by rw [hpl2]; simp
    clear hpl2
    go_wp2
    go_ret
    exact ⟨rfl, belowN B5 _⟩
  · have hl' := Lib.hid hl
    clear hl
    by_cases k1 : l.length ≤ 400
    · have k2 : 400 < t.length := by have := hl'.out; omega
      go_enter Try.func9, Try.ntmps9
      go_wp2_with (go_at_call 37; refine (awakeW _).mono ?_; rintro e w1 ⟨rfl, hB1⟩)
      go_ret
      exact ⟨rfl, hB1⟩
    · go_enter Try.func9, Try.ntmps9
      go_wp2_with (go_at_call 37; refine (awakeW _).mono ?_; rintro e w1 ⟨rfl, hB1⟩)
      go_ret
      exact ⟨rfl, hB1⟩
theorem word_MaskN (n a o : Nat) (w : World) (hn : n < 65536) (ha : a < 65536) (ho : o < 65536) :
    Calls Try.prog 48 #[.int .u16 (n : Int), .int .u16 (a : Int), .int .u16 (o : Int)] w fun e w' => e = .returned (.int .u16 (maskN n a o : Int)) ∧ w = w' :=
  (word_Mask n a o w).mono fun e w' h => by rw [mask_int n a o hn ha ho] at h; exact h

set_option maxRecDepth 100000 in
set_option maxHeartbeats 800000 in
theorem WordMasks_walk (n a o : Nat) (v2 : Value) (l : List Bool) (w : World) (hn : n < 65536) (ha : a < 65536) (ho : o < 65536) (h2 : RdV encT w v2 l) :
    Calls Try.prog 8 #[.agg #[.int .u16 (n : Int), .int .u16 (a : Int), .int .u16 (o : Int)], v2] w fun e w' => e = .returned (.bool true) ∧ Below w.heap.size w w' := by
  have hm := maskN_lt n a o hn ho
  have hm1 := Lib.hid (mask_again n a o hn ho)
  have hm2 := Lib.hid (mask_all n o hn)
  have hm3 := Lib.hid (mask_none n o ho)
  have heq : ∀ (x y : Int) W, (Op.equalIn 10000 63 (.agg #[.int .u8 x, .int .u8 y]) (.agg #[.int .u8 x, .int .u8 y])).run Try.prog W = .ok true W :=
    fun x y W => by rw [show (#[Value.int .u8 x, .int .u8 y]) = ([x, y].map (Value.int .u8)).toArray from rfl, run_eq_ints Try.underlying63 (by rfl) Try.underlying5 (by decide) [x, y] [x, y] rfl rfl W]; simp
  obtain ⟨a2, c2, rfl, _, hml, _⟩ := h2.open
  go_enter Try.func8, Try.ntmps8
  go_wp2_with fail
  refine (awakeW _).mono ?_
  rintro e w1 ⟨rfl, hB1⟩
  have q0 : w1.cell? ⟨w.heap.size, 0, none⟩ = some (.int .u16 (n : Int)) := cellT hB1 (cell_made _ _ rfl)
  have q1 : w1.cell? ⟨w.heap.size, 1, none⟩ = some (.int .u16 (a : Int)) := cellT hB1 (cell_made _ _ rfl)
  have q2 : w1.cell? ⟨w.heap.size, 2, none⟩ = some (.int .u16 (o : Int)) := cellT hB1 (cell_made _ _ rfl)
  have B1 := belowT (belowA (Below.refl _ w) _) hB1
  by_cases hl : l.length ≤ 400
  · go_wp2_with fail
    refine (word_Pack _ l _ (h2.below B1) (by omega)).mono ?_
    rintro e w2 ⟨x2, rfl, o2, hB2⟩
    have B2 := belowT B1 hB2
    go_wp2_with fail
    refine (refW_Pack _ l _ (h2.below B2) (by omega)).mono ?_
    rintro e w3 ⟨x3, rfl, o3, hB3⟩
    have B3 := belowT B2 hB3
    go_wp2_with fail
    refine (ref_Same _ _ _ _ _ (o2.rd.below hB3) o3.rd).mono ?_
    rintro e w4 ⟨rfl, n4, rfl⟩
    rw [show decide (wPack l = wPack l) = true by simp]
    have B4 := belowN B3 n4
    clear o2 o3
    go_wp2_with fail
    refine (word_MaskN n a o _ hn ha ho).mono ?_
    rintro e w5 ⟨rfl, rfl⟩
    go_wp2_with fail
    refine (word_Put n _ (by omega) (by omega)).mono ?_
    rintro e w6 ⟨rfl, hB6⟩
    have B6 := belowT B4 hB6
    go_wp2_with fail
    refine (refW_Put n _ (by omega) (by omega)).mono ?_
    rintro e w7 ⟨rfl, hB7⟩
    have B7 := belowT B6 hB7
    go_wp2_with fail
    refine (refW_Mask n a o _ hn ha ho).mono ?_
    rintro e w8 ⟨rfl, rfl⟩
    go_wp2_with fail
    refine (word_MaskN (maskN n a o) a o _ hm ha ho).mono ?_
    rintro e w8 ⟨rfl, rfl⟩
    rw [hm1.out]
    go_wp2_with fail
    refine (word_MaskN n 65535 o _ hn (by omega) ho).mono ?_
    rintro e w8 ⟨rfl, rfl⟩
    rw [hm2.out]
    go_wp2_with fail
    refine (word_MaskN n 0 o _ hn (by omega) ho).mono ?_
    rintro e w8 ⟨rfl, rfl⟩
    rw [hm3.out]
    go_wp2
    go_ret
    exact ⟨rfl, B7⟩
  · go_wp2
    go_ret
    exact ⟨rfl, B1⟩
end Go.Proofs.Ytigfninpflemnaa
