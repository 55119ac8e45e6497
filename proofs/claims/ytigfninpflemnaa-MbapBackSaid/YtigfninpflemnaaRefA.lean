/- The reference of layer 1: what its functions compute, and that it is what layer 1 computes. -/
import Derived.Test.YtigfninpflemnaaCrc
namespace Go.Proofs.Ytigfninpflemnaa
open Go.RowKit

theorem ret_u16 {a b : Int} (h : a = b) : Ending.returned (.int .u16 a) = .returned (.int .u16 b) := by rw [h]

set_option maxRecDepth 100000 in
set_option maxHeartbeats 400000 in
theorem ref_step (s : Int) (c : UInt8) (w : World) (h0 : 0 ≤ s) (h1 : s < 65536) :
    Calls Try.prog 67 #[.int .u16 s, .int .u8 (c.toNat : Int)] w fun e w' => e = .returned (.int .u16 (refStep s c)) ∧ ∃ n, w' = w.drewN n := by
  have hc : (c.toNat : Int) < 256 := by have := c.toNat_lt; omega
  go_enter Try.func67, Try.ntmps67
  go_wp2
  go_loopw [7, 8] (fun x b wr => ∃ j : Nat, j ≤ 8 ∧ b = .int .i64 (2 ^ j) ∧ x = .int .i64 (xsum (s % 256) (c.toNat : Int) j) ∧ ∃ n, wr = w.drewN n) (fun _ b _ => 256 - (intOf b).toNat)
  case atStart => exact ⟨0, by omega, rfl, rfl, 0, rfl⟩
  case round =>
    obtain ⟨j, hj, rfl, rfl, n, rfl⟩ := hrel
    by_cases hlt : j < 8
    · have hX := xsum_le (s % 256) (c.toNat : Int) j
      have hS : xsum (s % 256) (c.toNat : Int) (j + 1) = xsum (s % 256) (c.toNat : Int) j + if s % 256 / 2 ^ j % 2 ≠ (c.toNat : Int) / 2 ^ j % 2 then 2 ^ j else 0 := rfl
      have hb1 : (1 : Int) ≤ 2 ^ j := by have : (0 : Int) < 2 ^ j := Int.pow_pos (by omega); omega
      have hb2 : (2 : Int) ^ j ≤ 128 := by
        have : (2 : Nat) ^ j ≤ 2 ^ 7 := Nat.pow_le_pow_right (by omega) (by omega)
        have h : (((2 : Nat) ^ j : Nat) : Int) ≤ ((2 ^ 7 : Nat) : Int) := by exact_mod_cast this
        simpa using h
      have hp : (2 : Int) ^ (j + 1) = 2 * 2 ^ j := by rw [Int.pow_succ, Int.mul_comm]
      generalize (2 : Int) ^ j = b at *
      generalize xsum (s % 256) (c.toNat : Int) j = X at *
      have hS' := Lib.hid hS
      have hp' := Lib.hid hp
      clear hS hp
      have hq1 : 0 ≤ s % 256 / b := Int.ediv_nonneg (by omega) (by omega)
      have hq2 : 0 ≤ (c.toNat : Int) / b := Int.ediv_nonneg (by omega) (by omega)
      have hq3 : s % 256 / b ≤ s % 256 := Int.ediv_le_self _ (by omega)
      have hq4 : (c.toNat : Int) / b ≤ (c.toNat : Int) := Int.ediv_le_self _ (by omega)
      by_cases ht : s % 256 / b % 2 = (c.toNat : Int) / b % 2
      · have ht1 : (s % 256 / b % 2 != (c.toNat : Int) / b % 2) = false := by simpa using ht
        have ht2 := Lib.hid ht
        clear ht
        go_wp2
        go_quiet (fail)
        go_wp2
        go_roundw
        case rel => exact ⟨j + 1, by omega, by rw [hp'.out], by rw [hS'.out, if_neg (by simpa using ht2.out)]; go_num, _, rfl⟩
        case measure => simp [intOf]; omega
      · have ht1 : (s % 256 / b % 2 != (c.toNat : Int) / b % 2) = true := by simpa using ht
        have ht2 := Lib.hid ht
        clear ht
        go_wp2
        go_quiet (fail)
        go_wp2
        go_roundw
        case rel => exact ⟨j + 1, by omega, by rw [hp'.out], by rw [hS'.out, if_pos (by simpa using ht2.out)], _, rfl⟩
        case measure => simp [intOf]; omega
    · obtain rfl : j = 8 := by omega
      have hX := xsum_le (s % 256) (c.toNat : Int) 8
      have hR : refStep s c = refBits 8 (s - s % 256 + xsum (s % 256) (c.toNat : Int) 8) := rfl
      generalize xsum (s % 256) (c.toNat : Int) 8 = X at *
      have hR' := Lib.hid hR
      clear hR
      simp only [show (2 : Int) ^ 8 = 256 from rfl] at *
      go_wp2
      go_loopw [0, 9] (fun x i wr => ∃ j : Nat, j ≤ 8 ∧ i = .int .i64 j ∧ x = .int .u16 (refBits j (s - s % 256 + X)) ∧ wr = w.drewN n) (fun _ i _ => 8 - (intOf i).toNat)
      case atStart => exact ⟨0, by omega, rfl, rfl, rfl⟩
      case round =>
        obtain ⟨j, hj, rfl, rfl, rfl⟩ := hrel
        have hZ := refBits_bd j (s - s % 256 + X) (by omega) (by omega)
        by_cases hjt : j < 8
        · have hB : refBits (j + 1) (s - s % 256 + X) = refBit (refBits j (s - s % 256 + X)) := rfl
          generalize refBits j (s - s % 256 + X) = Z at *
          have hB' := Lib.hid hB
          clear hB
          have hd : IntKind.u16.wrap (Z.tdiv 2) = Z / 2 := by
            rw [Int.tdiv_eq_ediv_of_nonneg hZ.1]; simp [IntKind.wrap, IntKind.bits, IntKind.signed]; omega
          by_cases ho : Z % 2 = 1
          · have ho1 : (Z % 2 == 1) = true := by simpa using ho
            have ho2 := Lib.hid ho
            clear ho
            go_wp2
            go_roundw
            case rel => exact ⟨j + 1, by omega, by go_num, by rw [hB'.out]; unfold refBit; rw [if_pos ho2.out], trivial⟩
            case measure => simp [intOf]; omega
          · have ho1 : (Z % 2 == 1) = false := by simpa using ho
            have ho2 := Lib.hid ho
            clear ho
            go_wp2
            go_roundw
            case rel => exact ⟨j + 1, by omega, by go_num, by rw [hB'.out]; unfold refBit; rw [if_neg ho2.out], trivial⟩
            case measure => simp [intOf]; omega
        · obtain rfl : j = 8 := by omega
          rw [← hR'.out] at hZ
          go_wp2
          go_ret
          exact ⟨ret_u16 (by rw [hR'.out]), _, rfl⟩

set_option maxHeartbeats 400000 in
theorem ref_More (s : Int) (v : Value) (l : List UInt8) (w : World) (h : RdV encB w v l) (h0 : 0 ≤ s) (h1 : s < 65536) :
    Calls Try.prog 24 #[.int .u16 s, v] w fun e w' => e = .returned (.int .u16 (l.foldl refStep s)) ∧ ∃ n, w' = w.drewN n := by
  obtain ⟨a, c, rfl, hc, hm, hl⟩ := h.open
  clear h
  have hbd : ∀ k, 0 ≤ (l.take k).foldl refStep s ∧ (l.take k).foldl refStep s < 65536 := by
    intro k
    generalize l.take k = l'
    clear hl hm hc
    induction l' generalizing s with
    | nil => exact ⟨h0, h1⟩
    | cons x l' ih => exact ih _ (refStep_bd _ _ h0 h1).1 (refStep_bd _ _ h0 h1).2
  go_enter Try.func24, Try.ntmps24
  go_wp2
  go_loopw [0, 5] (fun x i wr => ∃ k : Nat, k ≤ l.length ∧ i = .int .i64 k ∧ x = .int .u16 ((l.take k).foldl refStep s) ∧ ∃ n, wr = w.drewN n) (fun _ i _ => l.length - (intOf i).toNat)
  case atStart => exact ⟨0, Nat.zero_le _, rfl, rfl, 0, rfl⟩
  case round =>
    obtain ⟨k, hk, rfl, rfl, n, rfl⟩ := hrel
    by_cases hlt : k < l.length
    · obtain ⟨b, o, rfl, hcell⟩ := hl.resolve_left (by omega)
      have hx := hcell k hlt
      unfold encB at hx
      have hb := hbd k
      have hs : (l.take (k + 1)).foldl refStep s = refStep ((l.take k).foldl refStep s) l[k] := by
        rw [List.take_succ_eq_append_getElem hlt, List.foldl_append]; rfl
      have hs' := Lib.hid hs
      clear hcell hl hbd hs
      generalize (l.take k).foldl refStep s = x at *
      generalize l[k] = y at *
      go_wp2_with (go_at_call 67; refine (ref_step _ _ _ hb.1 hb.2).mono ?_; rintro e w' ⟨rfl, nq, rfl⟩)
      go_roundw
      case rel => exact ⟨k + 1, by omega, by go_num, by rw [hs'.out], _, rfl⟩
      case measure => simp [intOf]; omega
    · obtain rfl : k = l.length := by omega
      clear hbd
      go_wp2
      go_ret
      exact ⟨by simp, n, rfl⟩
theorem ref_Sum (v : Value) (l : List UInt8) (w : World) (h : RdV encB w v l) :
    Calls Try.prog 22 #[v] w fun e w' => e = .returned (.int .u16 (crcMore 65535 l)) ∧ ∃ n, w' = w.drewN n := by
  go_enter Try.func22, Try.ntmps22
  go_wp2_with (go_at_call 24; refine (ref_More _ _ _ _ h (by omega) (by omega)).mono ?_; rintro e w' ⟨rfl, nq, rfl⟩)
  go_ret
  exact ⟨ret_u16 (refMore_is _ _ (by omega) (by omega)), _, rfl⟩

set_option maxHeartbeats 400000 in
theorem ref_Same (v1 v2 : Value) (l1 l2 : List UInt8) (w : World) (h1 : RdV encB w v1 l1) (h2 : RdV encB w v2 l2) :
    Calls Try.prog 18 #[v1, v2] w fun e w' => e = .returned (.bool (decide (l1 = l2))) ∧ ∃ n, w' = w.drewN n := by
  obtain ⟨a1, c1, rfl, hc1, hm1, hl1⟩ := h1.open
  obtain ⟨a2, c2, rfl, hc2, hm2, hl2⟩ := h2.open
  clear h1 h2
  by_cases hlen : l1.length = l2.length
  · have hd : (((l1.length : Nat) : Int) != ((l2.length : Nat) : Int)) = false := by simp [hlen]
    have hlen' := Lib.hid hlen
    clear hlen
    go_enter Try.func18, Try.ntmps18
    go_wp2
    go_loopw [5] (fun i wr => ∃ k : Nat, k ≤ l1.length ∧ i = .int .i64 k ∧ l1.take k = l2.take k ∧ ∃ n, wr = w.drewN n) (fun i _ => l1.length - (intOf i).toNat)
    case atStart => exact ⟨0, Nat.zero_le _, rfl, rfl, 0, rfl⟩
    case round =>
      obtain ⟨k, hk, rfl, heq, n, rfl⟩ := hrel
      have heq' := Lib.hid heq
      clear heq
      by_cases hlt : k < l1.length
      · obtain ⟨b1, o1, rfl, hcell1⟩ := hl1.resolve_left (by omega)
        obtain ⟨b2, o2, rfl, hcell2⟩ := hl2.resolve_left (by have := hlen'.out; omega)
        have hlt2 : k < l2.length := by have := hlen'.out; omega
        have hx1 := hcell1 k hlt
        have hx2 := hcell2 k hlt2
        unfold encB at hx1 hx2
        clear hcell1 hcell2 hl1 hl2
        by_cases hxy : l1[k] = l2[k]
        · have hxy' := Lib.hid hxy
          have hn : ((l1[k].toNat : Int) != (l2[k].toNat : Int)) = false := by rw [hxy]; simp
          clear hxy
          go_wp2
          go_quiet (fail)
          go_wp2
          go_roundw
          case rel => exact ⟨k + 1, by omega, by go_num, by rw [List.take_succ_eq_append_getElem hlt, List.take_succ_eq_append_getElem hlt2, heq'.out, hxy'.out], _, rfl⟩
          case measure => simp [intOf]; omega
        · have hn : ((l1[k].toNat : Int) != (l2[k].toNat : Int)) = true := by
            rw [bne_iff_ne]; intro h; apply hxy; exact UInt8.toNat_inj.1 (by omega)
          have hfin := Lib.hid (show decide (l1 = l2) = false by rw [decide_eq_false_iff_not]; rintro rfl; exact hxy rfl)
          clear hxy
          go_wp2
          go_quiet (fail)
          go_wp2
          go_ret
          exact ⟨by rw [hfin.out]; rfl, _, World.drewN_drewN _ _ _⟩
      · obtain rfl : k = l1.length := by omega
        have hfin := Lib.hid (show decide (l1 = l2) = true by
          rw [decide_eq_true_iff]
          have := heq'.out
          rw [List.take_length, hlen'.out, List.take_length] at this
          exact this)
        go_wp2
        go_ret
        exact ⟨by rw [hfin.out]; rfl, n, rfl⟩
  · have hd : (((l1.length : Nat) : Int) != ((l2.length : Nat) : Int)) = true := by rw [bne_iff_ne]; omega
    have hfin := Lib.hid (show decide (l1 = l2) = false by rw [decide_eq_false_iff_not]; rintro rfl; exact hlen rfl)
    clear hlen
    go_enter Try.func18, Try.ntmps18
    go_wp2
    go_ret
    exact ⟨by rw [hfin.out]; rfl, 0, rfl⟩

set_option maxHeartbeats 400000 in
theorem ref_Put (v : Value) (l : List UInt8) (w : World) (h : RdV encB w v l) (hl : l.length ≤ 100000) :
    Calls Try.prog 20 #[v] w fun e w' => ∃ v', e = .returned v' ∧ Own encB 5 w' w.heap.size v' (crcPut l) ∧ Below w.heap.size w w' := by
  obtain ⟨a, c, rfl, hc, hm, hcl⟩ := h.open
  have hs := Lib.hid h
  have hb := crcMore_bd l 65535 (by omega) (by omega)
  clear h hcl
  go_enter Try.func20, Try.ntmps20
  go_wp2_with (first | (go_at_call 22; refine (ref_Sum _ _ _ hs.out).mono ?_; rintro e w' ⟨rfl, n, rfl⟩) |
    (at_builtin; refine wp_app (enc := encB) (l := []) (m := l) encB_one rfl (.tmp 6) (.tmp 7) _ rfl _ _ _ Try.underlying23 infoB rfl w.heap.size _ rfl ?a1 _ rfl ?a2 ?a3 (by omega) (by simp) ?a4))
  case a1 => exact Own.lit encB _ _ _ (by simp) [] _ _ rfl (by simp) rfl
  case a2 => exact (hs.out.drewN n).alloc _
  case a3 => simp; omega
  case a4 =>
    intro v1 w1 ho hg
    have hB : Below w.heap.size w w1 := ((belowN (Below.refl _ w) n).alloc (Nat.le_refl _) _).grown hg (by simp) (by simp [Value.ownBlock])
    have hd := div_u16 (crcMore 65535 l) 256 hb.1 hb.2 (by omega)
    clear hg
    go_wp2_with (at_builtin; refine wp_app (enc := encB) (l := l) (m := [lowB (crcMore 65535 l % 256), lowB (crcMore 65535 l / 256 % 256)]) encB_one rfl (.tmp 8) (.tmp 15) _ rfl _ _ _ Try.underlying23 infoB rfl w.heap.size _ rfl (ho.alloc _) _ rfl ?b2 ?b3 (by omega) ?b4 ?b5)
    case b2 =>
      have e : crcMore 65535 l / 256 % 256 = crcMore 65535 l / 256 := by omega
      exact RdV.lit encB _ _ _ _ _ _ rfl (Nat.le_refl _) (by simp) (by simp only [List.map_cons, List.map_nil, ← encB_mod]; rw [e])
    case b3 => simp; omega
    case b4 => have := hB.size; simp; omega
    case b5 =>
      intro v2 w2 ho2 hg2
      go_wp2
      go_ret
      exact ⟨v2, rfl, ho2, (hB.alloc hB.size _).grown hg2 (by have := hB.size; simp; omega) (fun k hk => (ho.base k hk).1)⟩

set_option maxHeartbeats 400000 in
theorem ref_Cut_no (v : Value) (l : List UInt8) (w : World) (h : RdV encB w v l) (hn : l.length < 2 ∨ crcMore 65535 l ≠ 0) (hl : l.length ≤ 100000) :
    Calls Try.prog 17 #[v] w fun e w' => e = .returned (.tuple #[.slice none 0 0, .bool false]) ∧ Below w.heap.size w w' := by
  obtain ⟨a, c, rfl, hc, hm, hcl⟩ := h.open
  have hs := Lib.hid h
  clear h hcl
  by_cases h2 : l.length < 2
  · clear hn
    go_enter Try.func17, Try.ntmps17
    go_wp2
    go_ret2
    exact ⟨rfl, Below.refl _ _⟩
  · have hne : decide (crcPut (l.take (l.length - 2)) = l) = false := by
      rw [decide_eq_false_iff_not, crcPut_take l (by omega)]; exact hn.resolve_left h2
    have hne' := Lib.hid hne
    clear hn hne
    go_enter Try.func17, Try.ntmps17
    go_wp2_with (first | (go_at_call 20; refine (ref_Put _ (l.take (l.length - 2)) _ (hs.out.take _ _ (by omega) (by omega)) (by simp; omega)).mono ?_; rintro e w1 ⟨v1, rfl, ho, hB⟩) |
      (go_at_call 18; refine (ref_Same _ _ _ _ _ ho.rd (hs.out.below hB)).mono ?_; rintro e w' ⟨rfl, n, rfl⟩; rw [hne'.out]))
    go_ret2
    exact ⟨rfl, belowN hB n⟩
set_option maxHeartbeats 400000 in
theorem ref_Cut_yes (v : Value) (l : List UInt8) (w : World) (h : RdV encB w v l) (h2 : 2 ≤ l.length) (hz : crcMore 65535 l = 0) (hl : l.length ≤ 100000) :
    Calls Try.prog 17 #[v] w fun e w' => ∃ v', e = .returned (.tuple #[v', .bool true]) ∧ Own encB 5 w' w.heap.size v' (l.take (l.length - 2)) ∧ Below w.heap.size w w' := by
  obtain ⟨a, c, rfl, hc, hm, hcl⟩ := h.open
  have hs := Lib.hid h
  have hne : decide (crcPut (l.take (l.length - 2)) = l) = true := by
    rw [decide_eq_true_iff, crcPut_take l (by omega)]; exact hz
  have hne' := Lib.hid hne
  clear h hcl hz hne
  go_enter Try.func17, Try.ntmps17
  go_wp2_with (first | (go_at_call 20; refine (ref_Put _ (l.take (l.length - 2)) _ (hs.out.take _ _ (by omega) (by omega)) (by simp; omega)).mono ?_; rintro e w1 ⟨v1, rfl, ho, hB⟩) |
    (go_at_call 18; refine (ref_Same _ _ _ _ _ ho.rd (hs.out.below hB)).mono ?_; rintro e w' ⟨rfl, n, rfl⟩; rw [hne'.out]) |
    (at_builtin; refine wp_app (enc := encB) (l := []) (m := l.take (l.length - 2)) encB_one rfl (.tmp 18) (.tmp 19) _ rfl _ _ _ Try.underlying23 infoB rfl w.heap.size _ rfl ?a1 _ rfl ?a2 ?a3 (by omega) ?a5 ?a4))
  case a1 => exact Own.lit encB _ _ _ hB.size [] _ _ rfl (by simp) rfl
  case a2 => exact (((hs.out.below hB).drewN n).alloc _).take _ _ (by omega) (by omega)
  case a3 => simp; omega
  case a5 => have := hB.size; simp; omega
  case a4 =>
    intro v2 w2 ho2 hg2
    have hB' := ((belowN hB n).alloc hB.size _).grown hg2 (by have := hB.size; simp; omega) (by simp [Value.ownBlock]; exact hB.size)
    go_wp2
    go_ret2
    exact ⟨v2, rfl, ho2, hB'⟩
end Go.Proofs.Ytigfninpflemnaa
