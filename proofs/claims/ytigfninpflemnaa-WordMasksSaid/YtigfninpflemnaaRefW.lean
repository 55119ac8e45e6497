/- The reference of layer 2: what its functions compute. -/
import Derived.Test.YtigfninpflemnaaWord
namespace Go.Proofs.Ytigfninpflemnaa
open Go.RowKit

set_option maxHeartbeats 400000 in
theorem refW_Words_no (v : Value) (l : List UInt8) (w : World) (h : RdV encB w v l) (hn : l.length % 2 = 1) :
    Calls Try.prog 39 #[v] w fun e w' => e = .returned (.tuple #[.slice none 0 0, .bool false]) ∧ w = w' := by
  obtain ⟨a, c, rfl, hc, hm, _⟩ := h.open
  have hb : ((l.length : Int) % 2 == 1) = true := by rw [beq_iff_eq]; omega
  clear hn
  go_enter Try.func39, Try.ntmps39
  go_wp2
  go_ret2
  exact ⟨rfl, rfl⟩
set_option maxRecDepth 100000 in
set_option maxHeartbeats 400000 in
theorem refW_Words_yes (v : Value) (l : List UInt8) (w : World) (h : RdV encB w v l) (hn : l.length % 2 = 0) (hl : l.length ≤ 100000) :
    Calls Try.prog 39 #[v] w fun e w' => ∃ v', e = .returned (.tuple #[v', .bool true]) ∧ Own encW 22 w' w.heap.size v' (wWords l) ∧ Below w.heap.size w w' := by
  obtain ⟨a, c, rfl, hc, hm, hcl⟩ := h.open
  have hcl' := Lib.hid hcl
  clear hcl
  have hb : ((l.length : Int) % 2 == 1) = false := by rw [beq_eq_false_iff_ne]; omega
  have hn' := Lib.hid hn
  clear hn
  go_enter Try.func39, Try.ntmps39
  go_wp2
  go_loopw [4, 5] (fun x i wr => ∃ k : Nat, k ≤ l.length ∧ k % 2 = 0 ∧ i = .int .i64 k ∧ Own encW 22 wr w.heap.size x (wWords (l.take k)) ∧ Below w.heap.size w wr) (fun _ i _ => l.length - (intOf i).toNat)
  case atStart => exact ⟨0, Nat.zero_le _, rfl, rfl, Own.nil _ _ _ _, Below.refl _ _⟩
  case round =>
    obtain ⟨k, hk, hk2, rfl, ho, hB⟩ := hrel
    clear hb
    have hn := hn'.out
    have hcl := hcl'.out
    by_cases hlt : k < l.length
    · obtain ⟨b, o, rfl, hcell⟩ := hcl.resolve_left (by omega)
      have hx0 := hcell k hlt
      have hlx := World.block_lt_of_cell? _ _ hx0
      simp only [] at hlx
      have hx := (hB.cell (p := ⟨b, o + k, none⟩) hlx).trans hx0
      have hy := (hB.cell (p := ⟨b, o + (k + 1), none⟩) hlx).trans (hcell (k + 1) (by omega))
      simp only [encB] at hx hy
      have ag := (fun e => absurd (ho.base b e).1 (by omega) : _ = some b → False)
      have hlr := Nat.lt_of_lt_of_le hlx hB.size
      have hs := Lib.hid (wWords_step l k (by omega) hk2)
      clear hcell hcl hx0
      go_wp2
      have q0 : (0 : Int) ≤ (k : Int) := by omega
      have q1 : (k : Int) < (l.length : Int) := by omega
      have q2 : (0 : Int) ≤ (k : Int) + 1 := by omega
      have q3 : (k : Int) + 1 < (l.length : Int) := by omega
      have q4 : IntKind.i64.wrap ((k : Int) + 1) = (k : Int) + 1 := IntWalk.i64_in _ (by omega)
      have q5 : ((k : Int) + 1).toNat = k + 1 := by omega
      have lenF : ((wWords (l.take k)).length + [mkW l[k] l[k + 1]].length) * 2 ≤ 140737488355328 := by rw [wWords_len, List.length_take, List.length_singleton]; omega
      go_region_held3 (fun w' => w'.cell? ⟨b, o + k, none⟩ = some (.int .u8 (l[k].toNat : Int)) ∧ w'.cell? ⟨b, o + (k + 1), none⟩ = some (.int .u8 (l[k + 1].toNat : Int)))
        (first | (go_split_ands; refine ⟨hg1.cell ?_ (fun e => ag e.symm), hg1.cell ?_ (fun e => ag e.symm)⟩ <;> assumption) | (go_keep; done))
        ((refine step_app (enc := encW) (l := wWords (l.take k)) (m := [mkW l[k] l[k + 1]]) encW_one rfl _ _ _ rfl 22 (.int .u16 0) 2 Try.underlying50 infoW rfl w.heap.size _ rfl (by first | exact ho.drew.alloc _ | exact (ho.alloc _).drew) _ rfl (RdV.drew (RdV.lit encW _ _ [mkW l[k] l[k + 1]] _ _ _ rfl (Nat.le_refl _) (by simp) (by simp [encW, add_mkW]))) (by simp) lenF (by omega) (by first | exact Nat.le_succ_of_le hB.size | (simp; exact Nat.le_succ_of_le hB.size)) ?_; intro v1 w1 ho1 hg1))
      clear q0 q1 q2 q3 q4 q5
      go_wp2
      go_roundw
      case rel => exact ⟨k + 2, by omega, by omega, by go_num, by rw [hs.out]; exact ho1, by first | exact belowG (Below.drew (belowA hB _)) hg1 (fun k hk => (ho.base k hk).1) | exact belowG (belowA (Below.drew hB) _) hg1 (fun k hk => (ho.base k hk).1)⟩
      case measure => simp [intOf]; omega
    · obtain rfl : k = l.length := by omega
      rw [List.take_length] at ho
      go_wp2
      go_ret2
      exact ⟨_, rfl, ho, hB⟩


set_option maxHeartbeats 400000 in
theorem refW_Same (v1 v2 : Value) (l1 l2 : List UInt16) (w : World) (h1 : RdV encW w v1 l1) (h2 : RdV encW w v2 l2) :
    Calls Try.prog 40 #[v1, v2] w fun e w' => e = .returned (.bool (decide (l1 = l2))) ∧ ∃ n, w' = w.drewN n := by
  obtain ⟨a1, c1, rfl, hc1, hm1, hl1⟩ := h1.open
  obtain ⟨a2, c2, rfl, hc2, hm2, hl2⟩ := h2.open
  clear h1 h2
  by_cases hlen : l1.length = l2.length
  · have hd : (((l1.length : Nat) : Int) != ((l2.length : Nat) : Int)) = false := by simp [hlen]
    have hlen' := Lib.hid hlen
    clear hlen
    go_enter Try.func40, Try.ntmps40
    go_wp2
    go_loopw [5] (fun i wr => ∃ k : Nat, k ≤ l1.length ∧ i = .int .i64 k ∧ l1.take k = l2.take k ∧ ∃ n, wr = w.drewN n) (fun i _ => l1.length - (intOf i).toNat)
    case atStart => exact ⟨0, Nat.zero_le _, rfl, rfl, 0, rfl⟩
    case round =>
      obtain ⟨k, hk, rfl, heq, n, rfl⟩ := hrel
      have heq' := Lib.hid heq
      clear heq
      by_cases hlt : k < l1.length
      · obtain ⟨b1, o1, rfl, hcell1⟩ := hl1.resolve_left (by omega)
        obtain ⟨b2, o2, rfl, hcell2⟩ := hl2.resolve_left (by have := hlen'.out; omega)
        have hlt2 : k < l2.length := by have := hlen'.out; omega
        have hx1 := hcell1 k hlt
        have hx2 := hcell2 k hlt2
        unfold encW at hx1 hx2
        clear hcell1 hcell2 hl1 hl2
        by_cases hxy : l1[k] = l2[k]
        · have hxy' := Lib.hid hxy
          have hn : ((l1[k].toNat : Int) != (l2[k].toNat : Int)) = false := by rw [hxy]; simp
          clear hxy
          go_wp2
          go_quiet (fail)
          go_wp2
          go_roundw
          case rel => exact ⟨k + 1, by omega, by go_num, by rw [List.take_succ_eq_append_getElem hlt, List.take_succ_eq_append_getElem hlt2, heq'.out, hxy'.out], _, rfl⟩
          case measure => simp [intOf]; omega
        · have hn : ((l1[k].toNat : Int) != (l2[k].toNat : Int)) = true := by
            rw [bne_iff_ne]; intro h; apply hxy; exact UInt16.toNat_inj.1 (by omega)
          have hfin := Lib.hid (show decide (l1 = l2) = false by rw [decide_eq_false_iff_not]; rintro rfl; exact hxy rfl)
          clear hxy
          go_wp2
          go_quiet (fail)
          go_wp2
          go_ret
          exact ⟨by rw [hfin.out]; rfl, _, World.drewN_drewN _ _ _⟩
      · obtain rfl : k = l1.length := by omega
        have hfin := Lib.hid (show decide (l1 = l2) = true by
          rw [decide_eq_true_iff]
          have := heq'.out
          rw [List.take_length, hlen'.out, List.take_length] at this
          exact this)
        go_wp2
        go_ret
        exact ⟨by rw [hfin.out]; rfl, n, rfl⟩
  · have hd : (((l1.length : Nat) : Int) != ((l2.length : Nat) : Int)) = true := by rw [bne_iff_ne]; omega
    have hfin := Lib.hid (show decide (l1 = l2) = false by rw [decide_eq_false_iff_not]; rintro rfl; exact hlen rfl)
    clear hlen
    go_enter Try.func40, Try.ntmps40
    go_wp2
    go_ret
    exact ⟨by rw [hfin.out]; rfl, 0, rfl⟩

set_option maxHeartbeats 400000 in
theorem refW_SameBits (v1 v2 : Value) (l1 l2 : List Bool) (w : World) (h1 : RdV encT w v1 l1) (h2 : RdV encT w v2 l2) :
    Calls Try.prog 43 #[v1, v2] w fun e w' => e = .returned (.bool (decide (l1 = l2))) ∧ ∃ n, w' = w.drewN n := by
  obtain ⟨a1, c1, rfl, hc1, hm1, hl1⟩ := h1.open
  obtain ⟨a2, c2, rfl, hc2, hm2, hl2⟩ := h2.open
  clear h1 h2
  by_cases hlen : l1.length = l2.length
  · have hd : (((l1.length : Nat) : Int) != ((l2.length : Nat) : Int)) = false := by simp [hlen]
    have hlen' := Lib.hid hlen
    clear hlen
    go_enter Try.func43, Try.ntmps43
    go_wp2
    go_loopw [5] (fun i wr => ∃ k : Nat, k ≤ l1.length ∧ i = .int .i64 k ∧ l1.take k = l2.take k ∧ ∃ n, wr = w.drewN n) (fun i _ => l1.length - (intOf i).toNat)
    case atStart => exact ⟨0, Nat.zero_le _, rfl, rfl, 0, rfl⟩
    case round =>
      obtain ⟨k, hk, rfl, heq, n, rfl⟩ := hrel
      have heq' := Lib.hid heq
      clear heq
      by_cases hlt : k < l1.length
      · obtain ⟨b1, o1, rfl, hcell1⟩ := hl1.resolve_left (by omega)
        obtain ⟨b2, o2, rfl, hcell2⟩ := hl2.resolve_left (by have := hlen'.out; omega)
        have hlt2 : k < l2.length := by have := hlen'.out; omega
        have hx1 := hcell1 k hlt
        have hx2 := hcell2 k hlt2
        unfold encT at hx1 hx2
        clear hcell1 hcell2 hl1 hl2
        by_cases hxy : l1[k] = l2[k]
        · have hxy' := Lib.hid hxy
          have hn : (!(l1[k] == l2[k])) = false := by rw [hxy]; simp
          clear hxy
          go_wp2
          go_quiet (fail)
          go_wp2
          go_roundw
          case rel => exact ⟨k + 1, by omega, by go_num, by rw [List.take_succ_eq_append_getElem hlt, List.take_succ_eq_append_getElem hlt2, heq'.out, hxy'.out], _, rfl⟩
          case measure => simp [intOf]; omega
        · have hn : (!(l1[k] == l2[k])) = true := by
            simp [hxy]
          have hfin := Lib.hid (show decide (l1 = l2) = false by rw [decide_eq_false_iff_not]; rintro rfl; exact hxy rfl)
          clear hxy
          go_wp2
          go_quiet (fail)
          go_wp2
          go_ret
          exact ⟨by rw [hfin.out]; rfl, _, World.drewN_drewN _ _ _⟩
      · obtain rfl : k = l1.length := by omega
        have hfin := Lib.hid (show decide (l1 = l2) = true by
          rw [decide_eq_true_iff]
          have := heq'.out
          rw [List.take_length, hlen'.out, List.take_length] at this
          exact this)
        go_wp2
        go_ret
        exact ⟨by rw [hfin.out]; rfl, n, rfl⟩
  · have hd : (((l1.length : Nat) : Int) != ((l2.length : Nat) : Int)) = true := by rw [bne_iff_ne]; omega
    have hfin := Lib.hid (show decide (l1 = l2) = false by rw [decide_eq_false_iff_not]; rintro rfl; exact hlen rfl)
    clear hlen
    go_enter Try.func43, Try.ntmps43
    go_wp2
    go_ret
    exact ⟨by rw [hfin.out]; rfl, 0, rfl⟩

set_option maxHeartbeats 400000 in
theorem refW_Put (n : Int) (w : World) (h0 : 0 ≤ n) (h1 : n < 65536) :
    Calls Try.prog 50 #[.int .u16 n] w fun e w' => e = .returned (.agg #[.int .u8 (n / 256), .int .u8 (n % 256)]) ∧ Below w.heap.size w w' := by
  have hd := div_u16 n 256 h0 h1 (by omega)
  go_enter Try.func50, Try.ntmps50
  go_wp2
  refine bodyPost_ret (v := .agg #[.int .u8 (n / 256), .int .u8 (n % 256)]) (by simp [results, Try.results50, go_sem]) rfl ?_
  exact ⟨rfl, belowA (Below.refl _ w) _⟩
set_option maxRecDepth 100000 in
set_option maxHeartbeats 400000 in
theorem refW_Bytes (v : Value) (l : List UInt16) (w : World) (h : RdV encW w v l) (hl : l.length ≤ 100000) :
    Calls Try.prog 45 #[v] w fun e w' => ∃ v', e = .returned v' ∧ Own encB 5 w' w.heap.size v' (wBytes l) ∧ Below w.heap.size w w' := by
  obtain ⟨a, c, rfl, hc, hm, hcl⟩ := h.open
  go_enter Try.func45, Try.ntmps45
  go_wp2
  go_loopw [3, 4] (fun x i wr => ∃ k : Nat, k ≤ l.length ∧ i = .int .i64 k ∧ Own encB 5 wr w.heap.size x (wBytes (l.take k)) ∧ Below w.heap.size w wr) (fun _ i _ => l.length - (intOf i).toNat)
  case atStart => exact ⟨0, Nat.zero_le _, rfl, Own.lit encB w _ _ (Nat.le_refl _) [] _ _ rfl (by simp) rfl, belowA (Below.refl _ w) _⟩
  case round =>
    obtain ⟨k, hk, rfl, ho, hB⟩ := hrel
    by_cases hlt : k < l.length
    · obtain ⟨b, o, rfl, hcell⟩ := hcl.resolve_left (by omega)
      have hx0 := hcell k hlt
      have hlx := World.block_lt_of_cell? _ _ hx0
      simp only [] at hlx
      have hx := (hB.cell (p := ⟨b, o + k, none⟩) hlx).trans hx0
      simp only [encW] at hx
      have hs := Lib.hid (wBytes_step l k hlt)
      have lenF : (wBytes (l.take k)).length + 2 ≤ 140737488355328 := by rw [wBytes_len, List.length_take]; omega
      have hn := l[k].toNat_lt
      clear hcell hcl hx0
      generalize l[k] = n at *
      go_wp2_with (first | (go_at_call 50; refine (refW_Put _ _ (by omega) (by omega)).mono ?_; rintro e w1 ⟨rfl, hB1⟩) |
        (at_builtin; refine wp_app (enc := encB) (l := wBytes (l.take k)) (m := [UInt8.ofNat (n.toNat / 256), UInt8.ofNat (n.toNat % 256)]) encB_one rfl (.tmp 18) (.tmp 23) _ rfl _ _ _ Try.underlying23 infoB rfl w.heap.size _ rfl (((ho.below hB1).alloc _).alloc _) _ rfl ?a2 ?a3 (by omega) ?a4 ?a5))
      case a2 => exact RdV.litg encB _ _ [UInt8.ofNat (n.toNat / 256), UInt8.ofNat (n.toNat % 256)] _ _ _ _ (by simp) rfl (Nat.le_refl _) (by simp) (by simp [encB]; omega)
      case a3 => rw [Nat.mul_one]; exact lenF
      case a4 => exact (belowA (belowA (belowT hB hB1) _) _).size
      intro v2 w2 ho2 hg2
      go_wp2
      go_roundw
      case rel => exact ⟨k + 1, by omega, by go_num, by rw [hs.out]; exact ho2, belowG (belowA (belowA (belowT hB hB1) _) _) hg2 (fun k hk => (ho.base k hk).1)⟩
      case measure => simp [intOf]; omega
    · obtain rfl : k = l.length := by omega
      rw [List.take_length] at ho
      go_wp2
      go_ret
      exact ⟨_, rfl, ho, hB⟩

set_option maxRecDepth 100000 in
set_option maxHeartbeats 800000 in
theorem refW_Pack (v : Value) (l : List Bool) (w : World) (h : RdV encT w v l) (hl : l.length ≤ 1000000) :
    Calls Try.prog 47 #[v] w fun e w' => ∃ v', e = .returned v' ∧ Own encB 5 w' w.heap.size v' (wPack l) ∧ Below w.heap.size w w' := by
  obtain ⟨a, c, rfl, hc, hm, hcl⟩ := h.open
  go_enter Try.func47, Try.ntmps47
  go_wp2
  go_loopw [3, 4, 5] (fun x y i wr => ∃ k e : Nat, k ≤ l.length ∧ e ≤ 8 ∧ e % 8 = k % 8 ∧ i = .int .i64 k ∧ y = .int .i64 (2 ^ e) ∧ Own encB 5 wr w.heap.size x (wPack (l.take k)) ∧ Below w.heap.size w wr) (fun _ _ i _ => l.length - (intOf i).toNat)
  case atStart => exact ⟨0, 0, Nat.zero_le _, by omega, rfl, rfl, rfl, (by rw [List.take_zero]; exact Own.lit encB w _ _ (Nat.le_refl _) [] _ _ rfl (by simp) rfl), belowA (Below.refl _ w) _⟩
  case round =>
    obtain ⟨k, e, hk, he, hek, rfl, rfl, ho, hB⟩ := hrel
    have hpe : (0 : Int) < 2 ^ e := Int.pow_pos (by omega)
    have hpe2 : (2 : Int) ^ e ≤ 256 := by
      have : (2 : Nat) ^ e ≤ 2 ^ 8 := Nat.pow_le_pow_right (by omega) he
      have h : (((2 : Nat) ^ e : Nat) : Int) ≤ ((2 ^ 8 : Nat) : Int) := by exact_mod_cast this
      simpa using h
    by_cases hlt : k < l.length
    · obtain ⟨b, o, rfl, hcell⟩ := hcl.resolve_left (by omega)
      have hx0 := hcell k hlt
      have hlx := World.block_lt_of_cell? _ _ hx0
      simp only [] at hlx
      have hx := (hB.cell (p := ⟨b, o + k, none⟩) hlx).trans hx0
      simp only [encT] at hx
      have lenF : (wPack (l.take k)).length + 1 ≤ 140737488355328 := by rw [wPack_len, List.length_take]; omega
      have hW := Lib.hid (pk_wPack l k hlt)
      by_cases h8 : k % 8 = 0
      · have hd : ((k : Int) % 8 == 0) = true := by rw [beq_iff_eq]; omega
        have hM := Lib.hid (pk_more l k hlt h8)
        have h8' := Lib.hid h8
        clear hcell hcl hx0 h8 hek
        go_wp2_with (at_builtin; refine wp_app (enc := encB) (l := wPack (l.take k)) (m := [0]) encB_one rfl (.tmp 16) (.tmp 17) _ rfl _ _ _ Try.underlying23 infoB rfl w.heap.size _ rfl (ho.alloc _) _ rfl ?a2 ?a3 (by omega) ?a4 ?a5)
        case a2 => exact RdV.lit encB _ _ [0] _ _ _ rfl (Nat.le_refl _) (by simp) (by simp [encB])
        case a3 => rw [Nat.mul_one]; exact lenF
        case a4 => exact (belowA hB _).size
        intro v2 w2 ho2 hg2
        rw [hM.out] at ho2
        have hB2 := belowG (belowA hB _) hg2 (fun k hk => (ho.base k hk).1)
        have hx2 := (hB2.cell (p := ⟨b, o + k, none⟩) hlx).trans ((hB.cell (p := ⟨b, o + k, none⟩) hlx).symm.trans hx)
        clear hg2 ho hB hx hd
        have h80 : k % 8 = 0 := h8'.out
        obtain ⟨g, cap, rfl, hgb, hgl⟩ := ho2.block (by rw [pk_len]; omega)
        rw [pk_len] at ho2 ⊢
        cases hv : l[k] with
        | false =>
          rw [hv] at hx2
          have hs := Lib.hid ((pk_false l k (k / 8 + 1) hlt hv).symm.trans hW.out)
          clear hv
          go_wp2
          go_roundw
          case rel => exact ⟨k + 1, 1, by omega, by omega, by omega, by go_num, by rw [Int.pow_succ, Int.mul_comm]; rfl, by rw [← hs.out]; exact ho2, hB2⟩
          case measure => simp [intOf]; omega
        | true =>
          rw [hv] at hx2
          have hn : k / 8 < (pk (l.take k) (k / 8 + 1)).length := by rw [pk_len]; omega
          have hp := pk_true l k (k / 8 + 1) hlt hv hn
          have hs := Lib.hid (hp.1.symm.trans hW.out)
          have hc8 := hp.2
          obtain ⟨hca, hfa⟩ := ho2.at (k / 8) hn
          have hset := ho2.set (k / 8) (UInt8.ofNat ((pk (l.take k) (k / 8 + 1))[k / 8].toNat + 2 ^ (k % 8)))
          simp only [encB] at hca hset
          clear hv hp
          go_wp2
          have hv1 : (((pk (l.take k) (k / 8 + 1))[k / 8].toNat : Int) + 1) % 256 = ((UInt8.ofNat ((pk (l.take k) (k / 8 + 1))[k / 8].toNat + 2 ^ (k % 8))).toNat : Int) := by
            rw [UInt8.toNat_ofNat', h80]; omega
          rw [hv1]
          go_roundw
          case rel => exact ⟨k + 1, 1, by omega, by omega, by omega, by go_num, rfl, by rw [← hs.out]; exact hset.1, belowG hB2 hset.2 (by simp; exact hgb)⟩
          case measure => simp [intOf]; omega
      · have hd : ((k : Int) % 8 == 0) = false := by rw [beq_eq_false_iff_ne]; omega
        obtain rfl : e = k % 8 := by omega
        rw [pk_enough l k hlt h8] at ho
        clear hcell hcl hx0
        obtain ⟨g, cap, rfl, hgb, hgl⟩ := ho.block (by rw [pk_len]; omega)
        rw [pk_len] at ho ⊢
        cases hv : l[k] with
        | false =>
          rw [hv] at hx
          have hs := Lib.hid ((pk_false l k (k / 8 + 1) hlt hv).symm.trans hW.out)
          clear hv
          go_wp2
          go_roundw
          case rel => exact ⟨k + 1, k % 8 + 1, by omega, by omega, by omega, by go_num, by rw [Int.pow_succ, Int.mul_comm], by rw [← hs.out]; exact ho, hB⟩
          case measure => simp [intOf]; omega
        | true =>
          rw [hv] at hx
          have hn : k / 8 < (pk (l.take k) (k / 8 + 1)).length := by rw [pk_len]; omega
          have hp := pk_true l k (k / 8 + 1) hlt hv hn
          have hs := Lib.hid (hp.1.symm.trans hW.out)
          have hc8 := hp.2
          obtain ⟨hca, hfa⟩ := ho.at (k / 8) hn
          have hset := ho.set (k / 8) (UInt8.ofNat ((pk (l.take k) (k / 8 + 1))[k / 8].toNat + 2 ^ (k % 8)))
          simp only [encB] at hca hset
          clear hv hp
          go_wp2
          have hv2 : (((pk (l.take k) (k / 8 + 1))[k / 8].toNat : Int) + 2 ^ (k % 8)) % 256 = ((UInt8.ofNat ((pk (l.take k) (k / 8 + 1))[k / 8].toNat + 2 ^ (k % 8))).toNat : Int) := by
            have h2 : ((2 ^ (k % 8) : Nat) : Int) = (2 : Int) ^ (k % 8) := by simp
            rw [UInt8.toNat_ofNat', ← h2]; omega
          rw [hv2]
          go_roundw
          case rel => exact ⟨k + 1, k % 8 + 1, by omega, by omega, by omega, by go_num, by rw [Int.pow_succ, Int.mul_comm], by rw [← hs.out]; exact hset.1, belowG hB hset.2 (by simp; exact hgb)⟩
          case measure => simp [intOf]; omega
    · obtain rfl : k = l.length := by omega
      rw [List.take_length] at ho
      go_wp2
      go_ret
      exact ⟨_, rfl, ho, hB⟩

set_option maxRecDepth 100000 in
set_option maxHeartbeats 1600000 in
theorem refW_Bits_loops (v : Value) (b : List UInt8) (m : Nat) (w : World) (h : RdV encB w v b) (hm8 : m ≤ 8 * b.length) (hl : b.length ≤ 100000) :
    Calls Try.prog 42 #[v, .int .i64 (m : Int)] w fun e w' => ∃ v', e = .returned (.tuple #[v', .bool (wBits b m).1]) ∧ RdV encT w' v' (wBits b m).2 ∧ Below w.heap.size w w' := by
  obtain ⟨a, c, rfl, hc, hm, hcl⟩ := h.open
  have hcl' := Lib.hid hcl
  clear hcl
  go_enter Try.func42, Try.ntmps42
  go_wp2
  go_loopw [6, 7] (fun x i wr => ∃ k : Nat, k ≤ m ∧ i = .int .i64 k ∧ Own encT 4 wr w.heap.size x (wBitsL b k) ∧ Below w.heap.size w wr) (fun _ i _ => m - (intOf i).toNat)
  case atStart => exact ⟨0, Nat.zero_le _, rfl, Own.nil _ _ _ _, Below.refl _ _⟩
  case round =>
    obtain ⟨k, hk, rfl, ho, hB⟩ := hrel
    by_cases hlt : k < m
    · have hlk : k / 8 < b.length := by omega
      obtain ⟨g, o, he, hcell⟩ := hcl'.out.resolve_left (by omega)
      have hx0 := hcell (k / 8) hlk
      have e1 : b[k / 8] = b.getD (k / 8) 0 := by rw [List.getD_eq_getElem?_getD, List.getElem?_eq_getElem hlk, Option.getD_some]
      rw [e1] at hx0
      have hlx := World.block_lt_of_cell? _ _ hx0
      simp only [] at hlx
      have hx := (hB.cell (p := ⟨g, o + k / 8, none⟩) hlx).trans hx0
      simp only [encB] at hx
      have hs := Lib.hid (wBitsL_step b k)
      have lenF : (wBitsL b k).length + 1 ≤ 140737488355328 := by rw [wBitsL_len]; omega
      generalize b.getD (k / 8) 0 = y at *
      have hy := y.toNat_lt
      clear hcell hx0 e1
      cases he
      go_wp2
      obtain ⟨wo, rfl⟩ : ∃ wo : World, wo = wr := ⟨_, rfl⟩
      go_loopw [8, 9] (fun x i wi => ∃ j : Nat, j ≤ k % 8 ∧ i = .int .i64 j ∧ x = .int .i64 ((y.toNat / 2 ^ j : Nat) : Int) ∧ wi = wo) (fun _ i _ => k % 8 - (intOf i).toNat)
      case atStart => exact ⟨0, Nat.zero_le _, rfl, by simp, rfl⟩
      case round =>
        obtain ⟨j, hj, rfl, rfl, rfl⟩ := hrel
        have hq := Nat.div_le_self y.toNat (2 ^ j)
        by_cases hjt : j < k % 8
        · have hq2 : y.toNat / 2 ^ (j + 1) = y.toNat / 2 ^ j / 2 := by rw [Nat.pow_succ, Nat.div_div_eq_div_mul]
          have hq3 := Lib.hid hq2
          clear hq2
          generalize y.toNat / 2 ^ j = q at *
          go_wp2
          go_roundw
          case rel => exact ⟨j + 1, by omega, by go_num, by rw [hq3.out]; simp, trivial⟩
          case measure => simp [intOf]; omega
        · obtain rfl : j = k % 8 := by omega
          have hv : ((y.toNat / 2 ^ (k % 8) : Nat) : Int) % 2 = 1 ↔ bitsOf y (k % 8) = true := by unfold bitsOf; rw [decide_eq_true_iff]; omega
          have hv2 : (((y.toNat / 2 ^ (k % 8) : Nat) : Int) % 2 == 1) = bitsOf y (k % 8) := by rw [Bool.eq_iff_iff, beq_iff_eq]; exact hv
          clear hv
          generalize y.toNat / 2 ^ (k % 8) = q at *
          go_wp2_with (at_builtin; refine wp_app (enc := encT) (l := wBitsL b k) (m := [bitsOf y (k % 8)]) encT_one rfl (.tmp 40) (.tmp 44) _ rfl _ _ _ Try.underlying54 infoT rfl w.heap.size _ rfl (ho.alloc _) _ rfl ?a2 ?a3 (by omega) ?a4 ?a5)
          case a2 => exact RdV.lit encT _ _ [bitsOf y (k % 8)] _ _ _ rfl (Nat.le_refl _) (by simp) (by simp [encT])
          case a3 => rw [Nat.mul_one]; exact lenF
          case a4 => exact Nat.le_trans hB.size (by simp)
          intro v2 w2 ho2 hg2
          clear hv2
          go_wp2
          go_roundw
          case rel => exact ⟨k + 1, by omega, by go_num, by rw [hs.out]; exact ho2, belowG (belowA hB _) hg2 (fun k hk => (ho.base k hk).1)⟩
          case measure => simp [intOf]; omega
    · obtain rfl : k = m := by omega
      have hpb := Lib.hid (pack_bits b k)
      have hbl := Lib.hid (wBitsL_len b k)
      have hbL := (h.below hB).open
      go_wp2_with fail
      refine (refW_Pack _ _ _ ho.rd (by rw [wBitsL_len]; omega)).mono ?_
      rintro e w1 ⟨v1, rfl, ho1, hB1⟩
      have hr1 := ho1.rd
      have hbits := ho.rd.below hB1
      have hB2 := belowT hB hB1
      generalize wPack (wBitsL b k) = L at *
      generalize hBL0 : wBitsL b k = BL at *
      have hBL := Lib.hid hBL0
      clear hBL0
      clear ho1 ho hB hB1 hbL
      obtain ⟨a1, c1, rfl, hc1, hm1, hl1⟩ := hr1.open
      by_cases hlen : L.length = b.length
      · have hd : (((L.length : Nat) : Int) != ((b.length : Nat) : Int)) = false := by simp [hlen]
        have hlen' := Lib.hid hlen
        clear hlen
        go_wp2
        obtain ⟨wo, rfl⟩ : ∃ wo : World, wo = w1 := ⟨_, rfl⟩
        go_loopw [11] (fun i wr => ∃ k : Nat, k ≤ L.length ∧ i = .int .i64 k ∧ L.take k = b.take k ∧ ∃ n, wr = wo.drewN n) (fun i _ => L.length - (intOf i).toNat)
        case atStart => exact ⟨0, Nat.zero_le _, rfl, rfl, 0, rfl⟩
        case round =>
          obtain ⟨q, hq, rfl, heq, n, rfl⟩ := hrel
          have heq' := Lib.hid heq
          clear heq
          by_cases hqt : q < L.length
          · have hqt2 : q < b.length := by have := hlen'.out; omega
            obtain ⟨g1, o1, rfl, hcell1⟩ := hl1.resolve_left (by omega)
            obtain ⟨g2, o2, he2, hcell2⟩ := hcl'.out.resolve_left (by omega)
            have hx1 := hcell1 q hqt
            have hx20 := hcell2 q hqt2
            have hlx := World.block_lt_of_cell? _ _ hx20
            have hx2 := (hB2.cell (p := ⟨g2, o2 + q, none⟩) hlx).trans hx20
            simp only [encB] at hx1 hx2
            clear hcell1 hcell2 hl1 hx20
            cases he2
            by_cases hxy : L[q] = b[q]
            · have hxy' := Lib.hid hxy
              have hn : ((L[q].toNat : Int) != (b[q].toNat : Int)) = false := by rw [hxy]; simp
              clear hxy
              go_wp2
              go_quiet (fail)
              go_wp2
              go_roundw
              case rel => exact ⟨q + 1, by omega, by go_num, by rw [List.take_succ_eq_append_getElem hqt, List.take_succ_eq_append_getElem hqt2, heq'.out, hxy'.out], _, rfl⟩
              case measure => simp [intOf]; omega
            · have hn : ((L[q].toNat : Int) != (b[q].toNat : Int)) = true := by
                rw [bne_iff_ne]; intro h; apply hxy; exact UInt8.toNat_inj.1 (by omega)
              have hno := Lib.hid (show ¬ bitsFit b k by rw [← hpb.out]; rintro rfl; exact hxy rfl)
              clear hxy
              go_wp2
              go_quiet (fail)
              go_wp2
              go_ret2
              exact ⟨_, by rw [wBits_no hno.out]; rfl, by rw [wBits_no hno.out]; exact RdV.nil _ _, belowN (belowN hB2 _) _⟩
          · obtain rfl : q = L.length := by omega
            have hyes := Lib.hid (show bitsFit b k by
              rw [← hpb.out]
              have := heq'.out
              rw [List.take_length, hlen'.out, List.take_length] at this
              exact this)
            go_wp2
            go_ret2
            exact ⟨_, by rw [wBits_yes hyes.out]; rfl, by rw [wBits_yes hyes.out, hBL.out]; exact hbits.drewN n, belowN hB2 n⟩
      · have hd : (((L.length : Nat) : Int) != ((b.length : Nat) : Int)) = true := by rw [bne_iff_ne]; omega
        have hno := Lib.hid (show ¬ bitsFit b k by rw [← hpb.out]; rintro rfl; exact hlen rfl)
        clear hlen
        go_wp2
        go_ret2
        exact ⟨_, by rw [wBits_no hno.out]; rfl, by rw [wBits_no hno.out]; exact RdV.nil _ _, hB2⟩

theorem refW_Bits (v : Value) (b : List UInt8) (n : Int) (w : World) (h : RdV encB w v b) (hl : b.length ≤ 100000) (hx1 : n ≤ 9223372036854775807) (hx0 : -9223372036854775808 ≤ n) :
    Calls Try.prog 42 #[v, .int .i64 n] w fun e w' => ∃ v', e = .returned (.tuple #[v', .bool (bitsTell b n).1]) ∧ RdV encT w' v' (bitsTell b n).2 ∧ Below w.heap.size w w' := by
  by_cases h0 : 0 ≤ n ∧ n ≤ 8 * b.length
  · obtain ⟨m, rfl⟩ := Int.eq_ofNat_of_zero_le h0.1
    rw [bitsTell_nat]
    exact refW_Bits_loops v b m w h (by omega) hl
  · have e : bitsTell b n = (false, []) := by
      by_cases h1 : n < 0
      · exact bitsTell_neg h1
      · obtain ⟨m, rfl⟩ := Int.eq_ofNat_of_zero_le (by omega : 0 ≤ n)
        rw [bitsTell_nat]
        exact wBits_no fun hf => by have := hf.1; omega
    have e' := Lib.hid e
    clear e
    obtain ⟨a, c, rfl, hc, hm, _⟩ := h.open
    have h0' : n < 0 ∨ 8 * (b.length : Int) < n := by omega
    clear h0
    rcases h0' with h0 | h0
    · go_enter Try.func42, Try.ntmps42
      go_wp2
      go_ret2
      exact ⟨_, by rw [e'.out]; rfl, by rw [e'.out]; exact RdV.nil _ _, Below.refl _ _⟩
    · have h1 : ¬ n < 0 := by omega
      go_enter Try.func42, Try.ntmps42
      go_wp2
      go_ret2
      exact ⟨_, by rw [e'.out]; rfl, by rw [e'.out]; exact RdV.nil _ _, Below.refl _ _⟩
theorem word_Bits (v : Value) (b : List UInt8) (n : Int) (w : World) (h : RdV encB w v b) (hl : b.length ≤ 100000) (hx1 : n ≤ 9223372036854775807) (hx0 : -9223372036854775808 ≤ n) :
    Calls Try.prog 41 #[v, .int .i64 n] w fun e w' => ∃ v', e = .returned (.tuple #[v', .bool (bitsTell b n).1]) ∧ RdV encT w' v' (bitsTell b n).2 ∧ Below w.heap.size w w' := by
  by_cases h0 : 0 ≤ n ∧ bitsFit b n.toNat
  · obtain ⟨m, rfl⟩ := Int.eq_ofNat_of_zero_le h0.1
    have hf : bitsFit b m := by simpa using h0.2
    rw [bitsTell_nat, wBits_yes hf]
    refine (word_Bits_yes v b m w h hf (by have := hf.1; omega)).mono ?_
    rintro e w' ⟨v', rfl, ho, hB⟩
    exact ⟨v', rfl, ho.rd, hB⟩
  · have e : bitsTell b n = (false, []) := by
      by_cases h1 : n < 0
      · exact bitsTell_neg h1
      · obtain ⟨m, rfl⟩ := Int.eq_ofNat_of_zero_le (by omega : 0 ≤ n)
        rw [bitsTell_nat]
        exact wBits_no fun hf => h0 ⟨by omega, by simpa using hf⟩
    rw [e]
    refine (word_Bits_no v b n w h (by by_cases h1 : n < 0; exact .inl h1; exact .inr fun hf => h0 ⟨by omega, hf⟩) hx1 hx0).mono ?_
    rintro e w' ⟨rfl, rfl⟩
    exact ⟨_, rfl, RdV.nil _ _, Below.refl _ _⟩
theorem word_Words (v : Value) (l : List UInt8) (w : World) (h : RdV encB w v l) (hl : l.length ≤ 100000) :
    Calls Try.prog 38 #[v] w fun e w' => ∃ v', e = .returned (.tuple #[v', .bool (wordsTell l).1]) ∧ RdV encW w' v' (wordsTell l).2 ∧ Below w.heap.size w w' := by
  rcases (by omega : l.length % 2 = 1 ∨ l.length % 2 = 0) with hn | hn
  · rw [wordsTell_no hn]
    refine (word_Words_no v l w h hn).mono ?_
    rintro e w' ⟨rfl, rfl⟩
    exact ⟨_, rfl, RdV.nil _ _, Below.refl _ _⟩
  · rw [wordsTell_yes hn]
    refine (word_Words_yes v l w h hn hl).mono ?_
    rintro e w' ⟨v', rfl, ho, hB⟩
    exact ⟨v', rfl, ho.rd, hB⟩
theorem refW_Words (v : Value) (l : List UInt8) (w : World) (h : RdV encB w v l) (hl : l.length ≤ 100000) :
    Calls Try.prog 39 #[v] w fun e w' => ∃ v', e = .returned (.tuple #[v', .bool (wordsTell l).1]) ∧ RdV encW w' v' (wordsTell l).2 ∧ Below w.heap.size w w' := by
  rcases (by omega : l.length % 2 = 1 ∨ l.length % 2 = 0) with hn | hn
  · rw [wordsTell_no hn]
    refine (refW_Words_no v l w h hn).mono ?_
    rintro e w' ⟨rfl, rfl⟩
    exact ⟨_, rfl, RdV.nil _ _, Below.refl _ _⟩
  · rw [wordsTell_yes hn]
    refine (refW_Words_yes v l w h hn hl).mono ?_
    rintro e w' ⟨v', rfl, ho, hB⟩
    exact ⟨v', rfl, ho.rd, hB⟩

def cap16 : Nat := 65536
theorem cap16_is : cap16 = 65536 := rfl
set_option maxRecDepth 100000 in
set_option maxHeartbeats 800000 in
theorem refW_Mask (n a o : Nat) (w : World) (hn : n < 65536) (ha : a < 65536) (ho : o < 65536) :
    Calls Try.prog 51 #[.int .u16 (n : Int), .int .u16 (a : Int), .int .u16 (o : Int)] w fun e w' => e = .returned (.int .u16 (maskN n a o : Int)) ∧ w = w' := by
  have hall := Lib.hid (msum_all n a o hn ho)
  have hlt := maskN_lt n a o hn ho
  have hnI : (n : Int) < 65536 := by omega
  have haI : (a : Int) < 65536 := by omega
  have hoI : (o : Int) < 65536 := by omega
  have hlI : (maskN n a o : Int) < 65536 := by omega
  clear hn ha ho hlt
  go_enter Try.func51, Try.ntmps51
  go_wp2
  go_loop [7, 8] (fun x y => ∃ j : Nat, j ≤ 16 ∧ y = .int .i64 ((2 ^ j : Nat) : Int) ∧ x = .int .i64 (msum n a o j : Int)) (fun _ y => cap16 - (intOf y).toNat)
  case atStart => exact ⟨0, by omega, rfl, rfl⟩
  case round =>
    obtain ⟨j, hj, rfl, rfl⟩ := hrel
    have hp : 0 < 2 ^ j := Nat.two_pow_pos j
    have hp2 : 2 ^ j ≤ 2 ^ 16 := Nat.pow_le_pow_right (by omega) hj
    have hm := msum_lt n a o j
    by_cases hjt : j < 16
    · have hp3 : 2 ^ j ≤ 2 ^ 15 := Nat.pow_le_pow_right (by omega) (by omega)
      have hs : msum n a o (j + 1) = msum n a o j + if maskB n a o j then 2 ^ j else 0 := rfl
      have hpow : 2 ^ (j + 1) = 2 * 2 ^ j := by rw [Nat.pow_succ, Nat.mul_comm]
      have ht : ∀ x : Nat, x.testBit j = decide (x / 2 ^ j % 2 = 1) := fun x => Nat.testBit_eq_decide_div_mod_eq
      unfold maskB at hs
      rw [ht n, ht a, ht o] at hs
      have ea : (a : Int) / ((2 ^ j : Nat) : Int) % 2 = ((a / 2 ^ j % 2 : Nat) : Int) := by rw [Int.natCast_emod, Int.natCast_ediv]; rfl
      have en : (n : Int) / ((2 ^ j : Nat) : Int) % 2 = ((n / 2 ^ j % 2 : Nat) : Int) := by rw [Int.natCast_emod, Int.natCast_ediv]; rfl
      have eo : (o : Int) / ((2 ^ j : Nat) : Int) % 2 = ((o / 2 ^ j % 2 : Nat) : Int) := by rw [Int.natCast_emod, Int.natCast_ediv]; rfl
      have ha1 := Nat.div_le_self a (2 ^ j)
      have hn1 := Nat.div_le_self n (2 ^ j)
      have ho1 := Nat.div_le_self o (2 ^ j)
      have qa : (a : Int) / ((2 ^ j : Nat) : Int) = ((a / 2 ^ j : Nat) : Int) := (Int.natCast_ediv _ _).symm
      have qn : (n : Int) / ((2 ^ j : Nat) : Int) = ((n / 2 ^ j : Nat) : Int) := (Int.natCast_ediv _ _).symm
      have qo : (o : Int) / ((2 ^ j : Nat) : Int) = ((o / 2 ^ j : Nat) : Int) := (Int.natCast_ediv _ _).symm
      clear ht ea en eo
      generalize a / 2 ^ j = A at *
      generalize n / 2 ^ j = B at *
      generalize o / 2 ^ j = C at *
      generalize msum n a o j = X at *
      have hs' := Lib.hid hs
      have hpow' := Lib.hid hpow
      clear hs hpow
      generalize 2 ^ j = p at *
      have pI1 : (1 : Int) ≤ (p : Int) := by omega
      have pI2 : (p : Int) ≤ 32768 := by omega
      have pX : (X : Int) < (p : Int) := by omega
      have hd := decide_eq_true (show (p : Int) < 65536 by omega)
      have bA : (A : Int) < 65536 := by omega
      have bB : (B : Int) < 65536 := by omega
      have bC : (C : Int) < 65536 := by omega
      clear hp hp2 hp3 hm ha1 hn1 ho1
      by_cases h1 : A % 2 = 1
      · have t1 : ((A : Int) % 2 == 1) = true := by rw [beq_iff_eq]; omega
        by_cases h2 : B % 2 = 1
        · have t2 : ((B : Int) % 2 == 1) = true := by rw [beq_iff_eq]; omega
          have hf := Lib.hid (show (X : Int) + p = ((msum n a o (j + 1) : Nat) : Int) by rw [hs'.out]; simp [h1, h2])
          clear h1 h2
          go_wp2
          go_round
          case rel => exact ⟨j + 1, by omega, by rw [hpow'.out]; simp, by rw [← hf.out]⟩
          case measure => have hc := cap16_is; simp [intOf]; omega
        · have t2 : ((B : Int) % 2 == 1) = false := by rw [beq_eq_false_iff_ne]; omega
          have hf := Lib.hid (show (X : Int) = ((msum n a o (j + 1) : Nat) : Int) by rw [hs'.out]; simp [h1, h2])
          clear h1 h2
          go_wp2
          go_round
          case rel => exact ⟨j + 1, by omega, by rw [hpow'.out]; simp, by rw [← hf.out]⟩
          case measure => have hc := cap16_is; simp [intOf]; omega
      · have t1 : ((A : Int) % 2 == 1) = false := by rw [beq_eq_false_iff_ne]; omega
        by_cases h2 : C % 2 = 1
        · have t2 : ((C : Int) % 2 == 1) = true := by rw [beq_iff_eq]; omega
          have hf := Lib.hid (show (X : Int) + p = ((msum n a o (j + 1) : Nat) : Int) by rw [hs'.out]; simp [h1, h2])
          clear h1 h2
          go_wp2
          go_round
          case rel => exact ⟨j + 1, by omega, by rw [hpow'.out]; simp, by rw [← hf.out]⟩
          case measure => have hc := cap16_is; simp [intOf]; omega
        · have t2 : ((C : Int) % 2 == 1) = false := by rw [beq_eq_false_iff_ne]; omega
          have hf := Lib.hid (show (X : Int) = ((msum n a o (j + 1) : Nat) : Int) by rw [hs'.out]; simp [h1, h2])
          clear h1 h2
          go_wp2
          go_round
          case rel => exact ⟨j + 1, by omega, by rw [hpow'.out]; simp, by rw [← hf.out]⟩
          case measure => have hc := cap16_is; simp [intOf]; omega
    · obtain rfl : j = 16 := by omega
      rw [hall.out]
      simp only [show (2 : Nat) ^ 16 = 65536 from rfl] at *
      go_wp2
      go_ret
      exact ⟨rfl, rfl⟩
end Go.Proofs.Ytigfninpflemnaa
