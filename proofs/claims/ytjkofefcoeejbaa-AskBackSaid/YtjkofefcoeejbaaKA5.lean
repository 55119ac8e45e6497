/- Texts of mine, laid together: RefW, PrimW, PrimS, GPrimC, GAskE, Op, Shp, GAskL, FRef06. -/
import Derived.Test.YtjkofefcoeejbaaKA4
import Derived.WalkKit
import Derived.Below
import Derived.Lib.Walk
import Derived.Lib.SliceRun
import Derived.Lib.AppendZerosOnto
import Derived.SizedLaws
import Derived.ChangeSlices
import Derived.OpenShut
import Derived.ChangeArms
/- The reference of layer 2: what its functions compute. -/
namespace Go.Proofs.Ytjkofefcoeejbaa
open Go.RowKit

set_option maxHeartbeats 400000 in
theorem refW_Words_no (v : Value) (l : List UInt8) (w : World) (h : RdV encB w v l) (hn : l.length % 2 = 1) :
    Calls Try.prog 89 #[v] w fun e w' => e = .returned (.tuple #[.slice none 0 0, .bool false]) ∧ w = w' := by
  obtain ⟨a, c, rfl, hc, hm, _⟩ := h.open
  have hb : ((l.length : Int) % 2 == 1) = true := by rw [beq_iff_eq]; omega
  clear hn
  go_enter Try.func89, Try.ntmps89
  go_wp2
  go_ret2
  exact ⟨rfl, rfl⟩
set_option maxRecDepth 100000 in
set_option maxHeartbeats 400000 in
theorem refW_Words_yes (v : Value) (l : List UInt8) (w : World) (h : RdV encB w v l) (hn : l.length % 2 = 0) (hl : l.length ≤ 100000) :
    Calls Try.prog 89 #[v] w fun e w' => ∃ v', e = .returned (.tuple #[v', .bool true]) ∧ Own encW 24 w' w.heap.size v' (wWords l) ∧ Below w.heap.size w w' := by
  obtain ⟨a, c, rfl, hc, hm, hcl⟩ := h.open
  have hcl' := Lib.hid hcl
  clear hcl
  have hb : ((l.length : Int) % 2 == 1) = false := by rw [beq_eq_false_iff_ne]; omega
  have hn' := Lib.hid hn
  clear hn
  go_enter Try.func89, Try.ntmps89
  go_wp2
  go_loopw [4, 5] (fun x i wr => ∃ k : Nat, k ≤ l.length ∧ k % 2 = 0 ∧ i = .int .i64 k ∧ Own encW 24 wr w.heap.size x (wWords (l.take k)) ∧ Below w.heap.size w wr) (fun _ i _ => l.length - (intOf i).toNat)
  case atStart => exact ⟨0, Nat.zero_le _, rfl, rfl, Own.nil _ _ _ _, Below.refl _ _⟩
  case round =>
    obtain ⟨k, hk, hk2, rfl, ho, hB⟩ := hrel
    clear hb
    have hn := hn'.out
    have hcl := hcl'.out
    by_cases hlt : k < l.length
    · obtain ⟨b, o, rfl, hcell⟩ := hcl.resolve_left (by omega)
      have hx0 := hcell k hlt
      have hlx := World.block_lt_of_cell? _ _ hx0
      simp only [] at hlx
      have hx := (hB.cell (p := ⟨b, o + k, none⟩) hlx).trans hx0
      have hy := (hB.cell (p := ⟨b, o + (k + 1), none⟩) hlx).trans (hcell (k + 1) (by omega))
      simp only [encB] at hx hy
      have ag := (fun e => absurd (ho.base b e).1 (by omega) : _ = some b → False)
      have hlr := Nat.lt_of_lt_of_le hlx hB.size
      have hs := Lib.hid (wWords_step l k (by omega) hk2)
      clear hcell hcl hx0
      go_wp2
      have q0 : (0 : Int) ≤ (k : Int) := by omega
      have q1 : (k : Int) < (l.length : Int) := by omega
      have q2 : (0 : Int) ≤ (k : Int) + 1 := by omega
      have q3 : (k : Int) + 1 < (l.length : Int) := by omega
      have q4 : IntKind.i64.wrap ((k : Int) + 1) = (k : Int) + 1 := IntWalk.i64_in _ (by omega)
      have q5 : ((k : Int) + 1).toNat = k + 1 := by omega
      have lenF : ((wWords (l.take k)).length + [mkW l[k] l[k + 1]].length) * 2 ≤ 140737488355328 := by rw [wWords_len, List.length_take, List.length_singleton]; omega
      go_region_held3 (fun w' => w'.cell? ⟨b, o + k, none⟩ = some (.int .u8 (l[k].toNat : Int)) ∧ w'.cell? ⟨b, o + (k + 1), none⟩ = some (.int .u8 (l[k + 1].toNat : Int)))
        (first | (go_split_ands; refine ⟨hg1.cell ?_ (fun e => ag e.symm), hg1.cell ?_ (fun e => ag e.symm)⟩ <;> assumption) | (go_keep; done))
        ((refine step_app (enc := encW) (l := wWords (l.take k)) (m := [mkW l[k] l[k + 1]]) encW_one rfl _ _ _ rfl 24 (.int .u16 0) 2 Try.underlying22 infoW rfl w.heap.size _ rfl (by first | exact ho.drew.alloc _ | exact (ho.alloc _).drew) _ rfl (RdV.drew (RdV.lit encW _ _ [mkW l[k] l[k + 1]] _ _ _ rfl (Nat.le_refl _) (by simp) (by simp [encW, add_mkW]))) (by simp) lenF (by omega) (by first | exact Nat.le_succ_of_le hB.size | (simp; exact Nat.le_succ_of_le hB.size)) ?_; intro v1 w1 ho1 hg1))
      clear q0 q1 q2 q3 q4 q5
      go_wp2
      go_roundw
      case rel => exact ⟨k + 2, by omega, by omega, by go_num, by rw [hs.out]; exact ho1, by first | exact belowG (Below.drew (belowA hB _)) hg1 (fun k hk => (ho.base k hk).1) | exact belowG (belowA (Below.drew hB) _) hg1 (fun k hk => (ho.base k hk).1)⟩
      case measure => simp [intOf]; omega
    · obtain rfl : k = l.length := by omega
      rw [List.take_length] at ho
      go_wp2
      go_ret2
      exact ⟨_, rfl, ho, hB⟩


set_option maxHeartbeats 400000 in
theorem refW_Same (v1 v2 : Value) (l1 l2 : List UInt16) (w : World) (h1 : RdV encW w v1 l1) (h2 : RdV encW w v2 l2) :
    Calls Try.prog 55 #[v1, v2] w fun e w' => e = .returned (.bool (decide (l1 = l2))) ∧ ∃ n, w' = w.drewN n := by
  obtain ⟨a1, c1, rfl, hc1, hm1, hl1⟩ := h1.open
  obtain ⟨a2, c2, rfl, hc2, hm2, hl2⟩ := h2.open
  clear h1 h2
  by_cases hlen : l1.length = l2.length
  · have hd : (((l1.length : Nat) : Int) != ((l2.length : Nat) : Int)) = false := by simp [hlen]
    have hlen' := Lib.hid hlen
    clear hlen
    go_enter Try.func55, Try.ntmps55
    go_wp2
    go_loopw [5] (fun i wr => ∃ k : Nat, k ≤ l1.length ∧ i = .int .i64 k ∧ l1.take k = l2.take k ∧ ∃ n, wr = w.drewN n) (fun i _ => l1.length - (intOf i).toNat)
    case atStart => exact ⟨0, Nat.zero_le _, rfl, rfl, 0, rfl⟩
    case round =>
      obtain ⟨k, hk, rfl, heq, n, rfl⟩ := hrel
      have heq' := Lib.hid heq
      clear heq
      by_cases hlt : k < l1.length
      · obtain ⟨b1, o1, rfl, hcell1⟩ := hl1.resolve_left (by omega)
        obtain ⟨b2, o2, rfl, hcell2⟩ := hl2.resolve_left (by have := hlen'.out; omega)
        have hlt2 : k < l2.length := by have := hlen'.out; omega
        have hx1 := hcell1 k hlt
        have hx2 := hcell2 k hlt2
        unfold encW at hx1 hx2
        clear hcell1 hcell2 hl1 hl2
        by_cases hxy : l1[k] = l2[k]
        · have hxy' := Lib.hid hxy
          have hn : ((l1[k].toNat : Int) != (l2[k].toNat : Int)) = false := by rw [hxy]; simp
          clear hxy
          go_wp2
          go_quiet (fail)
          go_wp2
          go_roundw
          case rel => exact ⟨k + 1, by omega, by go_num, by rw [List.take_succ_eq_append_getElem hlt, List.take_succ_eq_append_getElem hlt2, heq'.out, hxy'.out], _, rfl⟩
          case measure => simp [intOf]; omega
        · have hn : ((l1[k].toNat : Int) != (l2[k].toNat : Int)) = true := by
            rw [bne_iff_ne]; intro h; apply hxy; exact UInt16.toNat_inj.1 (by omega)
          have hfin := Lib.hid (show decide (l1 = l2) = false by rw [decide_eq_false_iff_not]; rintro rfl; exact hxy rfl)
          clear hxy
          go_wp2
          go_quiet (fail)
          go_wp2
          go_ret
          exact ⟨by rw [hfin.out]; rfl, _, World.drewN_drewN _ _ _⟩
      · obtain rfl : k = l1.length := by omega
        have hfin := Lib.hid (show decide (l1 = l2) = true by
          rw [decide_eq_true_iff]
          have := heq'.out
          rw [List.take_length, hlen'.out, List.take_length] at this
          exact this)
        go_wp2
        go_ret
        exact ⟨by rw [hfin.out]; rfl, n, rfl⟩
  · have hd : (((l1.length : Nat) : Int) != ((l2.length : Nat) : Int)) = true := by rw [bne_iff_ne]; omega
    have hfin := Lib.hid (show decide (l1 = l2) = false by rw [decide_eq_false_iff_not]; rintro rfl; exact hlen rfl)
    clear hlen
    go_enter Try.func55, Try.ntmps55
    go_wp2
    go_ret
    exact ⟨by rw [hfin.out]; rfl, 0, rfl⟩

set_option maxHeartbeats 400000 in
theorem refW_SameBits (v1 v2 : Value) (l1 l2 : List Bool) (w : World) (h1 : RdV encT w v1 l1) (h2 : RdV encT w v2 l2) :
    Calls Try.prog 56 #[v1, v2] w fun e w' => e = .returned (.bool (decide (l1 = l2))) ∧ ∃ n, w' = w.drewN n := by
  obtain ⟨a1, c1, rfl, hc1, hm1, hl1⟩ := h1.open
  obtain ⟨a2, c2, rfl, hc2, hm2, hl2⟩ := h2.open
  clear h1 h2
  by_cases hlen : l1.length = l2.length
  · have hd : (((l1.length : Nat) : Int) != ((l2.length : Nat) : Int)) = false := by simp [hlen]
    have hlen' := Lib.hid hlen
    clear hlen
    go_enter Try.func56, Try.ntmps56
    go_wp2
    go_loopw [5] (fun i wr => ∃ k : Nat, k ≤ l1.length ∧ i = .int .i64 k ∧ l1.take k = l2.take k ∧ ∃ n, wr = w.drewN n) (fun i _ => l1.length - (intOf i).toNat)
    case atStart => exact ⟨0, Nat.zero_le _, rfl, rfl, 0, rfl⟩
    case round =>
      obtain ⟨k, hk, rfl, heq, n, rfl⟩ := hrel
      have heq' := Lib.hid heq
      clear heq
      by_cases hlt : k < l1.length
      · obtain ⟨b1, o1, rfl, hcell1⟩ := hl1.resolve_left (by omega)
        obtain ⟨b2, o2, rfl, hcell2⟩ := hl2.resolve_left (by have := hlen'.out; omega)
        have hlt2 : k < l2.length := by have := hlen'.out; omega
        have hx1 := hcell1 k hlt
        have hx2 := hcell2 k hlt2
        unfold encT at hx1 hx2
        clear hcell1 hcell2 hl1 hl2
        by_cases hxy : l1[k] = l2[k]
        · have hxy' := Lib.hid hxy
          have hn : (!(l1[k] == l2[k])) = false := by rw [hxy]; simp
          clear hxy
          go_wp2
          go_quiet (fail)
          go_wp2
          go_roundw
          case rel => exact ⟨k + 1, by omega, by go_num, by rw [List.take_succ_eq_append_getElem hlt, List.take_succ_eq_append_getElem hlt2, heq'.out, hxy'.out], _, rfl⟩
          case measure => simp [intOf]; omega
        · have hn : (!(l1[k] == l2[k])) = true := by
            simp [hxy]
          have hfin := Lib.hid (show decide (l1 = l2) = false by rw [decide_eq_false_iff_not]; rintro rfl; exact hxy rfl)
          clear hxy
          go_wp2
          go_quiet (fail)
          go_wp2
          go_ret
          exact ⟨by rw [hfin.out]; rfl, _, World.drewN_drewN _ _ _⟩
      · obtain rfl : k = l1.length := by omega
        have hfin := Lib.hid (show decide (l1 = l2) = true by
          rw [decide_eq_true_iff]
          have := heq'.out
          rw [List.take_length, hlen'.out, List.take_length] at this
          exact this)
        go_wp2
        go_ret
        exact ⟨by rw [hfin.out]; rfl, n, rfl⟩
  · have hd : (((l1.length : Nat) : Int) != ((l2.length : Nat) : Int)) = true := by rw [bne_iff_ne]; omega
    have hfin := Lib.hid (show decide (l1 = l2) = false by rw [decide_eq_false_iff_not]; rintro rfl; exact hlen rfl)
    clear hlen
    go_enter Try.func56, Try.ntmps56
    go_wp2
    go_ret
    exact ⟨by rw [hfin.out]; rfl, 0, rfl⟩

set_option maxHeartbeats 400000 in
theorem refW_Put (n : Int) (w : World) (h0 : 0 ≤ n) (h1 : n < 65536) :
    Calls Try.prog 121 #[.int .u16 n] w fun e w' => e = .returned (.agg #[.int .u8 (n / 256), .int .u8 (n % 256)]) ∧ Below w.heap.size w w' := by
  have hd := div_u16 n 256 h0 h1 (by omega)
  go_enter Try.func121, Try.ntmps121
  go_wp2
  refine bodyPost_ret (v := .agg #[.int .u8 (n / 256), .int .u8 (n % 256)]) (by simp [results, Try.results121, go_sem]) rfl ?_
  exact ⟨rfl, belowA (Below.refl _ w) _⟩
set_option maxRecDepth 100000 in
set_option maxHeartbeats 400000 in
theorem refW_Bytes (v : Value) (l : List UInt16) (w : World) (h : RdV encW w v l) (hl : l.length ≤ 100000) :
    Calls Try.prog 82 #[v] w fun e w' => ∃ v', e = .returned v' ∧ Own encB 5 w' w.heap.size v' (wBytes l) ∧ Below w.heap.size w w' := by
  obtain ⟨a, c, rfl, hc, hm, hcl⟩ := h.open
  go_enter Try.func82, Try.ntmps82
  go_wp2
  go_loopw [3, 4] (fun x i wr => ∃ k : Nat, k ≤ l.length ∧ i = .int .i64 k ∧ Own encB 5 wr w.heap.size x (wBytes (l.take k)) ∧ Below w.heap.size w wr) (fun _ i _ => l.length - (intOf i).toNat)
  case atStart => exact ⟨0, Nat.zero_le _, rfl, Own.lit encB w _ _ (Nat.le_refl _) [] _ _ rfl (by simp) rfl, belowA (Below.refl _ w) _⟩
  case round =>
    obtain ⟨k, hk, rfl, ho, hB⟩ := hrel
    by_cases hlt : k < l.length
    · obtain ⟨b, o, rfl, hcell⟩ := hcl.resolve_left (by omega)
      have hx0 := hcell k hlt
      have hlx := World.block_lt_of_cell? _ _ hx0
      simp only [] at hlx
      have hx := (hB.cell (p := ⟨b, o + k, none⟩) hlx).trans hx0
      simp only [encW] at hx
      have hs := Lib.hid (wBytes_step l k hlt)
      have lenF : (wBytes (l.take k)).length + 2 ≤ 140737488355328 := by rw [wBytes_len, List.length_take]; omega
      have hn := l[k].toNat_lt
      clear hcell hcl hx0
      generalize l[k] = n at *
      go_wp2_with (first | (go_at_call 121; refine (refW_Put _ _ (by omega) (by omega)).mono ?_; rintro e w1 ⟨rfl, hB1⟩) |
        (at_builtin; refine wp_app (enc := encB) (l := wBytes (l.take k)) (m := [UInt8.ofNat (n.toNat / 256), UInt8.ofNat (n.toNat % 256)]) encB_one rfl (.tmp 18) (.tmp 23) _ rfl _ _ _ Try.underlying27 infoB rfl w.heap.size _ rfl (((ho.below hB1).alloc _).alloc _) _ rfl ?a2 ?a3 (by omega) ?a4 ?a5))
      case a2 => exact RdV.litg encB _ _ [UInt8.ofNat (n.toNat / 256), UInt8.ofNat (n.toNat % 256)] _ _ _ _ (by simp) rfl (Nat.le_refl _) (by simp) (by simp [encB]; omega)
      case a3 => rw [Nat.mul_one]; exact lenF
      case a4 => exact (belowA (belowA (belowT hB hB1) _) _).size
      intro v2 w2 ho2 hg2
      go_wp2
      go_roundw
      case rel => exact ⟨k + 1, by omega, by go_num, by rw [hs.out]; exact ho2, belowG (belowA (belowA (belowT hB hB1) _) _) hg2 (fun k hk => (ho.base k hk).1)⟩
      case measure => simp [intOf]; omega
    · obtain rfl : k = l.length := by omega
      rw [List.take_length] at ho
      go_wp2
      go_ret
      exact ⟨_, rfl, ho, hB⟩

set_option maxRecDepth 100000 in
set_option maxHeartbeats 800000 in
theorem refW_Pack (v : Value) (l : List Bool) (w : World) (h : RdV encT w v l) (hl : l.length ≤ 1000000) :
    Calls Try.prog 83 #[v] w fun e w' => ∃ v', e = .returned v' ∧ Own encB 5 w' w.heap.size v' (wPack l) ∧ Below w.heap.size w w' := by
  obtain ⟨a, c, rfl, hc, hm, hcl⟩ := h.open
  go_enter Try.func83, Try.ntmps83
  go_wp2
  go_loopw [3, 4, 5] (fun x y i wr => ∃ k e : Nat, k ≤ l.length ∧ e ≤ 8 ∧ e % 8 = k % 8 ∧ i = .int .i64 k ∧ y = .int .i64 (2 ^ e) ∧ Own encB 5 wr w.heap.size x (wPack (l.take k)) ∧ Below w.heap.size w wr) (fun _ _ i _ => l.length - (intOf i).toNat)
  case atStart => exact ⟨0, 0, Nat.zero_le _, by omega, rfl, rfl, rfl, (by rw [List.take_zero]; exact Own.lit encB w _ _ (Nat.le_refl _) [] _ _ rfl (by simp) rfl), belowA (Below.refl _ w) _⟩
  case round =>
    obtain ⟨k, e, hk, he, hek, rfl, rfl, ho, hB⟩ := hrel
    have hpe : (0 : Int) < 2 ^ e := Int.pow_pos (by omega)
    have hpe2 : (2 : Int) ^ e ≤ 256 := by
      have : (2 : Nat) ^ e ≤ 2 ^ 8 := Nat.pow_le_pow_right (by omega) he
      have h : (((2 : Nat) ^ e : Nat) : Int) ≤ ((2 ^ 8 : Nat) : Int) := by exact_mod_cast this
      simpa using h
    by_cases hlt : k < l.length
    · obtain ⟨b, o, rfl, hcell⟩ := hcl.resolve_left (by omega)
      have hx0 := hcell k hlt
      have hlx := World.block_lt_of_cell? _ _ hx0
      simp only [] at hlx
      have hx := (hB.cell (p := ⟨b, o + k, none⟩) hlx).trans hx0
      simp only [encT] at hx
      have lenF : (wPack (l.take k)).length + 1 ≤ 140737488355328 := by rw [wPack_len, List.length_take]; omega
      have hW := Lib.hid (pk_wPack l k hlt)
      by_cases h8 : k % 8 = 0
      · have hd : ((k : Int) % 8 == 0) = true := by rw [beq_iff_eq]; omega
        have hM := Lib.hid (pk_more l k hlt h8)
        have h8' := Lib.hid h8
        clear hcell hcl hx0 h8 hek
        go_wp2_with (at_builtin; refine wp_app (enc := encB) (l := wPack (l.take k)) (m := [0]) encB_one rfl (.tmp 16) (.tmp 17) _ rfl _ _ _ Try.underlying27 infoB rfl w.heap.size _ rfl (ho.alloc _) _ rfl ?a2 ?a3 (by omega) ?a4 ?a5)
        case a2 => exact RdV.lit encB _ _ [0] _ _ _ rfl (Nat.le_refl _) (by simp) (by simp [encB])
        case a3 => rw [Nat.mul_one]; exact lenF
        case a4 => exact (belowA hB _).size
        intro v2 w2 ho2 hg2
        rw [hM.out] at ho2
        have hB2 := belowG (belowA hB _) hg2 (fun k hk => (ho.base k hk).1)
        have hx2 := (hB2.cell (p := ⟨b, o + k, none⟩) hlx).trans ((hB.cell (p := ⟨b, o + k, none⟩) hlx).symm.trans hx)
        clear hg2 ho hB hx hd
        have h80 : k % 8 = 0 := h8'.out
        obtain ⟨g, cap, rfl, hgb, hgl⟩ := ho2.block (by rw [pk_len]; omega)
        rw [pk_len] at ho2 ⊢
        cases hv : l[k] with
        | false =>
          rw [hv] at hx2
          have hs := Lib.hid ((pk_false l k (k / 8 + 1) hlt hv).symm.trans hW.out)
          clear hv
          go_wp2
          go_roundw
          case rel => exact ⟨k + 1, 1, by omega, by omega, by omega, by go_num, by rw [Int.pow_succ, Int.mul_comm]; rfl, by rw [← hs.out]; exact ho2, hB2⟩
          case measure => simp [intOf]; omega
        | true =>
          rw [hv] at hx2
          have hn : k / 8 < (pk (l.take k) (k / 8 + 1)).length := by rw [pk_len]; omega
          have hp := pk_true l k (k / 8 + 1) hlt hv hn
          have hs := Lib.hid (hp.1.symm.trans hW.out)
          have hc8 := hp.2
          obtain ⟨hca, hfa⟩ := ho2.at (k / 8) hn
          have hset := ho2.set (k / 8) (UInt8.ofNat ((pk (l.take k) (k / 8 + 1))[k / 8].toNat + 2 ^ (k % 8)))
          simp only [encB] at hca hset
          clear hv hp
          go_wp2
          have hv1 : (((pk (l.take k) (k / 8 + 1))[k / 8].toNat : Int) + 1) % 256 = ((UInt8.ofNat ((pk (l.take k) (k / 8 + 1))[k / 8].toNat + 2 ^ (k % 8))).toNat : Int) := by
            rw [UInt8.toNat_ofNat', h80]; omega
          rw [hv1]
          go_roundw
          case rel => exact ⟨k + 1, 1, by omega, by omega, by omega, by go_num, rfl, by rw [← hs.out]; exact hset.1, belowG hB2 hset.2 (by simp; exact hgb)⟩
          case measure => simp [intOf]; omega
      · have hd : ((k : Int) % 8 == 0) = false := by rw [beq_eq_false_iff_ne]; omega
        obtain rfl : e = k % 8 := by omega
        rw [pk_enough l k hlt h8] at ho
        clear hcell hcl hx0
        obtain ⟨g, cap, rfl, hgb, hgl⟩ := ho.block (by rw [pk_len]; omega)
        rw [pk_len] at ho ⊢
        cases hv : l[k] with
        | false =>
          rw [hv] at hx
          have hs := Lib.hid ((pk_false l k (k / 8 + 1) hlt hv).symm.trans hW.out)
          clear hv
          go_wp2
          go_roundw
          case rel => exact ⟨k + 1, k % 8 + 1, by omega, by omega, by omega, by go_num, by rw [Int.pow_succ, Int.mul_comm], by rw [← hs.out]; exact ho, hB⟩
          case measure => simp [intOf]; omega
        | true =>
          rw [hv] at hx
          have hn : k / 8 < (pk (l.take k) (k / 8 + 1)).length := by rw [pk_len]; omega
          have hp := pk_true l k (k / 8 + 1) hlt hv hn
          have hs := Lib.hid (hp.1.symm.trans hW.out)
          have hc8 := hp.2
          obtain ⟨hca, hfa⟩ := ho.at (k / 8) hn
          have hset := ho.set (k / 8) (UInt8.ofNat ((pk (l.take k) (k / 8 + 1))[k / 8].toNat + 2 ^ (k % 8)))
          simp only [encB] at hca hset
          clear hv hp
          go_wp2
          have hv2 : (((pk (l.take k) (k / 8 + 1))[k / 8].toNat : Int) + 2 ^ (k % 8)) % 256 = ((UInt8.ofNat ((pk (l.take k) (k / 8 + 1))[k / 8].toNat + 2 ^ (k % 8))).toNat : Int) := by
            have h2 : ((2 ^ (k % 8) : Nat) : Int) = (2 : Int) ^ (k % 8) := by simp
            rw [UInt8.toNat_ofNat', ← h2]; omega
          rw [hv2]
          go_roundw
          case rel => exact ⟨k + 1, k % 8 + 1, by omega, by omega, by omega, by go_num, by rw [Int.pow_succ, Int.mul_comm], by rw [← hs.out]; exact hset.1, belowG hB hset.2 (by simp; exact hgb)⟩
          case measure => simp [intOf]; omega
    · obtain rfl : k = l.length := by omega
      rw [List.take_length] at ho
      go_wp2
      go_ret
      exact ⟨_, rfl, ho, hB⟩

theorem word_Bits (v : Value) (b : List UInt8) (n : Int) (w : World) (h : RdV encB w v b) (hl : b.length ≤ 100000) (hx1 : n ≤ 9223372036854775807) (hx0 : -9223372036854775808 ≤ n) :
    Calls Try.prog 96 #[v, .int .i64 n] w fun e w' => ∃ v', e = .returned (.tuple #[v', .bool (bitsTell b n).1]) ∧ RdV encT w' v' (bitsTell b n).2 ∧ Below w.heap.size w w' := by
  by_cases h0 : 0 ≤ n ∧ bitsFit b n.toNat
  · obtain ⟨m, rfl⟩ := Int.eq_ofNat_of_zero_le h0.1
    have hf : bitsFit b m := by simpa using h0.2
    rw [bitsTell_nat, wBits_yes hf]
    refine (word_Bits_yes v b m w h hf (by have := hf.1; omega)).mono ?_
    rintro e w' ⟨v', rfl, ho, hB⟩
    exact ⟨v', rfl, ho.rd, hB⟩
  · have e : bitsTell b n = (false, []) := by
      by_cases h1 : n < 0
      · exact bitsTell_neg h1
      · obtain ⟨m, rfl⟩ := Int.eq_ofNat_of_zero_le (by omega : 0 ≤ n)
        rw [bitsTell_nat]
        exact wBits_no fun hf => h0 ⟨by omega, by simpa using hf⟩
    rw [e]
    refine (word_Bits_no v b n w h (by by_cases h1 : n < 0; exact .inl h1; exact .inr fun hf => h0 ⟨by omega, hf⟩) hx1 hx0).mono ?_
    rintro e w' ⟨rfl, rfl⟩
    exact ⟨_, rfl, RdV.nil _ _, Below.refl _ _⟩
theorem word_Words (v : Value) (l : List UInt8) (w : World) (h : RdV encB w v l) (hl : l.length ≤ 100000) :
    Calls Try.prog 98 #[v] w fun e w' => ∃ v', e = .returned (.tuple #[v', .bool (wordsTell l).1]) ∧ RdV encW w' v' (wordsTell l).2 ∧ Below w.heap.size w w' := by
  rcases (by omega : l.length % 2 = 1 ∨ l.length % 2 = 0) with hn | hn
  · rw [wordsTell_no hn]
    refine (word_Words_no v l w h hn).mono ?_
    rintro e w' ⟨rfl, rfl⟩
    exact ⟨_, rfl, RdV.nil _ _, Below.refl _ _⟩
  · rw [wordsTell_yes hn]
    refine (word_Words_yes v l w h hn hl).mono ?_
    rintro e w' ⟨v', rfl, ho, hB⟩
    exact ⟨v', rfl, ho.rd, hB⟩
theorem refW_Words (v : Value) (l : List UInt8) (w : World) (h : RdV encB w v l) (hl : l.length ≤ 100000) :
    Calls Try.prog 89 #[v] w fun e w' => ∃ v', e = .returned (.tuple #[v', .bool (wordsTell l).1]) ∧ RdV encW w' v' (wordsTell l).2 ∧ Below w.heap.size w w' := by
  rcases (by omega : l.length % 2 = 1 ∨ l.length % 2 = 0) with hn | hn
  · rw [wordsTell_no hn]
    refine (refW_Words_no v l w h hn).mono ?_
    rintro e w' ⟨rfl, rfl⟩
    exact ⟨_, rfl, RdV.nil _ _, Below.refl _ _⟩
  · rw [wordsTell_yes hn]
    refine (refW_Words_yes v l w h hn hl).mono ?_
    rintro e w' ⟨v', rfl, ho, hB⟩
    exact ⟨v', rfl, ho.rd, hB⟩

def cap16 : Nat := 65536
end Go.Proofs.Ytjkofefcoeejbaa

/- Words and bits by their contracts of the old kind: that they answer so. -/
namespace Go.Proofs.Ytjkofefcoeejbaa
open Go Go.RowKit
set_option linter.unusedSimpArgs false
set_option linter.unusedVariables false
theorem mapO_length {α β : Type} {f : α → Option β} : ∀ {l : List α} {r : List β}, mapO f l = some r → r.length = l.length
  | [], r, h => by cases h; rfl
  | x :: l, r, h => by
    unfold mapO at h
    split at h
    · split at h
      · rename_i h2
        cases h
        rw [List.length_cons, List.length_cons, mapO_length h2]
      · cases h
    · cases h
theorem mapO_cons' {α β : Type} {f : α → Option β} {x : α} {l : List α} {r : List β} (h : mapO f (x :: l) = some r) : ∃ y s, f x = some y ∧ mapO f l = some s ∧ r = y :: s := by
  unfold mapO at h
  split at h
  · rename_i y h1
    split at h
    · rename_i s h2
      cases h
      exact ⟨y, s, h1, h2, rfl⟩
    · cases h
  · cases h
theorem repE_cells {α : Type} {d : DV → Option α} {enc : α → Value} (hd : ∀ x a, d x = some a → x = .flat (enc a)) (h1 : ∀ a, (enc a).cells = #[enc a]) {I : Nat → Nat → Prop} {w : World} {sz b : Nat} : ∀ (xs : List DV) (l : List α) (o : Nat), mapO d xs = some l → RepE I w sz xs b o → (xs ≠ [] → sz = 1) ∧ ∀ j (h : j < l.length), w.cell? ⟨b, o + j, none⟩ = some (enc l[j])
  | [], l, o, hm, _ => by cases hm; exact ⟨fun h => absurd rfl h, fun j h => by simp at h⟩
  | x :: xs, l, o, hm, hE => by
    obtain ⟨a, l, ha, hl, rfl⟩ := mapO_cons' hm
    rw [hd _ _ ha] at hE
    simp only [RepE, Rep] at hE
    obtain ⟨⟨_, V, rfl, hs, hc⟩, hE⟩ := hE
    rw [h1] at hs hc
    simp at hs
    subst hs
    obtain ⟨_, ih⟩ := repE_cells hd h1 xs l (o + 1) hl hE
    refine ⟨fun _ => rfl, fun j hj => ?_⟩
    cases j with
    | zero => exact (hc 0 (enc a) (by simp)).1
    | succ j =>
      have := ih j (by simpa using hj)
      rw [show o + (j + 1) = o + 1 + j by omega]
      exact this
/-- a list of scalars, as the old contracts read it -/
theorem list_rd {α : Type} {d : DV → Option α} {enc : α → Value} (hd : ∀ x a, d x = some a → x = .flat (enc a)) (h1 : ∀ a, (enc a).cells = #[enc a]) {I : Nat → Nat → Prop} {w : World} {G : Gh} {sz : Nat} {xs : List DV} {t : Tag} {V : Value} {l : List α} (h : Rep I w G (.list sz xs t) V) (hl : mapO d xs = some l) : RdV enc w V l := by
  simp only [Rep] at h
  obtain ⟨A, c, rfl, h2, h3, h4, _⟩ := h
  have hlen := mapO_length hl
  refine ⟨A, c, by rw [hlen], by omega, by omega, by simp, ?_⟩
  rcases h4 with rfl | ⟨b, o, rfl, hE⟩
  · exact .inl (by simpa using hlen)
  · obtain ⟨_, hc⟩ := repE_cells hd h1 xs l o hl hE
    refine .inr ⟨b, o, rfl, fun j u hu => ?_⟩
    rw [List.getElem?_map] at hu
    obtain ⟨a, ha, rfl⟩ := Option.map_eq_some_iff.1 hu
    obtain ⟨hj, rfl⟩ := List.getElem?_eq_some_iff.1 ha
    exact hc j hj
theorem repE_mk {α : Type} {enc : α → Value} {e' : α → DV} (he : ∀ a, e' a = .flat (enc a)) (h1 : ∀ a, (enc a).cells = #[enc a] ∧ isOne (enc a) = true) {I : Nat → Nat → Prop} {w : World} {b : Nat} : ∀ (l : List α) (o : Nat), (∀ j (h : j < l.length), w.cell? ⟨b, o + j, none⟩ = some (enc l[j]) ∧ I b (o + j)) → RepE I w 1 (l.map e') b o
  | [], o, _ => by simp [RepE]
  | a :: l, o, h => by
    simp only [List.map_cons, RepE]
    refine ⟨⟨by rw [he]; simp [DV.cells, DV.leaf, (h1 a).2], enc a, by rw [he]; simp only [Rep], by rw [(h1 a).1]; rfl, ?_⟩, repE_mk he h1 l (o + 1) fun j hj => ?_⟩
    · rw [(h1 a).1]
      intro j v hj
      cases j with
      | zero =>
        simp at hj
        subst hj
        obtain ⟨h2, h3⟩ := h 0 (by simp)
        exact ⟨h2, h3, (h1 _).2⟩
      | succ j => simp at hj
    · have := h (j + 1) (by simpa using hj)
      rw [show o + (j + 1) = o + 1 + j by omega] at this
      exact this
/-- a row of the call's own, handed out as a list -/
theorem own_rep {α : Type} {enc : α → Value} {e' : α → DV} (he : ∀ a, e' a = .flat (enc a)) (h1 : ∀ a, (enc a).cells = #[enc a] ∧ isOne (enc a) = true) {B : Nat → Nat → Prop} {G : Gh} {w w' : World} {H : Heap} (hB : ∀ b j, w.heap.size ≤ b → B b j) (hH : HR B G w H) {e : TypeId} {V : Value} {l : List α} (ho : Own enc e w' w.heap.size V l) : Rep (ImmB B G) w' G (mkl 1 (l.map e') .sh) V := by
  obtain ⟨⟨_, h2⟩, h3⟩ := ho
  rcases h2 with ⟨rfl, h2⟩ | ⟨g, cap, cur, rfl, hg, hc, h4, _, _, h5⟩
  · have : l = [] := List.eq_nil_of_length_eq_zero h2
    subst this
    simp only [List.map_nil, mkl, Rep, TagOk]
    exact ⟨none, 0, rfl, Nat.le_refl _, by simp, .inl trivial, trivial⟩
  · have hE : RepE (ImmB B G) w' 1 (l.map e') g 0 := by
      refine repE_mk he h1 l 0 fun j hj => ⟨?_, hB _ _ hg, fun k hk => ?_, fun k s c n hk => ?_⟩
      · rw [cell_toList hc, Nat.zero_add]
        have h6 : (l.map enc)[j]? = some (enc l[j]) := by simp [hj]
        rw [← h5] at h6
        rw [List.getElem?_take_of_lt (by omega)] at h6
        exact h6
      · have := hH.lt (.inl hk); omega
      · have := hH.lt (.inr ⟨_, _, _, hk⟩); omega
    cases l with
    | nil =>
      simp only [List.map_nil, mkl, Rep, TagOk]
      exact ⟨_, cap, rfl, h4, by simp, .inl trivial, trivial⟩
    | cons a l =>
      simp only [List.map_cons, mkl, Rep, TagOk]
      refine ⟨_, cap, by simp, by simpa using h4, by simpa using h3, .inr ⟨g, 0, rfl, by simpa using hE⟩, trivial⟩
theorem dB_some (x : DV) (a : UInt8) (h : dB x = some a) : x = .flat (encB a) := by
  unfold dB at h
  split at h
  · split at h
    · rename_i hn
      cases h
      rw [encB_low _ hn.1 hn.2]
    · cases h
  · cases h
theorem dW_some (x : DV) (a : UInt16) (h : dW x = some a) : x = .flat (encW a) := by
  unfold dW at h
  split at h
  · split at h
    · rename_i hn
      cases h
      rw [encW_low _ hn.1 hn.2]
      rfl
    · cases h
  · cases h
theorem dT_some (x : DV) (a : Bool) (h : dT x = some a) : x = .flat (encT a) := by
  unfold dT at h
  split at h
  · cases h; rfl
  · cases h
theorem primLL_ok {α β : Type} {d : DV → Option α} {ea : α → Value} {eb : β → Value} {e' : β → DV} {g : List α → List β} {f : FuncId} {t : TypeId} (hd : ∀ x a, d x = some a → x = .flat (ea a)) (h1 : ∀ a, (ea a).cells = #[ea a]) (he : ∀ a, e' a = .flat (eb a)) (h2 : ∀ a, (eb a).cells = #[eb a] ∧ isOne (eb a) = true)
    (hf : ∀ (v : Value) (l : List α) (w : World), RdV ea w v l → l.length ≤ 100000 → Calls Try.prog f #[v] w fun e w' => ∃ v', e = .returned v' ∧ Own eb t w' w.heap.size v' (g l) ∧ Below w.heap.size w w')
    {args : List DV} {r : DV} {H H' : Heap} (h : primLL d e' g args H = some (r, H')) : H' = H ∧ ∀ fl, CallOk Try.prog f args H fl r H := by
  unfold primLL at h
  split at h
  · rename_i sz xs t' H0
    obtain ⟨l, hl, h⟩ := Option.bind_eq_some_iff.1 h
    split at h
    · rename_i hlen
      simp only [Option.some.injEq, Prod.mk.injEq] at h
      obtain ⟨rfl, rfl⟩ := h
      refine ⟨rfl, fun fl B G w vs hB hH hr hfl => ⟨?_, fun _ _ => rfl, Nat.le_refl _⟩⟩
      simp only [RepL] at hr
      obtain ⟨V, _, e1, hV, rfl⟩ := hr
      have hv : vs = #[V] := by apply Array.ext'; simpa using e1
      subst hv
      exact (hf V l w (list_rd hd h1 hV hl) hlen).mono fun e w' ⟨v', h3, h4, h5⟩ => ⟨v', G, h3, Keep.below G h5, hH.below h5, own_rep he h2 hB hH h4⟩
    · cases h
  · cases h
theorem primTL_ok {β : Type} {eb : β → Value} {e' : β → DV} {f : FuncId} {t : TypeId} {c : Bool} {l2 : List β} {args : List DV} {H : Heap} (he : ∀ a, e' a = .flat (eb a)) (h2 : ∀ a, (eb a).cells = #[eb a] ∧ isOne (eb a) = true)
    (hf : ∀ (B : Nat → Nat → Prop) (G : Gh) (w : World) (vs : Array Value), RepL (ImmB B G) w G args vs.toList → Calls Try.prog f vs w fun e w' => ∃ v', e = .returned (.tuple #[v', .bool c]) ∧ Own eb t w' w.heap.size v' l2 ∧ Below w.heap.size w w') (fl : Nat) : CallOk Try.prog f args H fl (.tup [mkl 1 (l2.map e') .sh, .flat (.bool c)]) H := by
  intro B G w vs hB hH hr hfl
  refine ⟨(hf B G w vs hr).mono fun e w' ⟨v', h3, h4, h5⟩ => ⟨_, G, h3, Keep.below G h5, hH.below h5, ?_⟩, fun _ _ => rfl, Nat.le_refl _⟩
  simp only [Rep, RepL]
  exact ⟨_, rfl, _, _, rfl, own_rep he h2 hB hH h4, _, _, rfl, rfl, rfl⟩
theorem own_nil {α : Type} (enc : α → Value) (e : TypeId) (w : World) (b : Nat) : Own enc e w b (.slice none 0 0) [] := ⟨⟨rfl, .inl ⟨rfl, rfl⟩⟩, by simp⟩
theorem primWords_ok {f : FuncId} (hno : ∀ (v : Value) (l : List UInt8) (w : World), RdV encB w v l → l.length % 2 = 1 → Calls Try.prog f #[v] w fun e w' => e = .returned (.tuple #[.slice none 0 0, .bool false]) ∧ w = w')
    (hyes : ∀ (v : Value) (l : List UInt8) (w : World), RdV encB w v l → l.length % 2 = 0 → l.length ≤ 100000 → Calls Try.prog f #[v] w fun e w' => ∃ v', e = .returned (.tuple #[v', .bool true]) ∧ Own encW 24 w' w.heap.size v' (wWords l) ∧ Below w.heap.size w w')
    {args : List DV} {r : DV} {H H' : Heap} (h : primWords args H = some (r, H')) : H' = H ∧ ∀ fl, CallOk Try.prog f args H fl r H := by
  unfold primWords at h
  split at h
  · rename_i sz xs t' H0
    obtain ⟨l, hl, h⟩ := Option.bind_eq_some_iff.1 h
    split at h
    · rename_i hlen
      simp only [Option.some.injEq, Prod.mk.injEq] at h
      obtain ⟨rfl, rfl⟩ := h
      refine ⟨rfl, fun fl => primTL_ok (t := 24) (eb := encW) (fun a => rfl) (fun a => ⟨rfl, rfl⟩) (fun B G w vs hr => ?_) fl⟩
      simp only [RepL] at hr
      obtain ⟨V, _, e1, hV, rfl⟩ := hr
      have hv : vs = #[V] := by apply Array.ext'; simpa using e1
      subst hv
      have hR := list_rd dB_some (fun a => rfl) hV hl
      rcases (by omega : l.length % 2 = 1 ∨ l.length % 2 = 0) with hn | hn
      · rw [wordsTell_no hn]
        exact (hno V l w hR hn).mono fun e w' ⟨h3, h4⟩ => ⟨_, h3, own_nil _ _ _ _, by rw [← h4]; exact Below.refl _ _⟩
      · rw [wordsTell_yes hn]
        exact hyes V l w hR hn hlen
    · cases h
  · cases h
theorem primBits_ok {args : List DV} {r : DV} {H H' : Heap} (h : primBits args H = some (r, H')) : H' = H ∧ ∀ fl, CallOk Try.prog 96 args H fl r H := by
  unfold primBits at h
  split at h
  · rename_i H0 sz xs t' n
    obtain ⟨l, hl, h⟩ := Option.bind_eq_some_iff.1 h
    split at h
    · rename_i hlen
      obtain ⟨hlen, hn0, hn1⟩ := hlen
      simp only [Option.some.injEq, Prod.mk.injEq] at h
      obtain ⟨rfl, rfl⟩ := h
      refine ⟨rfl, fun fl => primTL_ok (t := 4) (eb := encT) (fun a => rfl) (fun a => ⟨rfl, rfl⟩) (fun B G w vs hr => ?_) fl⟩
      simp only [RepL] at hr
      obtain ⟨V, _, e1, hV, V2, _, rfl, hV2, rfl⟩ := hr
      simp only [Rep] at hV2
      subst hV2
      have hv : vs = #[V, .int .i64 n] := by apply Array.ext'; simpa using e1
      subst hv
      have hR := list_rd dB_some (fun a => rfl) hV hl
      by_cases h0 : 0 ≤ n ∧ bitsFit l n.toNat
      · obtain ⟨m, rfl⟩ := Int.eq_ofNat_of_zero_le h0.1
        have hf : bitsFit l m := by simpa using h0.2
        have hm : m ≤ 800000 := by have := hf.1; omega
        rw [bitsTell_nat, wBits_yes hf]
        exact word_Bits_yes V l m w hR hf hm
      · have hn : n < 0 ∨ ¬ bitsFit l n.toNat := by
          rcases (by omega : n < 0 ∨ 0 ≤ n) with h | h
          · exact .inl h
          · exact .inr fun h2 => h0 ⟨h, h2⟩
        have e : bitsTell l n = (false, []) := by
          rcases (by omega : n < 0 ∨ 0 ≤ n) with h | h
          · exact bitsTell_neg h
          · obtain ⟨m, rfl⟩ := Int.eq_ofNat_of_zero_le h
            rw [bitsTell_nat]
            exact wBits_no fun h2 => h0 ⟨h, by simpa using h2⟩
        rw [e]
        exact (word_Bits_no V l n w hR hn hn1 hn0).mono fun e w' ⟨h3, h4⟩ => ⟨_, h3, own_nil _ _ _ _, by rw [← h4]; exact Below.refl _ _⟩
    · cases h
  · cases h
theorem primW_ok (f : FuncId) (g : Prim) (args : List DV) (H : Heap) (d : DV) (H' : Heap) (hf : PRIMW f = some g) (h : g args H = some (d, H')) : (∃ fn, Try.prog.funcs[f]? = some fn ∧ fn.body.isSome = true) ∧ (∀ fl, CallOk Try.prog f args H fl d H') ∧ ∀ k : Nat, H[k]? = some .hole → H'[k]? = some .hole := by
  unfold PRIMW at hf
  by_cases c1 : f = 64
  · subst c1
    simp only [BEq.rfl, cond_true, Option.some.injEq] at hf
    subst hf
    obtain ⟨rfl, h⟩ := primLL_ok dW_some (fun a => rfl) (fun a => rfl) (fun a => ⟨rfl, rfl⟩) (fun v l w h1 h2 => word_Bytes v l w h1 h2) h
    exact ⟨⟨_, Try.func64, rfl⟩, h, fun _ h => h⟩
  have d1 : (f == 64) = false := by simpa using c1
  simp only [d1, cond_false] at hf
  by_cases c2 : f = 63
  · subst c2
    simp only [BEq.rfl, cond_true, Option.some.injEq] at hf
    subst hf
    obtain ⟨rfl, h⟩ := primLL_ok dT_some (fun a => rfl) (fun a => rfl) (fun a => ⟨rfl, rfl⟩) (fun v l w h1 h2 => word_Pack v l w h1 h2) h
    exact ⟨⟨_, Try.func63, rfl⟩, h, fun _ h => h⟩
  have d2 : (f == 63) = false := by simpa using c2
  simp only [d2, cond_false] at hf
  by_cases c3 : f = 98
  · subst c3
    simp only [BEq.rfl, cond_true, Option.some.injEq] at hf
    subst hf
    obtain ⟨rfl, h⟩ := primWords_ok (fun v l w h1 h2 => word_Words_no v l w h1 h2) (fun v l w h1 h2 h3 => word_Words_yes v l w h1 h2 h3) h
    exact ⟨⟨_, Try.func98, rfl⟩, h, fun _ h => h⟩
  have d3 : (f == 98) = false := by simpa using c3
  simp only [d3, cond_false] at hf
  by_cases c4 : f = 96
  · subst c4
    simp only [BEq.rfl, cond_true, Option.some.injEq] at hf
    subst hf
    obtain ⟨rfl, h⟩ := primBits_ok h
    exact ⟨⟨_, Try.func96, rfl⟩, h, fun _ h => h⟩
  have d4 : (f == 96) = false := by simpa using c4
  simp only [d4, cond_false] at hf
  by_cases c5 : f = 82
  · subst c5
    simp only [BEq.rfl, cond_true, Option.some.injEq] at hf
    subst hf
    obtain ⟨rfl, h⟩ := primLL_ok dW_some (fun a => rfl) (fun a => rfl) (fun a => ⟨rfl, rfl⟩) (fun v l w h1 h2 => refW_Bytes v l w h1 h2) h
    exact ⟨⟨_, Try.func82, rfl⟩, h, fun _ h => h⟩
  have d5 : (f == 82) = false := by simpa using c5
  simp only [d5, cond_false] at hf
  by_cases c6 : f = 83
  · subst c6
    simp only [BEq.rfl, cond_true, Option.some.injEq] at hf
    subst hf
    obtain ⟨rfl, h⟩ := primLL_ok dT_some (fun a => rfl) (fun a => rfl) (fun a => ⟨rfl, rfl⟩) (fun v l w h1 h2 => refW_Pack v l w h1 (by omega)) h
    exact ⟨⟨_, Try.func83, rfl⟩, h, fun _ h => h⟩
  have d6 : (f == 83) = false := by simpa using c6
  simp only [d6, cond_false] at hf
  by_cases c7 : f = 89
  · subst c7
    simp only [BEq.rfl, cond_true, Option.some.injEq] at hf
    subst hf
    obtain ⟨rfl, h⟩ := primWords_ok (fun v l w h1 h2 => refW_Words_no v l w h1 h2) (fun v l w h1 h2 h3 => refW_Words_yes v l w h1 h2 h3) h
    exact ⟨⟨_, Try.func89, rfl⟩, h, fun _ h => h⟩
  have d7 : (f == 89) = false := by simpa using c7
  simp only [d7, cond_false] at hf
  cases hf
end Go.Proofs.Ytjkofefcoeejbaa

/- Functions that are known by a contract of their own: that they answer so. -/
namespace Go.Proofs.Ytjkofefcoeejbaa
open Go Go.RowKit
set_option linter.unusedSimpArgs false
set_option linter.unusedVariables false
set_option maxHeartbeats 4000000 in
theorem grow_walk (A : Option Addr) (n : Nat) (h0 : 0 < n) (h1 : n ≤ 1000000) (w : World) :
    Calls Try.prog 120 #[.slice A 0 0, .int .i64 n] w fun e w' => ∃ cap C, e = .returned (.slice (some ⟨w.heap.size, 0, none⟩) 0 cap) ∧ More (.cells C 5 (0, 0)) w w' ∧ C.size = cap * 1 := by
  have hinf : (Try.prog.info? 5).map (fun i => (i.size, i.bytes, i.zero)) = some (1, 1, some (.int .u8 0)) := by kernel_rfl
  obtain ⟨i0, hi0, hs0⟩ := Option.map_eq_some_iff.1 hinf
  simp only [Prod.mk.injEq] at hs0
  obtain ⟨hs0, hb0, hz0⟩ := hs0
  clear hinf
  have hold : (Builtin.firstCells i0.size 0 (.slice A 0 0)).run Try.prog w.drew = .ok ([] : List Value).toArray w.drew := by
    cases A with
    | none => exact run_firstCells_none w.drew i0.size 0 0 0
    | some a => exact run_firstCells_some w.drew i0.size 0 a 0 0 [] (by simp) (fun j v hj => by simp at hj)
  have hn0 : ¬ ((n : Int) < 0) := by omega
  have hn1 : (n : Int) > 0 := by omega
  have hn2 : IntKind.i64.wrap ((n : Int) - 0) = (n : Int) := by simp [IntKind.wrap, IntKind.bits, IntKind.signed]; omega
  have hrz : ∀ ty, (Builtin.append_ #[27, 3] ty #[.slice A 0 0, .int .i64 (n : Int)]).run Try.prog w =
      .ok (.slice (some ⟨w.heap.size, 0, none⟩) n (grownCap w n 0 5)) (w.drew.alloc (.cells (([] : List Value).toArray ++ Builtin.zeroCells (Value.int .u8 0).cells n ++ Builtin.zeroCells (Value.int .u8 0).cells (grownCap w n 0 5 - n)) 5)) := fun ty => by
    have h := Lib.run_append_grow_zeros w 27 3 ty 5 i0 (.int .u8 0) .i64 .i64 Try.underlying27 Try.underlying3 hi0 hz0 A 0 0 [] hold n h0 (by omega) (by omega) (by omega) (by rw [hb0]; omega) (by rw [hb0]; exact growslice_fits (by omega) (by omega))
    rw [Nat.zero_add] at h
    exact h
  have hGn : n ≤ grownCap w n 0 5 := grownCap_ge w _ _ _
  have hcs : (([] : List Value).toArray ++ Builtin.zeroCells (Value.int .u8 0).cells n ++ Builtin.zeroCells (Value.int .u8 0).cells (grownCap w n 0 5 - n)).size = grownCap w n 0 5 * 1 := by
    simp [Builtin.zeroCells, Value.cells]
    omega
  have hG63 : grownCap w n 0 5 ≤ 9223372036854775807 := by
    have := grownCap_le_maxLen w n 0 5 (by unfold maxLen; omega)
    unfold maxLen at this
    omega
  generalize (([] : List Value).toArray ++ Builtin.zeroCells (Value.int .u8 0).cells n ++ Builtin.zeroCells (Value.int .u8 0).cells (grownCap w n 0 5 - n)) = C at *
  generalize grownCap w n 0 5 = G at *
  have fin : More (.cells C 5 (0, 0)) w (w.drew.alloc (.cells C 5)) := ⟨rfl, rfl, rfl, rfl⟩
  clear hold hb0 hz0 hs0 hi0
  go_enter Try.func120, Try.ntmps120
  go_wp2_with (at_builtin; refine Lib.wpList_append_run _ rfl _ _ _ _ rfl _ _ rfl rfl _ _ (hrz _) ?_)
  all_goals (go_ret; exact ⟨_, rfl, _, ⟨rfl, rfl, rfl, rfl⟩, by simpa using hcs⟩)
theorem grow_zero (A : Option Addr) (w : World) : Calls Try.prog 120 #[.slice A 0 0, .int .i64 0] w fun e w' => e = .returned (.slice A 0 0) ∧ w' = w := by
  go_enter Try.func120, Try.ntmps120
  go_wp2
  go_ret
  exact ⟨rfl, rfl⟩
theorem primGrow_ok {args : List DV} {d : DV} {H H' : Heap} (h : primGrow args H = some (d, H')) : (∀ fl, CallOk Try.prog 120 args H fl d H') ∧ ∀ k : Nat, H[k]? = some .hole → H'[k]? = some .hole := by
  unfold primGrow at h
  split at h
  · rename_i H0 n
    split at h
    · rename_i hn
      subst hn
      simp only [Option.some.injEq, Prod.mk.injEq] at h
      obtain ⟨rfl, rfl⟩ := h
      refine ⟨fun fl => ?_, fun k hk => hk⟩
      refine callOk_below (fun I G w vs hr => ?_) _ fl
      simp only [RepL, Rep] at hr
      obtain ⟨_, _, e1, ⟨A, c, rfl, _, _, _, ht⟩, _, _, rfl, rfl, rfl⟩ := hr
      simp only [TagOk] at ht
      have hv : vs = #[.slice A 0 0, .int .i64 0] := by
        apply Array.ext'
        simpa [ht] using e1
      subst hv
      exact (grow_zero A w).mono fun r w' ⟨h1, h2⟩ => ⟨_, h1, by rw [h2]; exact Below.refl _ _, fun I G => by simp only [Rep, TagOk]; exact ⟨A, 0, rfl, by simp, by simp, .inl trivial, rfl⟩⟩
    · split at h
      · rename_i h0 h1
        simp only [Option.some.injEq, Prod.mk.injEq] at h
        obtain ⟨rfl, rfl⟩ := h
        refine ⟨fun fl => ?_, fun k hk => by rw [List.getElem?_append_left (List.getElem?_eq_some_iff.1 hk).1]; exact hk⟩
        intro B G w vs hB hH hr hfl
        refine ⟨?_, fun k hk => List.getElem?_append_left (by omega), by simp⟩
        simp only [RepL, Rep] at hr
        obtain ⟨_, _, e1, ⟨A, c, rfl, _, _, _, ht⟩, _, _, rfl, rfl, rfl⟩ := hr
        simp only [TagOk] at ht
        obtain ⟨m, rfl⟩ := Int.eq_ofNat_of_zero_le (by omega : 0 ≤ n)
        have hv : vs = #[.slice A 0 0, .int .i64 m] := by
          apply Array.ext'
          simpa [ht] using e1
        subst hv
        refine (grow_walk A m (by omega) (by omega) w).mono fun e w' ⟨cap, C, he, hm, hC⟩ => ?_
        obtain ⟨hK, hH'⟩ := step_token (n := 0) hH hB hm (Nat.zero_le _) (by omega) (by omega) hC
        refine ⟨_, _, he, hK, hH', ?_⟩
        have hself : (G ++ [GK.own w.heap.size 1 cap 0])[H.length]? = some (GK.own w.heap.size 1 cap 0) := by rw [hH.len]; simp
        simp only [Rep]
        refine ⟨_, cap, rfl, Nat.zero_le _, by simp, .inl trivial, ?_⟩
        simp only [TagOk]
        exact ⟨_, _, _, _, hself, by simp, fun _ => ⟨rfl, rfl, rfl⟩⟩
      · cases h
  · cases h
theorem primOk (f : FuncId) (g : Prim) (args : List DV) (H : Heap) (d : DV) (H' : Heap) (hf : PRIM f = some g) (h : g args H = some (d, H')) : (∃ fn, Try.prog.funcs[f]? = some fn ∧ fn.body.isSome = true) ∧ (∀ fl, CallOk Try.prog f args H fl d H') ∧ ∀ k : Nat, H[k]? = some .hole → H'[k]? = some .hole := by
  unfold PRIM at hf
  by_cases c3 : f = 120
  · subst c3
    simp only [BEq.rfl, cond_true, Option.some.injEq] at hf
    subst hf
    obtain ⟨h1, h2⟩ := primGrow_ok h
    exact ⟨⟨_, Try.func120, rfl⟩, h1, h2⟩
  have c4 : (f == 120) = false := by simpa using c3
  simp only [c4, cond_false] at hf
  exact primW_ok f g args H d H' hf h
end Go.Proofs.Ytjkofefcoeejbaa

/- Words and bits as bytes, and back: what the functions known by a contract answer; over lists of numbers. -/
namespace Go.Proofs.Ytjkofefcoeejbaa
open Go
set_option linter.unusedSimpArgs false
set_option linter.unusedVariables false
theorem prim_call {f : FuncId} {g : Prim} (hp : ENV.prim f = some g) (n : Nat) (args : List DV) (H : Heap) (fl : Nat) : callG Try.prog ENV (n + 1) f args H fl = g args H := by
  rw [callG_eq]
  unfold bodyG
  rw [hp]
def Words (l : List Int) : Prop := ∀ x ∈ l, 0 ≤ x ∧ x < 65536
def toB (l : List Int) : List UInt8 := l.map lowB
def toW (l : List Int) : List UInt16 := l.map fun x => UInt16.ofNat x.toNat
def ofB (l : List UInt8) : List Int := l.map fun c => (c.toNat : Int)
def ofW (l : List UInt16) : List Int := l.map fun c => (c.toNat : Int)
theorem mapO_dB (l : List Int) (h : Bytes l) : mapO dB (l.map (I .u8)) = some (toB l) := by
  induction l with
  | nil => rfl
  | cons a l ih =>
    rw [List.map_cons, mapO_cons, ih (fun x hx => h x (by simp [hx]))]
    have : dB (I .u8 a) = some (lowB a) := by unfold dB; simp only; rw [if_pos (h a (by simp))]
    rw [this]
    rfl
theorem mapO_dW (l : List Int) (h : Words l) : mapO dW (l.map (I .u16)) = some (toW l) := by
  induction l with
  | nil => rfl
  | cons a l ih =>
    rw [List.map_cons, mapO_cons, ih (fun x hx => h x (by simp [hx]))]
    have : dW (I .u16 a) = some (UInt16.ofNat a.toNat) := by unfold dW; simp only; rw [if_pos (h a (by simp))]
    rw [this]
    rfl
theorem mapO_dT (l : List Bool) : mapO dT (l.map Bo) = some l := by
  induction l with
  | nil => rfl
  | cons a l ih => rw [List.map_cons, mapO_cons, ih]; rfl
theorem mkl_eB (l : List UInt8) (t : Tag) : mkl 1 (l.map eB) t = LV 1 (I .u8) (ofB l) t := by unfold LV ofB; rw [List.map_map]; rfl
theorem mkl_eW (l : List UInt16) (t : Tag) : mkl 1 (l.map eW) t = LV 1 (I .u16) (ofW l) t := by unfold LV ofW; rw [List.map_map]; rfl
theorem mkl_eT (l : List Bool) (t : Tag) : mkl 1 (l.map eT) t = LV 1 Bo l t := rfl
theorem primLL_LV {α β γ : Type} {d : DV → Option α} {e : β → DV} {g : List α → List β} {enc : γ → DV} {l : List γ} {l2 : List α} (t : Tag) (H : Heap) (hd : mapO d (l.map enc) = some l2) (hl : l2.length ≤ 100000) : primLL d e g (LV 1 enc l t :: []) H = some (mkl 1 ((g l2).map e) .sh, H) := by
  obtain ⟨s, h1, _⟩ := LV_list 1 enc l t
  rw [h1]
  unfold primLL
  simp only
  rw [hd, Option.bind_some, if_pos hl]
/-- words as bytes -/
def wbI (l : List Int) : List Int := ofB (wBytes (toW l))
def pkI (l : List Bool) : List Int := ofB (wPack l)
theorem ofB_bytes (l : List UInt8) : Bytes (ofB l) := by
  intro x hx
  obtain ⟨c, _, rfl⟩ := List.mem_map.1 hx
  have := c.toNat_lt
  omega
theorem toB_ofB (l : List UInt8) : toB (ofB l) = l := by
  unfold toB ofB
  rw [List.map_map]
  conv => rhs; rw [← List.map_id l]
  refine List.map_congr_left fun c _ => ?_
  show lowB (c.toNat : Int) = c
  unfold lowB
  simp
theorem ofB_toB (l : List Int) (h : Bytes l) : ofB (toB l) = l := by
  unfold toB ofB
  rw [List.map_map]
  conv => rhs; rw [← List.map_id l]
  refine List.map_congr_left fun c hc => ?_
  exact lowB_nat c (h c hc).1 (h c hc).2
theorem ofW_toW (l : List Int) (h : Words l) : ofW (toW l) = l := by
  unfold toW ofW
  rw [List.map_map]
  conv => rhs; rw [← List.map_id l]
  refine List.map_congr_left fun c hc => ?_
  have := h c hc
  show (((UInt16.ofNat c.toNat).toNat : Nat) : Int) = c
  rw [UInt16.toNat_ofNat']
  omega
theorem wbI_length (l : List Int) : (wbI l).length = 2 * l.length := by unfold wbI ofB; rw [List.length_map, wBytes_len]; simp [toW]
theorem pkI_length (l : List Bool) : (pkI l).length = (l.length + 7) / 8 := by unfold pkI ofB; rw [List.length_map, wPack_len]
theorem wbI_cons (a : Int) (l : List Int) (h : 0 ≤ a ∧ a < 65536) : wbI (a :: l) = a / 256 :: a % 256 :: wbI l := by
  have e1 : (UInt16.ofNat a.toNat).toNat = a.toNat := by rw [UInt16.toNat_ofNat']; omega
  unfold wbI toW wBytes ofB
  rw [List.map_cons, List.flatMap_cons, List.map_append]
  simp only [List.map_cons, List.map_nil, e1, List.cons_append, List.nil_append, List.cons.injEq, and_true]
  rw [UInt8.toNat_ofNat', UInt8.toNat_ofNat']
  omega
theorem wbI_nil : wbI [] = [] := rfl
/-- what Words and Bits tell -/
def wdI (l : List Int) : List Int := ofW (wordsTell (toB l)).2
def wdOk (l : List Int) : Bool := (wordsTell (toB l)).1
def btI (l : List Int) (n : Int) : List Bool := (bitsTell (toB l) n).2
def btOk (l : List Int) (n : Int) : Bool := (bitsTell (toB l) n).1
theorem wdI_wb (l : List Int) (h : Words l) : wdI (wbI l) = l ∧ wdOk (wbI l) = true := by
  unfold wdI wdOk wbI
  rw [toB_ofB, wordsTell_yes (by rw [wBytes_len]; omega), wWords_bytes]
  exact ⟨ofW_toW l h, rfl⟩
theorem btI_pk (l : List Bool) : btI (pkI l) l.length = l ∧ btOk (pkI l) l.length = true := by
  unfold btI btOk pkI
  rw [toB_ofB, bitsTell_nat, wBits_yes (fit_pack l)]
  exact ⟨wBits_pack l, rfl⟩
theorem wdI_words (l : List Int) : Words (wdI l) := by
  intro x hx
  obtain ⟨c, _, rfl⟩ := List.mem_map.1 hx
  have := c.toNat_lt
  omega
theorem cP_prim {f : FuncId} {g : Prim} {n : Nat} {args args' : List DV} {H' : Heap} {r r' : DV} (hp : ENV.prim f = some g) (hn : 1 ≤ n) (h1 : mapO argEl args = some args') (h2 : g args' [] = some (r, H')) (h3 : outD false H' r = some r') : cP n f false args = some r' := by
  obtain ⟨n, rfl⟩ : ∃ m, n = m + 1 := ⟨n - 1, by omega⟩
  exact cP_of h1 ((prim_call hp n args' [] 0).trans h2) h3
theorem word_Bytes_c (n : Nat) (l : List Int) (t : Tag) (hn : 1 ≤ n) (h : Words l) (hl : l.length ≤ 100000) : cP n 64 false [LV 1 (I .u16) l t] = some (LV 1 (I .u8) (wbI l) .sh) :=
  cP_prim (g := primLL dW eB wBytes) (args' := [LV 1 (I .u16) l .sh]) (by kernel_rfl) hn (by simp [argEl_eq]) ((primLL_LV .sh [] (mapO_dW l h) (by simpa [toW] using hl)).trans (by rw [mkl_eB])) (by simp [wbI])
theorem word_Pack_c (n : Nat) (l : List Bool) (t : Tag) (hn : 1 ≤ n) (hl : l.length ≤ 100000) : cP n 63 false [LV 1 Bo l t] = some (LV 1 (I .u8) (pkI l) .sh) :=
  cP_prim (g := primLL dT eB wPack) (args' := [LV 1 Bo l .sh]) (by kernel_rfl) hn (by simp [argEl_eq]) ((primLL_LV .sh [] (mapO_dT l) hl).trans (by rw [mkl_eB])) (by simp [pkI])
theorem word_Words_c (n : Nat) (l : List Int) (t : Tag) (hn : 1 ≤ n) (h : Bytes l) (hl : l.length ≤ 100000) : cP n 98 false [LV 1 (I .u8) l t] = some (.tup [LV 1 (I .u16) (wdI l) .sh, Bo (wdOk l)]) := by
  obtain ⟨s, e, _⟩ := LV_list 1 (I .u8) l .sh
  refine cP_prim (g := primWords) (args' := [LV 1 (I .u8) l .sh]) (r := .tup [LV 1 (I .u16) (wdI l) .sh, Bo (wdOk l)]) (H' := []) (by kernel_rfl) hn (by simp [argEl_eq]) ?_ (by simp)
  rw [e]
  unfold primWords
  simp only
  rw [mapO_dB l h, Option.bind_some, if_pos (by simpa [toB] using hl), mkl_eW]
  rfl
theorem word_Bits_c (n : Nat) (l : List Int) (k : Int) (t : Tag) (hn : 1 ≤ n) (h : Bytes l) (hl : l.length ≤ 100000) (h0 : -9223372036854775808 ≤ k) (h1 : k < 9223372036854775808) : cP n 96 false [LV 1 (I .u8) l t, I .i64 k] = some (.tup [LV 1 Bo (btI l k) .sh, Bo (btOk l k)]) := by
  obtain ⟨s, e, _⟩ := LV_list 1 (I .u8) l .sh
  refine cP_prim (g := primBits) (args' := [LV 1 (I .u8) l .sh, I .i64 k]) (r := .tup [LV 1 Bo (btI l k) .sh, Bo (btOk l k)]) (H' := []) (by kernel_rfl) hn (by simp [argEl_eq]) ?_ (by simp)
  rw [e]
  unfold primBits
  simp only
  rw [mapO_dB l h, Option.bind_some, if_pos ⟨by simpa [toB] using hl, h0, by omega⟩, mkl_eT]
  rfl
theorem ref02_Bytes_c (n : Nat) (l : List Int) (t : Tag) (hn : 1 ≤ n) (h : Words l) (hl : l.length ≤ 100000) : cP n 82 false [LV 1 (I .u16) l t] = some (LV 1 (I .u8) (wbI l) .sh) :=
  cP_prim (g := primLL dW eB wBytes) (args' := [LV 1 (I .u16) l .sh]) (by kernel_rfl) hn (by simp [argEl_eq]) ((primLL_LV .sh [] (mapO_dW l h) (by simpa [toW] using hl)).trans (by rw [mkl_eB])) (by simp [wbI])
theorem ref02_Pack_c (n : Nat) (l : List Bool) (t : Tag) (hn : 1 ≤ n) (hl : l.length ≤ 100000) : cP n 83 false [LV 1 Bo l t] = some (LV 1 (I .u8) (pkI l) .sh) :=
  cP_prim (g := primLL dT eB wPack) (args' := [LV 1 Bo l .sh]) (by kernel_rfl) hn (by simp [argEl_eq]) ((primLL_LV .sh [] (mapO_dT l) hl).trans (by rw [mkl_eB])) (by simp [pkI])
theorem ref02_Words_c (n : Nat) (l : List Int) (t : Tag) (hn : 1 ≤ n) (h : Bytes l) (hl : l.length ≤ 100000) : cP n 89 false [LV 1 (I .u8) l t] = some (.tup [LV 1 (I .u16) (wdI l) .sh, Bo (wdOk l)]) := by
  obtain ⟨s, e, _⟩ := LV_list 1 (I .u8) l .sh
  refine cP_prim (g := primWords) (args' := [LV 1 (I .u8) l .sh]) (r := .tup [LV 1 (I .u16) (wdI l) .sh, Bo (wdOk l)]) (H' := []) (by kernel_rfl) hn (by simp [argEl_eq]) ?_ (by simp)
  rw [e]
  unfold primWords
  simp only
  rw [mapO_dB l h, Option.bind_some, if_pos (by simpa [toB] using hl), mkl_eW]
  rfl
end Go.Proofs.Ytjkofefcoeejbaa

/- Requests: compared. -/
namespace Go.Proofs.Ytjkofefcoeejbaa
open Go
set_option linter.unusedSimpArgs false
set_option linter.unusedVariables false
set_option maxRecDepth 100000
structure Rq where
  code : Int
  addr : Int
  cnt : Int
  to_ : Int
  words : List Int
  bits : List Bool
  and_ : Int
  or_ : Int
  deriving DecidableEq
def rqE (x : Rq) (t t2 : Tag) : DV := .agg [I .i64 x.code, I .i64 x.addr, I .i64 x.cnt, I .i64 x.to_, LV 1 (I .u16) x.words t, LV 1 Bo x.bits t2, I .u16 x.and_, I .u16 x.or_]
structure RqOk (x : Rq) : Prop where
  w : Words x.words
  a : 0 ≤ x.and_ ∧ x.and_ < 65536
  o : 0 ≤ x.or_ ∧ x.or_ < 65536
  lw : x.words.length ≤ 3000
  lb : x.bits.length ≤ 30000
section
variable {P : Program}
theorem pr_eqElems_int {d : Nat} {e : TypeId} {k : IntKind} (he : P.underlying e = some (.int k)) (xs ys : List Int) : ∀ (is : List Nat), (∀ i ∈ is, i < xs.length ∧ i < ys.length) →
    pureRun P (eqElems (d + 1) e 1 (xs.map (Value.int k)).toArray (ys.map (Value.int k)).toArray is) = some (is.all fun i => xs.getD i 0 == ys.getD i 0)
  | [], _ => rfl
  | i :: is, h => by
    obtain ⟨h1, h2⟩ := h i (by simp)
    rw [pr_eqElems_cons (a := .int k xs[i]) (b := .int k ys[i]) (r := xs[i] == ys[i]) (pr_part_int he (by simp [h1])) (pr_part_int he (by simp [h2])) (pr_equalIn_int d e k k _ _ he)]
    rw [pr_eqElems_int he xs ys is (fun j hj => h j (by simp [hj]))]
    have g1 : xs.getD i 0 = xs[i] := by simp [h1]
    have g2 : ys.getD i 0 = ys[i] := by simp [h2]
    rw [List.all_cons, g1, g2]
    cases xs[i] == ys[i] <;> rfl
theorem pr_eqL_int {d n : Nat} {t e : TypeId} {k : IntKind} (ht : P.underlying t = some (.array n e)) (he : P.underlying e = some (.int k)) (hs : ((P.info? e).map (·.size)) = some 1) (xs ys : List Int) (hx : xs.length = n) (hy : ys.length = n) :
    pureRun P (Op.equalIn (d + 2) t (.agg (xs.map (Value.int k)).toArray) (.agg (ys.map (Value.int k)).toArray)) = some (decide (xs = ys)) := by
  obtain ⟨i, hi, h1⟩ := info_of hs
  rw [pr_equalIn_array (d + 1) n t e i _ _ ht hi, h1, pr_eqElems_int he xs ys _ (fun j hj => by simp [List.mem_range'] at hj; omega)]
  congr 1
  rw [Bool.eq_iff_iff]
  simp only [List.all_eq_true, beq_iff_eq, decide_eq_true_eq]
  constructor
  · intro h
    refine List.ext_getElem (by omega) fun j a b => ?_
    have := h j (by simp [List.mem_range']; omega)
    simpa [a, b] using this
  · rintro rfl j _
    rfl
end
theorem mapO_flat (k : IntKind) (l : List Int) : mapO flatV (l.map (I k)) = some (l.map (Value.int k)) := by
  induction l with
  | nil => rfl
  | cons a l ih => rw [List.map_cons, mapO_cons, ih]; rfl
theorem eql_a6 (xs ys : List Int) (hx : xs.length = 6) (hy : ys.length = 6) (x y : Operand) : binD Try.prog .eql 87 x y (.agg (xs.map (I .i64))) (.agg (ys.map (I .i64))) = some (Bo (decide (xs = ys))) :=
  binD_eql_agg (va := xs.map (Value.int .i64)) (vb := ys.map (Value.int .i64)) (mapO_flat _ _) (mapO_flat _ _) (by kernel_rfl) (pr_eqL_int Try.underlying87 Try.underlying3 (by kernel_rfl) xs ys hx hy)
theorem eql_6 (a b c d e f a' b' c' d' e' f' : Int) (x y : Operand) : binD Try.prog .eql 87 x y (.agg [I .i64 a, I .i64 b, I .i64 c, I .i64 d, I .i64 e, I .i64 f]) (.agg [I .i64 a', I .i64 b', I .i64 c', I .i64 d', I .i64 e', I .i64 f']) = some (Bo (decide ([a, b, c, d, e, f] = [a', b', c', d', e', f']))) :=
  eql_a6 [a, b, c, d, e, f] [a', b', c', d', e', f'] rfl rfl x y
theorem ask_Same_c (n : Nat) (x y : Rq) (t1 t2 t3 t4 : Tag) (hx : RqOk x) (hy : RqOk y) (hn : 31000 ≤ n) : cP n 24 false [rqE x t1 t2, rqE y t3 t4] = some (Bo (decide (x = y))) := by
  obtain ⟨n, rfl⟩ : ∃ m, n = m + 1 := ⟨n - 1, by omega⟩
  have e1 := eq16_c n x.words y.words .sh .sh (by have := hx.lw; omega) (by have := hx.lw; omega)
  have e2 := eqB_c n x.bits y.bits .sh .sh (by have := hx.lb; omega) (by have := hx.lb; omega)
  have xa := hx.a
  have xo := hx.o
  have ya := hy.a
  have yo := hy.o
  obtain ⟨c, a, k, t, w, b, an, o⟩ := x
  obtain ⟨c', a', k', t', w', b', an', o'⟩ := y
  simp only at e1 e2 xa xo ya yo
  have go : ∀ r, (∃ H', s_ask_Same n [] 0 (rqE ⟨c, a, k, t, w, b, an, o⟩ .sh .sh) (rqE ⟨c', a', k', t', w', b', an', o'⟩ .sh .sh) = some (Bo r, H')) → r = decide ((⟨c, a, k, t, w, b, an, o⟩ : Rq) = ⟨c', a', k', t', w', b', an', o'⟩) → cP (n + 1) 24 false [rqE ⟨c, a, k, t, w, b, an, o⟩ t1 t2, rqE ⟨c', a', k', t', w', b', an', o'⟩ t3 t4] = some (Bo (decide ((⟨c, a, k, t, w, b, an, o⟩ : Rq) = ⟨c', a', k', t', w', b', an', o'⟩))) := by
    intro r ⟨H', h⟩ h2
    rw [← h2]
    exact cP_of (r := Bo r) (args' := [rqE ⟨c, a, k, t, w, b, an, o⟩ .sh .sh, rqE ⟨c', a', k', t', w', b', an', o'⟩ .sh .sh]) (by simp [argEl_eq, rqE]) ((s_ask_Same_eq _ _ _ _ _).trans h) (by simp)
  by_cases hw : w = w'
  · by_cases hb : b = b'
    · have e3 := eql_6 c a k t an o c' a' k' t' an' o'
      rw [decide_eq_true hw] at e1
      rw [decide_eq_true hb] at e2
      refine go (decide ([c, a, k, t, an, o] = [c', a', k', t', an', o'])) ⟨_, by unfold s_ask_Same rqE; simp -implicitDefEqProofs (disch := first | omega | (simp only [List.length_set, List.length_append, List.length_cons, List.length_nil, List.length_take, List.length_drop, List.length_map]; omega) | simp) [wrap_i64, wrap_u16_id, wrap_u8_id, tdiv_pos, tmod_pos, -getElem?_pos, -getElem?_neg, -List.length_eq_zero_iff, -List.getElem_cons_drop, e1, e2, e3]; first | done | rfl⟩ ?_
      subst hw
      subst hb
      simp only [List.cons.injEq, Rq.mk.injEq, and_true, true_and]
    · rw [decide_eq_true hw] at e1
      rw [decide_eq_false hb] at e2
      exact go false ⟨_, by unfold s_ask_Same rqE; simp -implicitDefEqProofs (disch := first | omega | (simp only [List.length_set, List.length_append, List.length_cons, List.length_nil, List.length_take, List.length_drop, List.length_map]; omega) | simp) [wrap_i64, wrap_u16_id, wrap_u8_id, tdiv_pos, tmod_pos, -getElem?_pos, -getElem?_neg, -List.length_eq_zero_iff, -List.getElem_cons_drop, e1, e2]; first | done | rfl⟩ (by simp [hb])
  · rw [decide_eq_false hw] at e1
    exact go false ⟨_, by unfold s_ask_Same rqE; simp -implicitDefEqProofs (disch := first | omega | (simp only [List.length_set, List.length_append, List.length_cons, List.length_nil, List.length_take, List.length_drop, List.length_map]; omega) | simp) [wrap_i64, wrap_u16_id, wrap_u8_id, tdiv_pos, tmod_pos, -getElem?_pos, -getElem?_neg, -List.length_eq_zero_iff, -List.getElem_cons_drop, e1]; first | done | rfl⟩ (by simp [hw])
theorem ref06_Same_c (n : Nat) (x y : Rq) (t1 t2 t3 t4 : Tag) (hx : RqOk x) (hy : RqOk y) (hn : 31000 ≤ n) : cP n 19 false [rqE x t1 t2, rqE y t3 t4] = some (Bo (decide (x = y))) := by
  obtain ⟨n, rfl⟩ : ∃ m, n = m + 1 := ⟨n - 1, by omega⟩
  have e1 := ref02_Same_c n x.words y.words .sh .sh (by have := hx.lw; omega) (by have := hx.lw; omega)
  have e2 := ref02_SameBits_c n x.bits y.bits .sh .sh (by have := hx.lb; omega) (by have := hx.lb; omega)
  obtain ⟨c, a, k, t, w, b, an, o⟩ := x
  obtain ⟨c', a', k', t', w', b', an', o'⟩ := y
  simp only at e1 e2
  have go : ∀ r, (∃ H', s_triuneref06_Same n [] 0 (rqE ⟨c, a, k, t, w, b, an, o⟩ .sh .sh) (rqE ⟨c', a', k', t', w', b', an', o'⟩ .sh .sh) = some (Bo r, H')) → r = decide ((⟨c, a, k, t, w, b, an, o⟩ : Rq) = ⟨c', a', k', t', w', b', an', o'⟩) → cP (n + 1) 19 false [rqE ⟨c, a, k, t, w, b, an, o⟩ t1 t2, rqE ⟨c', a', k', t', w', b', an', o'⟩ t3 t4] = some (Bo (decide ((⟨c, a, k, t, w, b, an, o⟩ : Rq) = ⟨c', a', k', t', w', b', an', o'⟩))) := by
    intro r ⟨H', h⟩ h2
    rw [← h2]
    exact cP_of (r := Bo r) (args' := [rqE ⟨c, a, k, t, w, b, an, o⟩ .sh .sh, rqE ⟨c', a', k', t', w', b', an', o'⟩ .sh .sh]) (by simp [argEl_eq, rqE]) ((s_triuneref06_Same_eq _ _ _ _ _).trans h) (by simp)
  by_cases h1 : c = c'
  case neg => exact go false ⟨_, by unfold s_triuneref06_Same rqE; simp -implicitDefEqProofs (disch := first | omega | (simp only [List.length_set, List.length_append, List.length_cons, List.length_nil, List.length_take, List.length_drop, List.length_map]; omega) | simp) [wrap_i64, wrap_u16_id, wrap_u8_id, tdiv_pos, tmod_pos, -getElem?_pos, -getElem?_neg, -List.length_eq_zero_iff, -List.getElem_cons_drop, h1]; first | done | rfl⟩ (by simp [h1])
  by_cases h2 : a = a'
  case neg => exact go false ⟨_, by unfold s_triuneref06_Same rqE; simp -implicitDefEqProofs (disch := first | omega | (simp only [List.length_set, List.length_append, List.length_cons, List.length_nil, List.length_take, List.length_drop, List.length_map]; omega) | simp) [wrap_i64, wrap_u16_id, wrap_u8_id, tdiv_pos, tmod_pos, -getElem?_pos, -getElem?_neg, -List.length_eq_zero_iff, -List.getElem_cons_drop, h1, h2]; first | done | rfl⟩ (by simp [h2])
  by_cases h3 : k = k'
  case neg => exact go false ⟨_, by unfold s_triuneref06_Same rqE; simp -implicitDefEqProofs (disch := first | omega | (simp only [List.length_set, List.length_append, List.length_cons, List.length_nil, List.length_take, List.length_drop, List.length_map]; omega) | simp) [wrap_i64, wrap_u16_id, wrap_u8_id, tdiv_pos, tmod_pos, -getElem?_pos, -getElem?_neg, -List.length_eq_zero_iff, -List.getElem_cons_drop, h1, h2, h3]; first | done | rfl⟩ (by simp [h3])
  by_cases h4 : t = t'
  case neg => exact go false ⟨_, by unfold s_triuneref06_Same rqE; simp -implicitDefEqProofs (disch := first | omega | (simp only [List.length_set, List.length_append, List.length_cons, List.length_nil, List.length_take, List.length_drop, List.length_map]; omega) | simp) [wrap_i64, wrap_u16_id, wrap_u8_id, tdiv_pos, tmod_pos, -getElem?_pos, -getElem?_neg, -List.length_eq_zero_iff, -List.getElem_cons_drop, h1, h2, h3, h4]; first | done | rfl⟩ (by simp [h4])
  by_cases h5 : an = an'
  case neg => exact go false ⟨_, by unfold s_triuneref06_Same rqE; simp -implicitDefEqProofs (disch := first | omega | (simp only [List.length_set, List.length_append, List.length_cons, List.length_nil, List.length_take, List.length_drop, List.length_map]; omega) | simp) [wrap_i64, wrap_u16_id, wrap_u8_id, tdiv_pos, tmod_pos, -getElem?_pos, -getElem?_neg, -List.length_eq_zero_iff, -List.getElem_cons_drop, h1, h2, h3, h4, h5]; first | done | rfl⟩ (by simp [h5])
  by_cases h6 : o = o'
  case neg => exact go false ⟨_, by unfold s_triuneref06_Same rqE; simp -implicitDefEqProofs (disch := first | omega | (simp only [List.length_set, List.length_append, List.length_cons, List.length_nil, List.length_take, List.length_drop, List.length_map]; omega) | simp) [wrap_i64, wrap_u16_id, wrap_u8_id, tdiv_pos, tmod_pos, -getElem?_pos, -getElem?_neg, -List.length_eq_zero_iff, -List.getElem_cons_drop, h1, h2, h3, h4, h5, h6]; first | done | rfl⟩ (by simp [h6])
  by_cases hw : w = w'
  case neg =>
    rw [decide_eq_false hw] at e1
    exact go false ⟨_, by unfold s_triuneref06_Same rqE; simp -implicitDefEqProofs (disch := first | omega | (simp only [List.length_set, List.length_append, List.length_cons, List.length_nil, List.length_take, List.length_drop, List.length_map]; omega) | simp) [wrap_i64, wrap_u16_id, wrap_u8_id, tdiv_pos, tmod_pos, -getElem?_pos, -getElem?_neg, -List.length_eq_zero_iff, -List.getElem_cons_drop, h1, h2, h3, h4, h5, h6, e1]; first | done | rfl⟩ (by simp [hw])
  rw [decide_eq_true hw] at e1
  refine go (decide (b = b')) ⟨_, by unfold s_triuneref06_Same rqE; simp -implicitDefEqProofs (disch := first | omega | (simp only [List.length_set, List.length_append, List.length_cons, List.length_nil, List.length_take, List.length_drop, List.length_map]; omega) | simp) [wrap_i64, wrap_u16_id, wrap_u8_id, tdiv_pos, tmod_pos, -getElem?_pos, -getElem?_neg, -List.length_eq_zero_iff, -List.getElem_cons_drop, h1, h2, h3, h4, h5, h6, e1, e2]; first | done | rfl⟩ ?_
  simp [h1, h2, h3, h4, h5, h6, hw]
def lgV (x : Rq) : Bool := decide (300 < x.words.length ∨ 3000 < x.bits.length)
theorem ref06_Large_c (n : Nat) (x : Rq) (t1 t2 : Tag) (hn : 1 ≤ n) : cP n 13 false [rqE x t1 t2] = some (Bo (lgV x)) := by
  obtain ⟨n, rfl⟩ : ∃ m, n = m + 1 := ⟨n - 1, by omega⟩
  unfold lgV
  by_cases h1 : 300 < x.words.length
  · rw [decide_eq_true (.inl h1)]
    exact cP_of (r := Bo true) (args' := [rqE x .sh .sh]) (by simp [argEl_eq, rqE]) ((s_triuneref06_Large_eq _ _ _ _).trans (by unfold s_triuneref06_Large rqE; simp -implicitDefEqProofs (disch := first | omega | (simp only [List.length_set, List.length_append, List.length_cons, List.length_nil, List.length_take, List.length_drop, List.length_map]; omega) | simp) [wrap_i64, wrap_u16_id, wrap_u8_id, tdiv_pos, tmod_pos, -getElem?_pos, -getElem?_neg, -List.length_eq_zero_iff, -List.getElem_cons_drop, h1]; first | exact rfl | exact ⟨rfl, rfl⟩)) (by simp)
  · by_cases h2 : 3000 < x.bits.length
    · rw [decide_eq_true (.inr h2)]
      exact cP_of (r := Bo true) (args' := [rqE x .sh .sh]) (by simp [argEl_eq, rqE]) ((s_triuneref06_Large_eq _ _ _ _).trans (by unfold s_triuneref06_Large rqE; simp -implicitDefEqProofs (disch := first | omega | (simp only [List.length_set, List.length_append, List.length_cons, List.length_nil, List.length_take, List.length_drop, List.length_map]; omega) | simp) [wrap_i64, wrap_u16_id, wrap_u8_id, tdiv_pos, tmod_pos, -getElem?_pos, -getElem?_neg, -List.length_eq_zero_iff, -List.getElem_cons_drop, h1, h2]; exact ⟨by omega, rfl⟩)) (by simp)
    · rw [decide_eq_false (by omega)]
      exact cP_of (r := Bo false) (args' := [rqE x .sh .sh]) (by simp [argEl_eq, rqE]) ((s_triuneref06_Large_eq _ _ _ _).trans (by unfold s_triuneref06_Large rqE; simp -implicitDefEqProofs (disch := first | omega | (simp only [List.length_set, List.length_append, List.length_cons, List.length_nil, List.length_take, List.length_drop, List.length_map]; omega) | simp) [wrap_i64, wrap_u16_id, wrap_u8_id, tdiv_pos, tmod_pos, -getElem?_pos, -getElem?_neg, -List.length_eq_zero_iff, -List.getElem_cons_drop, h1, h2]; exact ⟨by omega, rfl⟩)) (by simp)
end Go.Proofs.Ytjkofefcoeejbaa

/- Opening any argument of a law: what reads as data of a type stands for a deep value of the type's shape. -/
namespace Go.Proofs.Ytjkofefcoeejbaa
open Go Go.RowKit Go.ChangeShapes Go.WideShapes

def isAgT (P : Program) (t : TypeId) : Bool := match P.underlying t with
  | some (.struct _) => true
  | some (.array _ _) => true
  | _ => false
def elOf (ag : Bool) (ds : List DV) : DV := if ag then .agg ds else ds.headD .any
def ShpFs (S : TypeId → List DV → Prop) : List TypeId → List DV → Prop
  | [], ds => ds = []
  | t :: ts, ds => ∃ a b, ds = a ++ b ∧ S t a ∧ ShpFs S ts b
/-- the deep cells that data of a type has -/
def Shp (P : Program) : Nat → TypeId → List DV → Prop
  | 0, _, _ => False
  | d + 1, t, ds => match P.underlying t with
    | some (.int k) => ∃ n, ds = [.flat (.int k n)] ∧ (Lit.int k n).wf = true
    | some .bool => ∃ b, ds = [.flat (.bool b)]
    | some .string => ∃ s : ByteArray, ds = [.flat (.string s)] ∧ s.size ≤ reachBytes
    | some (.slice e) => ∃ l : List (List DV), ds = [mkl (P.cellsOf e) (l.map (elOf (isAgT P e))) .sh] ∧ l.length * P.bytesOf e ≤ reachBytes ∧ ∀ x ∈ l, Shp P d e x
    | some (.struct fs) => ShpFs (Shp P d) (fs.toList.map (·.type)) ds
    | some (.array n e) => ∃ l : List (List DV), l.length = n ∧ ds = l.flatten ∧ ∀ x ∈ l, Shp P d e x
    | _ => False
def laidFs (P : Program) (total : Nat) : Nat → List Field → Bool
  | off, [] => off == total
  | off, f :: fs => f.offset == off && laidFs P total (off + P.cellsOf f.type) fs
def deepT (P : Program) : Nat → TypeId → Bool
  | 0, _ => false
  | d + 1, t => match P.underlying t with
    | some (.int _) => P.cellsOf t == 1
    | some .bool => P.cellsOf t == 1
    | some .string => P.cellsOf t == 1
    | some (.slice e) => P.cellsOf t == 1 && decide (0 < P.bytesOf e ∧ 0 < P.cellsOf e) && (isAgT P e || P.cellsOf e == 1) && deepT P d e
    | some (.struct fs) => laidFs P (P.cellsOf t) 0 fs.toList && fs.toList.all fun f => deepT P d f.type
    | some (.array n e) => P.cellsOf t == n * P.cellsOf e && deepT P d e
    | _ => false

section
variable {H : Type} {enc' : TypeId × Value → H} {P : Program} {W : World} {spare : Nat → Bool} {held : Bool}
abbrev Any : Nat → Nat → Prop := fun _ _ => True
/-- what is found of some cells -/
def Opened (P : Program) (W : World) (d : Nat) (t : TypeId) (cs : List Value) : Prop :=
  ∃ ds : List DV, RepL Any W [] ds cs ∧ Shp P d t ds ∧ ds.all DV.leaf = true ∧ ∀ v ∈ cs, isOne v = true
theorem ex_list {α : Type} (Q : Nat → α → Prop) (n : Nat) (h : ∀ i, i < n → ∃ y, Q i y) : ∃ L : List α, L.length = n ∧ ∀ i (hi : i < L.length), Q i L[i] := by
  induction n with
  | zero => exact ⟨[], rfl, fun i hi => by simp at hi⟩
  | succ n ih =>
    obtain ⟨L, rfl, hL⟩ := ih (fun i hi => h i (by omega))
    obtain ⟨y, hy⟩ := h L.length (by omega)
    refine ⟨L ++ [y], by simp, fun i hi => ?_⟩
    by_cases hlt : i < L.length
    · rw [List.getElem_append_left hlt]; exact hL i hlt
    · have : i = L.length := by simp at hi; omega
      subst this
      simpa using hy
theorem addr_pl {w : World} {a : Addr} {v : Value} (h : w.cell? a = some v) : a = ⟨a.block, a.off, none⟩ := by
  obtain ⟨b, o, s⟩ := a
  unfold World.cell? at h
  split at h
  · cases s with
    | none => rfl
    | some s => simp at h
  · cases h
theorem addr_ad (b o j : Nat) : (⟨b, o, none⟩ : Addr).add j = ⟨b, o + j, none⟩ := by
  unfold Addr.add; split <;> simp_all
theorem RepE.of {I : Nat → Nat → Prop} {w : World} {sz b : Nat} : ∀ (xs : List DV) (o : Nat), (∀ i (hi : i < xs.length), xs[i].cells.all DV.leaf = true ∧ ∃ V, Rep I w [] xs[i] V ∧ V.cells.size = sz ∧ CellsAt I w b (o + i * sz) V.cells.toList) → RepE I w sz xs b o
  | [], _, _ => by simp [RepE]
  | x :: xs, o, h => by
    simp only [RepE]
    refine ⟨by have h0 := h 0 (by simp); rw [Nat.zero_mul, Nat.add_zero] at h0; exact h0, RepE.of xs (o + sz) fun i hi => ?_⟩
    have := h (i + 1) (by simpa using hi)
    rw [show o + (i + 1) * sz = o + sz + i * sz by rw [Nat.add_mul]; omega] at this
    simpa using this
/-- struct by struct, field by field -/
theorem open_fields {d n : Nat} {cs : List Value} {total : Nat} (hcs : cs.length = total) (ih : ∀ (t : TypeId) (cs : List Value) (x : DataW H × List MemPlace), deepT P d t = true → DataW.trod enc' P W 0 spare held n t cs = some x → (∀ k ∈ x.1.weights P t, k ≤ reachBytes) → Opened P W d t cs) :
    ∀ (fs : List Field) (off : Nat) (xs : List (DataW H × List MemPlace)), laidFs P total off fs = true → fs.all (fun f => deepT P d f.type) = true → xs.length = fs.length →
      (∀ (i : Nat) (f : Field), fs[i]? = some f → DataW.trod enc' P W 0 spare held n f.type ((cs.drop f.offset).take (P.cellsOf f.type)) = xs[i]?) →
      (∀ k ∈ DataW.weightsEach P (fs.map (·.type)) (xs.map (·.1)), k ≤ reachBytes) →
      ∃ ds : List DV, RepL Any W [] ds (cs.drop off) ∧ ShpFs (Shp P d) (fs.map (·.type)) ds ∧ ds.all DV.leaf = true ∧ ∀ v ∈ cs.drop off, isOne v = true
  | [], off, xs, hl, _, _, _, _ => by
    have : off = total := by simpa [laidFs] using hl
    have : cs.drop off = [] := by rw [List.drop_eq_nil_iff]; omega
    rw [this]
    exact ⟨[], by simp [RepL], rfl, rfl, fun v hv => by simp at hv⟩
  | f :: fs, off, [], _, _, hx, _, _ => by simp at hx
  | f :: fs, off, x :: xs, hl, hd, hx, ht, hw => by
    simp only [laidFs, Bool.and_eq_true, beq_iff_eq] at hl
    simp only [List.all_cons, Bool.and_eq_true] at hd
    have h0 := ht 0 f rfl
    simp only [List.getElem?_cons_zero] at h0
    rw [hl.1] at h0
    simp only [List.map_cons, DataW.weightsEach, List.mem_append] at hw
    obtain ⟨a, ha1, ha2, ha3, ha4⟩ := ih _ _ _ hd.1 h0 (fun k hk => hw k (.inl hk))
    obtain ⟨b, hb1, hb2, hb3, hb4⟩ := open_fields hcs ih fs (off + P.cellsOf f.type) xs hl.2 hd.2 (by simpa using hx) (fun i g hg => by
      have := ht (i + 1) g (by simpa using hg)
      simpa using this) (fun k hk => hw k (.inr hk))
    have hsplit : cs.drop off = (cs.drop off).take (P.cellsOf f.type) ++ cs.drop (off + P.cellsOf f.type) := by
      rw [← List.drop_drop, List.take_append_drop]
    refine ⟨a ++ b, ?_, ⟨a, b, rfl, ha2, hb2⟩, by simp only [List.all_append, ha3, hb3, Bool.and_self], ?_⟩
    · rw [hsplit]; exact ha1.app hb1
    · rw [hsplit]
      intro v hv
      rcases List.mem_append.mp hv with h | h
      · exact ha4 v h
      · exact hb4 v h
theorem open_items {d n : Nat} {e : TypeId} {cs : List Value} (hde : deepT P d e = true) (ih : ∀ (t : TypeId) (cs : List Value) (x : DataW H × List MemPlace), deepT P d t = true → DataW.trod enc' P W 0 spare held n t cs = some x → (∀ k ∈ x.1.weights P t, k ≤ reachBytes) → Opened P W d t cs) :
    ∀ (xs : List (DataW H × List MemPlace)) (off : Nat), cs.length = off + xs.length * P.cellsOf e → (∀ i, i < xs.length → DataW.trod enc' P W 0 spare held n e ((cs.drop (off + i * P.cellsOf e)).take (P.cellsOf e)) = xs[i]?) →
      (∀ k ∈ DataW.weightsAll P e (xs.map (·.1)), k ≤ reachBytes) →
      ∃ l : List (List DV), l.length = xs.length ∧ RepL Any W [] l.flatten (cs.drop off) ∧ (∀ x ∈ l, Shp P d e x) ∧ l.flatten.all DV.leaf = true ∧ ∀ v ∈ cs.drop off, isOne v = true
  | [], off, hl, _, _ => by
    have : cs.drop off = [] := by rw [List.drop_eq_nil_iff]; simp at hl; omega
    rw [this]
    exact ⟨[], rfl, by simp [RepL], fun x hx => by simp at hx, rfl, fun v hv => by simp at hv⟩
  | x :: xs, off, hl, ht, hw => by
    have h0 := ht 0 (by simp)
    simp only [List.getElem?_cons_zero, Nat.zero_mul, Nat.add_zero] at h0
    simp only [List.map_cons, DataW.weightsAll, List.mem_append] at hw
    obtain ⟨a, ha1, ha2, ha3, ha4⟩ := ih _ _ _ hde h0 (fun k hk => hw k (.inl hk))
    obtain ⟨l, hb0, hb1, hb2, hb3, hb4⟩ := open_items hde ih xs (off + P.cellsOf e) (by rw [hl, List.length_cons, Nat.add_mul]; omega) (fun i hi => by
      have := ht (i + 1) (by simpa using hi)
      rw [show off + (i + 1) * P.cellsOf e = off + P.cellsOf e + i * P.cellsOf e by rw [Nat.add_mul]; omega] at this
      simpa using this) (fun k hk => hw k (.inr hk))
    have hsplit : cs.drop off = (cs.drop off).take (P.cellsOf e) ++ cs.drop (off + P.cellsOf e) := by
      rw [← List.drop_drop, List.take_append_drop]
    refine ⟨a :: l, by simp [hb0], ?_, ?_, by simp only [List.flatten_cons, List.all_append, ha3, hb3, Bool.and_self], ?_⟩
    · rw [hsplit, List.flatten_cons]; exact ha1.app hb1
    · intro y hy
      rcases List.mem_cons.mp hy with rfl | hy
      · exact ha2
      · exact hb2 y hy
    · rw [hsplit]
      intro v hv
      rcases List.mem_append.mp hv with h | h
      · exact ha4 v h
      · exact hb4 v h
theorem open_cells : ∀ (d n : Nat) (t : TypeId) (cs : List Value) (x : DataW H × List MemPlace), deepT P d t = true → DataW.trod enc' P W 0 spare held n t cs = some x → (∀ k ∈ x.1.weights P t, k ≤ reachBytes) → Opened P W d t cs := by
  intro d
  induction d with
  | zero => intro n t cs x hd; cases hd
  | succ d ih =>
    intro n t cs x hd h hw
    unfold deepT at hd
    unfold Opened Shp
    split at hd
    · rename_i k hu
      obtain ⟨m, rfl, _, hwf⟩ := DataW.trod_int hu h
      exact ⟨[.flat (.int k m)], by simp [RepL, Rep], ⟨m, rfl, hwf⟩, rfl, fun v hv => by simp at hv; subst hv; rfl⟩
    · rename_i hu
      obtain ⟨b, rfl, _⟩ := DataW.trod_bool hu h
      exact ⟨[.flat (.bool b)], by simp [RepL, Rep], ⟨b, rfl⟩, rfl, fun v hv => by simp at hv; subst hv; rfl⟩
    · rename_i hu
      obtain ⟨s, rfl, rfl, _⟩ := DataW.trod_string hu h
      refine ⟨[.flat (.string s)], by simp [RepL, Rep], ⟨s, rfl, ?_⟩, rfl, fun v hv => by simp at hv; subst hv; rfl⟩
      have := hw s.data.toList.length (by simp [DataW.weights])
      simpa using this
    · rename_i e hu
      simp only [Bool.and_eq_true, beq_iff_eq, decide_eq_true_eq, Bool.or_eq_true] at hd
      obtain ⟨⟨⟨_, hB0, hpos2⟩, hag⟩, hde⟩ := hd
      rcases DataW.trod_slice hu h with ⟨rfl, _⟩ | ⟨a, len, cap, elems, rest, m, rfl, rfl, rfl, _, hl, _, hlen, hel, _, _⟩
      · refine ⟨[.list 0 [] .sh], ?_, ⟨[], rfl, by simp, fun x hx => by simp at hx⟩, rfl, fun v hv => by simp at hv; subst hv; rfl⟩
        simp only [RepL, Rep]
        exact ⟨_, _, rfl, ⟨none, 0, by simp, by simp, by simp, by simp, by simp [TagOk]⟩, rfl⟩
      · simp only [DataW.weights, hu, List.mem_cons, List.mem_append, List.length_map] at hw
        have hz := hw _ (.inl rfl)
        have hz2 : len * P.bytesOf e ≤ reachBytes := Nat.le_trans (Nat.mul_le_mul_right _ (by omega)) hz
        have hlen2 : len ≤ 140737488351232 := Nat.le_trans (Nat.le_mul_of_pos_right _ hB0) hz2
        have each : ∀ i, i < len → ∃ q : List DV, ∃ cs : List Value, W.cells? 0 (a.add (i * P.cellsOf e)) (P.cellsOf e) = some cs ∧ RepL Any W [] q cs ∧ Shp P d e q ∧ q.all DV.leaf = true ∧ ∀ v ∈ cs, isOne v = true := by
          intro i hi
          have h1 := hel i hi
          have h2 : elems[i]? = some elems[i] := List.getElem?_eq_getElem (by omega)
          rw [h2, Option.bind_eq_some_iff] at h1
          obtain ⟨cs, h3, h4⟩ := h1
          have hwi : ∀ k ∈ elems[i].1.weights P e, k ≤ reachBytes := by
            intro k hk
            refine hw k (.inr (.inl ?_))
            have : ∀ (L : List (DataW H)) (y : DataW H), y ∈ L → ∀ k ∈ y.weights P e, k ∈ DataW.weightsAll P e L := by
              intro L
              induction L with
              | nil => intro y hy; simp at hy
              | cons z L ih2 =>
                intro y hy k hk
                simp only [DataW.weightsAll, List.mem_append]
                rcases List.mem_cons.mp hy with rfl | hy
                · exact .inl hk
                · exact .inr (ih2 y hy k hk)
            exact this _ elems[i].1 (List.mem_map.mpr ⟨elems[i], List.getElem_mem _, rfl⟩) k hk
          obtain ⟨q, q1, q2, q3, q4⟩ := ih _ _ _ _ hde h4 hwi
          exact ⟨q, cs, h3, q1, q2, q3, q4⟩
        obtain ⟨L, hL, hLc⟩ := ex_list _ len each
        subst hL
        refine ⟨[mkl (P.cellsOf e) (L.map (elOf (isAgT P e))) .sh], ?_, ⟨L, rfl, hz2, ?_⟩, ?_, fun v hv => by simp at hv; subst hv; rfl⟩
        · simp only [RepL]
          refine ⟨_, _, rfl, ?_, rfl⟩
          by_cases h0 : L = []
          · subst h0
            show Rep Any W [] (.list 0 [] .sh) _
            simp only [Rep]
            exact ⟨some a, cap, rfl, Nat.zero_le _, Nat.zero_le _, .inl trivial, trivial⟩
          · have hmk : mkl (P.cellsOf e) (L.map (elOf (isAgT P e))) .sh = .list (P.cellsOf e) (L.map (elOf (isAgT P e))) .sh := by
              cases L with
              | nil => exact absurd rfl h0
              | cons => rfl
            rw [hmk]
            simp only [Rep, List.length_map]
            refine ⟨some a, cap, rfl, hl, by omega, .inr ?_, trivial⟩
            have ha : a = ⟨a.block, a.off, none⟩ := by
              have hpos : 0 < L.length := List.length_pos_iff.mpr h0
              obtain ⟨cs0, c1, c2, c3, c4, c5⟩ := hLc 0 hpos
              have hc := World.cells?_some c1
              have c := hc.2.2 0 hpos2
              simp only [Nat.zero_mul] at c
              have e1 : (a.add 0).add 0 = a := by simp [Addr.add]
              rw [e1] at c
              rw [List.getElem?_eq_getElem (by omega)] at c
              exact addr_pl c
            refine ⟨a.block, a.off, by rw [← ha], RepE.of _ _ fun i hi => ?_⟩
            have hi' : i < L.length := by simpa using hi
            obtain ⟨cs, c1, c2, c3, c4, c5⟩ := hLc i hi'
            have hc := World.cells?_some c1
            have cell : ∀ j v, cs[j]? = some v → W.cell? ⟨a.block, a.off + i * P.cellsOf e + j, none⟩ = some v ∧ Any a.block (a.off + i * P.cellsOf e + j) ∧ isOne v = true := by
              intro j v hv
              have hj : j < cs.length := by
                rcases Nat.lt_or_ge j cs.length with h | h
                · exact h
                · rw [List.getElem?_eq_none h] at hv; cases hv
              have := hc.2.2 j (by omega)
              rw [ha, addr_ad, addr_ad, hv] at this
              exact ⟨this, trivial, c5 v (List.mem_of_getElem? hv)⟩
            rw [List.getElem_map]
            by_cases hA : isAgT P e = true
            · have hel : elOf (isAgT P e) L[i] = .agg L[i] := by simp [elOf, hA]
              rw [hel]
              refine ⟨c4, .agg cs.toArray, by simp only [Rep]; exact ⟨_, rfl, c2⟩, by simpa [Value.cells] using hc.2.1, fun j v hv => cell j v (by simpa [Value.cells] using hv)⟩
            · have h1 : P.cellsOf e = 1 := by rcases hag with h | h; exact absurd h hA; exact h
              have hl2 := c2.length
              match hq : L[i], cs, hc.2.1, c2, c4, c5, cell with
              | [q], [v], _, c2, c4, c5, cell =>
                have hel : elOf (isAgT P e) [q] = q := by simp [elOf, hA]
                rw [hel]
                simp only [List.all_cons, List.all_nil, Bool.and_true] at c4
                have hqc : q.cells = [q] := by cases q <;> first | rfl | cases c4
                simp only [RepL] at c2
                obtain ⟨v', _, e1, c2, rfl⟩ := c2
                cases e1
                have hv1 : isOne v = true := c5 v (by simp)
                have hvc : v.cells = #[v] := by cases v <;> first | rfl | cases hv1
                refine ⟨by rw [hqc]; simp [c4], v, c2, by rw [hvc]; simp [h1], fun j u hu => cell j u (by rw [hvc] at hu; exact hu)⟩
              | [], [v], _, _, _, _, _ => rw [hq] at hl2; simp at hl2
              | _ :: _ :: _, [v], _, _, _, _, _ => rw [hq] at hl2; simp at hl2
              | _, [], hh, _, _, _, _ => simp at hh; omega
              | _, _ :: _ :: _, hh, _, _, _, _ => simp at hh; omega
        · intro x hx
          obtain ⟨i, hi, rfl⟩ := List.mem_iff_getElem.mp hx
          obtain ⟨cs, _, _, q2, _⟩ := hLc i hi
          exact q2
        · cases L <;> rfl
    · rename_i fs hu
      simp only [Bool.and_eq_true] at hd
      obtain ⟨xs, m, rfl, rfl, hl, hxs, hel⟩ := DataW.trod_struct hu h
      simp only [DataW.weights, hu] at hw
      obtain ⟨ds, h1, h2, h3, h4⟩ := open_fields (d := d) hl (ih m) fs.toList 0 xs hd.1 hd.2 (by simpa using hxs) (fun i f hf => hel i f (by simpa using hf)) hw
      exact ⟨ds, by simpa using h1, h2, h3, by simpa using h4⟩
    · rename_i cnt e hu
      simp only [Bool.and_eq_true, beq_iff_eq] at hd
      obtain ⟨xs, m, rfl, rfl, hl, hxs, hel⟩ := DataW.trod_array hu h
      simp only [DataW.weights, hu] at hw
      obtain ⟨l, h0, h1, h2, h3, h4⟩ := open_items (d := d) (e := e) (cs := cs) hd.2 (ih m) xs 0 (by rw [hl, hd.1, hxs, Nat.zero_add]) (fun i hi => by rw [Nat.zero_add]; exact hel i (by omega)) hw
      exact ⟨l.flatten, by simpa using h1, ⟨l, by rw [h0, hxs], rfl, h2⟩, h3, by simpa using h4⟩
    · cases hd
/-- an argument: a value of its own deep value -/
theorem open_arg (d : Nat) {t : TypeId} {r : Reach} {b0 : Nat} {v : Value} {x : DataW H} {ps : List MemPlace} (hd : deepT P d t = true) (hval : Value.okWide P W r b0 t v) (h : DataW.Trod enc' P W 0 spare held t v x ps) (hw : ∀ k ∈ x.weights P t, k ≤ reachBytes) :
    ∃ ds : List DV, Rep Any W [] (elOf (isAgT P t) ds) v ∧ Shp P d t ds := by
  obtain ⟨fuel, hf⟩ := h
  obtain ⟨ds, h1, h2, h3, h4⟩ := open_cells d fuel t v.cells.toList _ hd hf hw
  refine ⟨ds, ?_, h2⟩
  have one : isAgT P t = false → v.cells.toList = [v] → Rep Any W [] (elOf (isAgT P t) ds) v := by
    intro hA hv
    rw [hv] at h1
    match ds, h1 with
    | [q], h1 =>
      simp only [RepL] at h1
      obtain ⟨v', _, e1, h1, rfl⟩ := h1
      cases e1
      simpa [elOf, hA] using h1
    | [], h1 => simp [RepL] at h1
    | _ :: _ :: _, h1 => have := h1.length; simp at this
  cases d with
  | zero => cases hd
  | succ d =>
    unfold deepT at hd
    split at hd
    · rename_i k hu
      obtain ⟨m, rfl⟩ := okWide_int hu hval
      exact one (by unfold isAgT; rw [hu]) rfl
    · rename_i hu
      obtain ⟨m, rfl⟩ := okWide_bool hu hval
      exact one (by unfold isAgT; rw [hu]) rfl
    · rename_i hu
      obtain ⟨m, rfl⟩ := okWide_string hu hval
      exact one (by unfold isAgT; rw [hu]) rfl
    · rename_i e hu
      obtain ⟨_, _, _, rfl⟩ := okWide_slice hu hval
      exact one (by unfold isAgT; rw [hu]) rfl
    · rename_i fs hu
      obtain ⟨cs, rfl, _⟩ := okWide_struct hu hval
      have hA : isAgT P t = true := by unfold isAgT; rw [hu]
      simp only [elOf, hA, if_true, Rep]
      exact ⟨cs, rfl, h1⟩
    · rename_i n e hu
      have hA : isAgT P t = true := by unfold isAgT; rw [hu]
      unfold Value.okWide at hval
      rw [hu] at hval
      obtain ⟨cs, rfl, _⟩ := hval
      simp only [elOf, hA, if_true, Rep]
      exact ⟨cs, rfl, h1⟩
    · cases hd
end
attribute [irreducible] Shp isAgT
end Go.Proofs.Ytjkofefcoeejbaa

/- Shapes of arguments, word by word; and the way from a run of the front evaluator to a law's row. -/
namespace Go.Proofs.Ytjkofefcoeejbaa
open Go Go.RowKit

theorem wf_u8 {n : Int} (h : (Lit.int .u8 n).wf = true) : 0 ≤ n ∧ n < 256 := by
  simp [Lit.wf, IntKind.min, IntKind.max, IntKind.signed, IntKind.bits] at h; omega
theorem wf_u16 {n : Int} (h : (Lit.int .u16 n).wf = true) : 0 ≤ n ∧ n < 65536 := by
  simp [Lit.wf, IntKind.min, IntKind.max, IntKind.signed, IntKind.bits] at h; omega
theorem wf_i64 {n : Int} (h : (Lit.int .i64 n).wf = true) : -9223372036854775808 ≤ n ∧ n < 9223372036854775808 := by
  simp [Lit.wf, IntKind.min, IntKind.max, IntKind.signed, IntKind.bits] at h; omega
section
variable {P : Program} {d : Nat} {t e : TypeId} {ds : List DV}
theorem shp_int {k : IntKind} (hu : P.underlying t = some (.int k)) (h : Shp P (d + 1) t ds) : ∃ n, ds = [.flat (.int k n)] ∧ (Lit.int k n).wf = true := by
  unfold Shp at h; rw [hu] at h; exact h
theorem shp_bool (hu : P.underlying t = some .bool) (h : Shp P (d + 1) t ds) : ∃ b, ds = [.flat (.bool b)] := by
  unfold Shp at h; rw [hu] at h; exact h
theorem shp_string (hu : P.underlying t = some .string) (h : Shp P (d + 1) t ds) : ∃ s : ByteArray, ds = [.flat (.string s)] ∧ s.size ≤ reachBytes := by
  unfold Shp at h; rw [hu] at h; exact h
theorem shp_struct {fs : Array Field} (hu : P.underlying t = some (.struct fs)) (h : Shp P (d + 1) t ds) : ShpFs (Shp P d) (fs.toList.map (·.type)) ds := by
  unfold Shp at h; rw [hu] at h; exact h
theorem pick_list {α β : Type} (f : α → β → Prop) (l : List α) (h : ∀ x ∈ l, ∃ a, f x a) : ∃ L : List β, L.length = l.length ∧ ∀ i (h1 : i < l.length) (h2 : i < L.length), f l[i] L[i] := by
  induction l with
  | nil => exact ⟨[], rfl, fun i h => by simp at h⟩
  | cons x l ih =>
    obtain ⟨a, ha⟩ := h x (by simp)
    obtain ⟨L, h1, h2⟩ := ih (fun x hx => h x (by simp [hx]))
    refine ⟨a :: L, by simp [h1], fun i hi hi2 => ?_⟩
    cases i with
    | zero => exact ha
    | succ i => exact h2 i (by simpa using hi) (by simpa using hi2)
theorem shp_slice {α : Type} (enc : α → DV) (Q : α → Prop) {sz : Nat} (hu : P.underlying t = some (.slice e)) (hsz : P.cellsOf e = sz) (hel : ∀ x, Shp P d e x → ∃ a, elOf (isAgT P e) x = enc a ∧ Q a) (h : Shp P (d + 1) t ds) :
    ∃ l : List α, ds = [LV sz enc l .sh] ∧ l.length * P.bytesOf e ≤ reachBytes ∧ ∀ a ∈ l, Q a := by
  unfold Shp at h; rw [hu] at h
  obtain ⟨l, h1, h2, h3⟩ := h
  obtain ⟨L, hL, hLc⟩ := pick_list (fun (x : List DV) (a : α) => elOf (isAgT P e) x = enc a ∧ Q a) l (fun x hx => hel x (h3 x hx))
  refine ⟨L, ?_, by rw [hL]; exact h2, fun a ha => ?_⟩
  · rw [h1, hsz]
    congr 2
    refine List.ext_getElem (by simp [hL]) fun i h4 h5 => ?_
    simp only [List.getElem_map]
    exact (hLc i (by simpa using h4) (by simpa using h5)).1
  · obtain ⟨i, hi, rfl⟩ := List.mem_iff_getElem.mp ha
    exact (hLc i (by omega) hi).2
theorem shp_array {α : Type} (enc : α → List DV) (Q : α → Prop) {n : Nat} (hu : P.underlying t = some (.array n e)) (hel : ∀ x, Shp P d e x → ∃ a, x = enc a ∧ Q a) (h : Shp P (d + 1) t ds) :
    ∃ l : List α, l.length = n ∧ ds = (l.map enc).flatten ∧ ∀ a ∈ l, Q a := by
  unfold Shp at h; rw [hu] at h
  obtain ⟨l, h1, h2, h3⟩ := h
  obtain ⟨L, hL, hLc⟩ := pick_list (fun (x : List DV) (a : α) => x = enc a ∧ Q a) l (fun x hx => hel x (h3 x hx))
  refine ⟨L, by omega, ?_, fun a ha => ?_⟩
  · rw [h2]
    congr 1
    refine List.ext_getElem (by simp [hL]) fun i h4 h5 => ?_
    simp only [List.getElem_map]
    exact (hLc i (by simpa using h4) (by simpa using h5)).1
  · obtain ⟨i, hi, rfl⟩ := List.mem_iff_getElem.mp ha
    exact (hLc i (by omega) hi).2
theorem shp_ints {k : IntKind} (hu : P.underlying t = some (.slice e)) (he : P.underlying e = some (.int k)) (hsz : P.cellsOf e = 1) (h : Shp P (d + 2) t ds) :
    ∃ l : List Int, ds = [LV 1 (I k) l .sh] ∧ l.length * P.bytesOf e ≤ reachBytes ∧ ∀ a ∈ l, (Lit.int k a).wf = true :=
  shp_slice (I k) _ hu hsz (fun x hx => by
    obtain ⟨n, rfl, hn⟩ := shp_int he hx
    refine ⟨n, ?_, hn⟩
    simp [elOf, isAgT, he]) h
end
theorem mixed : Try.prog.follows .mixedOrders = true := by kernel_rfl
theorem noOwn : NoOwn Try.prog := by unfold NoOwn; kernel_rfl
theorem primSound : PrimSound Try.prog ENV := fun f g args H d H' h h2 => primOk f g args H d H' h h2
/-- a law that the front evaluator answers with true -/
theorem law_call {n f : Nat} {args : List DV} {H' : Heap} (h : callG Try.prog ENV n f args [] 0 = some (.flat (.bool true), H')) {w : World} {vs : Array Value} (hr : RepL Any w [] args vs.toList) :
    Calls Try.prog f vs w fun e w' => e = .returned (.bool true) ∧ Below w.heap.size w w' :=
  (pure_call mixed noOwn primSound (callG_ok _ _ _ _ _ _ _ _ h) hr).mono fun e w' ⟨V, he, hb, I, G, hV⟩ => by
    simp only [Rep] at hV
    subst hV
    exact ⟨he, hb⟩
end Go.Proofs.Ytjkofefcoeejbaa

/- Requests that come in. -/
namespace Go.Proofs.Ytjkofefcoeejbaa
open Go
set_option linter.unusedSimpArgs false
set_option linter.unusedVariables false
structure RqTy (x : Rq) : Prop where
  w : Words x.words
  a : 0 ≤ x.and_ ∧ x.and_ < 65536
  o : 0 ≤ x.or_ ∧ x.or_ < 65536
  c : -9223372036854775808 ≤ x.code ∧ x.code < 9223372036854775808
  ad : -9223372036854775808 ≤ x.addr ∧ x.addr < 9223372036854775808
  cn : -9223372036854775808 ≤ x.cnt ∧ x.cnt < 9223372036854775808
  t : -9223372036854775808 ≤ x.to_ ∧ x.to_ < 9223372036854775808
theorem RqTy.ok {x : Rq} (h : RqTy x) (hl : lgV x = false) : RqOk x := by
  unfold lgV at hl
  simp only [decide_eq_false_iff_not] at hl
  exact ⟨h.w, h.a, h.o, by omega, by omega⟩
theorem shp_bo {d : Nat} {e : List DV} (h : Shp Try.prog (d + 1) 4 e) : ∃ b : Bool, elOf (isAgT Try.prog 4) e = Bo b ∧ True := by
  obtain ⟨b, rfl⟩ := shp_bool Try.underlying4 h
  exact ⟨b, by kernel_rfl, trivial⟩
theorem shp_rq {d : Nat} {e : List DV} (h : Shp Try.prog (d + 3) 26 e) : ∃ x : Rq, elOf (isAgT Try.prog 26) e = rqE x .sh .sh ∧ RqTy x := by
  have h := shp_struct Try.underlying26 h
  simp only [List.map_cons, List.map_nil, ShpFs] at h
  obtain ⟨a, _, rfl, ha, b, _, rfl, hb, c, _, rfl, hc, f, _, rfl, hf, g, _, rfl, hg, i, _, rfl, hi, j, _, rfl, hj, k, _, rfl, hk, rfl⟩ := h
  obtain ⟨a, rfl, wa⟩ := shp_int (k := .i64) Try.underlying3 ha
  obtain ⟨b, rfl, wb⟩ := shp_int (k := .i64) Try.underlying3 hb
  obtain ⟨c, rfl, wc⟩ := shp_int (k := .i64) Try.underlying3 hc
  obtain ⟨f, rfl, wf⟩ := shp_int (k := .i64) Try.underlying3 hf
  obtain ⟨g, rfl, _, wg⟩ := shp_ints (k := .u16) Try.underlying22 Try.underlying24 (by kernel_rfl) hg
  obtain ⟨i, rfl, _, _⟩ := shp_slice (e := 4) Bo (fun _ => True) (sz := 1) Try.underlying23 (by kernel_rfl) (fun x hx => shp_bo hx) hi
  obtain ⟨j, rfl, wj⟩ := shp_int (k := .u16) Try.underlying24 hj
  obtain ⟨k, rfl, wk⟩ := shp_int (k := .u16) Try.underlying24 hk
  exact ⟨⟨a, b, c, f, g, i, j, k⟩, by kernel_rfl, ⟨fun x hx => wf_u16 (wg x hx), wf_u16 wj, wf_u16 wk, wf_i64 wa, wf_i64 wb, wf_i64 wc, wf_i64 wf⟩⟩
theorem awake06 : cP 39999 12 false [] = some (Bo true) := by kernel_rfl
end Go.Proofs.Ytjkofefcoeejbaa

/- Go functions as Lean functions on deep values; printed by a program of mine. -/
namespace Go.Proofs.Ytjkofefcoeejbaa
open Go
set_option maxRecDepth 100000
set_option linter.unusedVariables false
/-! triune/triuneref06.two -/
noncomputable def s_triuneref06_two (n : Nat) (H : Heap) (fl : Nat) (a0 : DV) : R :=
  bi (quoK .i64 a0 (I .i64 256)) fun d0 =>
  bi (cvK .u8 d0) fun d1 =>
  bi (remK .i64 a0 (I .i64 256)) fun d2 =>
  bi (cvK .u8 d2) fun d3 =>
  bi (buildL false 1 2 (I .u8 0) [(0, d1), (1, d3)]) fun d4 =>
  some (d4, H)
theorem s_triuneref06_two_eq (n : Nat) (H : Heap) (fl : Nat) (a0 : DV) : callG Try.prog ENV (n + 1) 81 [a0] H fl = s_triuneref06_two n H fl a0 := by kernel_rfl

/-! triune/triuneref06.text -/
noncomputable def s_triuneref06_text (n : Nat) (H : Heap) (fl : Nat) (a0 : DV) : R :=
  bi (allocG 30 a0 (List.length H) (H ++ [.hole])) fun h0 =>
  bi (loadG false 1 (.ptr (List.length H) 0) h0) fun d1 =>
  bi (cvK .u8 d1) fun d2 =>
  bi (buildL false 1 1 (I .u8 0) [(0, d2)]) fun d3 =>
  bi (loadG false 1 (.ptr (List.length H) 1) h0) fun d4 =>
  bi (cP n 81 false [d4]) fun d5 =>
  bi (appG 5 false 1 1 d3 d5 h0 fl) fun p6 =>
  bi (loadG false 1 (.ptr (List.length H) 0) p6.2) fun d7 =>
  bi (eqK .i64 d7 (I .i64 1)) fun d8 =>
  condR d8 (
  condR d8 (
   bi (loadG false 1 (.ptr (List.length H) 2) p6.2) fun d9 =>
   bi (cP n 81 false [d9]) fun d10 =>
   bi (appG 5 false 1 1 p6.1 d10 p6.2 fl) fun p11 =>
  some (p11.1, p11.2)) (
   bi (eqK .i64 d7 (I .i64 5)) fun d12 =>
   condR d12 (
    bi (loadG false 1 (.ptr (List.length H) 5) p6.2) fun d13 =>
    bi (idxSl 1 d13 (I .i64 0)) fun d14 =>
    bi (loadG false 1 d14 p6.2) fun d15 =>
    condR d15 (
     bi (buildL false 1 2 (I .u8 0) [(0, (I .u8 255)), (1, (I .u8 0))]) fun d16 =>
     bi (appG 5 false 1 1 p6.1 d16 p6.2 fl) fun p17 =>
  some (p17.1, p17.2)) (
    bi (buildL false 1 2 (I .u8 0) [(0, (I .u8 0)), (1, (I .u8 0))]) fun d18 =>
    bi (appG 5 false 1 1 p6.1 d18 p6.2 fl) fun p19 =>
  some (p19.1, p19.2))) (
    bi (eqK .i64 d7 (I .i64 6)) fun d20 =>
    condR d20 (
     bi (loadG false 1 (.ptr (List.length H) 4) p6.2) fun d21 =>
     bi (cP n 82 false [d21]) fun d22 =>
     bi (appG 5 false 1 1 p6.1 d22 p6.2 fl) fun p23 =>
  some (p23.1, p23.2)) (
     bi (eqK .i64 d7 (I .i64 15)) fun d24 =>
     condR d24 (
      bi (loadG false 1 (.ptr (List.length H) 5) p6.2) fun d25 =>
      bi (cP n 83 false [d25]) fun d26 =>
      bi (loadG false 1 (.ptr (List.length H) 5) p6.2) fun d27 =>
      bi (lenD d27) fun d28 =>
      bi (cP n 81 false [d28]) fun d29 =>
      bi (appG 5 false 1 1 p6.1 d29 p6.2 fl) fun p30 =>
      bi (lenD d26) fun d31 =>
      bi (cvK .u8 d31) fun d32 =>
      bi (buildL false 1 1 (I .u8 0) [(0, d32)]) fun d33 =>
      bi (appG 5 false 1 1 p30.1 d33 p30.2 fl) fun p34 =>
      bi (appG 5 false 1 1 p34.1 d26 p34.2 fl) fun p35 =>
  some (p35.1, p35.2)) (
      bi (eqK .i64 d7 (I .i64 16)) fun d36 =>
      condR d36 (
       bi (loadG false 1 (.ptr (List.length H) 4) p6.2) fun d37 =>
       bi (cP n 82 false [d37]) fun d38 =>
       bi (loadG false 1 (.ptr (List.length H) 4) p6.2) fun d39 =>
       bi (lenD d39) fun d40 =>
       bi (cP n 81 false [d40]) fun d41 =>
       bi (appG 5 false 1 1 p6.1 d41 p6.2 fl) fun p42 =>
       bi (lenD d38) fun d43 =>
       bi (cvK .u8 d43) fun d44 =>
       bi (buildL false 1 1 (I .u8 0) [(0, d44)]) fun d45 =>
       bi (appG 5 false 1 1 p42.1 d45 p42.2 fl) fun p46 =>
       bi (appG 5 false 1 1 p46.1 d38 p46.2 fl) fun p47 =>
  some (p47.1, p47.2)) (
       bi (eqK .i64 d7 (I .i64 22)) fun d48 =>
       condR d48 (
        bi (loadG false 1 (.ptr (List.length H) 6) p6.2) fun d49 =>
        bi (cvK .i64 d49) fun d50 =>
        bi (cP n 81 false [d50]) fun d51 =>
        bi (appG 5 false 1 1 p6.1 d51 p6.2 fl) fun p52 =>
        bi (loadG false 1 (.ptr (List.length H) 7) p52.2) fun d53 =>
        bi (cvK .i64 d53) fun d54 =>
        bi (cP n 81 false [d54]) fun d55 =>
        bi (appG 5 false 1 1 p52.1 d55 p52.2 fl) fun p56 =>
  some (p56.1, p56.2)) (
        bi (eqK .i64 d7 (I .i64 23)) fun d57 =>
        condR d57 (
         bi (loadG false 1 (.ptr (List.length H) 4) p6.2) fun d58 =>
         bi (cP n 82 false [d58]) fun d59 =>
         bi (loadG false 1 (.ptr (List.length H) 2) p6.2) fun d60 =>
         bi (cP n 81 false [d60]) fun d61 =>
         bi (appG 5 false 1 1 p6.1 d61 p6.2 fl) fun p62 =>
         bi (loadG false 1 (.ptr (List.length H) 3) p62.2) fun d63 =>
         bi (cP n 81 false [d63]) fun d64 =>
         bi (appG 5 false 1 1 p62.1 d64 p62.2 fl) fun p65 =>
         bi (loadG false 1 (.ptr (List.length H) 4) p65.2) fun d66 =>
         bi (lenD d66) fun d67 =>
         bi (cP n 81 false [d67]) fun d68 =>
         bi (appG 5 false 1 1 p65.1 d68 p65.2 fl) fun p69 =>
         bi (lenD d59) fun d70 =>
         bi (cvK .u8 d70) fun d71 =>
         bi (buildL false 1 1 (I .u8 0) [(0, d71)]) fun d72 =>
         bi (appG 5 false 1 1 p69.1 d72 p69.2 fl) fun p73 =>
         bi (appG 5 false 1 1 p73.1 d59 p73.2 fl) fun p74 =>
  some (p74.1, p74.2)) (
  bi (loadG false 1 (.ptr (List.length H) 2) p6.2) fun d75 =>
  bi (cvK .u8 d75) fun d76 =>
  bi (loadG false 1 (.ptr (List.length H) 1) p6.2) fun d77 =>
  bi (cvK .u8 d77) fun d78 =>
  bi (buildL false 1 4 (I .u8 0) [(0, (I .u8 43)), (1, (I .u8 14)), (2, d76), (3, d78)]) fun d79 =>
  some (d79, p6.2))))))))) (
   bi (eqK .i64 d7 (I .i64 2)) fun d80 =>
   condR d80 (
  condR d80 (
   bi (loadG false 1 (.ptr (List.length H) 2) p6.2) fun d81 =>
   bi (cP n 81 false [d81]) fun d82 =>
   bi (appG 5 false 1 1 p6.1 d82 p6.2 fl) fun p83 =>
  some (p83.1, p83.2)) (
   bi (eqK .i64 d7 (I .i64 5)) fun d84 =>
   condR d84 (
    bi (loadG false 1 (.ptr (List.length H) 5) p6.2) fun d85 =>
    bi (idxSl 1 d85 (I .i64 0)) fun d86 =>
    bi (loadG false 1 d86 p6.2) fun d87 =>
    condR d87 (
     bi (buildL false 1 2 (I .u8 0) [(0, (I .u8 255)), (1, (I .u8 0))]) fun d88 =>
     bi (appG 5 false 1 1 p6.1 d88 p6.2 fl) fun p89 =>
  some (p89.1, p89.2)) (
    bi (buildL false 1 2 (I .u8 0) [(0, (I .u8 0)), (1, (I .u8 0))]) fun d90 =>
    bi (appG 5 false 1 1 p6.1 d90 p6.2 fl) fun p91 =>
  some (p91.1, p91.2))) (
    bi (eqK .i64 d7 (I .i64 6)) fun d92 =>
    condR d92 (
     bi (loadG false 1 (.ptr (List.length H) 4) p6.2) fun d93 =>
     bi (cP n 82 false [d93]) fun d94 =>
     bi (appG 5 false 1 1 p6.1 d94 p6.2 fl) fun p95 =>
  some (p95.1, p95.2)) (
     bi (eqK .i64 d7 (I .i64 15)) fun d96 =>
     condR d96 (
      bi (loadG false 1 (.ptr (List.length H) 5) p6.2) fun d97 =>
      bi (cP n 83 false [d97]) fun d98 =>
      bi (loadG false 1 (.ptr (List.length H) 5) p6.2) fun d99 =>
      bi (lenD d99) fun d100 =>
      bi (cP n 81 false [d100]) fun d101 =>
      bi (appG 5 false 1 1 p6.1 d101 p6.2 fl) fun p102 =>
      bi (lenD d98) fun d103 =>
      bi (cvK .u8 d103) fun d104 =>
      bi (buildL false 1 1 (I .u8 0) [(0, d104)]) fun d105 =>
      bi (appG 5 false 1 1 p102.1 d105 p102.2 fl) fun p106 =>
      bi (appG 5 false 1 1 p106.1 d98 p106.2 fl) fun p107 =>
  some (p107.1, p107.2)) (
      bi (eqK .i64 d7 (I .i64 16)) fun d108 =>
      condR d108 (
       bi (loadG false 1 (.ptr (List.length H) 4) p6.2) fun d109 =>
       bi (cP n 82 false [d109]) fun d110 =>
       bi (loadG false 1 (.ptr (List.length H) 4) p6.2) fun d111 =>
       bi (lenD d111) fun d112 =>
       bi (cP n 81 false [d112]) fun d113 =>
       bi (appG 5 false 1 1 p6.1 d113 p6.2 fl) fun p114 =>
       bi (lenD d110) fun d115 =>
       bi (cvK .u8 d115) fun d116 =>
       bi (buildL false 1 1 (I .u8 0) [(0, d116)]) fun d117 =>
       bi (appG 5 false 1 1 p114.1 d117 p114.2 fl) fun p118 =>
       bi (appG 5 false 1 1 p118.1 d110 p118.2 fl) fun p119 =>
  some (p119.1, p119.2)) (
       bi (eqK .i64 d7 (I .i64 22)) fun d120 =>
       condR d120 (
        bi (loadG false 1 (.ptr (List.length H) 6) p6.2) fun d121 =>
        bi (cvK .i64 d121) fun d122 =>
        bi (cP n 81 false [d122]) fun d123 =>
        bi (appG 5 false 1 1 p6.1 d123 p6.2 fl) fun p124 =>
        bi (loadG false 1 (.ptr (List.length H) 7) p124.2) fun d125 =>
        bi (cvK .i64 d125) fun d126 =>
        bi (cP n 81 false [d126]) fun d127 =>
        bi (appG 5 false 1 1 p124.1 d127 p124.2 fl) fun p128 =>
  some (p128.1, p128.2)) (
        bi (eqK .i64 d7 (I .i64 23)) fun d129 =>
        condR d129 (
         bi (loadG false 1 (.ptr (List.length H) 4) p6.2) fun d130 =>
         bi (cP n 82 false [d130]) fun d131 =>
         bi (loadG false 1 (.ptr (List.length H) 2) p6.2) fun d132 =>
         bi (cP n 81 false [d132]) fun d133 =>
         bi (appG 5 false 1 1 p6.1 d133 p6.2 fl) fun p134 =>
         bi (loadG false 1 (.ptr (List.length H) 3) p134.2) fun d135 =>
         bi (cP n 81 false [d135]) fun d136 =>
         bi (appG 5 false 1 1 p134.1 d136 p134.2 fl) fun p137 =>
         bi (loadG false 1 (.ptr (List.length H) 4) p137.2) fun d138 =>
         bi (lenD d138) fun d139 =>
         bi (cP n 81 false [d139]) fun d140 =>
         bi (appG 5 false 1 1 p137.1 d140 p137.2 fl) fun p141 =>
         bi (lenD d131) fun d142 =>
         bi (cvK .u8 d142) fun d143 =>
         bi (buildL false 1 1 (I .u8 0) [(0, d143)]) fun d144 =>
         bi (appG 5 false 1 1 p141.1 d144 p141.2 fl) fun p145 =>
         bi (appG 5 false 1 1 p145.1 d131 p145.2 fl) fun p146 =>
  some (p146.1, p146.2)) (
  bi (loadG false 1 (.ptr (List.length H) 2) p6.2) fun d147 =>
  bi (cvK .u8 d147) fun d148 =>
  bi (loadG false 1 (.ptr (List.length H) 1) p6.2) fun d149 =>
  bi (cvK .u8 d149) fun d150 =>
  bi (buildL false 1 4 (I .u8 0) [(0, (I .u8 43)), (1, (I .u8 14)), (2, d148), (3, d150)]) fun d151 =>
  some (d151, p6.2))))))))) (
    bi (eqK .i64 d7 (I .i64 3)) fun d152 =>
    condR d152 (
  condR d152 (
   bi (loadG false 1 (.ptr (List.length H) 2) p6.2) fun d153 =>
   bi (cP n 81 false [d153]) fun d154 =>
   bi (appG 5 false 1 1 p6.1 d154 p6.2 fl) fun p155 =>
  some (p155.1, p155.2)) (
   bi (eqK .i64 d7 (I .i64 5)) fun d156 =>
   condR d156 (
    bi (loadG false 1 (.ptr (List.length H) 5) p6.2) fun d157 =>
    bi (idxSl 1 d157 (I .i64 0)) fun d158 =>
    bi (loadG false 1 d158 p6.2) fun d159 =>
    condR d159 (
     bi (buildL false 1 2 (I .u8 0) [(0, (I .u8 255)), (1, (I .u8 0))]) fun d160 =>
     bi (appG 5 false 1 1 p6.1 d160 p6.2 fl) fun p161 =>
  some (p161.1, p161.2)) (
    bi (buildL false 1 2 (I .u8 0) [(0, (I .u8 0)), (1, (I .u8 0))]) fun d162 =>
    bi (appG 5 false 1 1 p6.1 d162 p6.2 fl) fun p163 =>
  some (p163.1, p163.2))) (
    bi (eqK .i64 d7 (I .i64 6)) fun d164 =>
    condR d164 (
     bi (loadG false 1 (.ptr (List.length H) 4) p6.2) fun d165 =>
     bi (cP n 82 false [d165]) fun d166 =>
     bi (appG 5 false 1 1 p6.1 d166 p6.2 fl) fun p167 =>
  some (p167.1, p167.2)) (
     bi (eqK .i64 d7 (I .i64 15)) fun d168 =>
     condR d168 (
      bi (loadG false 1 (.ptr (List.length H) 5) p6.2) fun d169 =>
      bi (cP n 83 false [d169]) fun d170 =>
      bi (loadG false 1 (.ptr (List.length H) 5) p6.2) fun d171 =>
      bi (lenD d171) fun d172 =>
      bi (cP n 81 false [d172]) fun d173 =>
      bi (appG 5 false 1 1 p6.1 d173 p6.2 fl) fun p174 =>
      bi (lenD d170) fun d175 =>
      bi (cvK .u8 d175) fun d176 =>
      bi (buildL false 1 1 (I .u8 0) [(0, d176)]) fun d177 =>
      bi (appG 5 false 1 1 p174.1 d177 p174.2 fl) fun p178 =>
      bi (appG 5 false 1 1 p178.1 d170 p178.2 fl) fun p179 =>
  some (p179.1, p179.2)) (
      bi (eqK .i64 d7 (I .i64 16)) fun d180 =>
      condR d180 (
       bi (loadG false 1 (.ptr (List.length H) 4) p6.2) fun d181 =>
       bi (cP n 82 false [d181]) fun d182 =>
       bi (loadG false 1 (.ptr (List.length H) 4) p6.2) fun d183 =>
       bi (lenD d183) fun d184 =>
       bi (cP n 81 false [d184]) fun d185 =>
       bi (appG 5 false 1 1 p6.1 d185 p6.2 fl) fun p186 =>
       bi (lenD d182) fun d187 =>
       bi (cvK .u8 d187) fun d188 =>
       bi (buildL false 1 1 (I .u8 0) [(0, d188)]) fun d189 =>
       bi (appG 5 false 1 1 p186.1 d189 p186.2 fl) fun p190 =>
       bi (appG 5 false 1 1 p190.1 d182 p190.2 fl) fun p191 =>
  some (p191.1, p191.2)) (
       bi (eqK .i64 d7 (I .i64 22)) fun d192 =>
       condR d192 (
        bi (loadG false 1 (.ptr (List.length H) 6) p6.2) fun d193 =>
        bi (cvK .i64 d193) fun d194 =>
        bi (cP n 81 false [d194]) fun d195 =>
        bi (appG 5 false 1 1 p6.1 d195 p6.2 fl) fun p196 =>
        bi (loadG false 1 (.ptr (List.length H) 7) p196.2) fun d197 =>
        bi (cvK .i64 d197) fun d198 =>
        bi (cP n 81 false [d198]) fun d199 =>
        bi (appG 5 false 1 1 p196.1 d199 p196.2 fl) fun p200 =>
  some (p200.1, p200.2)) (
        bi (eqK .i64 d7 (I .i64 23)) fun d201 =>
        condR d201 (
         bi (loadG false 1 (.ptr (List.length H) 4) p6.2) fun d202 =>
         bi (cP n 82 false [d202]) fun d203 =>
         bi (loadG false 1 (.ptr (List.length H) 2) p6.2) fun d204 =>
         bi (cP n 81 false [d204]) fun d205 =>
         bi (appG 5 false 1 1 p6.1 d205 p6.2 fl) fun p206 =>
         bi (loadG false 1 (.ptr (List.length H) 3) p206.2) fun d207 =>
         bi (cP n 81 false [d207]) fun d208 =>
         bi (appG 5 false 1 1 p206.1 d208 p206.2 fl) fun p209 =>
         bi (loadG false 1 (.ptr (List.length H) 4) p209.2) fun d210 =>
         bi (lenD d210) fun d211 =>
         bi (cP n 81 false [d211]) fun d212 =>
         bi (appG 5 false 1 1 p209.1 d212 p209.2 fl) fun p213 =>
         bi (lenD d203) fun d214 =>
         bi (cvK .u8 d214) fun d215 =>
         bi (buildL false 1 1 (I .u8 0) [(0, d215)]) fun d216 =>
         bi (appG 5 false 1 1 p213.1 d216 p213.2 fl) fun p217 =>
         bi (appG 5 false 1 1 p217.1 d203 p217.2 fl) fun p218 =>
  some (p218.1, p218.2)) (
  bi (loadG false 1 (.ptr (List.length H) 2) p6.2) fun d219 =>
  bi (cvK .u8 d219) fun d220 =>
  bi (loadG false 1 (.ptr (List.length H) 1) p6.2) fun d221 =>
  bi (cvK .u8 d221) fun d222 =>
  bi (buildL false 1 4 (I .u8 0) [(0, (I .u8 43)), (1, (I .u8 14)), (2, d220), (3, d222)]) fun d223 =>
  some (d223, p6.2))))))))) (
     bi (eqK .i64 d7 (I .i64 4)) fun d224 =>
  condR d224 (
   bi (loadG false 1 (.ptr (List.length H) 2) p6.2) fun d225 =>
   bi (cP n 81 false [d225]) fun d226 =>
   bi (appG 5 false 1 1 p6.1 d226 p6.2 fl) fun p227 =>
  some (p227.1, p227.2)) (
   bi (eqK .i64 d7 (I .i64 5)) fun d228 =>
   condR d228 (
    bi (loadG false 1 (.ptr (List.length H) 5) p6.2) fun d229 =>
    bi (idxSl 1 d229 (I .i64 0)) fun d230 =>
    bi (loadG false 1 d230 p6.2) fun d231 =>
    condR d231 (
     bi (buildL false 1 2 (I .u8 0) [(0, (I .u8 255)), (1, (I .u8 0))]) fun d232 =>
     bi (appG 5 false 1 1 p6.1 d232 p6.2 fl) fun p233 =>
  some (p233.1, p233.2)) (
    bi (buildL false 1 2 (I .u8 0) [(0, (I .u8 0)), (1, (I .u8 0))]) fun d234 =>
    bi (appG 5 false 1 1 p6.1 d234 p6.2 fl) fun p235 =>
  some (p235.1, p235.2))) (
    bi (eqK .i64 d7 (I .i64 6)) fun d236 =>
    condR d236 (
     bi (loadG false 1 (.ptr (List.length H) 4) p6.2) fun d237 =>
     bi (cP n 82 false [d237]) fun d238 =>
     bi (appG 5 false 1 1 p6.1 d238 p6.2 fl) fun p239 =>
  some (p239.1, p239.2)) (
     bi (eqK .i64 d7 (I .i64 15)) fun d240 =>
     condR d240 (
      bi (loadG false 1 (.ptr (List.length H) 5) p6.2) fun d241 =>
      bi (cP n 83 false [d241]) fun d242 =>
      bi (loadG false 1 (.ptr (List.length H) 5) p6.2) fun d243 =>
      bi (lenD d243) fun d244 =>
      bi (cP n 81 false [d244]) fun d245 =>
      bi (appG 5 false 1 1 p6.1 d245 p6.2 fl) fun p246 =>
      bi (lenD d242) fun d247 =>
      bi (cvK .u8 d247) fun d248 =>
      bi (buildL false 1 1 (I .u8 0) [(0, d248)]) fun d249 =>
      bi (appG 5 false 1 1 p246.1 d249 p246.2 fl) fun p250 =>
      bi (appG 5 false 1 1 p250.1 d242 p250.2 fl) fun p251 =>
  some (p251.1, p251.2)) (
      bi (eqK .i64 d7 (I .i64 16)) fun d252 =>
      condR d252 (
       bi (loadG false 1 (.ptr (List.length H) 4) p6.2) fun d253 =>
       bi (cP n 82 false [d253]) fun d254 =>
       bi (loadG false 1 (.ptr (List.length H) 4) p6.2) fun d255 =>
       bi (lenD d255) fun d256 =>
       bi (cP n 81 false [d256]) fun d257 =>
       bi (appG 5 false 1 1 p6.1 d257 p6.2 fl) fun p258 =>
       bi (lenD d254) fun d259 =>
       bi (cvK .u8 d259) fun d260 =>
       bi (buildL false 1 1 (I .u8 0) [(0, d260)]) fun d261 =>
       bi (appG 5 false 1 1 p258.1 d261 p258.2 fl) fun p262 =>
       bi (appG 5 false 1 1 p262.1 d254 p262.2 fl) fun p263 =>
  some (p263.1, p263.2)) (
       bi (eqK .i64 d7 (I .i64 22)) fun d264 =>
       condR d264 (
        bi (loadG false 1 (.ptr (List.length H) 6) p6.2) fun d265 =>
        bi (cvK .i64 d265) fun d266 =>
        bi (cP n 81 false [d266]) fun d267 =>
        bi (appG 5 false 1 1 p6.1 d267 p6.2 fl) fun p268 =>
        bi (loadG false 1 (.ptr (List.length H) 7) p268.2) fun d269 =>
        bi (cvK .i64 d269) fun d270 =>
        bi (cP n 81 false [d270]) fun d271 =>
        bi (appG 5 false 1 1 p268.1 d271 p268.2 fl) fun p272 =>
  some (p272.1, p272.2)) (
        bi (eqK .i64 d7 (I .i64 23)) fun d273 =>
        condR d273 (
         bi (loadG false 1 (.ptr (List.length H) 4) p6.2) fun d274 =>
         bi (cP n 82 false [d274]) fun d275 =>
         bi (loadG false 1 (.ptr (List.length H) 2) p6.2) fun d276 =>
         bi (cP n 81 false [d276]) fun d277 =>
         bi (appG 5 false 1 1 p6.1 d277 p6.2 fl) fun p278 =>
         bi (loadG false 1 (.ptr (List.length H) 3) p278.2) fun d279 =>
         bi (cP n 81 false [d279]) fun d280 =>
         bi (appG 5 false 1 1 p278.1 d280 p278.2 fl) fun p281 =>
         bi (loadG false 1 (.ptr (List.length H) 4) p281.2) fun d282 =>
         bi (lenD d282) fun d283 =>
         bi (cP n 81 false [d283]) fun d284 =>
         bi (appG 5 false 1 1 p281.1 d284 p281.2 fl) fun p285 =>
         bi (lenD d275) fun d286 =>
         bi (cvK .u8 d286) fun d287 =>
         bi (buildL false 1 1 (I .u8 0) [(0, d287)]) fun d288 =>
         bi (appG 5 false 1 1 p285.1 d288 p285.2 fl) fun p289 =>
         bi (appG 5 false 1 1 p289.1 d275 p289.2 fl) fun p290 =>
  some (p290.1, p290.2)) (
  bi (loadG false 1 (.ptr (List.length H) 2) p6.2) fun d291 =>
  bi (cvK .u8 d291) fun d292 =>
  bi (loadG false 1 (.ptr (List.length H) 1) p6.2) fun d293 =>
  bi (cvK .u8 d293) fun d294 =>
  bi (buildL false 1 4 (I .u8 0) [(0, (I .u8 43)), (1, (I .u8 14)), (2, d292), (3, d294)]) fun d295 =>
  some (d295, p6.2)))))))))))
theorem s_triuneref06_text_eq (n : Nat) (H : Heap) (fl : Nat) (a0 : DV) : callG Try.prog ENV (n + 1) 46 [a0] H fl = s_triuneref06_text n H fl a0 := by kernel_rfl

/-! triune/triuneref06.Bytes -/
noncomputable def s_triuneref06_Bytes (n : Nat) (H : Heap) (fl : Nat) (a0 : DV) : R :=
  bi (allocG 30 a0 (List.length H) (H ++ [.hole])) fun h0 =>
  bi (loadG true 8 (.ptr (List.length H) 0) h0) fun d1 =>
  bi (cP n 21 false [d1]) fun d2 =>
  bi (notD d2) fun d3 =>
  condR d3 (
  some ((.tup [(.list 0 [] .ti), (I .i64 2)]), h0)) (
  bi (loadG true 8 (.ptr (List.length H) 0) h0) fun d4 =>
  bi (cP n 46 false [d4]) fun d5 =>
  some ((.tup [d5, (I .i64 0)]), h0))
theorem s_triuneref06_Bytes_eq (n : Nat) (H : Heap) (fl : Nat) (a0 : DV) : callG Try.prog ENV (n + 1) 15 [a0] H fl = s_triuneref06_Bytes n H fl a0 := by kernel_rfl

/-! triune/triuneref06.number -/
noncomputable def s_triuneref06_number (n : Nat) (H : Heap) (fl : Nat) (a0 a1 : DV) : R :=
  bi (addK .i64 a1 (I .i64 2)) fun d0 =>
  bi (lenD a0) fun d1 =>
  bi (gtK .i64 d0 d1) fun d2 =>
  condR d2 (
  some ((I .i64 0), H)) (
  bi (idxSl 1 a0 a1) fun d3 =>
  bi (loadG false 1 d3 H) fun d4 =>
  bi (cvK .i64 d4) fun d5 =>
  bi (mulK .i64 (I .i64 256) d5) fun d6 =>
  bi (addK .i64 a1 (I .i64 1)) fun d7 =>
  bi (idxSl 1 a0 d7) fun d8 =>
  bi (loadG false 1 d8 H) fun d9 =>
  bi (cvK .i64 d9) fun d10 =>
  bi (addK .i64 d6 d10) fun d11 =>
  some (d11, H))
theorem s_triuneref06_number_eq (n : Nat) (H : Heap) (fl : Nat) (a0 a1 : DV) : callG Try.prog ENV (n + 1) 87 [a0, a1] H fl = s_triuneref06_number n H fl a0 a1 := by kernel_rfl

/-! triune/triuneref06.behind -/
noncomputable def s_triuneref06_behind (n : Nat) (H : Heap) (fl : Nat) (a0 a1 : DV) : R :=
  bi (lenD a0) fun d0 =>
  bi (minI a1 d0) fun d1 =>
  bi (slX 1 a0 (some d1) none none) fun d2 =>
  some (d2, H)
theorem s_triuneref06_behind_eq (n : Nat) (H : Heap) (fl : Nat) (a0 a1 : DV) : callG Try.prog ENV (n + 1) 88 [a0, a1] H fl = s_triuneref06_behind n H fl a0 a1 := by kernel_rfl

/-! triune/triuneref06.guess -/
def s_triuneref06_guess_I1 (x2 x3 x4 x5 x6 x7 x8 : DV) : List DV := [.any, .any, x2, x3, x4, x5, x6, x7, x8, .any, .any, .any, .any, .any, .any, .any, .any, .any, .any, .any, .any, .any, .any, .any, .any, .any, .any, .any, .any, .any, .any, .any, .any, .any, .any, .any, .any, .any, .any, .any, .any, .any, .any, .any, .any, .any, .any, .any, .any, .any, .any, .any, .any, .any, .any, .any, .any, .any, .any, .any, .any, .any, .any, .any, .any, .any, .any, .any, .any, .any, .any, .any, .any, .any, .any, .any, .any, .any, .any, .any, .any, .any, .any, .any, .any, .any, .any, .any, .any, .any, .any, .any, .any, .any, .any, .any, .any, .any, .any, .any, .any, .any, .any, .any, .any, .any, .any, .any, .any, .any, .any, .any, .any, .any, .any, .any, .any, .any, .any, .any, .any, .any, .any, .any, .any, .any, .any, .any, .any, .any, .any]
def s_triuneref06_guess_O1 (x2 x3 x4 x5 x6 x7 : DV) : List DV := [.any, .any, x2, x3, x4, x5, x6, x7, .any, .any, .any, .any, .any, .any, .any, .any, .any, .any, .any, .any, .any, .any, .any, .any, .any, .any, .any, .any, .any, .any, .any, .any, .any, .any, .any, .any, .any, .any, .any, .any, .any, .any, .any, .any, .any, .any, .any, .any, .any, .any, .any, .any, .any, .any, .any, .any, .any, .any, .any, .any, .any, .any, .any, .any, .any, .any, .any, .any, .any, .any, .any, .any, .any, .any, .any, .any, .any, .any, .any, .any, .any, .any, .any, .any, .any, .any, .any, .any, .any, .any, .any, .any, .any, .any, .any, .any, .any, .any, .any, .any, .any, .any, .any, .any, .any, .any, .any, .any, .any, .any, .any, .any, .any, .any, .any, .any, .any, .any, .any, .any, .any, .any, .any, .any, .any, .any, .any, .any, .any, .any, .any]
noncomputable abbrev s_triuneref06_guess_b1 (n fl : Nat) : List DV → Heap → (Ex → KF) → R := execG ⟨Try.prog, callG Try.prog ENV n, ENV.md, fl, 131⟩ n (loopAt (bodyOf Try.f52) 1) []
noncomputable def s_triuneref06_guess_B1 (n fl : Nat) (rec : DV → DV → DV → DV → DV → DV → DV → Heap → R) (k : Ex → KF) (x2 x3 x4 x5 x6 x7 x8 : DV) (H : Heap) : R :=
  bi (remK .i64 x6 (I .i64 8)) fun d0 =>
  bi (ltK .i64 x8 d0) fun d1 =>
  condR d1 (
  bi (quoK .i64 x7 (I .i64 2)) fun d2 =>
  bi (addK .i64 x8 (I .i64 1)) fun d3 =>
  rec x2 x3 x4 x5 x6 d2 d3 H) (
  k (.exit 3) (s_triuneref06_guess_O1 x2 x3 x4 x5 x6 x7) H)
noncomputable def s_triuneref06_guess_L1 (n fl : Nat) (k : Ex → KF) : Nat → DV → DV → DV → DV → DV → DV → DV → Heap → R
  | 0, _, _, _, _, _, _, _, _ => none
  | m + 1, x2, x3, x4, x5, x6, x7, x8, H => s_triuneref06_guess_B1 n fl (s_triuneref06_guess_L1 n fl k m) k x2 x3 x4 x5 x6 x7 x8 H
theorem s_triuneref06_guess_S1 (n fl m : Nat) (k : Ex → KF) (x2 x3 x4 x5 x6 x7 x8 : DV) (H : Heap) : loopG [2, 3, 4, 5, 6, 7, 8] [2, 3, 4, 5, 6, 7] 131 (s_triuneref06_guess_b1 n fl) (m + 1) (s_triuneref06_guess_I1 x2 x3 x4 x5 x6 x7 x8) H k = s_triuneref06_guess_B1 n fl (fun x2 x3 x4 x5 x6 x7 x8 H => loopG [2, 3, 4, 5, 6, 7, 8] [2, 3, 4, 5, 6, 7] 131 (s_triuneref06_guess_b1 n fl) m (s_triuneref06_guess_I1 x2 x3 x4 x5 x6 x7 x8) H k) k x2 x3 x4 x5 x6 x7 x8 H := by kernel_rfl
theorem s_triuneref06_guess_L1_eq (n fl : Nat) (k : Ex → KF) : ∀ (m : Nat) (x2 x3 x4 x5 x6 x7 x8 : DV) (H : Heap), loopG [2, 3, 4, 5, 6, 7, 8] [2, 3, 4, 5, 6, 7] 131 (s_triuneref06_guess_b1 n fl) m (s_triuneref06_guess_I1 x2 x3 x4 x5 x6 x7 x8) H k = s_triuneref06_guess_L1 n fl k m x2 x3 x4 x5 x6 x7 x8 H := by
  intro m
  induction m with
  | zero => intros; rfl
  | succ m ih =>
    intro x2 x3 x4 x5 x6 x7 x8 H
    rw [s_triuneref06_guess_S1, show (fun x2 x3 x4 x5 x6 x7 x8 H => loopG [2, 3, 4, 5, 6, 7, 8] [2, 3, 4, 5, 6, 7] 131 (s_triuneref06_guess_b1 n fl) m (s_triuneref06_guess_I1 x2 x3 x4 x5 x6 x7 x8) H k) = s_triuneref06_guess_L1 n fl k m from by funext x2 x3 x4 x5 x6 x7 x8 H; exact ih _ _ _ _ _ _ _ _]
    rw [s_triuneref06_guess_L1]
def s_triuneref06_guess_I0 (x2 x3 x4 x5 x6 : DV) : List DV := [.any, .any, x2, x3, x4, x5, x6, .any, .any, .any, .any, .any, .any, .any, .any, .any, .any, .any, .any, .any, .any, .any, .any, .any, .any, .any, .any, .any, .any, .any, .any, .any, .any, .any, .any, .any, .any, .any, .any, .any, .any, .any, .any, .any, .any, .any, .any, .any, .any, .any, .any, .any, .any, .any, .any, .any, .any, .any, .any, .any, .any, .any, .any, .any, .any, .any, .any, .any, .any, .any, .any, .any, .any, .any, .any, .any, .any, .any, .any, .any, .any, .any, .any, .any, .any, .any, .any, .any, .any, .any, .any, .any, .any, .any, .any, .any, .any, .any, .any, .any, .any, .any, .any, .any, .any, .any, .any, .any, .any, .any, .any, .any, .any, .any, .any, .any, .any, .any, .any, .any, .any, .any, .any, .any, .any, .any, .any, .any, .any, .any, .any]
def s_triuneref06_guess_O0 (x2 x3 : DV) : List DV := [.any, .any, x2, x3, .any, .any, .any, .any, .any, .any, .any, .any, .any, .any, .any, .any, .any, .any, .any, .any, .any, .any, .any, .any, .any, .any, .any, .any, .any, .any, .any, .any, .any, .any, .any, .any, .any, .any, .any, .any, .any, .any, .any, .any, .any, .any, .any, .any, .any, .any, .any, .any, .any, .any, .any, .any, .any, .any, .any, .any, .any, .any, .any, .any, .any, .any, .any, .any, .any, .any, .any, .any, .any, .any, .any, .any, .any, .any, .any, .any, .any, .any, .any, .any, .any, .any, .any, .any, .any, .any, .any, .any, .any, .any, .any, .any, .any, .any, .any, .any, .any, .any, .any, .any, .any, .any, .any, .any, .any, .any, .any, .any, .any, .any, .any, .any, .any, .any, .any, .any, .any, .any, .any, .any, .any, .any, .any, .any, .any, .any, .any]
noncomputable abbrev s_triuneref06_guess_b0 (n fl : Nat) : List DV → Heap → (Ex → KF) → R := execG ⟨Try.prog, callG Try.prog ENV n, ENV.md, fl, 131⟩ n (loopAt (bodyOf Try.f52) 0) [([2, 3, 4, 5, 6, 7, 8], [2, 3, 4, 5, 6, 7])]
noncomputable def s_triuneref06_guess_B0 (n fl : Nat) (rec : DV → DV → DV → DV → DV → Heap → R) (k : Ex → KF) (x2 x3 x4 x5 x6 : DV) (H : Heap) : R :=
  bi (ltK .i64 x6 x4) fun d0 =>
  bi (wantF d0 true (some x6)) fun d1 =>
  bi (wantF d0 true (some x5)) fun d2 =>
  bi (wantF d0 true (lenD d2)) fun d3 =>
  bi (wantF d0 true (mulK .i64 (I .i64 8) d3)) fun d4 =>
  bi (wantF d0 true (ltK .i64 d1 d4)) fun d5 =>
  bi (pickD d0 d5 (Bo false)) fun d6 =>
  condR d6 (
  bi (quoK .i64 x6 (I .i64 8)) fun d7 =>
  bi (idxSl 1 x5 d7) fun d8 =>
  bi (loadG false 1 d8 H) fun d9 =>
  bi (cvK .i64 d9) fun d10 =>
  loopG [2, 3, 4, 5, 6, 7, 8] [2, 3, 4, 5, 6, 7] 131 (s_triuneref06_guess_b1 n fl) n (s_triuneref06_guess_I1 x2 x3 x4 x5 x6 d10 (I .i64 0)) H fun x S11 h11 => match x with
  | .normal => none
  | .exit i11 => (
  if i11 = 3 then (
  bi (fieldD 5 1 (S11.getD 3 .any)) fun d12 =>
  bi (loadG false 1 d12 h11) fun d13 =>
  bi (remK .i64 (S11.getD 7 .any) (I .i64 2)) fun d14 =>
  bi (eqK .i64 d14 (I .i64 1)) fun d15 =>
  bi (buildL false 1 1 (Bo false) [(0, d15)]) fun d16 =>
  bi (appG 4 false 1 1 d13 d16 h11 fl) fun p17 =>
  bi (fieldD 5 1 (S11.getD 3 .any)) fun d18 =>
  bi (storeG 1 d18 p17.1 p17.2 fl) fun h19 =>
  bi (addK .i64 (S11.getD 6 .any) (I .i64 1)) fun d20 =>
  rec (S11.getD 2 .any) (S11.getD 3 .any) (S11.getD 4 .any) (S11.getD 5 .any) d20 h19) else (
  if i11 = 2 then (
  bi (addK .i64 (S11.getD 6 .any) (I .i64 1)) fun d21 =>
  rec (S11.getD 2 .any) (S11.getD 3 .any) (S11.getD 4 .any) (S11.getD 5 .any) d21 h11) else (
  k (.exit i11) (s_triuneref06_guess_O0 (S11.getD 2 .any) (S11.getD 3 .any)) h11)))
  | .ret => (
  k .ret (s_triuneref06_guess_O0 (S11.getD 2 .any) (S11.getD 3 .any)) h11)) (
  k (.exit 1) (s_triuneref06_guess_O0 x2 x3) H)
noncomputable def s_triuneref06_guess_L0 (n fl : Nat) (k : Ex → KF) : Nat → DV → DV → DV → DV → DV → Heap → R
  | 0, _, _, _, _, _, _ => none
  | m + 1, x2, x3, x4, x5, x6, H => s_triuneref06_guess_B0 n fl (s_triuneref06_guess_L0 n fl k m) k x2 x3 x4 x5 x6 H
theorem s_triuneref06_guess_S0 (n fl m : Nat) (k : Ex → KF) (x2 x3 x4 x5 x6 : DV) (H : Heap) : loopG [2, 3, 4, 5, 6] [2, 3] 131 (s_triuneref06_guess_b0 n fl) (m + 1) (s_triuneref06_guess_I0 x2 x3 x4 x5 x6) H k = s_triuneref06_guess_B0 n fl (fun x2 x3 x4 x5 x6 H => loopG [2, 3, 4, 5, 6] [2, 3] 131 (s_triuneref06_guess_b0 n fl) m (s_triuneref06_guess_I0 x2 x3 x4 x5 x6) H k) k x2 x3 x4 x5 x6 H := by kernel_rfl
theorem s_triuneref06_guess_L0_eq (n fl : Nat) (k : Ex → KF) : ∀ (m : Nat) (x2 x3 x4 x5 x6 : DV) (H : Heap), loopG [2, 3, 4, 5, 6] [2, 3] 131 (s_triuneref06_guess_b0 n fl) m (s_triuneref06_guess_I0 x2 x3 x4 x5 x6) H k = s_triuneref06_guess_L0 n fl k m x2 x3 x4 x5 x6 H := by
  intro m
  induction m with
  | zero => intros; rfl
  | succ m ih =>
    intro x2 x3 x4 x5 x6 H
    rw [s_triuneref06_guess_S0, show (fun x2 x3 x4 x5 x6 H => loopG [2, 3, 4, 5, 6] [2, 3] 131 (s_triuneref06_guess_b0 n fl) m (s_triuneref06_guess_I0 x2 x3 x4 x5 x6) H k) = s_triuneref06_guess_L0 n fl k m from by funext x2 x3 x4 x5 x6 H; exact ih _ _ _ _ _ _]
    rw [s_triuneref06_guess_L0]
noncomputable def s_triuneref06_guess (n : Nat) (H : Heap) (fl : Nat) (a0 : DV) : R :=
  bi (allocG 30 (.agg [(I .i64 0), (I .i64 0), (I .i64 0), (I .i64 0), (.list 0 [] .ti), (.list 0 [] .ti), (I .u16 0), (I .u16 0)]) (List.length H) (H ++ [.hole])) fun h0 =>
  bi (idxSl 1 a0 (I .i64 0)) fun d1 =>
  bi (loadG false 1 d1 (h0 ++ [.hole])) fun d2 =>
  bi (cvK .i64 d2) fun d3 =>
  bi (cP n 87 false [a0, (I .i64 1)]) fun d4 =>
  bi (buildS (.agg [(I .i64 0), (I .i64 0), (I .i64 0), (I .i64 0), (.list 0 [] .ti), (.list 0 [] .ti), (I .u16 0), (I .u16 0)]) [(0, 1), (1, 1), (2, 1), (3, 1), (4, 1), (5, 1), (6, 1), (7, 1)] [(0, d3), (1, d4)]) fun d5 =>
  bi (allocG 30 (.agg [(I .i64 0), (I .i64 0), (I .i64 0), (I .i64 0), (.list 0 [] .ti), (.list 0 [] .ti), (I .u16 0), (I .u16 0)]) (List.length h0) (h0 ++ [.hole])) fun h6 =>
  bi (storeG 8 (.ptr (List.length h0) 0) d5 h6 fl) fun h7 =>
  bi (loadG false 1 (.ptr (List.length h0) 0) h7) fun d8 =>
  bi (eqK .i64 d8 (I .i64 1)) fun d9 =>
  condR d9 (
  condR d9 (
   bi (cP n 87 false [a0, (I .i64 3)]) fun d10 =>
   bi (storeG 1 (.ptr (List.length h0) 2) d10 h7 fl) fun h11 =>
  bi (loadG true 8 (.ptr (List.length h0) 0) h11) fun d12 =>
  bi (storeG 8 (.ptr (List.length H) 0) d12 h11 fl) fun h13 =>
  bi (cellR true 8 (.ptr (List.length H) 0) h13) fun r0 =>
  some (r0, h13)) (
   bi (eqK .i64 d8 (I .i64 5)) fun d14 =>
   condR d14 (
    bi (cP n 87 false [a0, (I .i64 3)]) fun d15 =>
    bi (neK .i64 d15 (I .i64 0)) fun d16 =>
    bi (buildL false 1 1 (Bo false) [(0, d16)]) fun d17 =>
    bi (storeG 1 (.ptr (List.length h0) 5) d17 h7 fl) fun h18 =>
  bi (loadG true 8 (.ptr (List.length h0) 0) h18) fun d19 =>
  bi (storeG 8 (.ptr (List.length H) 0) d19 h18 fl) fun h20 =>
  bi (cellR true 8 (.ptr (List.length H) 0) h20) fun r0 =>
  some (r0, h20)) (
    bi (eqK .i64 d8 (I .i64 6)) fun d21 =>
    condR d21 (
     bi (cP n 87 false [a0, (I .i64 3)]) fun d22 =>
     bi (cvK .u16 d22) fun d23 =>
     bi (buildL false 1 1 (I .u16 0) [(0, d23)]) fun d24 =>
     bi (storeG 1 (.ptr (List.length h0) 4) d24 h7 fl) fun h25 =>
  bi (loadG true 8 (.ptr (List.length h0) 0) h25) fun d26 =>
  bi (storeG 8 (.ptr (List.length H) 0) d26 h25 fl) fun h27 =>
  bi (cellR true 8 (.ptr (List.length H) 0) h27) fun r0 =>
  some (r0, h27)) (
     bi (eqK .i64 d8 (I .i64 15)) fun d28 =>
     condR d28 (
      bi (cP n 87 false [a0, (I .i64 3)]) fun d29 =>
      bi (cP n 88 false [a0, (I .i64 6)]) fun d30 =>
      loopG [2, 3, 4, 5, 6] [2, 3] 131 (s_triuneref06_guess_b0 n fl) n (s_triuneref06_guess_I0 (.ptr (List.length H) 0) (.ptr (List.length h0) 0) d29 d30 (I .i64 0)) h7 fun x S31 h31 => match x with
      | .normal => none
      | .exit i31 => (
      if i31 = 1 then (
  bi (loadG true 8 (S31.getD 3 .any) h31) fun d32 =>
  bi (storeG 8 (S31.getD 2 .any) d32 h31 fl) fun h33 =>
  bi (cellR true 8 (S31.getD 2 .any) h33) fun r0 =>
  some (r0, h33)) else (
  if i31 = 0 then (
  bi (loadG true 8 (S31.getD 3 .any) h31) fun d34 =>
  bi (storeG 8 (S31.getD 2 .any) d34 h31 fl) fun h35 =>
  bi (cellR true 8 (S31.getD 2 .any) h35) fun r0 =>
  some (r0, h35)) else (
  none)))
      | .ret => (
  bi (cellR true 8 (S31.getD 2 .any) h31) fun r0 =>
  some (r0, h31))) (
      bi (eqK .i64 d8 (I .i64 16)) fun d36 =>
      condR d36 (
       bi (cP n 88 false [a0, (I .i64 6)]) fun d37 =>
       bi (cP n 89 false [d37]) fun d38 =>
       bi (extD 0 d38) fun d39 =>
       bi (extD 1 d38) fun d40 =>
       bi (storeG 1 (.ptr (List.length h0) 4) d39 h7 fl) fun h41 =>
  bi (loadG true 8 (.ptr (List.length h0) 0) h41) fun d42 =>
  bi (storeG 8 (.ptr (List.length H) 0) d42 h41 fl) fun h43 =>
  bi (cellR true 8 (.ptr (List.length H) 0) h43) fun r0 =>
  some (r0, h43)) (
       bi (eqK .i64 d8 (I .i64 22)) fun d44 =>
       condR d44 (
        bi (cP n 87 false [a0, (I .i64 3)]) fun d45 =>
        bi (cvK .u16 d45) fun d46 =>
        bi (storeG 1 (.ptr (List.length h0) 6) d46 h7 fl) fun h47 =>
        bi (cP n 87 false [a0, (I .i64 5)]) fun d48 =>
        bi (cvK .u16 d48) fun d49 =>
        bi (storeG 1 (.ptr (List.length h0) 7) d49 h47 fl) fun h50 =>
  bi (loadG true 8 (.ptr (List.length h0) 0) h50) fun d51 =>
  bi (storeG 8 (.ptr (List.length H) 0) d51 h50 fl) fun h52 =>
  bi (cellR true 8 (.ptr (List.length H) 0) h52) fun r0 =>
  some (r0, h52)) (
        bi (eqK .i64 d8 (I .i64 23)) fun d53 =>
        condR d53 (
         bi (cP n 87 false [a0, (I .i64 3)]) fun d54 =>
         bi (storeG 1 (.ptr (List.length h0) 2) d54 h7 fl) fun h55 =>
         bi (cP n 87 false [a0, (I .i64 5)]) fun d56 =>
         bi (storeG 1 (.ptr (List.length h0) 3) d56 h55 fl) fun h57 =>
         bi (cP n 88 false [a0, (I .i64 10)]) fun d58 =>
         bi (cP n 89 false [d58]) fun d59 =>
         bi (extD 0 d59) fun d60 =>
         bi (extD 1 d59) fun d61 =>
         bi (storeG 1 (.ptr (List.length h0) 4) d60 h57 fl) fun h62 =>
  bi (loadG true 8 (.ptr (List.length h0) 0) h62) fun d63 =>
  bi (storeG 8 (.ptr (List.length H) 0) d63 h62 fl) fun h64 =>
  bi (cellR true 8 (.ptr (List.length H) 0) h64) fun r0 =>
  some (r0, h64)) (
         bi (eqK .i64 d8 (I .i64 43)) fun d65 =>
         condR d65 (
          bi (storeG 1 (.ptr (List.length h0) 1) (I .i64 0) h7 fl) fun h66 =>
          bi (lenD a0) fun d67 =>
          bi (eqK .i64 d67 (I .i64 4)) fun d68 =>
          condR d68 (
           bi (idxSl 1 a0 (I .i64 2)) fun d69 =>
           bi (loadG false 1 d69 h66) fun d70 =>
           bi (cvK .i64 d70) fun d71 =>
           bi (storeG 1 (.ptr (List.length h0) 2) d71 h66 fl) fun h72 =>
           bi (idxSl 1 a0 (I .i64 3)) fun d73 =>
           bi (loadG false 1 d73 h72) fun d74 =>
           bi (cvK .i64 d74) fun d75 =>
           bi (storeG 1 (.ptr (List.length h0) 1) d75 h72 fl) fun h76 =>
  bi (loadG true 8 (.ptr (List.length h0) 0) h76) fun d77 =>
  bi (storeG 8 (.ptr (List.length H) 0) d77 h76 fl) fun h78 =>
  bi (cellR true 8 (.ptr (List.length H) 0) h78) fun r0 =>
  some (r0, h78)) (
  bi (loadG true 8 (.ptr (List.length h0) 0) h66) fun d79 =>
  bi (storeG 8 (.ptr (List.length H) 0) d79 h66 fl) fun h80 =>
  bi (cellR true 8 (.ptr (List.length H) 0) h80) fun r0 =>
  some (r0, h80))) (
  bi (loadG true 8 (.ptr (List.length h0) 0) h7) fun d81 =>
  bi (storeG 8 (.ptr (List.length H) 0) d81 h7 fl) fun h82 =>
  bi (cellR true 8 (.ptr (List.length H) 0) h82) fun r0 =>
  some (r0, h82)))))))))) (
   bi (eqK .i64 d8 (I .i64 2)) fun d83 =>
   condR d83 (
  condR d83 (
   bi (cP n 87 false [a0, (I .i64 3)]) fun d84 =>
   bi (storeG 1 (.ptr (List.length h0) 2) d84 h7 fl) fun h85 =>
  bi (loadG true 8 (.ptr (List.length h0) 0) h85) fun d86 =>
  bi (storeG 8 (.ptr (List.length H) 0) d86 h85 fl) fun h87 =>
  bi (cellR true 8 (.ptr (List.length H) 0) h87) fun r0 =>
  some (r0, h87)) (
   bi (eqK .i64 d8 (I .i64 5)) fun d88 =>
   condR d88 (
    bi (cP n 87 false [a0, (I .i64 3)]) fun d89 =>
    bi (neK .i64 d89 (I .i64 0)) fun d90 =>
    bi (buildL false 1 1 (Bo false) [(0, d90)]) fun d91 =>
    bi (storeG 1 (.ptr (List.length h0) 5) d91 h7 fl) fun h92 =>
  bi (loadG true 8 (.ptr (List.length h0) 0) h92) fun d93 =>
  bi (storeG 8 (.ptr (List.length H) 0) d93 h92 fl) fun h94 =>
  bi (cellR true 8 (.ptr (List.length H) 0) h94) fun r0 =>
  some (r0, h94)) (
    bi (eqK .i64 d8 (I .i64 6)) fun d95 =>
    condR d95 (
     bi (cP n 87 false [a0, (I .i64 3)]) fun d96 =>
     bi (cvK .u16 d96) fun d97 =>
     bi (buildL false 1 1 (I .u16 0) [(0, d97)]) fun d98 =>
     bi (storeG 1 (.ptr (List.length h0) 4) d98 h7 fl) fun h99 =>
  bi (loadG true 8 (.ptr (List.length h0) 0) h99) fun d100 =>
  bi (storeG 8 (.ptr (List.length H) 0) d100 h99 fl) fun h101 =>
  bi (cellR true 8 (.ptr (List.length H) 0) h101) fun r0 =>
  some (r0, h101)) (
     bi (eqK .i64 d8 (I .i64 15)) fun d102 =>
     condR d102 (
      bi (cP n 87 false [a0, (I .i64 3)]) fun d103 =>
      bi (cP n 88 false [a0, (I .i64 6)]) fun d104 =>
      loopG [2, 3, 4, 5, 6] [2, 3] 131 (s_triuneref06_guess_b0 n fl) n (s_triuneref06_guess_I0 (.ptr (List.length H) 0) (.ptr (List.length h0) 0) d103 d104 (I .i64 0)) h7 fun x S105 h105 => match x with
      | .normal => none
      | .exit i105 => (
      if i105 = 1 then (
  bi (loadG true 8 (S105.getD 3 .any) h105) fun d106 =>
  bi (storeG 8 (S105.getD 2 .any) d106 h105 fl) fun h107 =>
  bi (cellR true 8 (S105.getD 2 .any) h107) fun r0 =>
  some (r0, h107)) else (
  if i105 = 0 then (
  bi (loadG true 8 (S105.getD 3 .any) h105) fun d108 =>
  bi (storeG 8 (S105.getD 2 .any) d108 h105 fl) fun h109 =>
  bi (cellR true 8 (S105.getD 2 .any) h109) fun r0 =>
  some (r0, h109)) else (
  none)))
      | .ret => (
  bi (cellR true 8 (S105.getD 2 .any) h105) fun r0 =>
  some (r0, h105))) (
      bi (eqK .i64 d8 (I .i64 16)) fun d110 =>
      condR d110 (
       bi (cP n 88 false [a0, (I .i64 6)]) fun d111 =>
       bi (cP n 89 false [d111]) fun d112 =>
       bi (extD 0 d112) fun d113 =>
       bi (extD 1 d112) fun d114 =>
       bi (storeG 1 (.ptr (List.length h0) 4) d113 h7 fl) fun h115 =>
  bi (loadG true 8 (.ptr (List.length h0) 0) h115) fun d116 =>
  bi (storeG 8 (.ptr (List.length H) 0) d116 h115 fl) fun h117 =>
  bi (cellR true 8 (.ptr (List.length H) 0) h117) fun r0 =>
  some (r0, h117)) (
       bi (eqK .i64 d8 (I .i64 22)) fun d118 =>
       condR d118 (
        bi (cP n 87 false [a0, (I .i64 3)]) fun d119 =>
        bi (cvK .u16 d119) fun d120 =>
        bi (storeG 1 (.ptr (List.length h0) 6) d120 h7 fl) fun h121 =>
        bi (cP n 87 false [a0, (I .i64 5)]) fun d122 =>
        bi (cvK .u16 d122) fun d123 =>
        bi (storeG 1 (.ptr (List.length h0) 7) d123 h121 fl) fun h124 =>
  bi (loadG true 8 (.ptr (List.length h0) 0) h124) fun d125 =>
  bi (storeG 8 (.ptr (List.length H) 0) d125 h124 fl) fun h126 =>
  bi (cellR true 8 (.ptr (List.length H) 0) h126) fun r0 =>
  some (r0, h126)) (
        bi (eqK .i64 d8 (I .i64 23)) fun d127 =>
        condR d127 (
         bi (cP n 87 false [a0, (I .i64 3)]) fun d128 =>
         bi (storeG 1 (.ptr (List.length h0) 2) d128 h7 fl) fun h129 =>
         bi (cP n 87 false [a0, (I .i64 5)]) fun d130 =>
         bi (storeG 1 (.ptr (List.length h0) 3) d130 h129 fl) fun h131 =>
         bi (cP n 88 false [a0, (I .i64 10)]) fun d132 =>
         bi (cP n 89 false [d132]) fun d133 =>
         bi (extD 0 d133) fun d134 =>
         bi (extD 1 d133) fun d135 =>
         bi (storeG 1 (.ptr (List.length h0) 4) d134 h131 fl) fun h136 =>
  bi (loadG true 8 (.ptr (List.length h0) 0) h136) fun d137 =>
  bi (storeG 8 (.ptr (List.length H) 0) d137 h136 fl) fun h138 =>
  bi (cellR true 8 (.ptr (List.length H) 0) h138) fun r0 =>
  some (r0, h138)) (
         bi (eqK .i64 d8 (I .i64 43)) fun d139 =>
         condR d139 (
          bi (storeG 1 (.ptr (List.length h0) 1) (I .i64 0) h7 fl) fun h140 =>
          bi (lenD a0) fun d141 =>
          bi (eqK .i64 d141 (I .i64 4)) fun d142 =>
          condR d142 (
           bi (idxSl 1 a0 (I .i64 2)) fun d143 =>
           bi (loadG false 1 d143 h140) fun d144 =>
           bi (cvK .i64 d144) fun d145 =>
           bi (storeG 1 (.ptr (List.length h0) 2) d145 h140 fl) fun h146 =>
           bi (idxSl 1 a0 (I .i64 3)) fun d147 =>
           bi (loadG false 1 d147 h146) fun d148 =>
           bi (cvK .i64 d148) fun d149 =>
           bi (storeG 1 (.ptr (List.length h0) 1) d149 h146 fl) fun h150 =>
  bi (loadG true 8 (.ptr (List.length h0) 0) h150) fun d151 =>
  bi (storeG 8 (.ptr (List.length H) 0) d151 h150 fl) fun h152 =>
  bi (cellR true 8 (.ptr (List.length H) 0) h152) fun r0 =>
  some (r0, h152)) (
  bi (loadG true 8 (.ptr (List.length h0) 0) h140) fun d153 =>
  bi (storeG 8 (.ptr (List.length H) 0) d153 h140 fl) fun h154 =>
  bi (cellR true 8 (.ptr (List.length H) 0) h154) fun r0 =>
  some (r0, h154))) (
  bi (loadG true 8 (.ptr (List.length h0) 0) h7) fun d155 =>
  bi (storeG 8 (.ptr (List.length H) 0) d155 h7 fl) fun h156 =>
  bi (cellR true 8 (.ptr (List.length H) 0) h156) fun r0 =>
  some (r0, h156)))))))))) (
    bi (eqK .i64 d8 (I .i64 3)) fun d157 =>
    condR d157 (
  condR d157 (
   bi (cP n 87 false [a0, (I .i64 3)]) fun d158 =>
   bi (storeG 1 (.ptr (List.length h0) 2) d158 h7 fl) fun h159 =>
  bi (loadG true 8 (.ptr (List.length h0) 0) h159) fun d160 =>
  bi (storeG 8 (.ptr (List.length H) 0) d160 h159 fl) fun h161 =>
  bi (cellR true 8 (.ptr (List.length H) 0) h161) fun r0 =>
  some (r0, h161)) (
   bi (eqK .i64 d8 (I .i64 5)) fun d162 =>
   condR d162 (
    bi (cP n 87 false [a0, (I .i64 3)]) fun d163 =>
    bi (neK .i64 d163 (I .i64 0)) fun d164 =>
    bi (buildL false 1 1 (Bo false) [(0, d164)]) fun d165 =>
    bi (storeG 1 (.ptr (List.length h0) 5) d165 h7 fl) fun h166 =>
  bi (loadG true 8 (.ptr (List.length h0) 0) h166) fun d167 =>
  bi (storeG 8 (.ptr (List.length H) 0) d167 h166 fl) fun h168 =>
  bi (cellR true 8 (.ptr (List.length H) 0) h168) fun r0 =>
  some (r0, h168)) (
    bi (eqK .i64 d8 (I .i64 6)) fun d169 =>
    condR d169 (
     bi (cP n 87 false [a0, (I .i64 3)]) fun d170 =>
     bi (cvK .u16 d170) fun d171 =>
     bi (buildL false 1 1 (I .u16 0) [(0, d171)]) fun d172 =>
     bi (storeG 1 (.ptr (List.length h0) 4) d172 h7 fl) fun h173 =>
  bi (loadG true 8 (.ptr (List.length h0) 0) h173) fun d174 =>
  bi (storeG 8 (.ptr (List.length H) 0) d174 h173 fl) fun h175 =>
  bi (cellR true 8 (.ptr (List.length H) 0) h175) fun r0 =>
  some (r0, h175)) (
     bi (eqK .i64 d8 (I .i64 15)) fun d176 =>
     condR d176 (
      bi (cP n 87 false [a0, (I .i64 3)]) fun d177 =>
      bi (cP n 88 false [a0, (I .i64 6)]) fun d178 =>
      loopG [2, 3, 4, 5, 6] [2, 3] 131 (s_triuneref06_guess_b0 n fl) n (s_triuneref06_guess_I0 (.ptr (List.length H) 0) (.ptr (List.length h0) 0) d177 d178 (I .i64 0)) h7 fun x S179 h179 => match x with
      | .normal => none
      | .exit i179 => (
      if i179 = 1 then (
  bi (loadG true 8 (S179.getD 3 .any) h179) fun d180 =>
  bi (storeG 8 (S179.getD 2 .any) d180 h179 fl) fun h181 =>
  bi (cellR true 8 (S179.getD 2 .any) h181) fun r0 =>
  some (r0, h181)) else (
  if i179 = 0 then (
  bi (loadG true 8 (S179.getD 3 .any) h179) fun d182 =>
  bi (storeG 8 (S179.getD 2 .any) d182 h179 fl) fun h183 =>
  bi (cellR true 8 (S179.getD 2 .any) h183) fun r0 =>
  some (r0, h183)) else (
  none)))
      | .ret => (
  bi (cellR true 8 (S179.getD 2 .any) h179) fun r0 =>
  some (r0, h179))) (
      bi (eqK .i64 d8 (I .i64 16)) fun d184 =>
      condR d184 (
       bi (cP n 88 false [a0, (I .i64 6)]) fun d185 =>
       bi (cP n 89 false [d185]) fun d186 =>
       bi (extD 0 d186) fun d187 =>
       bi (extD 1 d186) fun d188 =>
       bi (storeG 1 (.ptr (List.length h0) 4) d187 h7 fl) fun h189 =>
  bi (loadG true 8 (.ptr (List.length h0) 0) h189) fun d190 =>
  bi (storeG 8 (.ptr (List.length H) 0) d190 h189 fl) fun h191 =>
  bi (cellR true 8 (.ptr (List.length H) 0) h191) fun r0 =>
  some (r0, h191)) (
       bi (eqK .i64 d8 (I .i64 22)) fun d192 =>
       condR d192 (
        bi (cP n 87 false [a0, (I .i64 3)]) fun d193 =>
        bi (cvK .u16 d193) fun d194 =>
        bi (storeG 1 (.ptr (List.length h0) 6) d194 h7 fl) fun h195 =>
        bi (cP n 87 false [a0, (I .i64 5)]) fun d196 =>
        bi (cvK .u16 d196) fun d197 =>
        bi (storeG 1 (.ptr (List.length h0) 7) d197 h195 fl) fun h198 =>
  bi (loadG true 8 (.ptr (List.length h0) 0) h198) fun d199 =>
  bi (storeG 8 (.ptr (List.length H) 0) d199 h198 fl) fun h200 =>
  bi (cellR true 8 (.ptr (List.length H) 0) h200) fun r0 =>
  some (r0, h200)) (
        bi (eqK .i64 d8 (I .i64 23)) fun d201 =>
        condR d201 (
         bi (cP n 87 false [a0, (I .i64 3)]) fun d202 =>
         bi (storeG 1 (.ptr (List.length h0) 2) d202 h7 fl) fun h203 =>
         bi (cP n 87 false [a0, (I .i64 5)]) fun d204 =>
         bi (storeG 1 (.ptr (List.length h0) 3) d204 h203 fl) fun h205 =>
         bi (cP n 88 false [a0, (I .i64 10)]) fun d206 =>
         bi (cP n 89 false [d206]) fun d207 =>
         bi (extD 0 d207) fun d208 =>
         bi (extD 1 d207) fun d209 =>
         bi (storeG 1 (.ptr (List.length h0) 4) d208 h205 fl) fun h210 =>
  bi (loadG true 8 (.ptr (List.length h0) 0) h210) fun d211 =>
  bi (storeG 8 (.ptr (List.length H) 0) d211 h210 fl) fun h212 =>
  bi (cellR true 8 (.ptr (List.length H) 0) h212) fun r0 =>
  some (r0, h212)) (
         bi (eqK .i64 d8 (I .i64 43)) fun d213 =>
         condR d213 (
          bi (storeG 1 (.ptr (List.length h0) 1) (I .i64 0) h7 fl) fun h214 =>
          bi (lenD a0) fun d215 =>
          bi (eqK .i64 d215 (I .i64 4)) fun d216 =>
          condR d216 (
           bi (idxSl 1 a0 (I .i64 2)) fun d217 =>
           bi (loadG false 1 d217 h214) fun d218 =>
           bi (cvK .i64 d218) fun d219 =>
           bi (storeG 1 (.ptr (List.length h0) 2) d219 h214 fl) fun h220 =>
           bi (idxSl 1 a0 (I .i64 3)) fun d221 =>
           bi (loadG false 1 d221 h220) fun d222 =>
           bi (cvK .i64 d222) fun d223 =>
           bi (storeG 1 (.ptr (List.length h0) 1) d223 h220 fl) fun h224 =>
  bi (loadG true 8 (.ptr (List.length h0) 0) h224) fun d225 =>
  bi (storeG 8 (.ptr (List.length H) 0) d225 h224 fl) fun h226 =>
  bi (cellR true 8 (.ptr (List.length H) 0) h226) fun r0 =>
  some (r0, h226)) (
  bi (loadG true 8 (.ptr (List.length h0) 0) h214) fun d227 =>
  bi (storeG 8 (.ptr (List.length H) 0) d227 h214 fl) fun h228 =>
  bi (cellR true 8 (.ptr (List.length H) 0) h228) fun r0 =>
  some (r0, h228))) (
  bi (loadG true 8 (.ptr (List.length h0) 0) h7) fun d229 =>
  bi (storeG 8 (.ptr (List.length H) 0) d229 h7 fl) fun h230 =>
  bi (cellR true 8 (.ptr (List.length H) 0) h230) fun r0 =>
  some (r0, h230)))))))))) (
     bi (eqK .i64 d8 (I .i64 4)) fun d231 =>
  condR d231 (
   bi (cP n 87 false [a0, (I .i64 3)]) fun d232 =>
   bi (storeG 1 (.ptr (List.length h0) 2) d232 h7 fl) fun h233 =>
  bi (loadG true 8 (.ptr (List.length h0) 0) h233) fun d234 =>
  bi (storeG 8 (.ptr (List.length H) 0) d234 h233 fl) fun h235 =>
  bi (cellR true 8 (.ptr (List.length H) 0) h235) fun r0 =>
  some (r0, h235)) (
   bi (eqK .i64 d8 (I .i64 5)) fun d236 =>
   condR d236 (
    bi (cP n 87 false [a0, (I .i64 3)]) fun d237 =>
    bi (neK .i64 d237 (I .i64 0)) fun d238 =>
    bi (buildL false 1 1 (Bo false) [(0, d238)]) fun d239 =>
    bi (storeG 1 (.ptr (List.length h0) 5) d239 h7 fl) fun h240 =>
  bi (loadG true 8 (.ptr (List.length h0) 0) h240) fun d241 =>
  bi (storeG 8 (.ptr (List.length H) 0) d241 h240 fl) fun h242 =>
  bi (cellR true 8 (.ptr (List.length H) 0) h242) fun r0 =>
  some (r0, h242)) (
    bi (eqK .i64 d8 (I .i64 6)) fun d243 =>
    condR d243 (
     bi (cP n 87 false [a0, (I .i64 3)]) fun d244 =>
     bi (cvK .u16 d244) fun d245 =>
     bi (buildL false 1 1 (I .u16 0) [(0, d245)]) fun d246 =>
     bi (storeG 1 (.ptr (List.length h0) 4) d246 h7 fl) fun h247 =>
  bi (loadG true 8 (.ptr (List.length h0) 0) h247) fun d248 =>
  bi (storeG 8 (.ptr (List.length H) 0) d248 h247 fl) fun h249 =>
  bi (cellR true 8 (.ptr (List.length H) 0) h249) fun r0 =>
  some (r0, h249)) (
     bi (eqK .i64 d8 (I .i64 15)) fun d250 =>
     condR d250 (
      bi (cP n 87 false [a0, (I .i64 3)]) fun d251 =>
      bi (cP n 88 false [a0, (I .i64 6)]) fun d252 =>
      loopG [2, 3, 4, 5, 6] [2, 3] 131 (s_triuneref06_guess_b0 n fl) n (s_triuneref06_guess_I0 (.ptr (List.length H) 0) (.ptr (List.length h0) 0) d251 d252 (I .i64 0)) h7 fun x S253 h253 => match x with
      | .normal => none
      | .exit i253 => (
      if i253 = 1 then (
  bi (loadG true 8 (S253.getD 3 .any) h253) fun d254 =>
  bi (storeG 8 (S253.getD 2 .any) d254 h253 fl) fun h255 =>
  bi (cellR true 8 (S253.getD 2 .any) h255) fun r0 =>
  some (r0, h255)) else (
  if i253 = 0 then (
  bi (loadG true 8 (S253.getD 3 .any) h253) fun d256 =>
  bi (storeG 8 (S253.getD 2 .any) d256 h253 fl) fun h257 =>
  bi (cellR true 8 (S253.getD 2 .any) h257) fun r0 =>
  some (r0, h257)) else (
  none)))
      | .ret => (
  bi (cellR true 8 (S253.getD 2 .any) h253) fun r0 =>
  some (r0, h253))) (
      bi (eqK .i64 d8 (I .i64 16)) fun d258 =>
      condR d258 (
       bi (cP n 88 false [a0, (I .i64 6)]) fun d259 =>
       bi (cP n 89 false [d259]) fun d260 =>
       bi (extD 0 d260) fun d261 =>
       bi (extD 1 d260) fun d262 =>
       bi (storeG 1 (.ptr (List.length h0) 4) d261 h7 fl) fun h263 =>
  bi (loadG true 8 (.ptr (List.length h0) 0) h263) fun d264 =>
  bi (storeG 8 (.ptr (List.length H) 0) d264 h263 fl) fun h265 =>
  bi (cellR true 8 (.ptr (List.length H) 0) h265) fun r0 =>
  some (r0, h265)) (
       bi (eqK .i64 d8 (I .i64 22)) fun d266 =>
       condR d266 (
        bi (cP n 87 false [a0, (I .i64 3)]) fun d267 =>
        bi (cvK .u16 d267) fun d268 =>
        bi (storeG 1 (.ptr (List.length h0) 6) d268 h7 fl) fun h269 =>
        bi (cP n 87 false [a0, (I .i64 5)]) fun d270 =>
        bi (cvK .u16 d270) fun d271 =>
        bi (storeG 1 (.ptr (List.length h0) 7) d271 h269 fl) fun h272 =>
  bi (loadG true 8 (.ptr (List.length h0) 0) h272) fun d273 =>
  bi (storeG 8 (.ptr (List.length H) 0) d273 h272 fl) fun h274 =>
  bi (cellR true 8 (.ptr (List.length H) 0) h274) fun r0 =>
  some (r0, h274)) (
        bi (eqK .i64 d8 (I .i64 23)) fun d275 =>
        condR d275 (
         bi (cP n 87 false [a0, (I .i64 3)]) fun d276 =>
         bi (storeG 1 (.ptr (List.length h0) 2) d276 h7 fl) fun h277 =>
         bi (cP n 87 false [a0, (I .i64 5)]) fun d278 =>
         bi (storeG 1 (.ptr (List.length h0) 3) d278 h277 fl) fun h279 =>
         bi (cP n 88 false [a0, (I .i64 10)]) fun d280 =>
         bi (cP n 89 false [d280]) fun d281 =>
         bi (extD 0 d281) fun d282 =>
         bi (extD 1 d281) fun d283 =>
         bi (storeG 1 (.ptr (List.length h0) 4) d282 h279 fl) fun h284 =>
  bi (loadG true 8 (.ptr (List.length h0) 0) h284) fun d285 =>
  bi (storeG 8 (.ptr (List.length H) 0) d285 h284 fl) fun h286 =>
  bi (cellR true 8 (.ptr (List.length H) 0) h286) fun r0 =>
  some (r0, h286)) (
         bi (eqK .i64 d8 (I .i64 43)) fun d287 =>
         condR d287 (
          bi (storeG 1 (.ptr (List.length h0) 1) (I .i64 0) h7 fl) fun h288 =>
          bi (lenD a0) fun d289 =>
          bi (eqK .i64 d289 (I .i64 4)) fun d290 =>
          condR d290 (
           bi (idxSl 1 a0 (I .i64 2)) fun d291 =>
           bi (loadG false 1 d291 h288) fun d292 =>
           bi (cvK .i64 d292) fun d293 =>
           bi (storeG 1 (.ptr (List.length h0) 2) d293 h288 fl) fun h294 =>
           bi (idxSl 1 a0 (I .i64 3)) fun d295 =>
           bi (loadG false 1 d295 h294) fun d296 =>
           bi (cvK .i64 d296) fun d297 =>
           bi (storeG 1 (.ptr (List.length h0) 1) d297 h294 fl) fun h298 =>
  bi (loadG true 8 (.ptr (List.length h0) 0) h298) fun d299 =>
  bi (storeG 8 (.ptr (List.length H) 0) d299 h298 fl) fun h300 =>
  bi (cellR true 8 (.ptr (List.length H) 0) h300) fun r0 =>
  some (r0, h300)) (
  bi (loadG true 8 (.ptr (List.length h0) 0) h288) fun d301 =>
  bi (storeG 8 (.ptr (List.length H) 0) d301 h288 fl) fun h302 =>
  bi (cellR true 8 (.ptr (List.length H) 0) h302) fun r0 =>
  some (r0, h302))) (
  bi (loadG true 8 (.ptr (List.length h0) 0) h7) fun d303 =>
  bi (storeG 8 (.ptr (List.length H) 0) d303 h7 fl) fun h304 =>
  bi (cellR true 8 (.ptr (List.length H) 0) h304) fun r0 =>
  some (r0, h304))))))))))))
theorem s_triuneref06_guess_eq (n : Nat) (H : Heap) (fl : Nat) (a0 : DV) : callG Try.prog ENV (n + 1) 52 [a0] H fl = s_triuneref06_guess n H fl a0 := by kernel_rfl

/-! triune/triuneref06.Parse -/
noncomputable def s_triuneref06_Parse (n : Nat) (H : Heap) (fl : Nat) (a0 : DV) : R :=
  bi (allocG 30 (.agg [(I .i64 0), (I .i64 0), (I .i64 0), (I .i64 0), (.list 0 [] .ti), (.list 0 [] .ti), (I .u16 0), (I .u16 0)]) (List.length H) (H ++ [.hole])) fun h0 =>
  bi (lenD a0) fun d1 =>
  bi (eqK .i64 d1 (I .i64 0)) fun d2 =>
  bi (wantF d2 false (some a0)) fun d3 =>
  bi (wantF d2 false (idxSl 1 d3 (I .i64 0))) fun d4 =>
  bi (wantF d2 false (loadG false 1 d4 h0)) fun d5 =>
  bi (wantF d2 false (cvK .i64 d5)) fun d6 =>
  bi (wantF d2 false (cP n 51 false [d6])) fun d7 =>
  bi (wantF d2 false (notD d7)) fun d8 =>
  bi (pickD d2 (Bo true) d8) fun d9 =>
  bi (wantF d9 false (some a0)) fun d10 =>
  bi (wantF d9 false (idxSl 1 d10 (I .i64 0))) fun d11 =>
  bi (wantF d9 false (loadG false 1 d11 h0)) fun d12 =>
  bi (wantF d9 false (eqK .u8 d12 (I .u8 43))) fun d13 =>
  bi (wantF d9 false (some d13)) fun d14 =>
  bi (wantF d14 true (some a0)) fun d15 =>
  bi (wantF d14 true (lenD d15)) fun d16 =>
  bi (wantF d14 true (gtK .i64 d16 (I .i64 1))) fun d17 =>
  bi (wantF d9 false (pickD d14 d17 (Bo false))) fun d18 =>
  bi (wantF d9 false (some d18)) fun d19 =>
  bi (wantF d19 true (some a0)) fun d20 =>
  bi (wantF d19 true (idxSl 1 d20 (I .i64 1))) fun d21 =>
  bi (wantF d19 true (loadG false 1 d21 h0)) fun d22 =>
  bi (wantF d19 true (neK .u8 d22 (I .u8 14))) fun d23 =>
  bi (wantF d9 false (pickD d19 d23 (Bo false))) fun d24 =>
  bi (pickD d9 (Bo true) d24) fun d25 =>
  condR d25 (
   bi (buildS (.agg [(I .i64 0), (I .i64 0), (I .i64 0), (I .i64 0), (.list 0 [] .ti), (.list 0 [] .ti), (I .u16 0), (I .u16 0)]) [(0, 1), (1, 1), (2, 1), (3, 1), (4, 1), (5, 1), (6, 1), (7, 1)] []) fun d26 =>
   bi (storeG 8 (.ptr (List.length H) 0) d26 h0 fl) fun h27 =>
  bi (cellR true 8 (.ptr (List.length H) 0) h27) fun r0 =>
  some ((.tup [r0, (I .i64 1)]), h27)) (
  bi (cP n 52 false [a0]) fun d28 =>
  bi (allocG 30 (.agg [(I .i64 0), (I .i64 0), (I .i64 0), (I .i64 0), (.list 0 [] .ti), (.list 0 [] .ti), (I .u16 0), (I .u16 0)]) (List.length h0) (h0 ++ [.hole])) fun h29 =>
  bi (storeG 8 (.ptr (List.length h0) 0) d28 h29 fl) fun h30 =>
  bi (loadG true 8 (.ptr (List.length h0) 0) h30) fun d31 =>
  bi (cP n 53 false [d31]) fun d32 =>
  bi (notD d32) fun d33 =>
  bi (wantF d33 false (loadG true 8 (.ptr (List.length h0) 0) h30)) fun d34 =>
  bi (wantF d33 false (cP n 46 false [d34])) fun d35 =>
  bi (wantF d33 false (some a0)) fun d36 =>
  bi (wantF d33 false (cP n 18 false [d35, d36])) fun d37 =>
  bi (wantF d33 false (notD d37)) fun d38 =>
  bi (pickD d33 (Bo true) d38) fun d39 =>
  condR d39 (
   bi (buildS (.agg [(I .i64 0), (I .i64 0), (I .i64 0), (I .i64 0), (.list 0 [] .ti), (.list 0 [] .ti), (I .u16 0), (I .u16 0)]) [(0, 1), (1, 1), (2, 1), (3, 1), (4, 1), (5, 1), (6, 1), (7, 1)] []) fun d40 =>
   bi (storeG 8 (.ptr (List.length H) 0) d40 h30 fl) fun h41 =>
  bi (cellR true 8 (.ptr (List.length H) 0) h41) fun r0 =>
  some ((.tup [r0, (I .i64 3)]), h41)) (
  bi (loadG true 8 (.ptr (List.length h0) 0) h30) fun d42 =>
  bi (cP n 54 false [d42]) fun d43 =>
  bi (notD d43) fun d44 =>
  condR d44 (
   bi (buildS (.agg [(I .i64 0), (I .i64 0), (I .i64 0), (I .i64 0), (.list 0 [] .ti), (.list 0 [] .ti), (I .u16 0), (I .u16 0)]) [(0, 1), (1, 1), (2, 1), (3, 1), (4, 1), (5, 1), (6, 1), (7, 1)] []) fun d45 =>
   bi (storeG 8 (.ptr (List.length H) 0) d45 h30 fl) fun h46 =>
  bi (cellR true 8 (.ptr (List.length H) 0) h46) fun r0 =>
  some ((.tup [r0, (I .i64 2)]), h46)) (
  bi (loadG true 8 (.ptr (List.length h0) 0) h30) fun d47 =>
  bi (storeG 8 (.ptr (List.length H) 0) d47 h30 fl) fun h48 =>
  bi (cellR true 8 (.ptr (List.length H) 0) h48) fun r0 =>
  some ((.tup [r0, (I .i64 0)]), h48))))
theorem s_triuneref06_Parse_eq (n : Nat) (H : Heap) (fl : Nat) (a0 : DV) : callG Try.prog ENV (n + 1) 17 [a0] H fl = s_triuneref06_Parse n H fl a0 := by kernel_rfl

/-! triune/triuneref06.Writes -/
noncomputable def s_triuneref06_Writes (n : Nat) (H : Heap) (fl : Nat) (a0 : DV) : R :=
  bi (eqK .i64 a0 (I .i64 5)) fun d0 =>
  bi (wantF d0 false (some a0)) fun d1 =>
  bi (wantF d0 false (eqK .i64 d1 (I .i64 6))) fun d2 =>
  bi (pickD d0 (Bo true) d2) fun d3 =>
  bi (wantF d3 false (some a0)) fun d4 =>
  bi (wantF d3 false (eqK .i64 d4 (I .i64 15))) fun d5 =>
  bi (pickD d3 (Bo true) d5) fun d6 =>
  bi (wantF d6 false (some a0)) fun d7 =>
  bi (wantF d6 false (eqK .i64 d7 (I .i64 16))) fun d8 =>
  bi (pickD d6 (Bo true) d8) fun d9 =>
  bi (wantF d9 false (some a0)) fun d10 =>
  bi (wantF d9 false (eqK .i64 d10 (I .i64 22))) fun d11 =>
  bi (pickD d9 (Bo true) d11) fun d12 =>
  bi (wantF d12 false (some a0)) fun d13 =>
  bi (wantF d12 false (eqK .i64 d13 (I .i64 23))) fun d14 =>
  bi (pickD d12 (Bo true) d14) fun d15 =>
  some (d15, H)
theorem s_triuneref06_Writes_eq (n : Nat) (H : Heap) (fl : Nat) (a0 : DV) : callG Try.prog ENV (n + 1) 23 [a0] H fl = s_triuneref06_Writes n H fl a0 := by kernel_rfl

/-! triune/triuneref06.most -/
noncomputable def s_triuneref06_most (n : Nat) (H : Heap) (fl : Nat) (a0 : DV) : R :=
  bi (eqK .i64 a0 (I .i64 1)) fun d0 =>
  condR d0 (
  condR d0 (
  some ((.tup [(I .i64 2000), (I .i64 0), (I .i64 0)]), H)) (
   bi (eqK .i64 a0 (I .i64 3)) fun d1 =>
   condR d1 (
   condR d1 (
  some ((.tup [(I .i64 125), (I .i64 0), (I .i64 0)]), H)) (
    bi (eqK .i64 a0 (I .i64 5)) fun d2 =>
    condR d2 (
  some ((.tup [(I .i64 0), (I .i64 0), (I .i64 1)]), H)) (
     bi (eqK .i64 a0 (I .i64 6)) fun d3 =>
     condR d3 (
  some ((.tup [(I .i64 0), (I .i64 1), (I .i64 0)]), H)) (
      bi (eqK .i64 a0 (I .i64 15)) fun d4 =>
      condR d4 (
  some ((.tup [(I .i64 0), (I .i64 0), (I .i64 1968)]), H)) (
       bi (eqK .i64 a0 (I .i64 16)) fun d5 =>
       condR d5 (
  some ((.tup [(I .i64 0), (I .i64 123), (I .i64 0)]), H)) (
        bi (eqK .i64 a0 (I .i64 23)) fun d6 =>
        condR d6 (
  some ((.tup [(I .i64 125), (I .i64 121), (I .i64 0)]), H)) (
         bi (eqK .i64 a0 (I .i64 43)) fun d7 =>
         condR d7 (
  some ((.tup [(I .i64 4), (I .i64 0), (I .i64 0)]), H)) (
  some ((.tup [(I .i64 0), (I .i64 0), (I .i64 0)]), H))))))))) (
    bi (eqK .i64 a0 (I .i64 4)) fun d8 =>
   condR d8 (
  some ((.tup [(I .i64 125), (I .i64 0), (I .i64 0)]), H)) (
    bi (eqK .i64 a0 (I .i64 5)) fun d9 =>
    condR d9 (
  some ((.tup [(I .i64 0), (I .i64 0), (I .i64 1)]), H)) (
     bi (eqK .i64 a0 (I .i64 6)) fun d10 =>
     condR d10 (
  some ((.tup [(I .i64 0), (I .i64 1), (I .i64 0)]), H)) (
      bi (eqK .i64 a0 (I .i64 15)) fun d11 =>
      condR d11 (
  some ((.tup [(I .i64 0), (I .i64 0), (I .i64 1968)]), H)) (
       bi (eqK .i64 a0 (I .i64 16)) fun d12 =>
       condR d12 (
  some ((.tup [(I .i64 0), (I .i64 123), (I .i64 0)]), H)) (
        bi (eqK .i64 a0 (I .i64 23)) fun d13 =>
        condR d13 (
  some ((.tup [(I .i64 125), (I .i64 121), (I .i64 0)]), H)) (
         bi (eqK .i64 a0 (I .i64 43)) fun d14 =>
         condR d14 (
  some ((.tup [(I .i64 4), (I .i64 0), (I .i64 0)]), H)) (
  some ((.tup [(I .i64 0), (I .i64 0), (I .i64 0)]), H))))))))))) (
   bi (eqK .i64 a0 (I .i64 2)) fun d15 =>
  condR d15 (
  some ((.tup [(I .i64 2000), (I .i64 0), (I .i64 0)]), H)) (
   bi (eqK .i64 a0 (I .i64 3)) fun d16 =>
   condR d16 (
   condR d16 (
  some ((.tup [(I .i64 125), (I .i64 0), (I .i64 0)]), H)) (
    bi (eqK .i64 a0 (I .i64 5)) fun d17 =>
    condR d17 (
  some ((.tup [(I .i64 0), (I .i64 0), (I .i64 1)]), H)) (
     bi (eqK .i64 a0 (I .i64 6)) fun d18 =>
     condR d18 (
  some ((.tup [(I .i64 0), (I .i64 1), (I .i64 0)]), H)) (
      bi (eqK .i64 a0 (I .i64 15)) fun d19 =>
      condR d19 (
  some ((.tup [(I .i64 0), (I .i64 0), (I .i64 1968)]), H)) (
       bi (eqK .i64 a0 (I .i64 16)) fun d20 =>
       condR d20 (
  some ((.tup [(I .i64 0), (I .i64 123), (I .i64 0)]), H)) (
        bi (eqK .i64 a0 (I .i64 23)) fun d21 =>
        condR d21 (
  some ((.tup [(I .i64 125), (I .i64 121), (I .i64 0)]), H)) (
         bi (eqK .i64 a0 (I .i64 43)) fun d22 =>
         condR d22 (
  some ((.tup [(I .i64 4), (I .i64 0), (I .i64 0)]), H)) (
  some ((.tup [(I .i64 0), (I .i64 0), (I .i64 0)]), H))))))))) (
    bi (eqK .i64 a0 (I .i64 4)) fun d23 =>
   condR d23 (
  some ((.tup [(I .i64 125), (I .i64 0), (I .i64 0)]), H)) (
    bi (eqK .i64 a0 (I .i64 5)) fun d24 =>
    condR d24 (
  some ((.tup [(I .i64 0), (I .i64 0), (I .i64 1)]), H)) (
     bi (eqK .i64 a0 (I .i64 6)) fun d25 =>
     condR d25 (
  some ((.tup [(I .i64 0), (I .i64 1), (I .i64 0)]), H)) (
      bi (eqK .i64 a0 (I .i64 15)) fun d26 =>
      condR d26 (
  some ((.tup [(I .i64 0), (I .i64 0), (I .i64 1968)]), H)) (
       bi (eqK .i64 a0 (I .i64 16)) fun d27 =>
       condR d27 (
  some ((.tup [(I .i64 0), (I .i64 123), (I .i64 0)]), H)) (
        bi (eqK .i64 a0 (I .i64 23)) fun d28 =>
        condR d28 (
  some ((.tup [(I .i64 125), (I .i64 121), (I .i64 0)]), H)) (
         bi (eqK .i64 a0 (I .i64 43)) fun d29 =>
         condR d29 (
  some ((.tup [(I .i64 4), (I .i64 0), (I .i64 0)]), H)) (
  some ((.tup [(I .i64 0), (I .i64 0), (I .i64 0)]), H)))))))))))
theorem s_triuneref06_most_eq (n : Nat) (H : Heap) (fl : Nat) (a0 : DV) : callG Try.prog ENV (n + 1) 90 [a0] H fl = s_triuneref06_most n H fl a0 := by kernel_rfl

/-! triune/triuneref06.is -/
def s_triuneref06_is_I0 (x0 x3 x4 : DV) : List DV := [x0, .any, .any, x3, x4, .any, .any, .any, .any, .any, .any, .any, .any, .any, .any, .any, .any, .any]
def s_triuneref06_is_O0 (x2 : DV) : List DV := [.any, .any, x2, .any, .any, .any, .any, .any, .any, .any, .any, .any, .any, .any, .any, .any, .any, .any]
noncomputable abbrev s_triuneref06_is_b0 (n fl : Nat) : List DV → Heap → (Ex → KF) → R := execG ⟨Try.prog, callG Try.prog ENV n, ENV.md, fl, 18⟩ n (loopAt (bodyOf Try.f51) 0) []
noncomputable def s_triuneref06_is_B0 (n fl : Nat) (rec : DV → DV → DV → Heap → R) (k : Ex → KF) (x0 x3 x4 : DV) (H : Heap) : R :=
  bi (lenD x3) fun d0 =>
  bi (ltK .i64 x4 d0) fun d1 =>
  condR d1 (
  bi (idxSl 1 x3 x4) fun d2 =>
  bi (loadG false 1 d2 H) fun d3 =>
  bi (eqK .i64 d3 x0) fun d4 =>
  condR d4 (
  k .ret (s_triuneref06_is_O0 (Bo true)) H) (
  bi (addK .i64 x4 (I .i64 1)) fun d5 =>
  rec x0 x3 d5 H)) (
  k (.exit 0) (s_triuneref06_is_O0 .any) H)
noncomputable def s_triuneref06_is_L0 (n fl : Nat) (k : Ex → KF) : Nat → DV → DV → DV → Heap → R
  | 0, _, _, _, _ => none
  | m + 1, x0, x3, x4, H => s_triuneref06_is_B0 n fl (s_triuneref06_is_L0 n fl k m) k x0 x3 x4 H
theorem s_triuneref06_is_S0 (n fl m : Nat) (k : Ex → KF) (x0 x3 x4 : DV) (H : Heap) : loopG [0, 3, 4] [2] 18 (s_triuneref06_is_b0 n fl) (m + 1) (s_triuneref06_is_I0 x0 x3 x4) H k = s_triuneref06_is_B0 n fl (fun x0 x3 x4 H => loopG [0, 3, 4] [2] 18 (s_triuneref06_is_b0 n fl) m (s_triuneref06_is_I0 x0 x3 x4) H k) k x0 x3 x4 H := by kernel_rfl
theorem s_triuneref06_is_L0_eq (n fl : Nat) (k : Ex → KF) : ∀ (m : Nat) (x0 x3 x4 : DV) (H : Heap), loopG [0, 3, 4] [2] 18 (s_triuneref06_is_b0 n fl) m (s_triuneref06_is_I0 x0 x3 x4) H k = s_triuneref06_is_L0 n fl k m x0 x3 x4 H := by
  intro m
  induction m with
  | zero => intros; rfl
  | succ m ih =>
    intro x0 x3 x4 H
    rw [s_triuneref06_is_S0, show (fun x0 x3 x4 H => loopG [0, 3, 4] [2] 18 (s_triuneref06_is_b0 n fl) m (s_triuneref06_is_I0 x0 x3 x4) H k) = s_triuneref06_is_L0 n fl k m from by funext x0 x3 x4 H; exact ih _ _ _ _]
    rw [s_triuneref06_is_L0]
noncomputable def s_triuneref06_is (n : Nat) (H : Heap) (fl : Nat) (a0 : DV) : R :=
  bi (buildL false 1 11 (I .i64 0) [(0, (I .i64 1)), (1, (I .i64 2)), (2, (I .i64 3)), (3, (I .i64 4)), (4, (I .i64 5)), (5, (I .i64 6)), (6, (I .i64 15)), (7, (I .i64 16)), (8, (I .i64 22)), (9, (I .i64 23)), (10, (I .i64 43))]) fun d0 =>
  loopG [0, 3, 4] [2] 18 (s_triuneref06_is_b0 n fl) n (s_triuneref06_is_I0 a0 d0 (I .i64 0)) H fun x S1 h1 => match x with
  | .normal => none
  | .exit i1 => (
  if i1 = 0 then (
  some ((Bo false), h1)) else (
  none))
  | .ret => (
  some ((S1.getD 2 .any), h1))
theorem s_triuneref06_is_eq (n : Nat) (H : Heap) (fl : Nat) (a0 : DV) : callG Try.prog ENV (n + 1) 51 [a0] H fl = s_triuneref06_is n H fl a0 := by kernel_rfl

/-! triune/triuneref06.fits -/
noncomputable def s_triuneref06_fits (n : Nat) (H : Heap) (fl : Nat) (a0 a1 : DV) : R :=
  bi (eqK .i64 a0 (I .i64 0)) fun d0 =>
  bi (wantF d0 true (some a1)) fun d1 =>
  bi (wantF d0 true (eqK .i64 d1 (I .i64 0))) fun d2 =>
  bi (pickD d0 d2 (Bo false)) fun d3 =>
  bi (wantF d3 false (some a0)) fun d4 =>
  bi (wantF d3 false (geK .i64 d4 (I .i64 1))) fun d5 =>
  bi (wantF d3 false (some d5)) fun d6 =>
  bi (wantF d6 true (some a0)) fun d7 =>
  bi (wantF d6 true (some a1)) fun d8 =>
  bi (wantF d6 true (leK .i64 d7 d8)) fun d9 =>
  bi (wantF d3 false (pickD d6 d9 (Bo false))) fun d10 =>
  bi (pickD d3 (Bo true) d10) fun d11 =>
  some (d11, H)
theorem s_triuneref06_fits_eq (n : Nat) (H : Heap) (fl : Nat) (a0 a1 : DV) : callG Try.prog ENV (n + 1) 91 [a0, a1] H fl = s_triuneref06_fits n H fl a0 a1 := by kernel_rfl

/-! triune/triuneref06.formed -/
noncomputable def s_triuneref06_formed (n : Nat) (H : Heap) (fl : Nat) (a0 : DV) : R :=
  bi (allocG 30 a0 (List.length H) (H ++ [.hole])) fun h0 =>
  bi (loadG false 1 (.ptr (List.length H) 0) h0) fun d1 =>
  bi (cP n 90 false [d1]) fun d2 =>
  bi (extD 0 d2) fun d3 =>
  bi (extD 1 d2) fun d4 =>
  bi (extD 2 d2) fun d5 =>
  bi (loadG false 1 (.ptr (List.length H) 0) h0) fun d6 =>
  bi (cP n 51 false [d6]) fun d7 =>
  bi (notD d7) fun d8 =>
  bi (wantF d8 false (some (.ptr (List.length H) 2))) fun d9 =>
  bi (wantF d8 false (loadG false 1 d9 h0)) fun d10 =>
  bi (wantF d8 false (some d3)) fun d11 =>
  bi (wantF d8 false (cP n 91 false [d10, d11])) fun d12 =>
  bi (wantF d8 false (notD d12)) fun d13 =>
  bi (pickD d8 (Bo true) d13) fun d14 =>
  bi (wantF d14 false (some (.ptr (List.length H) 4))) fun d15 =>
  bi (wantF d14 false (loadG false 1 d15 h0)) fun d16 =>
  bi (wantF d14 false (lenD d16)) fun d17 =>
  bi (wantF d14 false (some d4)) fun d18 =>
  bi (wantF d14 false (cP n 91 false [d17, d18])) fun d19 =>
  bi (wantF d14 false (notD d19)) fun d20 =>
  bi (pickD d14 (Bo true) d20) fun d21 =>
  bi (wantF d21 false (some (.ptr (List.length H) 5))) fun d22 =>
  bi (wantF d21 false (loadG false 1 d22 h0)) fun d23 =>
  bi (wantF d21 false (lenD d23)) fun d24 =>
  bi (wantF d21 false (some d5)) fun d25 =>
  bi (wantF d21 false (cP n 91 false [d24, d25])) fun d26 =>
  bi (wantF d21 false (notD d26)) fun d27 =>
  bi (pickD d21 (Bo true) d27) fun d28 =>
  condR d28 (
  some ((Bo false), h0)) (
  bi (loadG false 1 (.ptr (List.length H) 0) h0) fun d29 =>
  bi (neK .i64 d29 (I .i64 22)) fun d30 =>
  bi (wantF d30 true (some (.ptr (List.length H) 6))) fun d31 =>
  bi (wantF d30 true (loadG false 1 d31 h0)) fun d32 =>
  bi (wantF d30 true (neK .u16 d32 (I .u16 0))) fun d33 =>
  bi (wantF d30 true (some d33)) fun d34 =>
  bi (wantF d34 false (some (.ptr (List.length H) 7))) fun d35 =>
  bi (wantF d34 false (loadG false 1 d35 h0)) fun d36 =>
  bi (wantF d34 false (neK .u16 d36 (I .u16 0))) fun d37 =>
  bi (wantF d30 true (pickD d34 (Bo true) d37)) fun d38 =>
  bi (pickD d30 d38 (Bo false)) fun d39 =>
  bi (wantF d39 false (some (.ptr (List.length H) 0))) fun d40 =>
  bi (wantF d39 false (loadG false 1 d40 h0)) fun d41 =>
  bi (wantF d39 false (neK .i64 d41 (I .i64 23))) fun d42 =>
  bi (wantF d39 false (some d42)) fun d43 =>
  bi (wantF d43 true (some (.ptr (List.length H) 3))) fun d44 =>
  bi (wantF d43 true (loadG false 1 d44 h0)) fun d45 =>
  bi (wantF d43 true (neK .i64 d45 (I .i64 0))) fun d46 =>
  bi (wantF d39 false (pickD d43 d46 (Bo false))) fun d47 =>
  bi (pickD d39 (Bo true) d47) fun d48 =>
  condR d48 (
  some ((Bo false), h0)) (
  bi (loadG false 1 (.ptr (List.length H) 1) h0) fun d49 =>
  bi (geK .i64 d49 (I .i64 0)) fun d50 =>
  bi (wantF d50 true (some (.ptr (List.length H) 1))) fun d51 =>
  bi (wantF d50 true (loadG false 1 d51 h0)) fun d52 =>
  bi (wantF d50 true (leK .i64 d52 (I .i64 65535))) fun d53 =>
  bi (pickD d50 d53 (Bo false)) fun d54 =>
  bi (wantF d54 true (some (.ptr (List.length H) 3))) fun d55 =>
  bi (wantF d54 true (loadG false 1 d55 h0)) fun d56 =>
  bi (wantF d54 true (geK .i64 d56 (I .i64 0))) fun d57 =>
  bi (pickD d54 d57 (Bo false)) fun d58 =>
  bi (wantF d58 true (some (.ptr (List.length H) 3))) fun d59 =>
  bi (wantF d58 true (loadG false 1 d59 h0)) fun d60 =>
  bi (wantF d58 true (leK .i64 d60 (I .i64 65535))) fun d61 =>
  bi (pickD d58 d61 (Bo false)) fun d62 =>
  bi (wantF d62 true (some (.ptr (List.length H) 0))) fun d63 =>
  bi (wantF d62 true (loadG false 1 d63 h0)) fun d64 =>
  bi (wantF d62 true (neK .i64 d64 (I .i64 43))) fun d65 =>
  bi (wantF d62 true (some d65)) fun d66 =>
  bi (wantF d66 false (some (.ptr (List.length H) 1))) fun d67 =>
  bi (wantF d66 false (loadG false 1 d67 h0)) fun d68 =>
  bi (wantF d66 false (leK .i64 d68 (I .i64 255))) fun d69 =>
  bi (wantF d62 true (pickD d66 (Bo true) d69)) fun d70 =>
  bi (pickD d62 d70 (Bo false)) fun d71 =>
  some (d71, h0)))
theorem s_triuneref06_formed_eq (n : Nat) (H : Heap) (fl : Nat) (a0 : DV) : callG Try.prog ENV (n + 1) 53 [a0] H fl = s_triuneref06_formed n H fl a0 := by kernel_rfl

/-! triune/triuneref06.placed -/
noncomputable def s_triuneref06_placed (n : Nat) (H : Heap) (fl : Nat) (a0 : DV) : R :=
  bi (allocG 30 a0 (List.length H) (H ++ [.hole])) fun h0 =>
  bi (loadG false 1 (.ptr (List.length H) 2) h0) fun d1 =>
  bi (loadG false 1 (.ptr (List.length H) 5) h0) fun d2 =>
  bi (lenD d2) fun d3 =>
  bi (builtD Try.prog .max #[3, 3, 3] 3 [d1, d3, (I .i64 1)]) fun d4 =>
  bi (loadG false 1 (.ptr (List.length H) 0) h0) fun d5 =>
  bi (eqK .i64 d5 (I .i64 23)) fun d6 =>
  condR d6 (
   bi (loadG false 1 (.ptr (List.length H) 1) h0) fun d7 =>
   bi (loadG false 1 (.ptr (List.length H) 2) h0) fun d8 =>
   bi (addK .i64 d7 d8) fun d9 =>
   bi (leK .i64 d9 (I .i64 65536)) fun d10 =>
   bi (wantF d10 true (some (.ptr (List.length H) 3))) fun d11 =>
   bi (wantF d10 true (loadG false 1 d11 h0)) fun d12 =>
   bi (wantF d10 true (some (.ptr (List.length H) 4))) fun d13 =>
   bi (wantF d10 true (loadG false 1 d13 h0)) fun d14 =>
   bi (wantF d10 true (lenD d14)) fun d15 =>
   bi (wantF d10 true (addK .i64 d12 d15)) fun d16 =>
   bi (wantF d10 true (leK .i64 d16 (I .i64 65536))) fun d17 =>
   bi (pickD d10 d17 (Bo false)) fun d18 =>
  some (d18, h0)) (
  bi (loadG false 1 (.ptr (List.length H) 0) h0) fun d19 =>
  bi (eqK .i64 d19 (I .i64 43)) fun d20 =>
  bi (wantF d20 false (some (.ptr (List.length H) 1))) fun d21 =>
  bi (wantF d20 false (loadG false 1 d21 h0)) fun d22 =>
  bi (wantF d20 false (some d4)) fun d23 =>
  bi (wantF d20 false (some (.ptr (List.length H) 4))) fun d24 =>
  bi (wantF d20 false (loadG false 1 d24 h0)) fun d25 =>
  bi (wantF d20 false (lenD d25)) fun d26 =>
  bi (wantF d20 false (maxI d23 d26)) fun d27 =>
  bi (wantF d20 false (addK .i64 d22 d27)) fun d28 =>
  bi (wantF d20 false (leK .i64 d28 (I .i64 65536))) fun d29 =>
  bi (pickD d20 (Bo true) d29) fun d30 =>
  some (d30, h0))
theorem s_triuneref06_placed_eq (n : Nat) (H : Heap) (fl : Nat) (a0 : DV) : callG Try.prog ENV (n + 1) 54 [a0] H fl = s_triuneref06_placed n H fl a0 := by kernel_rfl

/-! triune/triuneref06.Right -/
noncomputable def s_triuneref06_Right (n : Nat) (H : Heap) (fl : Nat) (a0 : DV) : R :=
  bi (allocG 30 a0 (List.length H) (H ++ [.hole])) fun h0 =>
  bi (loadG true 8 (.ptr (List.length H) 0) h0) fun d1 =>
  bi (cP n 53 false [d1]) fun d2 =>
  bi (wantF d2 true (loadG true 8 (.ptr (List.length H) 0) h0)) fun d3 =>
  bi (wantF d2 true (cP n 54 false [d3])) fun d4 =>
  bi (pickD d2 d4 (Bo false)) fun d5 =>
  some (d5, h0)
theorem s_triuneref06_Right_eq (n : Nat) (H : Heap) (fl : Nat) (a0 : DV) : callG Try.prog ENV (n + 1) 21 [a0] H fl = s_triuneref06_Right n H fl a0 := by kernel_rfl

end Go.Proofs.Ytjkofefcoeejbaa
