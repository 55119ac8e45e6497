/- Texts of mine, laid together: Word, Clo, PrimW, PrimS, GPrimC, GAskE, Op, Shp, GAskL, FAskA, GAskP, FPut, GPut, FBytes, GBytes, Sym, GAskA. -/
import Derived.Test.YtcpgmbpndpcmdaaKN4
import Derived.Deep.RegionHeld3
import Derived.IntWalk
import Derived.Lib.SliceRun
import Derived.WalkKit
import Derived.Below
import Derived.Lib.Walk
import Derived.Lib.AppendZerosOnto
import Derived.LaidEql
import Derived.RowKitTokens
import Derived.Stop.Asserts
import Derived.Lib.IfaceEq
import Derived.SizedLaws
import Derived.ChangeSlices
import Derived.OpenShut
import Derived.ChangeArms
namespace Go.Proofs.Ytcpgmbpndpcmdaa
open Go.RowKit
theorem infoB : (Try.prog.info? 5).map (fun i => (i.zero, i.size, i.bytes)) = some (some (.int .u8 0), 1, 1) := by kernel_rfl
theorem infoW : (Try.prog.info? 26).map (fun i => (i.zero, i.size, i.bytes)) = some (some (.int .u16 0), 1, 2) := by kernel_rfl
theorem infoT : (Try.prog.info? 4).map (fun i => (i.zero, i.size, i.bytes)) = some (some (.bool false), 1, 1) := by kernel_rfl
set_option maxHeartbeats 400000 in
theorem word_Put (n : Int) (w : World) (h0 : 0 ≤ n) (h1 : n < 65536) :
    Calls Try.prog 54 #[.int .u16 n] w fun e w' => e = .returned (.agg #[.int .u8 (n / 256), .int .u8 (n % 256)]) ∧ Below w.heap.size w w' := by
  go_enter Try.func54, Try.ntmps54
  go_wp2
  refine bodyPost_ret (v := .agg #[.int .u8 (n / 256), .int .u8 (n % 256)]) (by simp [results, Try.results54, go_sem]) rfl ?_
  exact ⟨rfl, belowA (Below.refl _ w) _⟩
set_option maxHeartbeats 400000 in
theorem word_Words_no (v : Value) (l : List UInt8) (w : World) (h : RdV encB w v l) (hn : l.length % 2 = 1) :
    Calls Try.prog 80 #[v] w fun e w' => e = .returned (.tuple #[.slice none 0 0, .bool false]) ∧ w = w' := by
  obtain ⟨a, c, rfl, hc, hm, _⟩ := h.open
  have hb : (Go.bits .and .i64 (l.length : Int) 1 == 1) = true := by rw [and1_i64 _ (by omega) (by omega), beq_iff_eq]; omega
  clear hn
  go_enter Try.func80, Try.ntmps80
  go_wp2
  go_ret2
  exact ⟨rfl, rfl⟩
set_option maxRecDepth 100000 in
set_option maxHeartbeats 400000 in
theorem word_Words_yes (v : Value) (l : List UInt8) (w : World) (h : RdV encB w v l) (hn : l.length % 2 = 0) (hl : l.length ≤ 100000) :
    Calls Try.prog 80 #[v] w fun e w' => ∃ v', e = .returned (.tuple #[v', .bool true]) ∧ Own encW 26 w' w.heap.size v' (wWords l) ∧ Below w.heap.size w w' := by
  obtain ⟨a, c, rfl, hc, hm, hcl⟩ := h.open
  have hcl' := Lib.hid hcl
  clear hcl
  have hb : (Go.bits .and .i64 (l.length : Int) 1 == 1) = false := by rw [and1_i64 _ (by omega) (by omega), beq_eq_false_iff_ne]; omega
  have hn' := Lib.hid hn
  clear hn
  go_enter Try.func80, Try.ntmps80
  go_wp2
  go_loopw [4, 5] (fun x i wr => ∃ k : Nat, k ≤ l.length ∧ k % 2 = 0 ∧ i = .int .i64 k ∧ Own encW 26 wr w.heap.size x (wWords (l.take k)) ∧ Below w.heap.size w wr) (fun _ i _ => l.length - (intOf i).toNat)
  case atStart => exact ⟨0, Nat.zero_le _, rfl, rfl, Own.nil _ _ _ _, Below.refl _ _⟩
  case round =>
    obtain ⟨k, hk, hk2, rfl, ho, hB⟩ := hrel
    clear hb
    have hn := hn'.out
    have hcl := hcl'.out
    by_cases hlt : k < l.length
    · obtain ⟨b, o, rfl, hcell⟩ := hcl.resolve_left (by omega)
      have hx0 := hcell k hlt
      have hlx := World.block_lt_of_cell? _ _ hx0
      simp only [] at hlx
      have hx := (hB.cell (p := ⟨b, o + k, none⟩) hlx).trans hx0
      have hy := (hB.cell (p := ⟨b, o + (k + 1), none⟩) hlx).trans (hcell (k + 1) (by omega))
      simp only [encB] at hx hy
      have ag := (fun e => absurd (ho.base b e).1 (by omega) : _ = some b → False)
      have hlr := Nat.lt_of_lt_of_le hlx hB.size
      have hs := Lib.hid (wWords_step l k (by omega) hk2)
      clear hcell hcl hx0
      go_wp2
      have q0 : (0 : Int) ≤ (k : Int) := by omega
      have q1 : (k : Int) < (l.length : Int) := by omega
      have q2 : (0 : Int) ≤ (k : Int) + 1 := by omega
      have q3 : (k : Int) + 1 < (l.length : Int) := by omega
      have q4 : IntKind.i64.wrap ((k : Int) + 1) = (k : Int) + 1 := IntWalk.i64_in _ (by omega)
      have q5 : ((k : Int) + 1).toNat = k + 1 := by omega
      have lenF : ((wWords (l.take k)).length + [mkW l[k] l[k + 1]].length) * 2 ≤ 140737488355328 := by rw [wWords_len, List.length_take, List.length_singleton]; omega
      go_region_held3 (fun w' => w'.cell? ⟨b, o + k, none⟩ = some (.int .u8 (l[k].toNat : Int)) ∧ w'.cell? ⟨b, o + (k + 1), none⟩ = some (.int .u8 (l[k + 1].toNat : Int)))
        (first | (go_split_ands; refine ⟨hg1.cell ?_ (fun e => ag e.symm), hg1.cell ?_ (fun e => ag e.symm)⟩ <;> assumption) | (go_keep; done))
        ((refine step_app (enc := encW) (l := wWords (l.take k)) (m := [mkW l[k] l[k + 1]]) encW_one rfl _ _ _ rfl 26 (.int .u16 0) 2 Try.underlying24 infoW rfl w.heap.size _ rfl (by first | exact ho.drew.alloc _ | exact (ho.alloc _).drew) _ rfl (RdV.drew (RdV.lit encW _ _ [mkW l[k] l[k + 1]] _ _ _ rfl (Nat.le_refl _) (by simp) (by simp [encW, or_mkW]))) (by simp) lenF (by omega) (by first | exact Nat.le_succ_of_le hB.size | (simp; exact Nat.le_succ_of_le hB.size)) ?_; intro v1 w1 ho1 hg1))
      clear q0 q1 q2 q3 q4 q5
      go_wp2
      go_roundw
      case rel => exact ⟨k + 2, by omega, by omega, by go_num, by rw [hs.out]; exact ho1, by first | exact belowG (Below.drew (belowA hB _)) hg1 (fun k hk => (ho.base k hk).1) | exact belowG (belowA (Below.drew hB) _) hg1 (fun k hk => (ho.base k hk).1)⟩
      case measure => simp [intOf]; omega
    · obtain rfl : k = l.length := by omega
      rw [List.take_length] at ho
      go_wp2
      go_ret2
      exact ⟨_, rfl, ho, hB⟩
set_option maxHeartbeats 400000 in
theorem word_Bytes1 (n : UInt16) (w : World) :
    Calls Try.prog 53 #[.int .u16 (n.toNat : Int)] w fun e w' => ∃ v', e = .returned v' ∧ RdV encB w' v' [UInt8.ofNat (n.toNat / 256), UInt8.ofNat (n.toNat % 256)] ∧ Below w.heap.size w w' := by
  have hn := n.toNat_lt
  go_enter Try.func53, Try.ntmps53
  go_wp2_with (go_at_call 54; refine (word_Put _ _ (by omega) (by omega)).mono ?_; rintro e w1 ⟨rfl, hB1⟩)
  go_ret
  exact ⟨_, rfl, RdV.lit encB _ _ _ _ _ _ rfl (Nat.le_refl _) (by simp) (by simp [encB]; omega), belowA hB1 _⟩
set_option maxRecDepth 100000 in
set_option maxHeartbeats 400000 in
theorem word_joined (v : Value) (l : List UInt16) (w : World) (h : RdV encW w v l) (hl : l.length ≤ 100000) :
    Calls Try.prog 52 #[v, .func (.func 53) #[] #[]] w fun e w' => ∃ v', e = .returned v' ∧ Own encB 5 w' w.heap.size v' (wBytes l) ∧ Below w.heap.size w w' := by
  obtain ⟨a, c, rfl, hc, hm, hcl⟩ := h.open
  go_enter Try.func52, Try.ntmps52
  go_wp2
  go_loopw [5, 10] (fun x i wr => ∃ k : Nat, k ≤ l.length ∧ i = .int .i64 k ∧ Own encB 5 wr w.heap.size x (wBytes (l.take k)) ∧ Below w.heap.size w wr) (fun _ i _ => l.length - (intOf i).toNat)
  case atStart => exact ⟨0, Nat.zero_le _, rfl, Own.nil _ _ _ _, Below.refl _ _⟩
  case round =>
    obtain ⟨k, hk, rfl, ho, hB⟩ := hrel
    by_cases hlt : k < l.length
    · obtain ⟨b, o, rfl, hcell⟩ := hcl.resolve_left (by omega)
      have hx0 := hcell k hlt
      have hlx := World.block_lt_of_cell? _ _ hx0
      simp only [] at hlx
      have hx := (hB.cell (p := ⟨b, o + k, none⟩) hlx).trans hx0
      simp only [encW] at hx
      have hs := Lib.hid (wBytes_step l k hlt)
      clear hcell hcl hx0
      have lenF : (wBytes (l.take k)).length + 2 ≤ 140737488355328 := by rw [wBytes_len, List.length_take]; omega
      go_wp2_with (first | (go_at_call 53; refine (word_Bytes1 _ _).mono ?_; rintro e w1 ⟨v1, rfl, hr1, hB1⟩) |
        (at_builtin; refine wp_app (enc := encB) (l := wBytes (l.take k)) (m := [UInt8.ofNat (l[k].toNat / 256), UInt8.ofNat (l[k].toNat % 256)]) encB_one rfl (.tmp 14) (.tmp 17) _ rfl _ _ _ Try.underlying39 infoB rfl w.heap.size _ rfl ?a1 _ rfl ?a2 ?a3 (by omega) ?a4 ?a5))
      case a1 => exact ho.below hB1
      case a2 => exact hr1
      case a3 => rw [Nat.mul_one]; exact lenF
      case a4 => exact (belowT hB hB1).size
      intro v2 w2 ho2 hg2
      go_wp2
      go_roundw
      case rel => exact ⟨k + 1, by omega, by go_num, by rw [hs.out]; exact ho2, belowG (belowT hB hB1) hg2 (fun k hk => (ho.base k hk).1)⟩
      case measure => simp [intOf]; omega
    · obtain rfl : k = l.length := by omega
      rw [List.take_length] at ho
      go_wp2
      go_ret
      exact ⟨_, rfl, ho, hB⟩
theorem word_Bytes (v : Value) (l : List UInt16) (w : World) (h : RdV encW w v l) (hl : l.length ≤ 100000) :
    Calls Try.prog 38 #[v] w fun e w' => ∃ v', e = .returned v' ∧ Own encB 5 w' w.heap.size v' (wBytes l) ∧ Below w.heap.size w w' := by
  go_enter Try.func38, Try.ntmps38
  go_wp2_with (go_at_call 52; refine (word_joined _ _ _ h hl).mono ?_; rintro e w1 ⟨v1, rfl, hr1, hB1⟩)
  go_ret
  exact ⟨_, rfl, hr1, hB1⟩
set_option maxRecDepth 100000 in
set_option maxHeartbeats 400000 in
theorem word_Pack (v : Value) (l : List Bool) (w : World) (h : RdV encT w v l) (hl : l.length ≤ 100000) :
    Calls Try.prog 37 #[v] w fun e w' => ∃ v', e = .returned v' ∧ Own encB 5 w' w.heap.size v' (wPack l) ∧ Below w.heap.size w w' := by
  obtain ⟨a, c, rfl, hc, hm, hcl⟩ := h.open
  obtain ⟨i0, hi0, hz0, hz1, hz2⟩ := info_parts infoB
  have hdiv : ((l.length : Int) + 8 - 1) / 8 = (((l.length + 7) / 8 : Nat) : Int) := by omega
  go_enter Try.func37, Try.ntmps37
  go_wp2_with (at_make; refine wpList_make_full _ rfl _ _ 39 rfl w.heap.size 5 i0 (.int .u8 0) 1 Try.underlying39 hi0 hz0 hz1 _ _ _ _ ((l.length + 7) / 8) rfl rfl ?a1 ?a2 ?a3 ?a4 ?a5 ?_)
  case a1 => exact hdiv
  case a2 => exact hdiv
  case a3 => rw [hz2]; omega
  case a4 => simp only [maxLen]; omega
  case a5 => exact Nat.le_refl _
  intro w1 hown hg1
  have ho1 : Own encB 5 w1 w.heap.size (.slice (some ⟨w.heap.size, 0, none⟩) ((l.length + 7) / 8) ((l.length + 7) / 8)) (pk (l.take 0) ((l.length + 7) / 8)) := by
    rw [List.take_zero, pk_nil]; exact Own.made (0 : UInt8) hown (by omega)
  have hB1 := belowG (Below.refl _ w) hg1 (by simp)
  clear hown hg1
  go_wp2
  go_loopw [14] (fun i wr => ∃ k : Nat, k ≤ l.length ∧ i = .int .i64 k ∧ Own encB 5 wr w.heap.size (.slice (some ⟨w.heap.size, 0, none⟩) ((l.length + 7) / 8) ((l.length + 7) / 8)) (pk (l.take k) ((l.length + 7) / 8)) ∧ Below w.heap.size w wr) (fun i _ => l.length - (intOf i).toNat)
  case atStart => exact ⟨0, Nat.zero_le _, rfl, ho1, hB1⟩
  case round =>
    clear ho1 hB1
    obtain ⟨k, hk, rfl, ho, hB⟩ := hrel
    by_cases hlt : k < l.length
    · obtain ⟨b, o, rfl, hcell⟩ := hcl.resolve_left (by omega)
      have hx0 := hcell k hlt
      have hlx := World.block_lt_of_cell? _ _ hx0
      simp only [] at hlx
      have hx := (hB.cell (p := ⟨b, o + k, none⟩) hlx).trans hx0
      simp only [encT] at hx
      have hn : k / 8 < (pk (l.take k) ((l.length + 7) / 8)).length := by rw [pk_len]; omega
      cases hv : l[k] with
      | false =>
        rw [hv] at hx
        have hs := Lib.hid (pk_false l k ((l.length + 7) / 8) hlt hv)
        clear hcell hcl hx0 hv
        go_wp2
        go_roundw
        case rel => exact ⟨k + 1, by omega, by go_num, by rw [hs.out]; exact ho, hB⟩
        case measure => simp [intOf]; omega
      | true =>
        rw [hv] at hx
        have hs := Lib.hid (pk_true l k ((l.length + 7) / 8) hlt hv hn).1
        have hc8 := (pk_true l k ((l.length + 7) / 8) hlt hv hn).2
        obtain ⟨hca, hfa⟩ := ho.at (k / 8) hn
        have hset := ho.set (k / 8) (UInt8.ofNat ((pk (l.take k) ((l.length + 7) / 8))[k / 8].toNat + 2 ^ (k % 8)))
        simp only [encB] at hca hset
        have hor := Lib.hid (or_bit _ (k % 8) (by omega) hc8)
        clear hcell hcl hx0 hv
        go_wp2
        go_region
        rw [hor.out]
        go_wp2
        go_roundw
        case rel => exact ⟨k + 1, by omega, by go_num, by rw [hs.out]; exact hset.1.drew, Below.drew (belowG hB hset.2 (by simp))⟩
        case measure => simp [intOf]; omega
    · obtain rfl : k = l.length := by omega
      rw [List.take_length, pk_all] at ho
      go_wp2
      go_ret
      exact ⟨_, rfl, ho, hB⟩
set_option maxRecDepth 100000 in
set_option maxHeartbeats 800000 in
theorem word_Bits_no (v : Value) (b : List UInt8) (n : Int) (w : World) (h : RdV encB w v b) (hn : n < 0 ∨ ¬ bitsFit b n.toNat) (hx1 : n ≤ 9223372036854775807) (hx0 : -9223372036854775808 ≤ n) :
    Calls Try.prog 78 #[v, .int .i64 n] w fun e w' => e = .returned (.tuple #[.slice none 0 0, .bool false]) ∧ w = w' := by
  obtain ⟨a, c, rfl, hc, hm, hcl⟩ := h.open
  by_cases h0 : n < 0
  · clear hn hcl
    go_enter Try.func78, Try.ntmps78
    go_wp2
    go_ret2
    exact ⟨rfl, rfl⟩
  · obtain ⟨m, rfl⟩ := Int.eq_ofNat_of_zero_le (by omega : 0 ≤ n)
    have hf := Lib.hid (hn.resolve_left h0)
    rw [Int.toNat_natCast] at hf
    clear hn
    by_cases hl : b.length = (m + 7) / 8
    · have q1 : (((b.length : Nat) : Int) != (m : Int) / 8 + ((m : Int) % 8 + 8 - 1) / 8) = false := by rw [bne_eq_false_iff_eq]; omega
      have h8 : 0 < m % 8 := by
        rcases Nat.eq_zero_or_pos (m % 8) with h | h
        · exact absurd ⟨hl, .inl h⟩ hf.out
        · exact h
      have hne : ¬ (b.getD (m / 8) 0).toNat / 2 ^ (m % 8) = 0 := fun h => hf.out ⟨hl, .inr h⟩
      obtain ⟨g, o, rfl, hcell⟩ := hcl.resolve_left (by omega)
      have hx := hcell (b.length - 1) (by omega)
      have e1 : b[b.length - 1]'(by omega) = b.getD (m / 8) 0 := by
        rw [List.getD_eq_getElem?_getD, List.getElem?_eq_getElem (by omega), Option.getD_some]
        congr 1; omega
      rw [e1] at hx
      simp only [encB] at hx
      generalize b.getD (m / 8) 0 = y at *
      have hl' := Lib.hid hl
      have hlb : 1 ≤ b.length := by omega
      have hne' : ((y.toNat : Int) / 2 ^ (m % 8) != 0) = true := by rw [shr_nat, bne_iff_ne]; omega
      clear hcell hcl e1 hl hne
      go_enter Try.func78, Try.ntmps78
      go_wp2
      go_ret2
      exact ⟨rfl, rfl⟩
    · have q1 : (((b.length : Nat) : Int) != (m : Int) / 8 + ((m : Int) % 8 + 8 - 1) / 8) = true := by rw [bne_iff_ne]; omega
      clear hcl hl
      go_enter Try.func78, Try.ntmps78
      go_wp2
      go_ret2
      exact ⟨rfl, rfl⟩
set_option maxRecDepth 100000 in
set_option maxHeartbeats 800000 in
theorem word_Bits_yes (v : Value) (b : List UInt8) (m : Nat) (w : World) (h : RdV encB w v b) (hf : bitsFit b m) (hx : m ≤ 800000) :
    Calls Try.prog 78 #[v, .int .i64 (m : Int)] w fun e w' => ∃ v', e = .returned (.tuple #[v', .bool true]) ∧ Own encT 4 w' w.heap.size v' (wBitsL b m) ∧ Below w.heap.size w w' := by
  obtain ⟨a, c, rfl, hc, hm, hcl⟩ := h.open
  have hl := hf.1
  have hf' := Lib.hid hf
  have q1 : (((b.length : Nat) : Int) != (m : Int) / 8 + ((m : Int) % 8 + 8 - 1) / 8) = false := by rw [bne_eq_false_iff_eq]; omega
  have hl' := Lib.hid hl
  have hcl' := Lib.hid hcl
  clear hl hcl hf
  by_cases h8 : m % 8 = 0
  · have h8' := Lib.hid h8
    have hd : ((m : Int) % 8) ≤ 0 := by omega
    clear h8
    go_enter Try.func78, Try.ntmps78
    go_wp2
    go_loopw [7, 40] (fun x i wr => ∃ k : Nat, k ≤ m ∧ i = .int .i64 k ∧ Own encT 4 wr w.heap.size x (wBitsL b k) ∧ Below w.heap.size w wr) (fun _ i _ => m - (intOf i).toNat)
    case atStart => exact ⟨0, Nat.zero_le _, rfl, Own.nil _ _ _ _, Below.refl _ _⟩
    case round =>
      obtain ⟨k, hk, rfl, ho, hB⟩ := hrel
      by_cases hlt : k < m
      · have hlk : k / 8 < b.length := by have := hl'.out; omega
        obtain ⟨g, o, he, hcell⟩ := hcl'.out.resolve_left (by omega)
        have hx0 := hcell (k / 8) hlk
        have e1 : b[k / 8] = b.getD (k / 8) 0 := by rw [List.getD_eq_getElem?_getD, List.getElem?_eq_getElem hlk, Option.getD_some]
        rw [e1] at hx0
        have hlx := World.block_lt_of_cell? _ _ hx0
        simp only [] at hlx
        have hx := (hB.cell (p := ⟨g, o + k / 8, none⟩) hlx).trans hx0
        simp only [encB] at hx
        have hv := and_bit (b.getD (k / 8) 0) (k % 8)
        have hs := Lib.hid (wBitsL_step b k)
        have lenF : (wBitsL b k).length + 1 ≤ 140737488355328 := by rw [wBitsL_len]; omega
        generalize b.getD (k / 8) 0 = y at *
        clear hcell hx0 e1
        cases he
        go_wp2_with (at_builtin; refine wp_app (enc := encT) (l := wBitsL b k) (m := [bitsOf y (k % 8)]) encT_one rfl (.tmp 43) (.tmp 54) _ rfl _ _ _ Try.underlying25 infoT rfl w.heap.size _ rfl (ho.alloc _) _ rfl ?a2 ?a3 (by omega) ?a4 ?a5)
        case a2 => exact RdV.lit encT _ _ [bitsOf y (k % 8)] _ _ _ rfl (Nat.le_refl _) (by simp) (by simp [encT])
        case a3 => rw [Nat.mul_one]; exact lenF
        case a4 => exact Nat.le_trans hB.size (by simp)
        intro v2 w2 ho2 hg2
        clear hv
        go_wp2
        go_roundw
        case rel => exact ⟨k + 1, by omega, by go_num, by rw [hs.out]; exact ho2, belowG (belowA hB _) hg2 (fun k hk => (ho.base k hk).1)⟩
        case measure => simp [intOf]; omega
      · obtain rfl : k = m := by omega
        go_wp2
        go_ret2
        exact ⟨_, rfl, ho, hB⟩
  · have hd : 0 < m % 8 := by omega
    obtain ⟨g0, o0, he0, hcell0⟩ := hcl'.out.resolve_left (by have := hl'.out; omega)
    have hlb : 1 ≤ b.length := by have := hl'.out; omega
    have hx1 := hcell0 (b.length - 1) (by omega)
    have e0 : b[b.length - 1]'(by omega) = b.getD (m / 8) 0 := by
      rw [List.getD_eq_getElem?_getD, List.getElem?_eq_getElem (by have := hl'.out; omega), Option.getD_some]
      congr 1; have := hl'.out; omega
    rw [e0] at hx1
    simp only [encB] at hx1
    have hne : (((b.getD (m / 8) 0).toNat : Int) / 2 ^ (m % 8) != 0) = false := by
      rw [shr_nat, bne_eq_false_iff_eq]; have := hf'.out.2.resolve_left h8; omega
    generalize b.getD (m / 8) 0 = y0 at *
    clear hcell0 e0
    subst he0
    go_enter Try.func78, Try.ntmps78
    go_wp2
    go_loopw [7, 40] (fun x i wr => ∃ k : Nat, k ≤ m ∧ i = .int .i64 k ∧ Own encT 4 wr w.heap.size x (wBitsL b k) ∧ Below w.heap.size w wr) (fun _ i _ => m - (intOf i).toNat)
    case atStart => exact ⟨0, Nat.zero_le _, rfl, Own.nil _ _ _ _, Below.refl _ _⟩
    case round =>
      obtain ⟨k, hk, rfl, ho, hB⟩ := hrel
      by_cases hlt : k < m
      · have hlk : k / 8 < b.length := by have := hl'.out; omega
        obtain ⟨g, o, he, hcell⟩ := hcl'.out.resolve_left (by omega)
        have hx0 := hcell (k / 8) hlk
        have e1 : b[k / 8] = b.getD (k / 8) 0 := by rw [List.getD_eq_getElem?_getD, List.getElem?_eq_getElem hlk, Option.getD_some]
        rw [e1] at hx0
        have hlx := World.block_lt_of_cell? _ _ hx0
        simp only [] at hlx
        have hx := (hB.cell (p := ⟨g, o + k / 8, none⟩) hlx).trans hx0
        simp only [encB] at hx
        have hv := and_bit (b.getD (k / 8) 0) (k % 8)
        have hs := Lib.hid (wBitsL_step b k)
        have lenF : (wBitsL b k).length + 1 ≤ 140737488355328 := by rw [wBitsL_len]; omega
        generalize b.getD (k / 8) 0 = y at *
        clear hcell hx0 e1
        cases he
        go_wp2_with (at_builtin; refine wp_app (enc := encT) (l := wBitsL b k) (m := [bitsOf y (k % 8)]) encT_one rfl (.tmp 43) (.tmp 54) _ rfl _ _ _ Try.underlying25 infoT rfl w.heap.size _ rfl (ho.alloc _) _ rfl ?d2 ?d3 (by omega) ?d4 ?d5)
        case d2 => exact RdV.lit encT _ _ [bitsOf y (k % 8)] _ _ _ rfl (Nat.le_refl _) (by simp) (by simp [encT])
        case d3 => rw [Nat.mul_one]; exact lenF
        case d4 => exact Nat.le_trans hB.size (by simp)
        intro v2 w2 ho2 hg2
        clear hv
        go_wp2
        go_roundw
        case rel => exact ⟨k + 1, by omega, by go_num, by rw [hs.out]; exact ho2, belowG (belowA hB _) hg2 (fun k hk => (ho.base k hk).1)⟩
        case measure => simp [intOf]; omega
      · obtain rfl : k = m := by omega
        go_wp2
        go_ret2
        exact ⟨_, rfl, ho, hB⟩
end Go.Proofs.Ytcpgmbpndpcmdaa
namespace Go.Proofs.Ytcpgmbpndpcmdaa
open Go Go.RowKit
set_option linter.unusedSimpArgs false
set_option linter.unusedVariables false
set_option maxRecDepth 100000 in
set_option maxHeartbeats 400000 in
theorem clone16_w (v : Value) (l : List UInt16) (w : World) (h : RdV encW w v l) (hl : l.length ≤ 100000) :
    Calls Try.prog 22 #[v] w fun e w' => ∃ v', e = .returned v' ∧ Own encW 26 w' w.heap.size v' l ∧ Below w.heap.size w w' := by
  obtain ⟨a, c, rfl, hc, hm, hcl⟩ := h.open
  have hs := Lib.hid h
  have kn : ∀ W, (binOp .eql 24 (.slice a l.length c) (.slice none 0 0)).run Try.prog W = .ok (.bool a.isNone) W := fun W => Lib.run_eql_slice_nil W _ _ _ _ _ _ _ Try.underlying24
  cases a with
  | none =>
    have h0 : l = [] := by
      rcases hcl with h0 | ⟨b, o, he, _⟩
      · exact List.eq_nil_of_length_eq_zero h0
      · cases he
    subst h0
    clear hcl h
    replace kn : ∀ W, (binOp .eql 24 (.slice none 0 c) (.slice none 0 0)).run Try.prog W = .ok (.bool true) W := kn
    go_enter Try.func22, Try.ntmps22
    go_wp2
    go_ret
    exact ⟨_, rfl, Own.nil _ _ _ _, Below.refl _ _⟩
  | some a =>
    clear hcl h
    go_enter Try.func22, Try.ntmps22
    go_wp2_with (at_builtin; refine wp_app (enc := encW) (l := []) (m := l) encW_one rfl (.tmp 5) (.tmp 6) _ rfl _ _ _ Try.underlying24 infoW rfl w.heap.size _ rfl ?a1 _ rfl ?a2 ?a3 (by omega) ?a5 ?a4)
    case a1 => exact Own.lit encW _ _ _ (Nat.le_refl _) [] _ _ rfl (by simp) rfl
    case a2 => exact hs.out.alloc _
    case a3 => simp; omega
    case a5 => simp
    case a4 =>
      intro v2 w2 ho2 hg2
      have hB' := ((Below.refl w.heap.size w).alloc (Nat.le_refl _) _).grown hg2 (by simp) (by simp [Value.ownBlock])
      go_wp2
      go_ret
      exact ⟨v2, rfl, ho2, hB'⟩
set_option maxRecDepth 100000 in
set_option maxHeartbeats 400000 in
theorem cloneT_w (v : Value) (l : List Bool) (w : World) (h : RdV encT w v l) (hl : l.length ≤ 100000) :
    Calls Try.prog 23 #[v] w fun e w' => ∃ v', e = .returned v' ∧ Own encT 4 w' w.heap.size v' l ∧ Below w.heap.size w w' := by
  obtain ⟨a, c, rfl, hc, hm, hcl⟩ := h.open
  have hs := Lib.hid h
  have kn : ∀ W, (binOp .eql 25 (.slice a l.length c) (.slice none 0 0)).run Try.prog W = .ok (.bool a.isNone) W := fun W => Lib.run_eql_slice_nil W _ _ _ _ _ _ _ Try.underlying25
  cases a with
  | none =>
    have h0 : l = [] := by
      rcases hcl with h0 | ⟨b, o, he, _⟩
      · exact List.eq_nil_of_length_eq_zero h0
      · cases he
    subst h0
    clear hcl h
    replace kn : ∀ W, (binOp .eql 25 (.slice none 0 c) (.slice none 0 0)).run Try.prog W = .ok (.bool true) W := kn
    go_enter Try.func23, Try.ntmps23
    go_wp2
    go_ret
    exact ⟨_, rfl, Own.nil _ _ _ _, Below.refl _ _⟩
  | some a =>
    clear hcl h
    go_enter Try.func23, Try.ntmps23
    go_wp2_with (at_builtin; refine wp_app (enc := encT) (l := []) (m := l) encT_one rfl (.tmp 5) (.tmp 6) _ rfl _ _ _ Try.underlying25 infoT rfl w.heap.size _ rfl ?a1 _ rfl ?a2 ?a3 (by omega) ?a5 ?a4)
    case a1 => exact Own.lit encT _ _ _ (Nat.le_refl _) [] _ _ rfl (by simp) rfl
    case a2 => exact hs.out.alloc _
    case a3 => simp; omega
    case a5 => simp
    case a4 =>
      intro v2 w2 ho2 hg2
      have hB' := ((Below.refl w.heap.size w).alloc (Nat.le_refl _) _).grown hg2 (by simp) (by simp [Value.ownBlock])
      go_wp2
      go_ret
      exact ⟨v2, rfl, ho2, hB'⟩
end Go.Proofs.Ytcpgmbpndpcmdaa
namespace Go.Proofs.Ytcpgmbpndpcmdaa
open Go Go.RowKit
set_option linter.unusedSimpArgs false
set_option linter.unusedVariables false
theorem repE_mk {α : Type} {enc : α → Value} {e' : α → DV} (he : ∀ a, e' a = .flat (enc a)) (h1 : ∀ a, (enc a).cells = #[enc a] ∧ isOne (enc a) = true) {I : Nat → Nat → Prop} {w : World} {b : Nat} : ∀ (l : List α) (o : Nat), (∀ j (h : j < l.length), w.cell? ⟨b, o + j, none⟩ = some (enc l[j]) ∧ I b (o + j)) → RepE I w 1 (l.map e') b o
  | [], o, _ => by simp [RepE]
  | a :: l, o, h => by
    simp only [List.map_cons, RepE]
    refine ⟨⟨by rw [he]; simp [DV.cells, DV.leaf, (h1 a).2], enc a, by rw [he]; simp only [Rep], by rw [(h1 a).1]; rfl, ?_⟩, repE_mk he h1 l (o + 1) fun j hj => ?_⟩
    · rw [(h1 a).1]
      intro j v hj
      cases j with
      | zero =>
        simp at hj
        subst hj
        obtain ⟨h2, h3⟩ := h 0 (by simp)
        exact ⟨h2, h3, (h1 _).2⟩
      | succ j => simp at hj
    · have := h (j + 1) (by simpa using hj)
      rw [show o + (j + 1) = o + 1 + j by omega] at this
      exact this
theorem own_rep {α : Type} {enc : α → Value} {e' : α → DV} (he : ∀ a, e' a = .flat (enc a)) (h1 : ∀ a, (enc a).cells = #[enc a] ∧ isOne (enc a) = true) {B : Nat → Nat → Prop} {G : Gh} {w w' : World} {H : Heap} (hB : ∀ b j, w.heap.size ≤ b → B b j) (hH : HR B G w H) {e : TypeId} {V : Value} {l : List α} (ho : Own enc e w' w.heap.size V l) : Rep (ImmB B G) w' G (mkl 1 (l.map e') .sh) V := by
  obtain ⟨⟨_, h2⟩, h3⟩ := ho
  rcases h2 with ⟨rfl, h2⟩ | ⟨g, cap, cur, rfl, hg, hc, h4, _, _, h5⟩
  · have : l = [] := List.eq_nil_of_length_eq_zero h2
    subst this
    simp only [List.map_nil, mkl, Rep, TagOk]
    exact ⟨none, 0, rfl, Nat.le_refl _, by simp, .inl trivial, trivial⟩
  · have hE : RepE (ImmB B G) w' 1 (l.map e') g 0 := by
      refine repE_mk he h1 l 0 fun j hj => ⟨?_, hB _ _ hg, fun k hk => ?_, fun k s c n hk => ?_⟩
      · rw [cell_toList hc, Nat.zero_add]
        have h6 : (l.map enc)[j]? = some (enc l[j]) := by simp [hj]
        rw [← h5] at h6
        rw [List.getElem?_take_of_lt (by omega)] at h6
        exact h6
      · have := hH.lt (.inl hk); omega
      · have := hH.lt (.inr ⟨_, _, _, hk⟩); omega
    cases l with
    | nil =>
      simp only [List.map_nil, mkl, Rep, TagOk]
      exact ⟨_, cap, rfl, h4, by simp, .inl trivial, trivial⟩
    | cons a l =>
      simp only [List.map_cons, mkl, Rep, TagOk]
      refine ⟨_, cap, by simp, by simpa using h4, by simpa using h3, .inr ⟨g, 0, rfl, by simpa using hE⟩, trivial⟩
theorem dB_some (x : DV) (a : UInt8) (h : dB x = some a) : x = .flat (encB a) := by
  unfold dB at h
  split at h
  · split at h
    · rename_i hn
      cases h
      rw [encB_low _ hn.1 hn.2]
    · cases h
  · cases h
theorem dW_some (x : DV) (a : UInt16) (h : dW x = some a) : x = .flat (encW a) := by
  unfold dW at h
  split at h
  · split at h
    · rename_i hn
      cases h
      rw [encW_low _ hn.1 hn.2]
      rfl
    · cases h
  · cases h
theorem dT_some (x : DV) (a : Bool) (h : dT x = some a) : x = .flat (encT a) := by
  unfold dT at h
  split at h
  · cases h; rfl
  · cases h
theorem primLL_ok {α β : Type} {d : DV → Option α} {ea : α → Value} {eb : β → Value} {e' : β → DV} {g : List α → List β} {f : FuncId} {t : TypeId} (hd : ∀ x a, d x = some a → x = .flat (ea a)) (h1 : ∀ a, (ea a).cells = #[ea a]) (he : ∀ a, e' a = .flat (eb a)) (h2 : ∀ a, (eb a).cells = #[eb a] ∧ isOne (eb a) = true)
    (hf : ∀ (v : Value) (l : List α) (w : World), RdV ea w v l → l.length ≤ 100000 → Calls Try.prog f #[v] w fun e w' => ∃ v', e = .returned v' ∧ Own eb t w' w.heap.size v' (g l) ∧ Below w.heap.size w w')
    {args : List DV} {r : DV} {H H' : Heap} (h : primLL d e' g args H = some (r, H')) : H' = H ∧ ∀ fl, CallOk Try.prog f args H fl r H := by
  unfold primLL at h
  split at h
  · rename_i sz xs t' H0
    obtain ⟨l, hl, h⟩ := Option.bind_eq_some_iff.1 h
    split at h
    · rename_i hlen
      simp only [Option.some.injEq, Prod.mk.injEq] at h
      obtain ⟨rfl, rfl⟩ := h
      refine ⟨rfl, fun fl B G w vs hB hH hr hfl => ⟨?_, fun _ _ => rfl, Nat.le_refl _⟩⟩
      simp only [RepL] at hr
      obtain ⟨V, _, e1, hV, rfl⟩ := hr
      have hv : vs = #[V] := by apply Array.ext'; simpa using e1
      subst hv
      exact (hf V l w (list_rd hd h1 hV hl) hlen).mono fun e w' ⟨v', h3, h4, h5⟩ => ⟨v', G, h3, Keep.below G h5, hH.below h5, own_rep he h2 hB hH h4⟩
    · cases h
  · cases h
theorem primTL_ok {β : Type} {eb : β → Value} {e' : β → DV} {f : FuncId} {t : TypeId} {c : Bool} {l2 : List β} {args : List DV} {H : Heap} (he : ∀ a, e' a = .flat (eb a)) (h2 : ∀ a, (eb a).cells = #[eb a] ∧ isOne (eb a) = true)
    (hf : ∀ (B : Nat → Nat → Prop) (G : Gh) (w : World) (vs : Array Value), RepL (ImmB B G) w G args vs.toList → Calls Try.prog f vs w fun e w' => ∃ v', e = .returned (.tuple #[v', .bool c]) ∧ Own eb t w' w.heap.size v' l2 ∧ Below w.heap.size w w') (fl : Nat) : CallOk Try.prog f args H fl (.tup [mkl 1 (l2.map e') .sh, .flat (.bool c)]) H := by
  intro B G w vs hB hH hr hfl
  refine ⟨(hf B G w vs hr).mono fun e w' ⟨v', h3, h4, h5⟩ => ⟨_, G, h3, Keep.below G h5, hH.below h5, ?_⟩, fun _ _ => rfl, Nat.le_refl _⟩
  simp only [Rep, RepL]
  exact ⟨_, rfl, _, _, rfl, own_rep he h2 hB hH h4, _, _, rfl, rfl, rfl⟩
theorem own_nil {α : Type} (enc : α → Value) (e : TypeId) (w : World) (b : Nat) : Own enc e w b (.slice none 0 0) [] := ⟨⟨rfl, .inl ⟨rfl, rfl⟩⟩, by simp⟩
theorem primWords_ok {f : FuncId} (hno : ∀ (v : Value) (l : List UInt8) (w : World), RdV encB w v l → l.length % 2 = 1 → Calls Try.prog f #[v] w fun e w' => e = .returned (.tuple #[.slice none 0 0, .bool false]) ∧ w = w')
    (hyes : ∀ (v : Value) (l : List UInt8) (w : World), RdV encB w v l → l.length % 2 = 0 → l.length ≤ 100000 → Calls Try.prog f #[v] w fun e w' => ∃ v', e = .returned (.tuple #[v', .bool true]) ∧ Own encW 26 w' w.heap.size v' (wWords l) ∧ Below w.heap.size w w')
    {args : List DV} {r : DV} {H H' : Heap} (h : primWords args H = some (r, H')) : H' = H ∧ ∀ fl, CallOk Try.prog f args H fl r H := by
  unfold primWords at h
  split at h
  · rename_i sz xs t' H0
    obtain ⟨l, hl, h⟩ := Option.bind_eq_some_iff.1 h
    split at h
    · rename_i hlen
      simp only [Option.some.injEq, Prod.mk.injEq] at h
      obtain ⟨rfl, rfl⟩ := h
      refine ⟨rfl, fun fl => primTL_ok (t := 26) (eb := encW) (fun a => rfl) (fun a => ⟨rfl, rfl⟩) (fun B G w vs hr => ?_) fl⟩
      simp only [RepL] at hr
      obtain ⟨V, _, e1, hV, rfl⟩ := hr
      have hv : vs = #[V] := by apply Array.ext'; simpa using e1
      subst hv
      have hR := list_rd dB_some (fun a => rfl) hV hl
      rcases (by omega : l.length % 2 = 1 ∨ l.length % 2 = 0) with hn | hn
      · rw [wordsTell_no hn]
        exact (hno V l w hR hn).mono fun e w' ⟨h3, h4⟩ => ⟨_, h3, own_nil _ _ _ _, by rw [← h4]; exact Below.refl _ _⟩
      · rw [wordsTell_yes hn]
        exact hyes V l w hR hn hlen
    · cases h
  · cases h
theorem primBits_ok {args : List DV} {r : DV} {H H' : Heap} (h : primBits args H = some (r, H')) : H' = H ∧ ∀ fl, CallOk Try.prog 78 args H fl r H := by
  unfold primBits at h
  split at h
  · rename_i H0 sz xs t' n
    obtain ⟨l, hl, h⟩ := Option.bind_eq_some_iff.1 h
    split at h
    · rename_i hlen
      obtain ⟨hlen, hn0, hn1⟩ := hlen
      simp only [Option.some.injEq, Prod.mk.injEq] at h
      obtain ⟨rfl, rfl⟩ := h
      refine ⟨rfl, fun fl => primTL_ok (t := 4) (eb := encT) (fun a => rfl) (fun a => ⟨rfl, rfl⟩) (fun B G w vs hr => ?_) fl⟩
      simp only [RepL] at hr
      obtain ⟨V, _, e1, hV, V2, _, rfl, hV2, rfl⟩ := hr
      simp only [Rep] at hV2
      subst hV2
      have hv : vs = #[V, .int .i64 n] := by apply Array.ext'; simpa using e1
      subst hv
      have hR := list_rd dB_some (fun a => rfl) hV hl
      by_cases h0 : 0 ≤ n ∧ bitsFit l n.toNat
      · obtain ⟨m, rfl⟩ := Int.eq_ofNat_of_zero_le h0.1
        have hf : bitsFit l m := by simpa using h0.2
        have hm : m ≤ 800000 := by have := hf.1; omega
        rw [bitsTell_nat, wBits_yes hf]
        exact word_Bits_yes V l m w hR hf hm
      · have hn : n < 0 ∨ ¬ bitsFit l n.toNat := by
          rcases (by omega : n < 0 ∨ 0 ≤ n) with h | h
          · exact .inl h
          · exact .inr fun h2 => h0 ⟨h, h2⟩
        have e : bitsTell l n = (false, []) := by
          rcases (by omega : n < 0 ∨ 0 ≤ n) with h | h
          · exact bitsTell_neg h
          · obtain ⟨m, rfl⟩ := Int.eq_ofNat_of_zero_le h
            rw [bitsTell_nat]
            exact wBits_no fun h2 => h0 ⟨h, by simpa using h2⟩
        rw [e]
        exact (word_Bits_no V l n w hR hn hn1 hn0).mono fun e w' ⟨h3, h4⟩ => ⟨_, h3, own_nil _ _ _ _, by rw [← h4]; exact Below.refl _ _⟩
    · cases h
  · cases h
theorem primW_ok (f : FuncId) (g : Prim) (args : List DV) (H : Heap) (d : DV) (H' : Heap) (hf : PRIMW f = some g) (h : g args H = some (d, H')) : (∃ fn, Try.prog.funcs[f]? = some fn ∧ fn.body.isSome = true) ∧ (∀ fl, CallOk Try.prog f args H fl d H') ∧ ∀ k : Nat, H[k]? = some .hole → H'[k]? = some .hole := by
  unfold PRIMW at hf
  by_cases c1 : f = 38
  · subst c1
    simp only [BEq.rfl, cond_true, Option.some.injEq] at hf
    subst hf
    obtain ⟨rfl, h⟩ := primLL_ok dW_some (fun a => rfl) (fun a => rfl) (fun a => ⟨rfl, rfl⟩) (fun v l w h1 h2 => word_Bytes v l w h1 h2) h
    exact ⟨⟨_, Try.func38, rfl⟩, h, fun _ h => h⟩
  have d1 : (f == 38) = false := by simpa using c1
  simp only [d1, cond_false] at hf
  by_cases c2 : f = 37
  · subst c2
    simp only [BEq.rfl, cond_true, Option.some.injEq] at hf
    subst hf
    obtain ⟨rfl, h⟩ := primLL_ok dT_some (fun a => rfl) (fun a => rfl) (fun a => ⟨rfl, rfl⟩) (fun v l w h1 h2 => word_Pack v l w h1 h2) h
    exact ⟨⟨_, Try.func37, rfl⟩, h, fun _ h => h⟩
  have d2 : (f == 37) = false := by simpa using c2
  simp only [d2, cond_false] at hf
  by_cases c3 : f = 80
  · subst c3
    simp only [BEq.rfl, cond_true, Option.some.injEq] at hf
    subst hf
    obtain ⟨rfl, h⟩ := primWords_ok (fun v l w h1 h2 => word_Words_no v l w h1 h2) (fun v l w h1 h2 h3 => word_Words_yes v l w h1 h2 h3) h
    exact ⟨⟨_, Try.func80, rfl⟩, h, fun _ h => h⟩
  have d3 : (f == 80) = false := by simpa using c3
  simp only [d3, cond_false] at hf
  by_cases c4 : f = 78
  · subst c4
    simp only [BEq.rfl, cond_true, Option.some.injEq] at hf
    subst hf
    obtain ⟨rfl, h⟩ := primBits_ok h
    exact ⟨⟨_, Try.func78, rfl⟩, h, fun _ h => h⟩
  have d4 : (f == 78) = false := by simpa using c4
  simp only [d4, cond_false] at hf
  by_cases e1 : f = 22
  · subst e1
    simp only [BEq.rfl, cond_true, Option.some.injEq] at hf
    subst hf
    obtain ⟨rfl, h⟩ := primLL_ok dW_some (fun a => rfl) (fun a => rfl) (fun a => ⟨rfl, rfl⟩) (fun v l w h1 h2 => clone16_w v l w h1 h2) h
    exact ⟨⟨_, Try.func22, rfl⟩, h, fun _ h => h⟩
  have g1 : (f == 22) = false := by simpa using e1
  simp only [g1, cond_false] at hf
  by_cases e2 : f = 23
  · subst e2
    simp only [BEq.rfl, cond_true, Option.some.injEq] at hf
    subst hf
    obtain ⟨rfl, h⟩ := primLL_ok dT_some (fun a => rfl) (fun a => rfl) (fun a => ⟨rfl, rfl⟩) (fun v l w h1 h2 => cloneT_w v l w h1 h2) h
    exact ⟨⟨_, Try.func23, rfl⟩, h, fun _ h => h⟩
  have g2 : (f == 23) = false := by simpa using e2
  simp only [g2, cond_false] at hf
  cases hf
end Go.Proofs.Ytcpgmbpndpcmdaa
namespace Go.Proofs.Ytcpgmbpndpcmdaa
open Go Go.RowKit
set_option linter.unusedSimpArgs false
set_option linter.unusedVariables false
theorem isTypeOf (v : Value) (w : World) : (Extern.ReflectliteType.typeOf #[.iface 32 v]).run Try.prog w = .ok (.iface 125 (.agg #[typeHandle Try.prog 32])) w := by kernel_rfl
theorem isComparable (w : World) : ((Extern.ReflectliteType.method fun t => do Extern.Rtype.noPackHeld "Comparable" t; (fun a => Value.bool a.comparable) <$> typeInfo t) #[.agg #[typeHandle Try.prog 32]]).run Try.prog w = .ok (.bool true) w := by kernel_rfl
theorem isMethodComparable (v : Value) (w : World) : (Go.method 279 125 v "Comparable").run Try.prog w = .ok (110, v) w := by kernel_rfl
theorem isMethodUnwrap (v : Value) (w : World) : (Go.method 279 95 v "Unwrap").run Try.prog w = .ok (106, v) w := by kernel_rfl
theorem isCompE : (Try.prog.info? 32).map (·.comparable) = some true := by kernel_rfl
theorem noIsE (v : Value) (xT : TypeId) (w : World) : (Instr.typeAssert (.iface 32 v) xT 127 true).run Try.prog w = .ok (.tuple #[.nilIface, .bool false]) w := run_typeAssert_lacksB Try.underlying127 (by kernel_rfl) (by kernel_rfl) v xT w
theorem noIsT (v : Value) (xT : TypeId) (w : World) : (Instr.typeAssert (.iface 95 v) xT 127 true).run Try.prog w = .ok (.tuple #[.nilIface, .bool false]) w := run_typeAssert_lacksB Try.underlying127 (by kernel_rfl) (by kernel_rfl) v xT w
theorem noUnwrapE (v : Value) (xT : TypeId) (w : World) : (Instr.typeAssert (.iface 32 v) xT 130 true).run Try.prog w = .ok (.tuple #[.nilIface, .bool false]) w := run_typeAssert_lacksB Try.underlying130 (by kernel_rfl) (by kernel_rfl) v xT w
theorem noUnwrapsE (v : Value) (xT : TypeId) (w : World) : (Instr.typeAssert (.iface 32 v) xT 132 true).run Try.prog w = .ok (.tuple #[.nilIface, .bool false]) w := run_typeAssert_lacksB Try.underlying132 (by kernel_rfl) (by kernel_rfl) v xT w
theorem hasUnwrapT (v : Value) (xT : TypeId) (w : World) : (Instr.typeAssert (.iface 95 v) xT 130 true).run Try.prog w = .ok (.tuple #[.iface 95 v, .bool true]) w := run_typeAssert_hasB Try.underlying130 (by kernel_rfl) v xT w
theorem is_trouble (n e x : Int) (w : World) :
    Calls Try.prog 48 #[.iface 95 (.agg #[.int .i64 n, .iface 32 (.int .i64 e)]), .iface 32 (.int .i64 x)] w fun r w' => r = .returned (.bool (e == x)) ∧ Below w.heap.size w w' := by
  have h8 := @run_callFunc_extern Try.prog 71 _ Extern.ReflectliteType.typeOf Try.func71 (by kernel_rfl) (by kernel_rfl) (by kernel_rfl) (by kernel_rfl)
  have h32 := @run_callFunc_extern Try.prog 110 _ (Extern.ReflectliteType.method fun t => do Extern.Rtype.noPackHeld "Comparable" t; pure (.bool (← typeInfo t).comparable)) Try.func110 (by kernel_rfl) (by kernel_rfl) (by kernel_rfl) (by kernel_rfl)
  have tT := isTypeOf
  have cT := isComparable
  generalize typeHandle Try.prog 32 = hdl at tT cT
  have mR := isMethodComparable
  have nE := noIsE
  have nT := noIsT
  have uE := noUnwrapE
  have vE := noUnwrapsE
  have uT := hasUnwrapT
  have mU := isMethodUnwrap
  have heq := fun w => Lib.run_eql_iface_int (P := Try.prog) (k := .i64) w e x Try.underlying70 isCompE Try.underlying32
  have hty := run_eql_iface_types (P := Try.prog) 95 32 (.agg #[.int .i64 n, .iface 32 (.int .i64 e)]) (.int .i64 x) Try.underlying70 (by decide)
  obtain ⟨r, hr⟩ : ∃ r : Bool, (e == x) = r := ⟨_, rfl⟩
  simp only [hr] at heq ⊢
  cases r with
  | true =>
    go_enter Try.func48, Try.ntmps48
    go_wp2
    refine wp_loop_rounds 2 ?_
    rw [rounds_succ]
    go_wp2
    rw [rounds_succ]
    go_wp2
    go_ret
    exact ⟨rfl, (Below.refl _ w).alloc (Nat.le_refl _) _⟩
  | false =>
    go_enter Try.func48, Try.ntmps48
    go_wp2
    refine wp_loop_rounds 2 ?_
    rw [rounds_succ]
    go_wp2
    rw [rounds_succ]
    go_wp2
    go_ret
    exact ⟨rfl, (Below.refl _ w).alloc (Nat.le_refl _) _⟩
theorem primIs_ok {args : List DV} {d : DV} {H H' : Heap} (h : primIs args H = some (d, H')) : H' = H ∧ ∀ fl, CallOk Try.prog 48 args H fl d H := by
  unfold primIs at h
  split at h
  · rename_i t n t2 e t3 x
    split at h
    · rename_i hc
      obtain ⟨rfl, rfl, rfl⟩ := hc
      simp only [Option.some.injEq, Prod.mk.injEq] at h
      obtain ⟨rfl, rfl⟩ := h
      refine ⟨rfl, fun fl => callOk_below (fun I G w vs hr => ?_) _ fl⟩
      simp only [RepL, Rep] at hr
      obtain ⟨_, _, e1, ⟨_, rfl, vs1, rfl, e2⟩, _, _, rfl, ⟨_, rfl, rfl⟩, rfl⟩ := hr
      obtain ⟨_, _, e3, rfl, _, _, rfl, ⟨_, rfl, rfl⟩, rfl⟩ := e2
      have hv1 : vs1 = #[.int .i64 n, .iface 32 (.int .i64 e)] := by
        apply Array.ext'
        simpa using e3
      have hv : vs = #[.iface 95 (.agg vs1), .iface 32 (.int .i64 x)] := by
        apply Array.ext'
        simpa using e1
      subst hv1
      subst hv
      exact (is_trouble n e x w).mono fun r w' ⟨h1, h2⟩ => ⟨_, h1, h2, fun I G => by simp only [Rep]⟩
    · cases h
  · cases h
set_option maxHeartbeats 4000000 in
theorem grow_walk (A : Option Addr) (n : Nat) (h0 : 0 < n) (h1 : n ≤ 1000000) (w : World) :
    Calls Try.prog 70 #[.slice A 0 0, .int .i64 n] w fun e w' => ∃ cap C, e = .returned (.slice (some ⟨w.heap.size, 0, none⟩) 0 cap) ∧ More (.cells C 5 (0, 0)) w w' ∧ C.size = cap * 1 := by
  have hinf : (Try.prog.info? 5).map (fun i => (i.size, i.bytes, i.zero)) = some (1, 1, some (.int .u8 0)) := by kernel_rfl
  obtain ⟨i0, hi0, hs0⟩ := Option.map_eq_some_iff.1 hinf
  simp only [Prod.mk.injEq] at hs0
  obtain ⟨hs0, hb0, hz0⟩ := hs0
  clear hinf
  have hold : (Builtin.firstCells i0.size 0 (.slice A 0 0)).run Try.prog w.drew = .ok ([] : List Value).toArray w.drew := by
    cases A with
    | none => exact run_firstCells_none w.drew i0.size 0 0 0
    | some a => exact run_firstCells_some w.drew i0.size 0 a 0 0 [] (by simp) (fun j v hj => by simp at hj)
  have hn0 : ¬ ((n : Int) < 0) := by omega
  have hn1 : (n : Int) > 0 := by omega
  have hn2 : IntKind.i64.wrap ((n : Int) - 0) = (n : Int) := by simp [IntKind.wrap, IntKind.bits, IntKind.signed]; omega
  have hrz : ∀ ty, (Builtin.append_ #[39, 3] ty #[.slice A 0 0, .int .i64 (n : Int)]).run Try.prog w =
      .ok (.slice (some ⟨w.heap.size, 0, none⟩) n (grownCap w n 0 5)) (w.drew.alloc (.cells (([] : List Value).toArray ++ Builtin.zeroCells (Value.int .u8 0).cells n ++ Builtin.zeroCells (Value.int .u8 0).cells (grownCap w n 0 5 - n)) 5)) := fun ty => by
    have h := Lib.run_append_grow_zeros w 39 3 ty 5 i0 (.int .u8 0) .i64 .i64 Try.underlying39 Try.underlying3 hi0 hz0 A 0 0 [] hold n h0 (by omega) (by omega) (by omega) (by rw [hb0]; omega) (by rw [hb0]; exact growslice_fits (by omega) (by omega))
    rw [Nat.zero_add] at h
    exact h
  have hGn : n ≤ grownCap w n 0 5 := grownCap_ge w _ _ _
  have hcs : (([] : List Value).toArray ++ Builtin.zeroCells (Value.int .u8 0).cells n ++ Builtin.zeroCells (Value.int .u8 0).cells (grownCap w n 0 5 - n)).size = grownCap w n 0 5 * 1 := by
    simp [Builtin.zeroCells, Value.cells]
    omega
  have hG63 : grownCap w n 0 5 ≤ 9223372036854775807 := by
    have := grownCap_le_maxLen w n 0 5 (by unfold maxLen; omega)
    unfold maxLen at this
    omega
  generalize (([] : List Value).toArray ++ Builtin.zeroCells (Value.int .u8 0).cells n ++ Builtin.zeroCells (Value.int .u8 0).cells (grownCap w n 0 5 - n)) = C at *
  generalize grownCap w n 0 5 = G at *
  have fin : More (.cells C 5 (0, 0)) w (w.drew.alloc (.cells C 5)) := ⟨rfl, rfl, rfl, rfl⟩
  clear hold hb0 hz0 hs0 hi0
  go_enter Try.func70, Try.ntmps70
  go_wp2_with (at_builtin; refine Lib.wpList_append_run _ rfl _ _ _ _ rfl _ _ rfl rfl _ _ (hrz _) ?_)
  all_goals (go_ret; exact ⟨_, rfl, _, ⟨rfl, rfl, rfl, rfl⟩, by simpa using hcs⟩)
theorem grow_zero (A : Option Addr) (w : World) : Calls Try.prog 70 #[.slice A 0 0, .int .i64 0] w fun e w' => e = .returned (.slice A 0 0) ∧ w' = w := by
  go_enter Try.func70, Try.ntmps70
  go_wp2
  go_ret
  exact ⟨rfl, rfl⟩
theorem primGrow_ok {args : List DV} {d : DV} {H H' : Heap} (h : primGrow args H = some (d, H')) : (∀ fl, CallOk Try.prog 70 args H fl d H') ∧ ∀ k : Nat, H[k]? = some .hole → H'[k]? = some .hole := by
  unfold primGrow at h
  split at h
  · rename_i H0 n
    split at h
    · rename_i hn
      subst hn
      simp only [Option.some.injEq, Prod.mk.injEq] at h
      obtain ⟨rfl, rfl⟩ := h
      refine ⟨fun fl => ?_, fun k hk => hk⟩
      refine callOk_below (fun I G w vs hr => ?_) _ fl
      simp only [RepL, Rep] at hr
      obtain ⟨_, _, e1, ⟨A, c, rfl, _, _, _, ht⟩, _, _, rfl, rfl, rfl⟩ := hr
      simp only [TagOk] at ht
      have hv : vs = #[.slice A 0 0, .int .i64 0] := by
        apply Array.ext'
        simpa [ht] using e1
      subst hv
      exact (grow_zero A w).mono fun r w' ⟨h1, h2⟩ => ⟨_, h1, by rw [h2]; exact Below.refl _ _, fun I G => by simp only [Rep, TagOk]; exact ⟨A, 0, rfl, by simp, by simp, .inl trivial, rfl⟩⟩
    · split at h
      · rename_i h0 h1
        simp only [Option.some.injEq, Prod.mk.injEq] at h
        obtain ⟨rfl, rfl⟩ := h
        refine ⟨fun fl => ?_, fun k hk => by rw [List.getElem?_append_left (List.getElem?_eq_some_iff.1 hk).1]; exact hk⟩
        intro B G w vs hB hH hr hfl
        refine ⟨?_, fun k hk => List.getElem?_append_left (by omega), by simp⟩
        simp only [RepL, Rep] at hr
        obtain ⟨_, _, e1, ⟨A, c, rfl, _, _, _, ht⟩, _, _, rfl, rfl, rfl⟩ := hr
        simp only [TagOk] at ht
        obtain ⟨m, rfl⟩ := Int.eq_ofNat_of_zero_le (by omega : 0 ≤ n)
        have hv : vs = #[.slice A 0 0, .int .i64 m] := by
          apply Array.ext'
          simpa [ht] using e1
        subst hv
        refine (grow_walk A m (by omega) (by omega) w).mono fun e w' ⟨cap, C, he, hm, hC⟩ => ?_
        obtain ⟨hK, hH'⟩ := step_token (n := 0) hH hB hm (Nat.zero_le _) (by omega) (by omega) hC
        refine ⟨_, _, he, hK, hH', ?_⟩
        have hself : (G ++ [GK.own w.heap.size 1 cap 0])[H.length]? = some (GK.own w.heap.size 1 cap 0) := by rw [hH.len]; simp
        simp only [Rep]
        refine ⟨_, cap, rfl, Nat.zero_le _, by simp, .inl trivial, ?_⟩
        simp only [TagOk]
        exact ⟨_, _, _, _, hself, by simp, fun _ => ⟨rfl, rfl, rfl⟩⟩
      · cases h
  · cases h
theorem primOk (f : FuncId) (g : Prim) (args : List DV) (H : Heap) (d : DV) (H' : Heap) (hf : PRIM f = some g) (h : g args H = some (d, H')) : (∃ fn, Try.prog.funcs[f]? = some fn ∧ fn.body.isSome = true) ∧ (∀ fl, CallOk Try.prog f args H fl d H') ∧ ∀ k : Nat, H[k]? = some .hole → H'[k]? = some .hole := by
  unfold PRIM at hf
  by_cases d0 : f = 75
  · subst d0
    simp only [BEq.rfl, cond_true, Option.some.injEq] at hf
    subst hf
    cases h
  have d0' : (f == 75) = false := by simpa using d0
  simp only [d0', cond_false] at hf
  by_cases c1 : f = 48
  · subst c1
    simp only [BEq.rfl, cond_true, Option.some.injEq] at hf
    subst hf
    obtain ⟨rfl, h⟩ := primIs_ok h
    exact ⟨⟨_, Try.func48, rfl⟩, h, fun _ h => h⟩
  have c2 : (f == 48) = false := by simpa using c1
  simp only [c2, cond_false] at hf
  by_cases c3 : f = 70
  · subst c3
    simp only [BEq.rfl, cond_true, Option.some.injEq] at hf
    subst hf
    obtain ⟨h1, h2⟩ := primGrow_ok h
    exact ⟨⟨_, Try.func70, rfl⟩, h1, h2⟩
  have c4 : (f == 70) = false := by simpa using c3
  simp only [c4, cond_false] at hf
  exact primW_ok f g args H d H' hf h
end Go.Proofs.Ytcpgmbpndpcmdaa
namespace Go.Proofs.Ytcpgmbpndpcmdaa
open Go
set_option linter.unusedSimpArgs false
set_option linter.unusedVariables false
theorem prim_call {f : FuncId} {g : Prim} (hp : ENV.prim f = some g) (n : Nat) (args : List DV) (H : Heap) (fl : Nat) : callG Try.prog ENV (n + 1) f args H fl = g args H := by
  rw [callG_eq]
  unfold bodyG
  rw [hp]
def Words (l : List Int) : Prop := ∀ x ∈ l, 0 ≤ x ∧ x < 65536
def toB (l : List Int) : List UInt8 := l.map lowB
def toW (l : List Int) : List UInt16 := l.map fun x => UInt16.ofNat x.toNat
def ofB (l : List UInt8) : List Int := l.map fun c => (c.toNat : Int)
def ofW (l : List UInt16) : List Int := l.map fun c => (c.toNat : Int)
theorem mapO_dB (l : List Int) (h : Bytes l) : mapO dB (l.map (I .u8)) = some (toB l) := by
  induction l with
  | nil => rfl
  | cons a l ih =>
    rw [List.map_cons, mapO_cons, ih (fun x hx => h x (by simp [hx]))]
    have : dB (I .u8 a) = some (lowB a) := by unfold dB; simp only; rw [if_pos (h a (by simp))]
    rw [this]
    rfl
theorem mapO_dW (l : List Int) (h : Words l) : mapO dW (l.map (I .u16)) = some (toW l) := by
  induction l with
  | nil => rfl
  | cons a l ih =>
    rw [List.map_cons, mapO_cons, ih (fun x hx => h x (by simp [hx]))]
    have : dW (I .u16 a) = some (UInt16.ofNat a.toNat) := by unfold dW; simp only; rw [if_pos (h a (by simp))]
    rw [this]
    rfl
theorem mapO_dT (l : List Bool) : mapO dT (l.map Bo) = some l := by
  induction l with
  | nil => rfl
  | cons a l ih => rw [List.map_cons, mapO_cons, ih]; rfl
theorem mkl_eB (l : List UInt8) (t : Tag) : mkl 1 (l.map eB) t = LV 1 (I .u8) (ofB l) t := by unfold LV ofB; rw [List.map_map]; rfl
theorem mkl_eW (l : List UInt16) (t : Tag) : mkl 1 (l.map eW) t = LV 1 (I .u16) (ofW l) t := by unfold LV ofW; rw [List.map_map]; rfl
theorem primLL_LV {α β γ : Type} {d : DV → Option α} {e : β → DV} {g : List α → List β} {enc : γ → DV} {l : List γ} {l2 : List α} (t : Tag) (H : Heap) (hd : mapO d (l.map enc) = some l2) (hl : l2.length ≤ 100000) : primLL d e g (LV 1 enc l t :: []) H = some (mkl 1 ((g l2).map e) .sh, H) := by
  obtain ⟨s, h1, _⟩ := LV_list 1 enc l t
  rw [h1]
  unfold primLL
  simp only
  rw [hd, Option.bind_some, if_pos hl]
def wbI (l : List Int) : List Int := ofB (wBytes (toW l))
def pkI (l : List Bool) : List Int := ofB (wPack l)
theorem ofB_bytes (l : List UInt8) : Bytes (ofB l) := by
  intro x hx
  obtain ⟨c, _, rfl⟩ := List.mem_map.1 hx
  have := c.toNat_lt
  omega
theorem toB_ofB (l : List UInt8) : toB (ofB l) = l := by
  unfold toB ofB
  rw [List.map_map]
  conv => rhs; rw [← List.map_id l]
  refine List.map_congr_left fun c _ => ?_
  show lowB (c.toNat : Int) = c
  unfold lowB
  simp
theorem ofB_toB (l : List Int) (h : Bytes l) : ofB (toB l) = l := by
  unfold toB ofB
  rw [List.map_map]
  conv => rhs; rw [← List.map_id l]
  refine List.map_congr_left fun c hc => ?_
  exact lowB_nat c (h c hc).1 (h c hc).2
theorem ofW_toW (l : List Int) (h : Words l) : ofW (toW l) = l := by
  unfold toW ofW
  rw [List.map_map]
  conv => rhs; rw [← List.map_id l]
  refine List.map_congr_left fun c hc => ?_
  have := h c hc
  show (((UInt16.ofNat c.toNat).toNat : Nat) : Int) = c
  rw [UInt16.toNat_ofNat']
  omega
theorem wbI_length (l : List Int) : (wbI l).length = 2 * l.length := by unfold wbI ofB; rw [List.length_map, wBytes_len]; simp [toW]
theorem pkI_length (l : List Bool) : (pkI l).length = (l.length + 7) / 8 := by unfold pkI ofB; rw [List.length_map, wPack_len]
theorem wbI_cons (a : Int) (l : List Int) (h : 0 ≤ a ∧ a < 65536) : wbI (a :: l) = a / 256 :: a % 256 :: wbI l := by
  have e1 : (UInt16.ofNat a.toNat).toNat = a.toNat := by rw [UInt16.toNat_ofNat']; omega
  unfold wbI toW wBytes ofB
  rw [List.map_cons, List.flatMap_cons, List.map_append]
  simp only [List.map_cons, List.map_nil, e1, List.cons_append, List.nil_append, List.cons.injEq, and_true]
  rw [UInt8.toNat_ofNat', UInt8.toNat_ofNat']
  omega
theorem wbI_nil : wbI [] = [] := rfl
def wdI (l : List Int) : List Int := ofW (wordsTell (toB l)).2
def wdOk (l : List Int) : Bool := (wordsTell (toB l)).1
def btI (l : List Int) (n : Int) : List Bool := (bitsTell (toB l) n).2
def btOk (l : List Int) (n : Int) : Bool := (bitsTell (toB l) n).1
theorem wdI_wb (l : List Int) (h : Words l) : wdI (wbI l) = l ∧ wdOk (wbI l) = true := by
  unfold wdI wdOk wbI
  rw [toB_ofB, wordsTell_yes (by rw [wBytes_len]; omega), wWords_bytes]
  exact ⟨ofW_toW l h, rfl⟩
theorem btI_pk (l : List Bool) : btI (pkI l) l.length = l ∧ btOk (pkI l) l.length = true := by
  unfold btI btOk pkI
  rw [toB_ofB, bitsTell_nat, wBits_yes (fit_pack l)]
  exact ⟨wBits_pack l, rfl⟩
theorem wdI_words (l : List Int) : Words (wdI l) := by
  intro x hx
  obtain ⟨c, _, rfl⟩ := List.mem_map.1 hx
  have := c.toNat_lt
  omega
theorem cP_prim {f : FuncId} {g : Prim} {n : Nat} {args args' : List DV} {H' : Heap} {r r' : DV} (hp : ENV.prim f = some g) (hn : 1 ≤ n) (h1 : mapO argEl args = some args') (h2 : g args' [] = some (r, H')) (h3 : outD false H' r = some r') : cP n f false args = some r' := by
  obtain ⟨n, rfl⟩ : ∃ m, n = m + 1 := ⟨n - 1, by omega⟩
  exact cP_of h1 ((prim_call hp n args' [] 0).trans h2) h3
theorem word_Bytes_c (n : Nat) (l : List Int) (t : Tag) (hn : 1 ≤ n) (h : Words l) (hl : l.length ≤ 100000) : cP n 38 false [LV 1 (I .u16) l t] = some (LV 1 (I .u8) (wbI l) .sh) :=
  cP_prim (g := primLL dW eB wBytes) (args' := [LV 1 (I .u16) l .sh]) (by kernel_rfl) hn (by simp [argEl_eq]) ((primLL_LV .sh [] (mapO_dW l h) (by simpa [toW] using hl)).trans (by rw [mkl_eB])) (by simp [wbI])
theorem word_Pack_c (n : Nat) (l : List Bool) (t : Tag) (hn : 1 ≤ n) (hl : l.length ≤ 100000) : cP n 37 false [LV 1 Bo l t] = some (LV 1 (I .u8) (pkI l) .sh) :=
  cP_prim (g := primLL dT eB wPack) (args' := [LV 1 Bo l .sh]) (by kernel_rfl) hn (by simp [argEl_eq]) ((primLL_LV .sh [] (mapO_dT l) hl).trans (by rw [mkl_eB])) (by simp [pkI])
end Go.Proofs.Ytcpgmbpndpcmdaa
namespace Go.Proofs.Ytcpgmbpndpcmdaa
open Go
set_option linter.unusedSimpArgs false
set_option linter.unusedVariables false
set_option maxRecDepth 100000
structure Rq where
  code : Int
  addr : Int
  cnt : Int
  to_ : Int
  words : List Int
  bits : List Bool
  and_ : Int
  or_ : Int
  deriving DecidableEq
def rqE (x : Rq) (t t2 : Tag) : DV := .agg [I .i64 x.code, I .i64 x.addr, I .i64 x.cnt, I .i64 x.to_, LV 1 (I .u16) x.words t, LV 1 Bo x.bits t2, I .u16 x.and_, I .u16 x.or_]
structure RqOk (x : Rq) : Prop where
  w : Words x.words
  a : 0 ≤ x.and_ ∧ x.and_ < 65536
  o : 0 ≤ x.or_ ∧ x.or_ < 65536
  lw : x.words.length ≤ 3000
  lb : x.bits.length ≤ 30000
section
variable {P : Program}
end
def lgV (x : Rq) : Bool := decide (300 < x.words.length ∨ 3000 < x.bits.length)
theorem ref06_Large_c (n : Nat) (x : Rq) (t1 t2 : Tag) (hn : 1 ≤ n) : cP n 8 false [rqE x t1 t2] = some (Bo (lgV x)) := by
  obtain ⟨n, rfl⟩ : ∃ m, n = m + 1 := ⟨n - 1, by omega⟩
  unfold lgV
  by_cases h1 : 300 < x.words.length
  · rw [decide_eq_true (.inl h1)]
    exact cP_of (r := Bo true) (args' := [rqE x .sh .sh]) (by simp [argEl_eq, rqE]) ((s_triuneref06_Large_eq _ _ _ _).trans (by unfold s_triuneref06_Large rqE; simp -implicitDefEqProofs (disch := first | omega | (simp only [List.length_set, List.length_append, List.length_cons, List.length_nil, List.length_take, List.length_drop, List.length_map]; omega) | simp) [wrap_i64, wrap_u16_id, wrap_u8_id, tdiv_pos, tmod_pos, -getElem?_pos, -getElem?_neg, -List.length_eq_zero_iff, -List.getElem_cons_drop, h1]; first | exact rfl | exact ⟨rfl, rfl⟩)) (by simp)
  · by_cases h2 : 3000 < x.bits.length
    · rw [decide_eq_true (.inr h2)]
      exact cP_of (r := Bo true) (args' := [rqE x .sh .sh]) (by simp [argEl_eq, rqE]) ((s_triuneref06_Large_eq _ _ _ _).trans (by unfold s_triuneref06_Large rqE; simp -implicitDefEqProofs (disch := first | omega | (simp only [List.length_set, List.length_append, List.length_cons, List.length_nil, List.length_take, List.length_drop, List.length_map]; omega) | simp) [wrap_i64, wrap_u16_id, wrap_u8_id, tdiv_pos, tmod_pos, -getElem?_pos, -getElem?_neg, -List.length_eq_zero_iff, -List.getElem_cons_drop, h1, h2]; exact ⟨by omega, rfl⟩)) (by simp)
    · rw [decide_eq_false (by omega)]
      exact cP_of (r := Bo false) (args' := [rqE x .sh .sh]) (by simp [argEl_eq, rqE]) ((s_triuneref06_Large_eq _ _ _ _).trans (by unfold s_triuneref06_Large rqE; simp -implicitDefEqProofs (disch := first | omega | (simp only [List.length_set, List.length_append, List.length_cons, List.length_nil, List.length_take, List.length_drop, List.length_map]; omega) | simp) [wrap_i64, wrap_u16_id, wrap_u8_id, tdiv_pos, tmod_pos, -getElem?_pos, -getElem?_neg, -List.length_eq_zero_iff, -List.getElem_cons_drop, h1, h2]; exact ⟨by omega, rfl⟩)) (by simp)
end Go.Proofs.Ytcpgmbpndpcmdaa
namespace Go.Proofs.Ytcpgmbpndpcmdaa
open Go Go.RowKit Go.ChangeShapes Go.WideShapes
def isAgT (P : Program) (t : TypeId) : Bool := match P.underlying t with
  | some (.struct _) => true
  | some (.array _ _) => true
  | _ => false
def elOf (ag : Bool) (ds : List DV) : DV := if ag then .agg ds else ds.headD .any
def ShpFs (S : TypeId → List DV → Prop) : List TypeId → List DV → Prop
  | [], ds => ds = []
  | t :: ts, ds => ∃ a b, ds = a ++ b ∧ S t a ∧ ShpFs S ts b
def Shp (P : Program) : Nat → TypeId → List DV → Prop
  | 0, _, _ => False
  | d + 1, t, ds => match P.underlying t with
    | some (.int k) => ∃ n, ds = [.flat (.int k n)] ∧ (Lit.int k n).wf = true
    | some .bool => ∃ b, ds = [.flat (.bool b)]
    | some .string => ∃ s : ByteArray, ds = [.flat (.string s)] ∧ s.size ≤ reachBytes
    | some (.slice e) => ∃ l : List (List DV), ds = [mkl (P.cellsOf e) (l.map (elOf (isAgT P e))) .sh] ∧ l.length * P.bytesOf e ≤ reachBytes ∧ ∀ x ∈ l, Shp P d e x
    | some (.struct fs) => ShpFs (Shp P d) (fs.toList.map (·.type)) ds
    | some (.array n e) => ∃ l : List (List DV), l.length = n ∧ ds = l.flatten ∧ ∀ x ∈ l, Shp P d e x
    | _ => False
def laidFs (P : Program) (total : Nat) : Nat → List Field → Bool
  | off, [] => off == total
  | off, f :: fs => f.offset == off && laidFs P total (off + P.cellsOf f.type) fs
def deepT (P : Program) : Nat → TypeId → Bool
  | 0, _ => false
  | d + 1, t => match P.underlying t with
    | some (.int _) => P.cellsOf t == 1
    | some .bool => P.cellsOf t == 1
    | some .string => P.cellsOf t == 1
    | some (.slice e) => P.cellsOf t == 1 && decide (0 < P.bytesOf e ∧ 0 < P.cellsOf e) && (isAgT P e || P.cellsOf e == 1) && deepT P d e
    | some (.struct fs) => laidFs P (P.cellsOf t) 0 fs.toList && fs.toList.all fun f => deepT P d f.type
    | some (.array n e) => P.cellsOf t == n * P.cellsOf e && deepT P d e
    | _ => false
section
variable {H : Type} {enc' : TypeId × Value → H} {P : Program} {W : World} {spare : Nat → Bool} {held : Bool}
abbrev Any : Nat → Nat → Prop := fun _ _ => True
def Opened (P : Program) (W : World) (d : Nat) (t : TypeId) (cs : List Value) : Prop :=
  ∃ ds : List DV, RepL Any W [] ds cs ∧ Shp P d t ds ∧ ds.all DV.leaf = true ∧ ∀ v ∈ cs, isOne v = true
theorem ex_list {α : Type} (Q : Nat → α → Prop) (n : Nat) (h : ∀ i, i < n → ∃ y, Q i y) : ∃ L : List α, L.length = n ∧ ∀ i (hi : i < L.length), Q i L[i] := by
  induction n with
  | zero => exact ⟨[], rfl, fun i hi => by simp at hi⟩
  | succ n ih =>
    obtain ⟨L, rfl, hL⟩ := ih (fun i hi => h i (by omega))
    obtain ⟨y, hy⟩ := h L.length (by omega)
    refine ⟨L ++ [y], by simp, fun i hi => ?_⟩
    by_cases hlt : i < L.length
    · rw [List.getElem_append_left hlt]; exact hL i hlt
    · have : i = L.length := by simp at hi; omega
      subst this
      simpa using hy
theorem addr_pl {w : World} {a : Addr} {v : Value} (h : w.cell? a = some v) : a = ⟨a.block, a.off, none⟩ := by
  obtain ⟨b, o, s⟩ := a
  unfold World.cell? at h
  split at h
  · cases s with
    | none => rfl
    | some s => simp at h
  · cases h
theorem addr_ad (b o j : Nat) : (⟨b, o, none⟩ : Addr).add j = ⟨b, o + j, none⟩ := by
  unfold Addr.add; split <;> simp_all
theorem RepE.of {I : Nat → Nat → Prop} {w : World} {sz b : Nat} : ∀ (xs : List DV) (o : Nat), (∀ i (hi : i < xs.length), xs[i].cells.all DV.leaf = true ∧ ∃ V, Rep I w [] xs[i] V ∧ V.cells.size = sz ∧ CellsAt I w b (o + i * sz) V.cells.toList) → RepE I w sz xs b o
  | [], _, _ => by simp [RepE]
  | x :: xs, o, h => by
    simp only [RepE]
    refine ⟨by have h0 := h 0 (by simp); rw [Nat.zero_mul, Nat.add_zero] at h0; exact h0, RepE.of xs (o + sz) fun i hi => ?_⟩
    have := h (i + 1) (by simpa using hi)
    rw [show o + (i + 1) * sz = o + sz + i * sz by rw [Nat.add_mul]; omega] at this
    simpa using this
theorem open_fields {d n : Nat} {cs : List Value} {total : Nat} (hcs : cs.length = total) (ih : ∀ (t : TypeId) (cs : List Value) (x : DataW H × List MemPlace), deepT P d t = true → DataW.trod enc' P W 0 spare held n t cs = some x → (∀ k ∈ x.1.weights P t, k ≤ reachBytes) → Opened P W d t cs) :
    ∀ (fs : List Field) (off : Nat) (xs : List (DataW H × List MemPlace)), laidFs P total off fs = true → fs.all (fun f => deepT P d f.type) = true → xs.length = fs.length →
      (∀ (i : Nat) (f : Field), fs[i]? = some f → DataW.trod enc' P W 0 spare held n f.type ((cs.drop f.offset).take (P.cellsOf f.type)) = xs[i]?) →
      (∀ k ∈ DataW.weightsEach P (fs.map (·.type)) (xs.map (·.1)), k ≤ reachBytes) →
      ∃ ds : List DV, RepL Any W [] ds (cs.drop off) ∧ ShpFs (Shp P d) (fs.map (·.type)) ds ∧ ds.all DV.leaf = true ∧ ∀ v ∈ cs.drop off, isOne v = true
  | [], off, xs, hl, _, _, _, _ => by
    have : off = total := by simpa [laidFs] using hl
    have : cs.drop off = [] := by rw [List.drop_eq_nil_iff]; omega
    rw [this]
    exact ⟨[], by simp [RepL], rfl, rfl, fun v hv => by simp at hv⟩
  | f :: fs, off, [], _, _, hx, _, _ => by simp at hx
  | f :: fs, off, x :: xs, hl, hd, hx, ht, hw => by
    simp only [laidFs, Bool.and_eq_true, beq_iff_eq] at hl
    simp only [List.all_cons, Bool.and_eq_true] at hd
    have h0 := ht 0 f rfl
    simp only [List.getElem?_cons_zero] at h0
    rw [hl.1] at h0
    simp only [List.map_cons, DataW.weightsEach, List.mem_append] at hw
    obtain ⟨a, ha1, ha2, ha3, ha4⟩ := ih _ _ _ hd.1 h0 (fun k hk => hw k (.inl hk))
    obtain ⟨b, hb1, hb2, hb3, hb4⟩ := open_fields hcs ih fs (off + P.cellsOf f.type) xs hl.2 hd.2 (by simpa using hx) (fun i g hg => by
      have := ht (i + 1) g (by simpa using hg)
      simpa using this) (fun k hk => hw k (.inr hk))
    have hsplit : cs.drop off = (cs.drop off).take (P.cellsOf f.type) ++ cs.drop (off + P.cellsOf f.type) := by
      rw [← List.drop_drop, List.take_append_drop]
    refine ⟨a ++ b, ?_, ⟨a, b, rfl, ha2, hb2⟩, by simp only [List.all_append, ha3, hb3, Bool.and_self], ?_⟩
    · rw [hsplit]; exact ha1.app hb1
    · rw [hsplit]
      intro v hv
      rcases List.mem_append.mp hv with h | h
      · exact ha4 v h
      · exact hb4 v h
theorem open_items {d n : Nat} {e : TypeId} {cs : List Value} (hde : deepT P d e = true) (ih : ∀ (t : TypeId) (cs : List Value) (x : DataW H × List MemPlace), deepT P d t = true → DataW.trod enc' P W 0 spare held n t cs = some x → (∀ k ∈ x.1.weights P t, k ≤ reachBytes) → Opened P W d t cs) :
    ∀ (xs : List (DataW H × List MemPlace)) (off : Nat), cs.length = off + xs.length * P.cellsOf e → (∀ i, i < xs.length → DataW.trod enc' P W 0 spare held n e ((cs.drop (off + i * P.cellsOf e)).take (P.cellsOf e)) = xs[i]?) →
      (∀ k ∈ DataW.weightsAll P e (xs.map (·.1)), k ≤ reachBytes) →
      ∃ l : List (List DV), l.length = xs.length ∧ RepL Any W [] l.flatten (cs.drop off) ∧ (∀ x ∈ l, Shp P d e x) ∧ l.flatten.all DV.leaf = true ∧ ∀ v ∈ cs.drop off, isOne v = true
  | [], off, hl, _, _ => by
    have : cs.drop off = [] := by rw [List.drop_eq_nil_iff]; simp at hl; omega
    rw [this]
    exact ⟨[], rfl, by simp [RepL], fun x hx => by simp at hx, rfl, fun v hv => by simp at hv⟩
  | x :: xs, off, hl, ht, hw => by
    have h0 := ht 0 (by simp)
    simp only [List.getElem?_cons_zero, Nat.zero_mul, Nat.add_zero] at h0
    simp only [List.map_cons, DataW.weightsAll, List.mem_append] at hw
    obtain ⟨a, ha1, ha2, ha3, ha4⟩ := ih _ _ _ hde h0 (fun k hk => hw k (.inl hk))
    obtain ⟨l, hb0, hb1, hb2, hb3, hb4⟩ := open_items hde ih xs (off + P.cellsOf e) (by rw [hl, List.length_cons, Nat.add_mul]; omega) (fun i hi => by
      have := ht (i + 1) (by simpa using hi)
      rw [show off + (i + 1) * P.cellsOf e = off + P.cellsOf e + i * P.cellsOf e by rw [Nat.add_mul]; omega] at this
      simpa using this) (fun k hk => hw k (.inr hk))
    have hsplit : cs.drop off = (cs.drop off).take (P.cellsOf e) ++ cs.drop (off + P.cellsOf e) := by
      rw [← List.drop_drop, List.take_append_drop]
    refine ⟨a :: l, by simp [hb0], ?_, ?_, by simp only [List.flatten_cons, List.all_append, ha3, hb3, Bool.and_self], ?_⟩
    · rw [hsplit, List.flatten_cons]; exact ha1.app hb1
    · intro y hy
      rcases List.mem_cons.mp hy with rfl | hy
      · exact ha2
      · exact hb2 y hy
    · rw [hsplit]
      intro v hv
      rcases List.mem_append.mp hv with h | h
      · exact ha4 v h
      · exact hb4 v h
theorem open_cells : ∀ (d n : Nat) (t : TypeId) (cs : List Value) (x : DataW H × List MemPlace), deepT P d t = true → DataW.trod enc' P W 0 spare held n t cs = some x → (∀ k ∈ x.1.weights P t, k ≤ reachBytes) → Opened P W d t cs := by
  intro d
  induction d with
  | zero => intro n t cs x hd; cases hd
  | succ d ih =>
    intro n t cs x hd h hw
    unfold deepT at hd
    unfold Opened Shp
    split at hd
    · rename_i k hu
      obtain ⟨m, rfl, _, hwf⟩ := DataW.trod_int hu h
      exact ⟨[.flat (.int k m)], by simp [RepL, Rep], ⟨m, rfl, hwf⟩, rfl, fun v hv => by simp at hv; subst hv; rfl⟩
    · rename_i hu
      obtain ⟨b, rfl, _⟩ := DataW.trod_bool hu h
      exact ⟨[.flat (.bool b)], by simp [RepL, Rep], ⟨b, rfl⟩, rfl, fun v hv => by simp at hv; subst hv; rfl⟩
    · rename_i hu
      obtain ⟨s, rfl, rfl, _⟩ := DataW.trod_string hu h
      refine ⟨[.flat (.string s)], by simp [RepL, Rep], ⟨s, rfl, ?_⟩, rfl, fun v hv => by simp at hv; subst hv; rfl⟩
      have := hw s.data.toList.length (by simp [DataW.weights])
      simpa using this
    · rename_i e hu
      simp only [Bool.and_eq_true, beq_iff_eq, decide_eq_true_eq, Bool.or_eq_true] at hd
      obtain ⟨⟨⟨_, hB0, hpos2⟩, hag⟩, hde⟩ := hd
      rcases DataW.trod_slice hu h with ⟨rfl, _⟩ | ⟨a, len, cap, elems, rest, m, rfl, rfl, rfl, _, hl, _, hlen, hel, _, _⟩
      · refine ⟨[.list 0 [] .sh], ?_, ⟨[], rfl, by simp, fun x hx => by simp at hx⟩, rfl, fun v hv => by simp at hv; subst hv; rfl⟩
        simp only [RepL, Rep]
        exact ⟨_, _, rfl, ⟨none, 0, by simp, by simp, by simp, by simp, by simp [TagOk]⟩, rfl⟩
      · simp only [DataW.weights, hu, List.mem_cons, List.mem_append, List.length_map] at hw
        have hz := hw _ (.inl rfl)
        have hz2 : len * P.bytesOf e ≤ reachBytes := Nat.le_trans (Nat.mul_le_mul_right _ (by omega)) hz
        have hlen2 : len ≤ 140737488351232 := Nat.le_trans (Nat.le_mul_of_pos_right _ hB0) hz2
        have each : ∀ i, i < len → ∃ q : List DV, ∃ cs : List Value, W.cells? 0 (a.add (i * P.cellsOf e)) (P.cellsOf e) = some cs ∧ RepL Any W [] q cs ∧ Shp P d e q ∧ q.all DV.leaf = true ∧ ∀ v ∈ cs, isOne v = true := by
          intro i hi
          have h1 := hel i hi
          have h2 : elems[i]? = some elems[i] := List.getElem?_eq_getElem (by omega)
          rw [h2, Option.bind_eq_some_iff] at h1
          obtain ⟨cs, h3, h4⟩ := h1
          have hwi : ∀ k ∈ elems[i].1.weights P e, k ≤ reachBytes := by
            intro k hk
            refine hw k (.inr (.inl ?_))
            have : ∀ (L : List (DataW H)) (y : DataW H), y ∈ L → ∀ k ∈ y.weights P e, k ∈ DataW.weightsAll P e L := by
              intro L
              induction L with
              | nil => intro y hy; simp at hy
              | cons z L ih2 =>
                intro y hy k hk
                simp only [DataW.weightsAll, List.mem_append]
                rcases List.mem_cons.mp hy with rfl | hy
                · exact .inl hk
                · exact .inr (ih2 y hy k hk)
            exact this _ elems[i].1 (List.mem_map.mpr ⟨elems[i], List.getElem_mem _, rfl⟩) k hk
          obtain ⟨q, q1, q2, q3, q4⟩ := ih _ _ _ _ hde h4 hwi
          exact ⟨q, cs, h3, q1, q2, q3, q4⟩
        obtain ⟨L, hL, hLc⟩ := ex_list _ len each
        subst hL
        refine ⟨[mkl (P.cellsOf e) (L.map (elOf (isAgT P e))) .sh], ?_, ⟨L, rfl, hz2, ?_⟩, ?_, fun v hv => by simp at hv; subst hv; rfl⟩
        · simp only [RepL]
          refine ⟨_, _, rfl, ?_, rfl⟩
          by_cases h0 : L = []
          · subst h0
            show Rep Any W [] (.list 0 [] .sh) _
            simp only [Rep]
            exact ⟨some a, cap, rfl, Nat.zero_le _, Nat.zero_le _, .inl trivial, trivial⟩
          · have hmk : mkl (P.cellsOf e) (L.map (elOf (isAgT P e))) .sh = .list (P.cellsOf e) (L.map (elOf (isAgT P e))) .sh := by
              cases L with
              | nil => exact absurd rfl h0
              | cons => rfl
            rw [hmk]
            simp only [Rep, List.length_map]
            refine ⟨some a, cap, rfl, hl, by omega, .inr ?_, trivial⟩
            have ha : a = ⟨a.block, a.off, none⟩ := by
              have hpos : 0 < L.length := List.length_pos_iff.mpr h0
              obtain ⟨cs0, c1, c2, c3, c4, c5⟩ := hLc 0 hpos
              have hc := World.cells?_some c1
              have c := hc.2.2 0 hpos2
              simp only [Nat.zero_mul] at c
              have e1 : (a.add 0).add 0 = a := by simp [Addr.add]
              rw [e1] at c
              rw [List.getElem?_eq_getElem (by omega)] at c
              exact addr_pl c
            refine ⟨a.block, a.off, by rw [← ha], RepE.of _ _ fun i hi => ?_⟩
            have hi' : i < L.length := by simpa using hi
            obtain ⟨cs, c1, c2, c3, c4, c5⟩ := hLc i hi'
            have hc := World.cells?_some c1
            have cell : ∀ j v, cs[j]? = some v → W.cell? ⟨a.block, a.off + i * P.cellsOf e + j, none⟩ = some v ∧ Any a.block (a.off + i * P.cellsOf e + j) ∧ isOne v = true := by
              intro j v hv
              have hj : j < cs.length := by
                rcases Nat.lt_or_ge j cs.length with h | h
                · exact h
                · rw [List.getElem?_eq_none h] at hv; cases hv
              have := hc.2.2 j (by omega)
              rw [ha, addr_ad, addr_ad, hv] at this
              exact ⟨this, trivial, c5 v (List.mem_of_getElem? hv)⟩
            rw [List.getElem_map]
            by_cases hA : isAgT P e = true
            · have hel : elOf (isAgT P e) L[i] = .agg L[i] := by simp [elOf, hA]
              rw [hel]
              refine ⟨c4, .agg cs.toArray, by simp only [Rep]; exact ⟨_, rfl, c2⟩, by simpa [Value.cells] using hc.2.1, fun j v hv => cell j v (by simpa [Value.cells] using hv)⟩
            · have h1 : P.cellsOf e = 1 := by rcases hag with h | h; exact absurd h hA; exact h
              have hl2 := c2.length
              match hq : L[i], cs, hc.2.1, c2, c4, c5, cell with
              | [q], [v], _, c2, c4, c5, cell =>
                have hel : elOf (isAgT P e) [q] = q := by simp [elOf, hA]
                rw [hel]
                simp only [List.all_cons, List.all_nil, Bool.and_true] at c4
                have hqc : q.cells = [q] := by cases q <;> first | rfl | cases c4
                simp only [RepL] at c2
                obtain ⟨v', _, e1, c2, rfl⟩ := c2
                cases e1
                have hv1 : isOne v = true := c5 v (by simp)
                have hvc : v.cells = #[v] := by cases v <;> first | rfl | cases hv1
                refine ⟨by rw [hqc]; simp [c4], v, c2, by rw [hvc]; simp [h1], fun j u hu => cell j u (by rw [hvc] at hu; exact hu)⟩
              | [], [v], _, _, _, _, _ => rw [hq] at hl2; simp at hl2
              | _ :: _ :: _, [v], _, _, _, _, _ => rw [hq] at hl2; simp at hl2
              | _, [], hh, _, _, _, _ => simp at hh; omega
              | _, _ :: _ :: _, hh, _, _, _, _ => simp at hh; omega
        · intro x hx
          obtain ⟨i, hi, rfl⟩ := List.mem_iff_getElem.mp hx
          obtain ⟨cs, _, _, q2, _⟩ := hLc i hi
          exact q2
        · cases L <;> rfl
    · rename_i fs hu
      simp only [Bool.and_eq_true] at hd
      obtain ⟨xs, m, rfl, rfl, hl, hxs, hel⟩ := DataW.trod_struct hu h
      simp only [DataW.weights, hu] at hw
      obtain ⟨ds, h1, h2, h3, h4⟩ := open_fields (d := d) hl (ih m) fs.toList 0 xs hd.1 hd.2 (by simpa using hxs) (fun i f hf => hel i f (by simpa using hf)) hw
      exact ⟨ds, by simpa using h1, h2, h3, by simpa using h4⟩
    · rename_i cnt e hu
      simp only [Bool.and_eq_true, beq_iff_eq] at hd
      obtain ⟨xs, m, rfl, rfl, hl, hxs, hel⟩ := DataW.trod_array hu h
      simp only [DataW.weights, hu] at hw
      obtain ⟨l, h0, h1, h2, h3, h4⟩ := open_items (d := d) (e := e) (cs := cs) hd.2 (ih m) xs 0 (by rw [hl, hd.1, hxs, Nat.zero_add]) (fun i hi => by rw [Nat.zero_add]; exact hel i (by omega)) hw
      exact ⟨l.flatten, by simpa using h1, ⟨l, by rw [h0, hxs], rfl, h2⟩, h3, by simpa using h4⟩
    · cases hd
theorem open_arg (d : Nat) {t : TypeId} {r : Reach} {b0 : Nat} {v : Value} {x : DataW H} {ps : List MemPlace} (hd : deepT P d t = true) (hval : Value.okWide P W r b0 t v) (h : DataW.Trod enc' P W 0 spare held t v x ps) (hw : ∀ k ∈ x.weights P t, k ≤ reachBytes) :
    ∃ ds : List DV, Rep Any W [] (elOf (isAgT P t) ds) v ∧ Shp P d t ds := by
  obtain ⟨fuel, hf⟩ := h
  obtain ⟨ds, h1, h2, h3, h4⟩ := open_cells d fuel t v.cells.toList _ hd hf hw
  refine ⟨ds, ?_, h2⟩
  have one : isAgT P t = false → v.cells.toList = [v] → Rep Any W [] (elOf (isAgT P t) ds) v := by
    intro hA hv
    rw [hv] at h1
    match ds, h1 with
    | [q], h1 =>
      simp only [RepL] at h1
      obtain ⟨v', _, e1, h1, rfl⟩ := h1
      cases e1
      simpa [elOf, hA] using h1
    | [], h1 => simp [RepL] at h1
    | _ :: _ :: _, h1 => have := h1.length; simp at this
  cases d with
  | zero => cases hd
  | succ d =>
    unfold deepT at hd
    split at hd
    · rename_i k hu
      obtain ⟨m, rfl⟩ := okWide_int hu hval
      exact one (by unfold isAgT; rw [hu]) rfl
    · rename_i hu
      obtain ⟨m, rfl⟩ := okWide_bool hu hval
      exact one (by unfold isAgT; rw [hu]) rfl
    · rename_i hu
      obtain ⟨m, rfl⟩ := okWide_string hu hval
      exact one (by unfold isAgT; rw [hu]) rfl
    · rename_i e hu
      obtain ⟨_, _, _, rfl⟩ := okWide_slice hu hval
      exact one (by unfold isAgT; rw [hu]) rfl
    · rename_i fs hu
      obtain ⟨cs, rfl, _⟩ := okWide_struct hu hval
      have hA : isAgT P t = true := by unfold isAgT; rw [hu]
      simp only [elOf, hA, if_true, Rep]
      exact ⟨cs, rfl, h1⟩
    · rename_i n e hu
      have hA : isAgT P t = true := by unfold isAgT; rw [hu]
      unfold Value.okWide at hval
      rw [hu] at hval
      obtain ⟨cs, rfl, _⟩ := hval
      simp only [elOf, hA, if_true, Rep]
      exact ⟨cs, rfl, h1⟩
    · cases hd
end
attribute [irreducible] Shp isAgT
end Go.Proofs.Ytcpgmbpndpcmdaa
namespace Go.Proofs.Ytcpgmbpndpcmdaa
open Go Go.RowKit
theorem wf_u8 {n : Int} (h : (Lit.int .u8 n).wf = true) : 0 ≤ n ∧ n < 256 := by
  simp [Lit.wf, IntKind.min, IntKind.max, IntKind.signed, IntKind.bits] at h; omega
theorem wf_u16 {n : Int} (h : (Lit.int .u16 n).wf = true) : 0 ≤ n ∧ n < 65536 := by
  simp [Lit.wf, IntKind.min, IntKind.max, IntKind.signed, IntKind.bits] at h; omega
theorem wf_i64 {n : Int} (h : (Lit.int .i64 n).wf = true) : -9223372036854775808 ≤ n ∧ n < 9223372036854775808 := by
  simp [Lit.wf, IntKind.min, IntKind.max, IntKind.signed, IntKind.bits] at h; omega
section
variable {P : Program} {d : Nat} {t e : TypeId} {ds : List DV}
theorem shp_int {k : IntKind} (hu : P.underlying t = some (.int k)) (h : Shp P (d + 1) t ds) : ∃ n, ds = [.flat (.int k n)] ∧ (Lit.int k n).wf = true := by
  unfold Shp at h; rw [hu] at h; exact h
theorem shp_bool (hu : P.underlying t = some .bool) (h : Shp P (d + 1) t ds) : ∃ b, ds = [.flat (.bool b)] := by
  unfold Shp at h; rw [hu] at h; exact h
theorem shp_struct {fs : Array Field} (hu : P.underlying t = some (.struct fs)) (h : Shp P (d + 1) t ds) : ShpFs (Shp P d) (fs.toList.map (·.type)) ds := by
  unfold Shp at h; rw [hu] at h; exact h
theorem pick_list {α β : Type} (f : α → β → Prop) (l : List α) (h : ∀ x ∈ l, ∃ a, f x a) : ∃ L : List β, L.length = l.length ∧ ∀ i (h1 : i < l.length) (h2 : i < L.length), f l[i] L[i] := by
  induction l with
  | nil => exact ⟨[], rfl, fun i h => by simp at h⟩
  | cons x l ih =>
    obtain ⟨a, ha⟩ := h x (by simp)
    obtain ⟨L, h1, h2⟩ := ih (fun x hx => h x (by simp [hx]))
    refine ⟨a :: L, by simp [h1], fun i hi hi2 => ?_⟩
    cases i with
    | zero => exact ha
    | succ i => exact h2 i (by simpa using hi) (by simpa using hi2)
theorem shp_slice {α : Type} (enc : α → DV) (Q : α → Prop) {sz : Nat} (hu : P.underlying t = some (.slice e)) (hsz : P.cellsOf e = sz) (hel : ∀ x, Shp P d e x → ∃ a, elOf (isAgT P e) x = enc a ∧ Q a) (h : Shp P (d + 1) t ds) :
    ∃ l : List α, ds = [LV sz enc l .sh] ∧ l.length * P.bytesOf e ≤ reachBytes ∧ ∀ a ∈ l, Q a := by
  unfold Shp at h; rw [hu] at h
  obtain ⟨l, h1, h2, h3⟩ := h
  obtain ⟨L, hL, hLc⟩ := pick_list (fun (x : List DV) (a : α) => elOf (isAgT P e) x = enc a ∧ Q a) l (fun x hx => hel x (h3 x hx))
  refine ⟨L, ?_, by rw [hL]; exact h2, fun a ha => ?_⟩
  · rw [h1, hsz]
    congr 2
    refine List.ext_getElem (by simp [hL]) fun i h4 h5 => ?_
    simp only [List.getElem_map]
    exact (hLc i (by simpa using h4) (by simpa using h5)).1
  · obtain ⟨i, hi, rfl⟩ := List.mem_iff_getElem.mp ha
    exact (hLc i (by omega) hi).2
theorem shp_ints {k : IntKind} (hu : P.underlying t = some (.slice e)) (he : P.underlying e = some (.int k)) (hsz : P.cellsOf e = 1) (h : Shp P (d + 2) t ds) :
    ∃ l : List Int, ds = [LV 1 (I k) l .sh] ∧ l.length * P.bytesOf e ≤ reachBytes ∧ ∀ a ∈ l, (Lit.int k a).wf = true :=
  shp_slice (I k) _ hu hsz (fun x hx => by
    obtain ⟨n, rfl, hn⟩ := shp_int he hx
    refine ⟨n, ?_, hn⟩
    simp [elOf, isAgT, he]) h
end
theorem mixed : Try.prog.follows .mixedOrders = true := by kernel_rfl
theorem noOwn : NoOwn Try.prog := by unfold NoOwn; kernel_rfl
theorem primSound : PrimSound Try.prog ENV := fun f g args H d H' h h2 => primOk f g args H d H' h h2
end Go.Proofs.Ytcpgmbpndpcmdaa
namespace Go.Proofs.Ytcpgmbpndpcmdaa
open Go
set_option linter.unusedSimpArgs false
set_option linter.unusedVariables false
structure RqTy (x : Rq) : Prop where
  w : Words x.words
  a : 0 ≤ x.and_ ∧ x.and_ < 65536
  o : 0 ≤ x.or_ ∧ x.or_ < 65536
  c : -9223372036854775808 ≤ x.code ∧ x.code < 9223372036854775808
  ad : -9223372036854775808 ≤ x.addr ∧ x.addr < 9223372036854775808
  cn : -9223372036854775808 ≤ x.cnt ∧ x.cnt < 9223372036854775808
  t : -9223372036854775808 ≤ x.to_ ∧ x.to_ < 9223372036854775808
theorem RqTy.ok {x : Rq} (h : RqTy x) (hl : lgV x = false) : RqOk x := by
  unfold lgV at hl
  simp only [decide_eq_false_iff_not] at hl
  exact ⟨h.w, h.a, h.o, by omega, by omega⟩
theorem shp_bo {d : Nat} {e : List DV} (h : Shp Try.prog (d + 1) 4 e) : ∃ b : Bool, elOf (isAgT Try.prog 4) e = Bo b ∧ True := by
  obtain ⟨b, rfl⟩ := shp_bool Try.underlying4 h
  exact ⟨b, by kernel_rfl, trivial⟩
theorem shp_rq {d : Nat} {e : List DV} (h : Shp Try.prog (d + 3) 28 e) : ∃ x : Rq, elOf (isAgT Try.prog 28) e = rqE x .sh .sh ∧ RqTy x := by
  have h := shp_struct Try.underlying28 h
  simp only [List.map_cons, List.map_nil, ShpFs] at h
  obtain ⟨a, _, rfl, ha, b, _, rfl, hb, c, _, rfl, hc, f, _, rfl, hf, g, _, rfl, hg, i, _, rfl, hi, j, _, rfl, hj, k, _, rfl, hk, rfl⟩ := h
  obtain ⟨a, rfl, wa⟩ := shp_int (k := .i64) Try.underlying3 ha
  obtain ⟨b, rfl, wb⟩ := shp_int (k := .i64) Try.underlying3 hb
  obtain ⟨c, rfl, wc⟩ := shp_int (k := .i64) Try.underlying3 hc
  obtain ⟨f, rfl, wf⟩ := shp_int (k := .i64) Try.underlying3 hf
  obtain ⟨g, rfl, _, wg⟩ := shp_ints (k := .u16) Try.underlying24 Try.underlying26 (by kernel_rfl) hg
  obtain ⟨i, rfl, _, _⟩ := shp_slice (e := 4) Bo (fun _ => True) (sz := 1) Try.underlying25 (by kernel_rfl) (fun x hx => shp_bo hx) hi
  obtain ⟨j, rfl, wj⟩ := shp_int (k := .u16) Try.underlying26 hj
  obtain ⟨k, rfl, wk⟩ := shp_int (k := .u16) Try.underlying26 hk
  exact ⟨⟨a, b, c, f, g, i, j, k⟩, by kernel_rfl, ⟨fun x hx => wf_u16 (wg x hx), wf_u16 wj, wf_u16 wk, wf_i64 wa, wf_i64 wb, wf_i64 wc, wf_i64 wf⟩⟩
end Go.Proofs.Ytcpgmbpndpcmdaa
namespace Go.Proofs.Ytcpgmbpndpcmdaa
open Go
set_option maxRecDepth 100000
set_option linter.unusedVariables false
noncomputable def s_ask_two (n : Nat) (H : Heap) (fl : Nat) (a0 : DV) : R :=
  bi (cvK .u16 a0) fun d0 =>
  bi (cP n 54 false [d0]) fun d1 =>
  bi (allocG 104 (.agg [(I .u8 0), (I .u8 0)]) (List.length H) (H ++ [.hole])) fun h2 =>
  bi (storeG 2 (.ptr (List.length H) 0) d1 h2 fl) fun h3 =>
  bi (saX false 2 1 (.ptr (List.length H) 0) none none none) fun d4 =>
  some (d4, h3)
theorem s_ask_two_eq (n : Nat) (H : Heap) (fl : Nat) (a0 : DV) : callG Try.prog ENV (n + 1) 47 [a0] H fl = s_ask_two n H fl a0 := by kernel_rfl
noncomputable def s_ask_counted (n : Nat) (H : Heap) (fl : Nat) (a0 a1 : DV) : R :=
  bi (cP n 47 false [a0]) fun d0 =>
  bi (lenD a1) fun d1 =>
  bi (cvK .u8 d1) fun d2 =>
  bi (buildL false 1 1 (I .u8 0) [(0, d2)]) fun d3 =>
  bi (buildL false 1 3 (.list 0 [] .ti) [(0, d0), (1, d3), (2, a1)]) fun d4 =>
  bi (cP n 46 false [d4]) fun d5 =>
  some (d5, H)
theorem s_ask_counted_eq (n : Nat) (H : Heap) (fl : Nat) (a0 a1 : DV) : callG Try.prog ENV (n + 1) 77 [a0, a1] H fl = s_ask_counted n H fl a0 a1 := by kernel_rfl
noncomputable def s_ask_layCount (n : Nat) (H : Heap) (fl : Nat) (a0 : DV) : R :=
  bi (allocG 28 a0 (List.length H) (H ++ [.hole])) fun h0 =>
  bi (loadG false 1 (.ptr (List.length H) 2) h0) fun d1 =>
  bi (cP n 47 false [d1]) fun d2 =>
  some (d2, h0)
theorem s_ask_layCount_eq (n : Nat) (H : Heap) (fl : Nat) (a0 : DV) : callG Try.prog ENV (n + 1) 56 [a0] H fl = s_ask_layCount n H fl a0 := by kernel_rfl
noncomputable def s_ask_layBit (n : Nat) (H : Heap) (fl : Nat) (a0 : DV) : R :=
  bi (allocG 28 a0 (List.length H) (H ++ [.hole])) fun h0 =>
  bi (loadG false 1 (.ptr (List.length H) 5) h0) fun d1 =>
  bi (idxSl 1 d1 (I .i64 0)) fun d2 =>
  bi (loadG false 1 d2 h0) fun d3 =>
  condR d3 (
   bi (cP n 47 false [(I .i64 65280)]) fun d4 =>
  some (d4, h0)) (
  bi (cP n 47 false [(I .i64 0)]) fun d5 =>
  some (d5, h0))
theorem s_ask_layBit_eq (n : Nat) (H : Heap) (fl : Nat) (a0 : DV) : callG Try.prog ENV (n + 1) 58 [a0] H fl = s_ask_layBit n H fl a0 := by kernel_rfl
noncomputable def s_ask_layWord (n : Nat) (H : Heap) (fl : Nat) (a0 : DV) : R :=
  bi (allocG 28 a0 (List.length H) (H ++ [.hole])) fun h0 =>
  bi (loadG false 1 (.ptr (List.length H) 4) h0) fun d1 =>
  bi (cP n 38 false [d1]) fun d2 =>
  some (d2, h0)
theorem s_ask_layWord_eq (n : Nat) (H : Heap) (fl : Nat) (a0 : DV) : callG Try.prog ENV (n + 1) 60 [a0] H fl = s_ask_layWord n H fl a0 := by kernel_rfl
noncomputable def s_ask_layBits (n : Nat) (H : Heap) (fl : Nat) (a0 : DV) : R :=
  bi (allocG 28 a0 (List.length H) (H ++ [.hole])) fun h0 =>
  bi (loadG false 1 (.ptr (List.length H) 5) h0) fun d1 =>
  bi (lenD d1) fun d2 =>
  bi (loadG false 1 (.ptr (List.length H) 5) h0) fun d3 =>
  bi (cP n 37 false [d3]) fun d4 =>
  bi (cP n 77 false [d2, d4]) fun d5 =>
  some (d5, h0)
theorem s_ask_layBits_eq (n : Nat) (H : Heap) (fl : Nat) (a0 : DV) : callG Try.prog ENV (n + 1) 62 [a0] H fl = s_ask_layBits n H fl a0 := by kernel_rfl
noncomputable def s_ask_layWords (n : Nat) (H : Heap) (fl : Nat) (a0 : DV) : R :=
  bi (allocG 28 a0 (List.length H) (H ++ [.hole])) fun h0 =>
  bi (loadG false 1 (.ptr (List.length H) 4) h0) fun d1 =>
  bi (lenD d1) fun d2 =>
  bi (loadG false 1 (.ptr (List.length H) 4) h0) fun d3 =>
  bi (cP n 38 false [d3]) fun d4 =>
  bi (cP n 77 false [d2, d4]) fun d5 =>
  some (d5, h0)
theorem s_ask_layWords_eq (n : Nat) (H : Heap) (fl : Nat) (a0 : DV) : callG Try.prog ENV (n + 1) 64 [a0] H fl = s_ask_layWords n H fl a0 := by kernel_rfl
noncomputable def s_ask_layMasks (n : Nat) (H : Heap) (fl : Nat) (a0 : DV) : R :=
  bi (allocG 28 a0 (List.length H) (H ++ [.hole])) fun h0 =>
  bi (loadG false 1 (.ptr (List.length H) 6) h0) fun d1 =>
  bi (loadG false 1 (.ptr (List.length H) 7) h0) fun d2 =>
  bi (buildL false 1 2 (I .u16 0) [(0, d1), (1, d2)]) fun d3 =>
  bi (cP n 38 false [d3]) fun d4 =>
  some (d4, h0)
theorem s_ask_layMasks_eq (n : Nat) (H : Heap) (fl : Nat) (a0 : DV) : callG Try.prog ENV (n + 1) 66 [a0] H fl = s_ask_layMasks n H fl a0 := by kernel_rfl
noncomputable def s_ask_layBoth (n : Nat) (H : Heap) (fl : Nat) (a0 : DV) : R :=
  bi (allocG 28 a0 (List.length H) (H ++ [.hole])) fun h0 =>
  bi (loadG true 8 (.ptr (List.length H) 0) h0) fun d1 =>
  bi (cP n 56 false [d1]) fun d2 =>
  bi (loadG false 1 (.ptr (List.length H) 3) h0) fun d3 =>
  bi (cP n 47 false [d3]) fun d4 =>
  bi (loadG true 8 (.ptr (List.length H) 0) h0) fun d5 =>
  bi (cP n 64 false [d5]) fun d6 =>
  bi (buildL false 1 3 (.list 0 [] .ti) [(0, d2), (1, d4), (2, d6)]) fun d7 =>
  bi (cP n 46 false [d7]) fun d8 =>
  some (d8, h0)
theorem s_ask_layBoth_eq (n : Nat) (H : Heap) (fl : Nat) (a0 : DV) : callG Try.prog ENV (n + 1) 68 [a0] H fl = s_ask_layBoth n H fl a0 := by kernel_rfl
noncomputable def s_ask_formOf (n : Nat) (H : Heap) (fl : Nat) (a0 : DV) : R :=
  bi (allocG 89 (.agg [(I .i64 0), (I .i64 0), (I .i64 0), (.flat .nilFunc), (.flat .nilFunc)]) (List.length H) (H ++ [.hole])) fun h0 =>
  bi (buildS (.agg [(I .i64 0), (I .i64 0), (I .i64 0), (.flat .nilFunc), (.flat .nilFunc)]) [(0, 1), (1, 1), (2, 1), (3, 1), (4, 1)] [(3, (.flat (.func (.func 56) #[] #[]))), (4, (.flat (.func (.func 57) #[] #[])))]) fun d1 =>
  bi (allocG 89 (.agg [(I .i64 0), (I .i64 0), (I .i64 0), (.flat .nilFunc), (.flat .nilFunc)]) (List.length h0) (h0 ++ [.hole])) fun h2 =>
  bi (storeG 5 (.ptr (List.length h0) 0) d1 h2 fl) fun h3 =>
  bi (eqK .i64 a0 (I .i64 1)) fun d4 =>
  condR d4 (
  condR d4 (
   bi (storeG 1 (.ptr (List.length h0) 0) (I .i64 2000) h3 fl) fun h5 =>
  bi (loadG true 5 (.ptr (List.length h0) 0) h5) fun d6 =>
  bi (storeG 5 (.ptr (List.length H) 0) d6 h5 fl) fun h7 =>
  bi (cellR true 5 (.ptr (List.length H) 0) h7) fun r0 =>
  some ((.tup [r0, (Bo true)]), h7)) (
   bi (eqK .i64 a0 (I .i64 3)) fun d8 =>
   condR d8 (
   condR d8 (
    bi (storeG 1 (.ptr (List.length h0) 0) (I .i64 125) h3 fl) fun h9 =>
  bi (loadG true 5 (.ptr (List.length h0) 0) h9) fun d10 =>
  bi (storeG 5 (.ptr (List.length H) 0) d10 h9 fl) fun h11 =>
  bi (cellR true 5 (.ptr (List.length H) 0) h11) fun r0 =>
  some ((.tup [r0, (Bo true)]), h11)) (
    bi (eqK .i64 a0 (I .i64 5)) fun d12 =>
    condR d12 (
     bi (buildS (.agg [(I .i64 0), (I .i64 0), (I .i64 0), (.flat .nilFunc), (.flat .nilFunc)]) [(0, 1), (1, 1), (2, 1), (3, 1), (4, 1)] [(2, (I .i64 1)), (3, (.flat (.func (.func 58) #[] #[]))), (4, (.flat (.func (.func 59) #[] #[])))]) fun d13 =>
     bi (storeG 5 (.ptr (List.length h0) 0) d13 h3 fl) fun h14 =>
  bi (loadG true 5 (.ptr (List.length h0) 0) h14) fun d15 =>
  bi (storeG 5 (.ptr (List.length H) 0) d15 h14 fl) fun h16 =>
  bi (cellR true 5 (.ptr (List.length H) 0) h16) fun r0 =>
  some ((.tup [r0, (Bo true)]), h16)) (
     bi (eqK .i64 a0 (I .i64 6)) fun d17 =>
     condR d17 (
      bi (buildS (.agg [(I .i64 0), (I .i64 0), (I .i64 0), (.flat .nilFunc), (.flat .nilFunc)]) [(0, 1), (1, 1), (2, 1), (3, 1), (4, 1)] [(1, (I .i64 1)), (3, (.flat (.func (.func 60) #[] #[]))), (4, (.flat (.func (.func 61) #[] #[])))]) fun d18 =>
      bi (storeG 5 (.ptr (List.length h0) 0) d18 h3 fl) fun h19 =>
  bi (loadG true 5 (.ptr (List.length h0) 0) h19) fun d20 =>
  bi (storeG 5 (.ptr (List.length H) 0) d20 h19 fl) fun h21 =>
  bi (cellR true 5 (.ptr (List.length H) 0) h21) fun r0 =>
  some ((.tup [r0, (Bo true)]), h21)) (
      bi (eqK .i64 a0 (I .i64 15)) fun d22 =>
      condR d22 (
       bi (buildS (.agg [(I .i64 0), (I .i64 0), (I .i64 0), (.flat .nilFunc), (.flat .nilFunc)]) [(0, 1), (1, 1), (2, 1), (3, 1), (4, 1)] [(2, (I .i64 1968)), (3, (.flat (.func (.func 62) #[] #[]))), (4, (.flat (.func (.func 63) #[] #[])))]) fun d23 =>
       bi (storeG 5 (.ptr (List.length h0) 0) d23 h3 fl) fun h24 =>
  bi (loadG true 5 (.ptr (List.length h0) 0) h24) fun d25 =>
  bi (storeG 5 (.ptr (List.length H) 0) d25 h24 fl) fun h26 =>
  bi (cellR true 5 (.ptr (List.length H) 0) h26) fun r0 =>
  some ((.tup [r0, (Bo true)]), h26)) (
       bi (eqK .i64 a0 (I .i64 16)) fun d27 =>
       condR d27 (
        bi (buildS (.agg [(I .i64 0), (I .i64 0), (I .i64 0), (.flat .nilFunc), (.flat .nilFunc)]) [(0, 1), (1, 1), (2, 1), (3, 1), (4, 1)] [(1, (I .i64 123)), (3, (.flat (.func (.func 64) #[] #[]))), (4, (.flat (.func (.func 65) #[] #[])))]) fun d28 =>
        bi (storeG 5 (.ptr (List.length h0) 0) d28 h3 fl) fun h29 =>
  bi (loadG true 5 (.ptr (List.length h0) 0) h29) fun d30 =>
  bi (storeG 5 (.ptr (List.length H) 0) d30 h29 fl) fun h31 =>
  bi (cellR true 5 (.ptr (List.length H) 0) h31) fun r0 =>
  some ((.tup [r0, (Bo true)]), h31)) (
        bi (eqK .i64 a0 (I .i64 22)) fun d32 =>
        condR d32 (
         bi (buildS (.agg [(I .i64 0), (I .i64 0), (I .i64 0), (.flat .nilFunc), (.flat .nilFunc)]) [(0, 1), (1, 1), (2, 1), (3, 1), (4, 1)] [(3, (.flat (.func (.func 66) #[] #[]))), (4, (.flat (.func (.func 67) #[] #[])))]) fun d33 =>
         bi (storeG 5 (.ptr (List.length h0) 0) d33 h3 fl) fun h34 =>
  bi (loadG true 5 (.ptr (List.length h0) 0) h34) fun d35 =>
  bi (storeG 5 (.ptr (List.length H) 0) d35 h34 fl) fun h36 =>
  bi (cellR true 5 (.ptr (List.length H) 0) h36) fun r0 =>
  some ((.tup [r0, (Bo true)]), h36)) (
         bi (eqK .i64 a0 (I .i64 23)) fun d37 =>
         condR d37 (
          bi (buildS (.agg [(I .i64 0), (I .i64 0), (I .i64 0), (.flat .nilFunc), (.flat .nilFunc)]) [(0, 1), (1, 1), (2, 1), (3, 1), (4, 1)] [(0, (I .i64 125)), (1, (I .i64 121)), (3, (.flat (.func (.func 68) #[] #[]))), (4, (.flat (.func (.func 69) #[] #[])))]) fun d38 =>
          bi (storeG 5 (.ptr (List.length h0) 0) d38 h3 fl) fun h39 =>
  bi (loadG true 5 (.ptr (List.length h0) 0) h39) fun d40 =>
  bi (storeG 5 (.ptr (List.length H) 0) d40 h39 fl) fun h41 =>
  bi (cellR true 5 (.ptr (List.length H) 0) h41) fun r0 =>
  some ((.tup [r0, (Bo true)]), h41)) (
          bi (eqK .i64 a0 (I .i64 43)) fun d42 =>
          condR d42 (
           bi (storeG 1 (.ptr (List.length h0) 0) (I .i64 4) h3 fl) fun h43 =>
  bi (loadG true 5 (.ptr (List.length h0) 0) h43) fun d44 =>
  bi (storeG 5 (.ptr (List.length H) 0) d44 h43 fl) fun h45 =>
  bi (cellR true 5 (.ptr (List.length H) 0) h45) fun r0 =>
  some ((.tup [r0, (Bo true)]), h45)) (
           bi (buildS (.agg [(I .i64 0), (I .i64 0), (I .i64 0), (.flat .nilFunc), (.flat .nilFunc)]) [(0, 1), (1, 1), (2, 1), (3, 1), (4, 1)] []) fun d46 =>
           bi (storeG 5 (.ptr (List.length H) 0) d46 h3 fl) fun h47 =>
  bi (cellR true 5 (.ptr (List.length H) 0) h47) fun r0 =>
  some ((.tup [r0, (Bo false)]), h47)))))))))) (
    bi (eqK .i64 a0 (I .i64 4)) fun d48 =>
   condR d48 (
    bi (storeG 1 (.ptr (List.length h0) 0) (I .i64 125) h3 fl) fun h49 =>
  bi (loadG true 5 (.ptr (List.length h0) 0) h49) fun d50 =>
  bi (storeG 5 (.ptr (List.length H) 0) d50 h49 fl) fun h51 =>
  bi (cellR true 5 (.ptr (List.length H) 0) h51) fun r0 =>
  some ((.tup [r0, (Bo true)]), h51)) (
    bi (eqK .i64 a0 (I .i64 5)) fun d52 =>
    condR d52 (
     bi (buildS (.agg [(I .i64 0), (I .i64 0), (I .i64 0), (.flat .nilFunc), (.flat .nilFunc)]) [(0, 1), (1, 1), (2, 1), (3, 1), (4, 1)] [(2, (I .i64 1)), (3, (.flat (.func (.func 58) #[] #[]))), (4, (.flat (.func (.func 59) #[] #[])))]) fun d53 =>
     bi (storeG 5 (.ptr (List.length h0) 0) d53 h3 fl) fun h54 =>
  bi (loadG true 5 (.ptr (List.length h0) 0) h54) fun d55 =>
  bi (storeG 5 (.ptr (List.length H) 0) d55 h54 fl) fun h56 =>
  bi (cellR true 5 (.ptr (List.length H) 0) h56) fun r0 =>
  some ((.tup [r0, (Bo true)]), h56)) (
     bi (eqK .i64 a0 (I .i64 6)) fun d57 =>
     condR d57 (
      bi (buildS (.agg [(I .i64 0), (I .i64 0), (I .i64 0), (.flat .nilFunc), (.flat .nilFunc)]) [(0, 1), (1, 1), (2, 1), (3, 1), (4, 1)] [(1, (I .i64 1)), (3, (.flat (.func (.func 60) #[] #[]))), (4, (.flat (.func (.func 61) #[] #[])))]) fun d58 =>
      bi (storeG 5 (.ptr (List.length h0) 0) d58 h3 fl) fun h59 =>
  bi (loadG true 5 (.ptr (List.length h0) 0) h59) fun d60 =>
  bi (storeG 5 (.ptr (List.length H) 0) d60 h59 fl) fun h61 =>
  bi (cellR true 5 (.ptr (List.length H) 0) h61) fun r0 =>
  some ((.tup [r0, (Bo true)]), h61)) (
      bi (eqK .i64 a0 (I .i64 15)) fun d62 =>
      condR d62 (
       bi (buildS (.agg [(I .i64 0), (I .i64 0), (I .i64 0), (.flat .nilFunc), (.flat .nilFunc)]) [(0, 1), (1, 1), (2, 1), (3, 1), (4, 1)] [(2, (I .i64 1968)), (3, (.flat (.func (.func 62) #[] #[]))), (4, (.flat (.func (.func 63) #[] #[])))]) fun d63 =>
       bi (storeG 5 (.ptr (List.length h0) 0) d63 h3 fl) fun h64 =>
  bi (loadG true 5 (.ptr (List.length h0) 0) h64) fun d65 =>
  bi (storeG 5 (.ptr (List.length H) 0) d65 h64 fl) fun h66 =>
  bi (cellR true 5 (.ptr (List.length H) 0) h66) fun r0 =>
  some ((.tup [r0, (Bo true)]), h66)) (
       bi (eqK .i64 a0 (I .i64 16)) fun d67 =>
       condR d67 (
        bi (buildS (.agg [(I .i64 0), (I .i64 0), (I .i64 0), (.flat .nilFunc), (.flat .nilFunc)]) [(0, 1), (1, 1), (2, 1), (3, 1), (4, 1)] [(1, (I .i64 123)), (3, (.flat (.func (.func 64) #[] #[]))), (4, (.flat (.func (.func 65) #[] #[])))]) fun d68 =>
        bi (storeG 5 (.ptr (List.length h0) 0) d68 h3 fl) fun h69 =>
  bi (loadG true 5 (.ptr (List.length h0) 0) h69) fun d70 =>
  bi (storeG 5 (.ptr (List.length H) 0) d70 h69 fl) fun h71 =>
  bi (cellR true 5 (.ptr (List.length H) 0) h71) fun r0 =>
  some ((.tup [r0, (Bo true)]), h71)) (
        bi (eqK .i64 a0 (I .i64 22)) fun d72 =>
        condR d72 (
         bi (buildS (.agg [(I .i64 0), (I .i64 0), (I .i64 0), (.flat .nilFunc), (.flat .nilFunc)]) [(0, 1), (1, 1), (2, 1), (3, 1), (4, 1)] [(3, (.flat (.func (.func 66) #[] #[]))), (4, (.flat (.func (.func 67) #[] #[])))]) fun d73 =>
         bi (storeG 5 (.ptr (List.length h0) 0) d73 h3 fl) fun h74 =>
  bi (loadG true 5 (.ptr (List.length h0) 0) h74) fun d75 =>
  bi (storeG 5 (.ptr (List.length H) 0) d75 h74 fl) fun h76 =>
  bi (cellR true 5 (.ptr (List.length H) 0) h76) fun r0 =>
  some ((.tup [r0, (Bo true)]), h76)) (
         bi (eqK .i64 a0 (I .i64 23)) fun d77 =>
         condR d77 (
          bi (buildS (.agg [(I .i64 0), (I .i64 0), (I .i64 0), (.flat .nilFunc), (.flat .nilFunc)]) [(0, 1), (1, 1), (2, 1), (3, 1), (4, 1)] [(0, (I .i64 125)), (1, (I .i64 121)), (3, (.flat (.func (.func 68) #[] #[]))), (4, (.flat (.func (.func 69) #[] #[])))]) fun d78 =>
          bi (storeG 5 (.ptr (List.length h0) 0) d78 h3 fl) fun h79 =>
  bi (loadG true 5 (.ptr (List.length h0) 0) h79) fun d80 =>
  bi (storeG 5 (.ptr (List.length H) 0) d80 h79 fl) fun h81 =>
  bi (cellR true 5 (.ptr (List.length H) 0) h81) fun r0 =>
  some ((.tup [r0, (Bo true)]), h81)) (
          bi (eqK .i64 a0 (I .i64 43)) fun d82 =>
          condR d82 (
           bi (storeG 1 (.ptr (List.length h0) 0) (I .i64 4) h3 fl) fun h83 =>
  bi (loadG true 5 (.ptr (List.length h0) 0) h83) fun d84 =>
  bi (storeG 5 (.ptr (List.length H) 0) d84 h83 fl) fun h85 =>
  bi (cellR true 5 (.ptr (List.length H) 0) h85) fun r0 =>
  some ((.tup [r0, (Bo true)]), h85)) (
           bi (buildS (.agg [(I .i64 0), (I .i64 0), (I .i64 0), (.flat .nilFunc), (.flat .nilFunc)]) [(0, 1), (1, 1), (2, 1), (3, 1), (4, 1)] []) fun d86 =>
           bi (storeG 5 (.ptr (List.length H) 0) d86 h3 fl) fun h87 =>
  bi (cellR true 5 (.ptr (List.length H) 0) h87) fun r0 =>
  some ((.tup [r0, (Bo false)]), h87)))))))))))) (
   bi (eqK .i64 a0 (I .i64 2)) fun d88 =>
  condR d88 (
   bi (storeG 1 (.ptr (List.length h0) 0) (I .i64 2000) h3 fl) fun h89 =>
  bi (loadG true 5 (.ptr (List.length h0) 0) h89) fun d90 =>
  bi (storeG 5 (.ptr (List.length H) 0) d90 h89 fl) fun h91 =>
  bi (cellR true 5 (.ptr (List.length H) 0) h91) fun r0 =>
  some ((.tup [r0, (Bo true)]), h91)) (
   bi (eqK .i64 a0 (I .i64 3)) fun d92 =>
   condR d92 (
   condR d92 (
    bi (storeG 1 (.ptr (List.length h0) 0) (I .i64 125) h3 fl) fun h93 =>
  bi (loadG true 5 (.ptr (List.length h0) 0) h93) fun d94 =>
  bi (storeG 5 (.ptr (List.length H) 0) d94 h93 fl) fun h95 =>
  bi (cellR true 5 (.ptr (List.length H) 0) h95) fun r0 =>
  some ((.tup [r0, (Bo true)]), h95)) (
    bi (eqK .i64 a0 (I .i64 5)) fun d96 =>
    condR d96 (
     bi (buildS (.agg [(I .i64 0), (I .i64 0), (I .i64 0), (.flat .nilFunc), (.flat .nilFunc)]) [(0, 1), (1, 1), (2, 1), (3, 1), (4, 1)] [(2, (I .i64 1)), (3, (.flat (.func (.func 58) #[] #[]))), (4, (.flat (.func (.func 59) #[] #[])))]) fun d97 =>
     bi (storeG 5 (.ptr (List.length h0) 0) d97 h3 fl) fun h98 =>
  bi (loadG true 5 (.ptr (List.length h0) 0) h98) fun d99 =>
  bi (storeG 5 (.ptr (List.length H) 0) d99 h98 fl) fun h100 =>
  bi (cellR true 5 (.ptr (List.length H) 0) h100) fun r0 =>
  some ((.tup [r0, (Bo true)]), h100)) (
     bi (eqK .i64 a0 (I .i64 6)) fun d101 =>
     condR d101 (
      bi (buildS (.agg [(I .i64 0), (I .i64 0), (I .i64 0), (.flat .nilFunc), (.flat .nilFunc)]) [(0, 1), (1, 1), (2, 1), (3, 1), (4, 1)] [(1, (I .i64 1)), (3, (.flat (.func (.func 60) #[] #[]))), (4, (.flat (.func (.func 61) #[] #[])))]) fun d102 =>
      bi (storeG 5 (.ptr (List.length h0) 0) d102 h3 fl) fun h103 =>
  bi (loadG true 5 (.ptr (List.length h0) 0) h103) fun d104 =>
  bi (storeG 5 (.ptr (List.length H) 0) d104 h103 fl) fun h105 =>
  bi (cellR true 5 (.ptr (List.length H) 0) h105) fun r0 =>
  some ((.tup [r0, (Bo true)]), h105)) (
      bi (eqK .i64 a0 (I .i64 15)) fun d106 =>
      condR d106 (
       bi (buildS (.agg [(I .i64 0), (I .i64 0), (I .i64 0), (.flat .nilFunc), (.flat .nilFunc)]) [(0, 1), (1, 1), (2, 1), (3, 1), (4, 1)] [(2, (I .i64 1968)), (3, (.flat (.func (.func 62) #[] #[]))), (4, (.flat (.func (.func 63) #[] #[])))]) fun d107 =>
       bi (storeG 5 (.ptr (List.length h0) 0) d107 h3 fl) fun h108 =>
  bi (loadG true 5 (.ptr (List.length h0) 0) h108) fun d109 =>
  bi (storeG 5 (.ptr (List.length H) 0) d109 h108 fl) fun h110 =>
  bi (cellR true 5 (.ptr (List.length H) 0) h110) fun r0 =>
  some ((.tup [r0, (Bo true)]), h110)) (
       bi (eqK .i64 a0 (I .i64 16)) fun d111 =>
       condR d111 (
        bi (buildS (.agg [(I .i64 0), (I .i64 0), (I .i64 0), (.flat .nilFunc), (.flat .nilFunc)]) [(0, 1), (1, 1), (2, 1), (3, 1), (4, 1)] [(1, (I .i64 123)), (3, (.flat (.func (.func 64) #[] #[]))), (4, (.flat (.func (.func 65) #[] #[])))]) fun d112 =>
        bi (storeG 5 (.ptr (List.length h0) 0) d112 h3 fl) fun h113 =>
  bi (loadG true 5 (.ptr (List.length h0) 0) h113) fun d114 =>
  bi (storeG 5 (.ptr (List.length H) 0) d114 h113 fl) fun h115 =>
  bi (cellR true 5 (.ptr (List.length H) 0) h115) fun r0 =>
  some ((.tup [r0, (Bo true)]), h115)) (
        bi (eqK .i64 a0 (I .i64 22)) fun d116 =>
        condR d116 (
         bi (buildS (.agg [(I .i64 0), (I .i64 0), (I .i64 0), (.flat .nilFunc), (.flat .nilFunc)]) [(0, 1), (1, 1), (2, 1), (3, 1), (4, 1)] [(3, (.flat (.func (.func 66) #[] #[]))), (4, (.flat (.func (.func 67) #[] #[])))]) fun d117 =>
         bi (storeG 5 (.ptr (List.length h0) 0) d117 h3 fl) fun h118 =>
  bi (loadG true 5 (.ptr (List.length h0) 0) h118) fun d119 =>
  bi (storeG 5 (.ptr (List.length H) 0) d119 h118 fl) fun h120 =>
  bi (cellR true 5 (.ptr (List.length H) 0) h120) fun r0 =>
  some ((.tup [r0, (Bo true)]), h120)) (
         bi (eqK .i64 a0 (I .i64 23)) fun d121 =>
         condR d121 (
          bi (buildS (.agg [(I .i64 0), (I .i64 0), (I .i64 0), (.flat .nilFunc), (.flat .nilFunc)]) [(0, 1), (1, 1), (2, 1), (3, 1), (4, 1)] [(0, (I .i64 125)), (1, (I .i64 121)), (3, (.flat (.func (.func 68) #[] #[]))), (4, (.flat (.func (.func 69) #[] #[])))]) fun d122 =>
          bi (storeG 5 (.ptr (List.length h0) 0) d122 h3 fl) fun h123 =>
  bi (loadG true 5 (.ptr (List.length h0) 0) h123) fun d124 =>
  bi (storeG 5 (.ptr (List.length H) 0) d124 h123 fl) fun h125 =>
  bi (cellR true 5 (.ptr (List.length H) 0) h125) fun r0 =>
  some ((.tup [r0, (Bo true)]), h125)) (
          bi (eqK .i64 a0 (I .i64 43)) fun d126 =>
          condR d126 (
           bi (storeG 1 (.ptr (List.length h0) 0) (I .i64 4) h3 fl) fun h127 =>
  bi (loadG true 5 (.ptr (List.length h0) 0) h127) fun d128 =>
  bi (storeG 5 (.ptr (List.length H) 0) d128 h127 fl) fun h129 =>
  bi (cellR true 5 (.ptr (List.length H) 0) h129) fun r0 =>
  some ((.tup [r0, (Bo true)]), h129)) (
           bi (buildS (.agg [(I .i64 0), (I .i64 0), (I .i64 0), (.flat .nilFunc), (.flat .nilFunc)]) [(0, 1), (1, 1), (2, 1), (3, 1), (4, 1)] []) fun d130 =>
           bi (storeG 5 (.ptr (List.length H) 0) d130 h3 fl) fun h131 =>
  bi (cellR true 5 (.ptr (List.length H) 0) h131) fun r0 =>
  some ((.tup [r0, (Bo false)]), h131)))))))))) (
    bi (eqK .i64 a0 (I .i64 4)) fun d132 =>
   condR d132 (
    bi (storeG 1 (.ptr (List.length h0) 0) (I .i64 125) h3 fl) fun h133 =>
  bi (loadG true 5 (.ptr (List.length h0) 0) h133) fun d134 =>
  bi (storeG 5 (.ptr (List.length H) 0) d134 h133 fl) fun h135 =>
  bi (cellR true 5 (.ptr (List.length H) 0) h135) fun r0 =>
  some ((.tup [r0, (Bo true)]), h135)) (
    bi (eqK .i64 a0 (I .i64 5)) fun d136 =>
    condR d136 (
     bi (buildS (.agg [(I .i64 0), (I .i64 0), (I .i64 0), (.flat .nilFunc), (.flat .nilFunc)]) [(0, 1), (1, 1), (2, 1), (3, 1), (4, 1)] [(2, (I .i64 1)), (3, (.flat (.func (.func 58) #[] #[]))), (4, (.flat (.func (.func 59) #[] #[])))]) fun d137 =>
     bi (storeG 5 (.ptr (List.length h0) 0) d137 h3 fl) fun h138 =>
  bi (loadG true 5 (.ptr (List.length h0) 0) h138) fun d139 =>
  bi (storeG 5 (.ptr (List.length H) 0) d139 h138 fl) fun h140 =>
  bi (cellR true 5 (.ptr (List.length H) 0) h140) fun r0 =>
  some ((.tup [r0, (Bo true)]), h140)) (
     bi (eqK .i64 a0 (I .i64 6)) fun d141 =>
     condR d141 (
      bi (buildS (.agg [(I .i64 0), (I .i64 0), (I .i64 0), (.flat .nilFunc), (.flat .nilFunc)]) [(0, 1), (1, 1), (2, 1), (3, 1), (4, 1)] [(1, (I .i64 1)), (3, (.flat (.func (.func 60) #[] #[]))), (4, (.flat (.func (.func 61) #[] #[])))]) fun d142 =>
      bi (storeG 5 (.ptr (List.length h0) 0) d142 h3 fl) fun h143 =>
  bi (loadG true 5 (.ptr (List.length h0) 0) h143) fun d144 =>
  bi (storeG 5 (.ptr (List.length H) 0) d144 h143 fl) fun h145 =>
  bi (cellR true 5 (.ptr (List.length H) 0) h145) fun r0 =>
  some ((.tup [r0, (Bo true)]), h145)) (
      bi (eqK .i64 a0 (I .i64 15)) fun d146 =>
      condR d146 (
       bi (buildS (.agg [(I .i64 0), (I .i64 0), (I .i64 0), (.flat .nilFunc), (.flat .nilFunc)]) [(0, 1), (1, 1), (2, 1), (3, 1), (4, 1)] [(2, (I .i64 1968)), (3, (.flat (.func (.func 62) #[] #[]))), (4, (.flat (.func (.func 63) #[] #[])))]) fun d147 =>
       bi (storeG 5 (.ptr (List.length h0) 0) d147 h3 fl) fun h148 =>
  bi (loadG true 5 (.ptr (List.length h0) 0) h148) fun d149 =>
  bi (storeG 5 (.ptr (List.length H) 0) d149 h148 fl) fun h150 =>
  bi (cellR true 5 (.ptr (List.length H) 0) h150) fun r0 =>
  some ((.tup [r0, (Bo true)]), h150)) (
       bi (eqK .i64 a0 (I .i64 16)) fun d151 =>
       condR d151 (
        bi (buildS (.agg [(I .i64 0), (I .i64 0), (I .i64 0), (.flat .nilFunc), (.flat .nilFunc)]) [(0, 1), (1, 1), (2, 1), (3, 1), (4, 1)] [(1, (I .i64 123)), (3, (.flat (.func (.func 64) #[] #[]))), (4, (.flat (.func (.func 65) #[] #[])))]) fun d152 =>
        bi (storeG 5 (.ptr (List.length h0) 0) d152 h3 fl) fun h153 =>
  bi (loadG true 5 (.ptr (List.length h0) 0) h153) fun d154 =>
  bi (storeG 5 (.ptr (List.length H) 0) d154 h153 fl) fun h155 =>
  bi (cellR true 5 (.ptr (List.length H) 0) h155) fun r0 =>
  some ((.tup [r0, (Bo true)]), h155)) (
        bi (eqK .i64 a0 (I .i64 22)) fun d156 =>
        condR d156 (
         bi (buildS (.agg [(I .i64 0), (I .i64 0), (I .i64 0), (.flat .nilFunc), (.flat .nilFunc)]) [(0, 1), (1, 1), (2, 1), (3, 1), (4, 1)] [(3, (.flat (.func (.func 66) #[] #[]))), (4, (.flat (.func (.func 67) #[] #[])))]) fun d157 =>
         bi (storeG 5 (.ptr (List.length h0) 0) d157 h3 fl) fun h158 =>
  bi (loadG true 5 (.ptr (List.length h0) 0) h158) fun d159 =>
  bi (storeG 5 (.ptr (List.length H) 0) d159 h158 fl) fun h160 =>
  bi (cellR true 5 (.ptr (List.length H) 0) h160) fun r0 =>
  some ((.tup [r0, (Bo true)]), h160)) (
         bi (eqK .i64 a0 (I .i64 23)) fun d161 =>
         condR d161 (
          bi (buildS (.agg [(I .i64 0), (I .i64 0), (I .i64 0), (.flat .nilFunc), (.flat .nilFunc)]) [(0, 1), (1, 1), (2, 1), (3, 1), (4, 1)] [(0, (I .i64 125)), (1, (I .i64 121)), (3, (.flat (.func (.func 68) #[] #[]))), (4, (.flat (.func (.func 69) #[] #[])))]) fun d162 =>
          bi (storeG 5 (.ptr (List.length h0) 0) d162 h3 fl) fun h163 =>
  bi (loadG true 5 (.ptr (List.length h0) 0) h163) fun d164 =>
  bi (storeG 5 (.ptr (List.length H) 0) d164 h163 fl) fun h165 =>
  bi (cellR true 5 (.ptr (List.length H) 0) h165) fun r0 =>
  some ((.tup [r0, (Bo true)]), h165)) (
          bi (eqK .i64 a0 (I .i64 43)) fun d166 =>
          condR d166 (
           bi (storeG 1 (.ptr (List.length h0) 0) (I .i64 4) h3 fl) fun h167 =>
  bi (loadG true 5 (.ptr (List.length h0) 0) h167) fun d168 =>
  bi (storeG 5 (.ptr (List.length H) 0) d168 h167 fl) fun h169 =>
  bi (cellR true 5 (.ptr (List.length H) 0) h169) fun r0 =>
  some ((.tup [r0, (Bo true)]), h169)) (
           bi (buildS (.agg [(I .i64 0), (I .i64 0), (I .i64 0), (.flat .nilFunc), (.flat .nilFunc)]) [(0, 1), (1, 1), (2, 1), (3, 1), (4, 1)] []) fun d170 =>
           bi (storeG 5 (.ptr (List.length H) 0) d170 h3 fl) fun h171 =>
  bi (cellR true 5 (.ptr (List.length H) 0) h171) fun r0 =>
  some ((.tup [r0, (Bo false)]), h171))))))))))))
theorem s_ask_formOf_eq (n : Nat) (H : Heap) (fl : Nat) (a0 : DV) : callG Try.prog ENV (n + 1) 45 [a0] H fl = s_ask_formOf n H fl a0 := by kernel_rfl
noncomputable def s_ask_fits (n : Nat) (H : Heap) (fl : Nat) (a0 a1 : DV) : R :=
  bi (leK .i64 a0 a1) fun d0 =>
  bi (wantF d0 true (some a0)) fun d1 =>
  bi (wantF d0 true (gtK .i64 d1 (I .i64 0))) fun d2 =>
  bi (wantF d0 true (some a1)) fun d3 =>
  bi (wantF d0 true (gtK .i64 d3 (I .i64 0))) fun d4 =>
  bi (wantF d0 true (eqB d2 d4)) fun d5 =>
  bi (pickD d0 d5 (Bo false)) fun d6 =>
  some (d6, H)
theorem s_ask_fits_eq (n : Nat) (H : Heap) (fl : Nat) (a0 a1 : DV) : callG Try.prog ENV (n + 1) 55 [a0, a1] H fl = s_ask_fits n H fl a0 a1 := by kernel_rfl
noncomputable def s__ask_Ask__formed (n : Nat) (H : Heap) (fl : Nat) (a0 : DV) : R :=
  bi (allocG 28 a0 (List.length H) (H ++ [.hole])) fun h0 =>
  bi (loadG false 1 (.ptr (List.length H) 0) (h0 ++ [.hole])) fun d1 =>
  bi (cP n 45 false [d1]) fun d2 =>
  bi (extD 0 d2) fun d3 =>
  bi (extD 1 d2) fun d4 =>
  bi (allocG 89 (.agg [(I .i64 0), (I .i64 0), (I .i64 0), (.flat .nilFunc), (.flat .nilFunc)]) (List.length h0) (h0 ++ [.hole])) fun h5 =>
  bi (storeG 5 (.ptr (List.length h0) 0) d3 h5 fl) fun h6 =>
  bi (loadG false 1 (.ptr (List.length H) 0) h6) fun d7 =>
  bi (eqK .i64 d7 (I .i64 22)) fun d8 =>
  bi (wantF d8 false (some (.ptr (List.length H) 6))) fun d9 =>
  bi (wantF d8 false (loadG false 1 d9 h6)) fun d10 =>
  bi (wantF d8 false (eqK .u16 d10 (I .u16 0))) fun d11 =>
  bi (wantF d8 false (some d11)) fun d12 =>
  bi (wantF d12 true (some (.ptr (List.length H) 7))) fun d13 =>
  bi (wantF d12 true (loadG false 1 d13 h6)) fun d14 =>
  bi (wantF d12 true (eqK .u16 d14 (I .u16 0))) fun d15 =>
  bi (wantF d8 false (pickD d12 d15 (Bo false))) fun d16 =>
  bi (pickD d8 (Bo true) d16) fun d17 =>
  bi (loadG false 1 (.ptr (List.length H) 0) h6) fun d18 =>
  bi (eqK .i64 d18 (I .i64 23)) fun d19 =>
  bi (wantF d19 false (some (.ptr (List.length H) 3))) fun d20 =>
  bi (wantF d19 false (loadG false 1 d20 h6)) fun d21 =>
  bi (wantF d19 false (eqK .i64 d21 (I .i64 0))) fun d22 =>
  bi (pickD d19 (Bo true) d22) fun d23 =>
  bi (loadG false 1 (.ptr (List.length H) 0) h6) fun d24 =>
  bi (eqK .i64 d24 (I .i64 43)) fun d25 =>
  condR d25 (
  bi (wantF d4 true (some (.ptr (List.length H) 2))) fun d26 =>
  bi (wantF d4 true (loadG false 1 d26 h6)) fun d27 =>
  bi (wantF d4 true (maxI d27 (I .i64 0))) fun d28 =>
  bi (wantF d4 true (some (.ptr (List.length h0) 0))) fun d29 =>
  bi (wantF d4 true (loadG false 1 d29 h6)) fun d30 =>
  bi (wantF d4 true (cP n 55 false [d28, d30])) fun d31 =>
  bi (pickD d4 d31 (Bo false)) fun d32 =>
  bi (wantF d32 true (some (.ptr (List.length H) 2))) fun d33 =>
  bi (wantF d32 true (loadG false 1 d33 h6)) fun d34 =>
  bi (wantF d32 true (geK .i64 d34 (I .i64 0))) fun d35 =>
  bi (pickD d32 d35 (Bo false)) fun d36 =>
  bi (wantF d36 true (some (.ptr (List.length H) 4))) fun d37 =>
  bi (wantF d36 true (loadG false 1 d37 h6)) fun d38 =>
  bi (wantF d36 true (lenD d38)) fun d39 =>
  bi (wantF d36 true (some (.ptr (List.length h0) 1))) fun d40 =>
  bi (wantF d36 true (loadG false 1 d40 h6)) fun d41 =>
  bi (wantF d36 true (cP n 55 false [d39, d41])) fun d42 =>
  bi (pickD d36 d42 (Bo false)) fun d43 =>
  bi (wantF d43 true (some (.ptr (List.length H) 5))) fun d44 =>
  bi (wantF d43 true (loadG false 1 d44 h6)) fun d45 =>
  bi (wantF d43 true (lenD d45)) fun d46 =>
  bi (wantF d43 true (some (.ptr (List.length h0) 2))) fun d47 =>
  bi (wantF d43 true (loadG false 1 d47 h6)) fun d48 =>
  bi (wantF d43 true (cP n 55 false [d46, d48])) fun d49 =>
  bi (pickD d43 d49 (Bo false)) fun d50 =>
  bi (wantF d50 true (some d17)) fun d51 =>
  bi (pickD d50 d51 (Bo false)) fun d52 =>
  bi (wantF d52 true (some d23)) fun d53 =>
  bi (pickD d52 d53 (Bo false)) fun d54 =>
  bi (wantF d54 true (some (.ptr (List.length H) 1))) fun d55 =>
  bi (wantF d54 true (loadG false 1 d55 h6)) fun d56 =>
  bi (wantF d54 true (geK .i64 d56 (I .i64 0))) fun d57 =>
  bi (pickD d54 d57 (Bo false)) fun d58 =>
  bi (wantF d58 true (some (.ptr (List.length H) 1))) fun d59 =>
  bi (wantF d58 true (loadG false 1 d59 h6)) fun d60 =>
  bi (wantF d58 true (some (I .i64 255))) fun d61 =>
  bi (wantF d58 true (leK .i64 d60 d61)) fun d62 =>
  bi (pickD d58 d62 (Bo false)) fun d63 =>
  bi (wantF d63 true (some (.ptr (List.length H) 3))) fun d64 =>
  bi (wantF d63 true (loadG false 1 d64 h6)) fun d65 =>
  bi (wantF d63 true (geK .i64 d65 (I .i64 0))) fun d66 =>
  bi (pickD d63 d66 (Bo false)) fun d67 =>
  bi (wantF d67 true (some (.ptr (List.length H) 3))) fun d68 =>
  bi (wantF d67 true (loadG false 1 d68 h6)) fun d69 =>
  bi (wantF d67 true (ltK .i64 d69 (I .i64 65536))) fun d70 =>
  bi (pickD d67 d70 (Bo false)) fun d71 =>
  some (d71, h6)) (
  bi (wantF d4 true (some (.ptr (List.length H) 2))) fun d72 =>
  bi (wantF d4 true (loadG false 1 d72 h6)) fun d73 =>
  bi (wantF d4 true (maxI d73 (I .i64 0))) fun d74 =>
  bi (wantF d4 true (some (.ptr (List.length h0) 0))) fun d75 =>
  bi (wantF d4 true (loadG false 1 d75 h6)) fun d76 =>
  bi (wantF d4 true (cP n 55 false [d74, d76])) fun d77 =>
  bi (pickD d4 d77 (Bo false)) fun d78 =>
  bi (wantF d78 true (some (.ptr (List.length H) 2))) fun d79 =>
  bi (wantF d78 true (loadG false 1 d79 h6)) fun d80 =>
  bi (wantF d78 true (geK .i64 d80 (I .i64 0))) fun d81 =>
  bi (pickD d78 d81 (Bo false)) fun d82 =>
  bi (wantF d82 true (some (.ptr (List.length H) 4))) fun d83 =>
  bi (wantF d82 true (loadG false 1 d83 h6)) fun d84 =>
  bi (wantF d82 true (lenD d84)) fun d85 =>
  bi (wantF d82 true (some (.ptr (List.length h0) 1))) fun d86 =>
  bi (wantF d82 true (loadG false 1 d86 h6)) fun d87 =>
  bi (wantF d82 true (cP n 55 false [d85, d87])) fun d88 =>
  bi (pickD d82 d88 (Bo false)) fun d89 =>
  bi (wantF d89 true (some (.ptr (List.length H) 5))) fun d90 =>
  bi (wantF d89 true (loadG false 1 d90 h6)) fun d91 =>
  bi (wantF d89 true (lenD d91)) fun d92 =>
  bi (wantF d89 true (some (.ptr (List.length h0) 2))) fun d93 =>
  bi (wantF d89 true (loadG false 1 d93 h6)) fun d94 =>
  bi (wantF d89 true (cP n 55 false [d92, d94])) fun d95 =>
  bi (pickD d89 d95 (Bo false)) fun d96 =>
  bi (wantF d96 true (some d17)) fun d97 =>
  bi (pickD d96 d97 (Bo false)) fun d98 =>
  bi (wantF d98 true (some d23)) fun d99 =>
  bi (pickD d98 d99 (Bo false)) fun d100 =>
  bi (wantF d100 true (some (.ptr (List.length H) 1))) fun d101 =>
  bi (wantF d100 true (loadG false 1 d101 h6)) fun d102 =>
  bi (wantF d100 true (geK .i64 d102 (I .i64 0))) fun d103 =>
  bi (pickD d100 d103 (Bo false)) fun d104 =>
  bi (wantF d104 true (some (.ptr (List.length H) 1))) fun d105 =>
  bi (wantF d104 true (loadG false 1 d105 h6)) fun d106 =>
  bi (wantF d104 true (some (I .i64 65535))) fun d107 =>
  bi (wantF d104 true (leK .i64 d106 d107)) fun d108 =>
  bi (pickD d104 d108 (Bo false)) fun d109 =>
  bi (wantF d109 true (some (.ptr (List.length H) 3))) fun d110 =>
  bi (wantF d109 true (loadG false 1 d110 h6)) fun d111 =>
  bi (wantF d109 true (geK .i64 d111 (I .i64 0))) fun d112 =>
  bi (pickD d109 d112 (Bo false)) fun d113 =>
  bi (wantF d113 true (some (.ptr (List.length H) 3))) fun d114 =>
  bi (wantF d113 true (loadG false 1 d114 h6)) fun d115 =>
  bi (wantF d113 true (ltK .i64 d115 (I .i64 65536))) fun d116 =>
  bi (pickD d113 d116 (Bo false)) fun d117 =>
  some (d117, h6))
theorem s__ask_Ask__formed_eq (n : Nat) (H : Heap) (fl : Nat) (a0 : DV) : callG Try.prog ENV (n + 1) 43 [a0] H fl = s__ask_Ask__formed n H fl a0 := by kernel_rfl
noncomputable def s__ask_Ask__placed (n : Nat) (H : Heap) (fl : Nat) (a0 : DV) : R :=
  bi (allocG 28 a0 (List.length H) (H ++ [.hole])) fun h0 =>
  bi (loadG false 1 (.ptr (List.length H) 0) h0) fun d1 =>
  bi (eqK .i64 d1 (I .i64 43)) fun d2 =>
  condR d2 (
  some ((Bo true), h0)) (
  bi (eqK .i64 d1 (I .i64 23)) fun d3 =>
  condR d3 (
  bi (loadG false 1 (.ptr (List.length H) 3) h0) fun d4 =>
  bi (loadG false 1 (.ptr (List.length H) 4) h0) fun d5 =>
  bi (lenD d5) fun d6 =>
  bi (addK .i64 d4 d6) fun d7 =>
  bi (gtK .i64 d7 (I .i64 65536)) fun d8 =>
  condR d8 (
  some ((Bo false), h0)) (
  bi (loadG false 1 (.ptr (List.length H) 2) h0) fun d9 =>
  bi (loadG false 1 (.ptr (List.length H) 1) h0) fun d10 =>
  bi (addK .i64 d10 d9) fun d11 =>
  bi (leK .i64 d11 (I .i64 65536)) fun d12 =>
  some (d12, h0))) (
  bi (eqK .i64 d1 (I .i64 1)) fun d13 =>
  condR d13 (
  condR d13 (
  bi (loadG false 1 (.ptr (List.length H) 2) h0) fun d14 =>
  bi (loadG false 1 (.ptr (List.length H) 1) h0) fun d15 =>
  bi (addK .i64 d15 d14) fun d16 =>
  bi (leK .i64 d16 (I .i64 65536)) fun d17 =>
  some (d17, h0)) (
  bi (eqK .i64 d1 (I .i64 15)) fun d18 =>
  condR d18 (
  bi (loadG false 1 (.ptr (List.length H) 5) h0) fun d19 =>
  bi (lenD d19) fun d20 =>
  bi (loadG false 1 (.ptr (List.length H) 1) h0) fun d21 =>
  bi (addK .i64 d21 d20) fun d22 =>
  bi (leK .i64 d22 (I .i64 65536)) fun d23 =>
  some (d23, h0)) (
  bi (eqK .i64 d1 (I .i64 16)) fun d24 =>
  condR d24 (
  bi (loadG false 1 (.ptr (List.length H) 4) h0) fun d25 =>
  bi (lenD d25) fun d26 =>
  bi (loadG false 1 (.ptr (List.length H) 1) h0) fun d27 =>
  bi (addK .i64 d27 d26) fun d28 =>
  bi (leK .i64 d28 (I .i64 65536)) fun d29 =>
  some (d29, h0)) (
  bi (loadG false 1 (.ptr (List.length H) 1) h0) fun d30 =>
  bi (addK .i64 d30 (I .i64 1)) fun d31 =>
  bi (leK .i64 d31 (I .i64 65536)) fun d32 =>
  some (d32, h0))))) (
   bi (eqK .i64 d1 (I .i64 2)) fun d33 =>
   condR d33 (
  condR d33 (
  bi (loadG false 1 (.ptr (List.length H) 2) h0) fun d34 =>
  bi (loadG false 1 (.ptr (List.length H) 1) h0) fun d35 =>
  bi (addK .i64 d35 d34) fun d36 =>
  bi (leK .i64 d36 (I .i64 65536)) fun d37 =>
  some (d37, h0)) (
  bi (eqK .i64 d1 (I .i64 15)) fun d38 =>
  condR d38 (
  bi (loadG false 1 (.ptr (List.length H) 5) h0) fun d39 =>
  bi (lenD d39) fun d40 =>
  bi (loadG false 1 (.ptr (List.length H) 1) h0) fun d41 =>
  bi (addK .i64 d41 d40) fun d42 =>
  bi (leK .i64 d42 (I .i64 65536)) fun d43 =>
  some (d43, h0)) (
  bi (eqK .i64 d1 (I .i64 16)) fun d44 =>
  condR d44 (
  bi (loadG false 1 (.ptr (List.length H) 4) h0) fun d45 =>
  bi (lenD d45) fun d46 =>
  bi (loadG false 1 (.ptr (List.length H) 1) h0) fun d47 =>
  bi (addK .i64 d47 d46) fun d48 =>
  bi (leK .i64 d48 (I .i64 65536)) fun d49 =>
  some (d49, h0)) (
  bi (loadG false 1 (.ptr (List.length H) 1) h0) fun d50 =>
  bi (addK .i64 d50 (I .i64 1)) fun d51 =>
  bi (leK .i64 d51 (I .i64 65536)) fun d52 =>
  some (d52, h0))))) (
    bi (eqK .i64 d1 (I .i64 3)) fun d53 =>
    condR d53 (
  condR d53 (
  bi (loadG false 1 (.ptr (List.length H) 2) h0) fun d54 =>
  bi (loadG false 1 (.ptr (List.length H) 1) h0) fun d55 =>
  bi (addK .i64 d55 d54) fun d56 =>
  bi (leK .i64 d56 (I .i64 65536)) fun d57 =>
  some (d57, h0)) (
  bi (eqK .i64 d1 (I .i64 15)) fun d58 =>
  condR d58 (
  bi (loadG false 1 (.ptr (List.length H) 5) h0) fun d59 =>
  bi (lenD d59) fun d60 =>
  bi (loadG false 1 (.ptr (List.length H) 1) h0) fun d61 =>
  bi (addK .i64 d61 d60) fun d62 =>
  bi (leK .i64 d62 (I .i64 65536)) fun d63 =>
  some (d63, h0)) (
  bi (eqK .i64 d1 (I .i64 16)) fun d64 =>
  condR d64 (
  bi (loadG false 1 (.ptr (List.length H) 4) h0) fun d65 =>
  bi (lenD d65) fun d66 =>
  bi (loadG false 1 (.ptr (List.length H) 1) h0) fun d67 =>
  bi (addK .i64 d67 d66) fun d68 =>
  bi (leK .i64 d68 (I .i64 65536)) fun d69 =>
  some (d69, h0)) (
  bi (loadG false 1 (.ptr (List.length H) 1) h0) fun d70 =>
  bi (addK .i64 d70 (I .i64 1)) fun d71 =>
  bi (leK .i64 d71 (I .i64 65536)) fun d72 =>
  some (d72, h0))))) (
     bi (eqK .i64 d1 (I .i64 4)) fun d73 =>
  condR d73 (
  bi (loadG false 1 (.ptr (List.length H) 2) h0) fun d74 =>
  bi (loadG false 1 (.ptr (List.length H) 1) h0) fun d75 =>
  bi (addK .i64 d75 d74) fun d76 =>
  bi (leK .i64 d76 (I .i64 65536)) fun d77 =>
  some (d77, h0)) (
  bi (eqK .i64 d1 (I .i64 15)) fun d78 =>
  condR d78 (
  bi (loadG false 1 (.ptr (List.length H) 5) h0) fun d79 =>
  bi (lenD d79) fun d80 =>
  bi (loadG false 1 (.ptr (List.length H) 1) h0) fun d81 =>
  bi (addK .i64 d81 d80) fun d82 =>
  bi (leK .i64 d82 (I .i64 65536)) fun d83 =>
  some (d83, h0)) (
  bi (eqK .i64 d1 (I .i64 16)) fun d84 =>
  condR d84 (
  bi (loadG false 1 (.ptr (List.length H) 4) h0) fun d85 =>
  bi (lenD d85) fun d86 =>
  bi (loadG false 1 (.ptr (List.length H) 1) h0) fun d87 =>
  bi (addK .i64 d87 d86) fun d88 =>
  bi (leK .i64 d88 (I .i64 65536)) fun d89 =>
  some (d89, h0)) (
  bi (loadG false 1 (.ptr (List.length H) 1) h0) fun d90 =>
  bi (addK .i64 d90 (I .i64 1)) fun d91 =>
  bi (leK .i64 d91 (I .i64 65536)) fun d92 =>
  some (d92, h0)))))))))
theorem s__ask_Ask__placed_eq (n : Nat) (H : Heap) (fl : Nat) (a0 : DV) : callG Try.prog ENV (n + 1) 44 [a0] H fl = s__ask_Ask__placed n H fl a0 := by kernel_rfl
noncomputable def s_ask_Right (n : Nat) (H : Heap) (fl : Nat) (a0 : DV) : R :=
  bi (allocG 28 a0 (List.length H) (H ++ [.hole])) fun h0 =>
  bi (loadG true 8 (.ptr (List.length H) 0) h0) fun d1 =>
  bi (cP n 43 false [d1]) fun d2 =>
  bi (wantF d2 true (loadG true 8 (.ptr (List.length H) 0) h0)) fun d3 =>
  bi (wantF d2 true (cP n 44 false [d3])) fun d4 =>
  bi (pickD d2 d4 (Bo false)) fun d5 =>
  some (d5, h0)
theorem s_ask_Right_eq (n : Nat) (H : Heap) (fl : Nat) (a0 : DV) : callG Try.prog ENV (n + 1) 21 [a0] H fl = s_ask_Right n H fl a0 := by kernel_rfl
noncomputable def s__ask_Ask__text (n : Nat) (H : Heap) (fl : Nat) (a0 : DV) : R :=
  bi (allocG 28 a0 (List.length H) (H ++ [.hole])) fun h0 =>
  bi (loadG false 1 (.ptr (List.length H) 0) h0) fun d1 =>
  bi (eqK .i64 d1 (I .i64 43)) fun d2 =>
  condR d2 (
   bi (loadG false 1 (.ptr (List.length H) 0) h0) fun d3 =>
   bi (cvK .u8 d3) fun d4 =>
   bi (loadG false 1 (.ptr (List.length H) 2) h0) fun d5 =>
   bi (cvK .u8 d5) fun d6 =>
   bi (loadG false 1 (.ptr (List.length H) 1) h0) fun d7 =>
   bi (cvK .u8 d7) fun d8 =>
   bi (buildL false 1 4 (I .u8 0) [(0, d4), (1, (I .u8 14)), (2, d6), (3, d8)]) fun d9 =>
  some (d9, h0)) (
  bi (loadG false 1 (.ptr (List.length H) 0) (h0 ++ [.hole])) fun d10 =>
  bi (cP n 45 false [d10]) fun d11 =>
  bi (extD 0 d11) fun d12 =>
  bi (extD 1 d11) fun d13 =>
  bi (allocG 89 (.agg [(I .i64 0), (I .i64 0), (I .i64 0), (.flat .nilFunc), (.flat .nilFunc)]) (List.length h0) (h0 ++ [.hole])) fun h14 =>
  bi (storeG 5 (.ptr (List.length h0) 0) d12 h14 fl) fun h15 =>
  bi (loadG false 1 (.ptr (List.length H) 0) h15) fun d16 =>
  bi (cvK .u8 d16) fun d17 =>
  bi (buildL false 1 1 (I .u8 0) [(0, d17)]) fun d18 =>
  bi (loadG false 1 (.ptr (List.length H) 1) h15) fun d19 =>
  bi (cP n 47 false [d19]) fun d20 =>
  bi (loadG false 1 (.ptr (List.length h0) 3) h15) fun d21 =>
  bi (loadG true 8 (.ptr (List.length H) 0) h15) fun d22 =>
  bi (cVP n d21 [d22]) fun d23 =>
  bi (buildL false 1 3 (.list 0 [] .ti) [(0, d18), (1, d20), (2, d23)]) fun d24 =>
  bi (cP n 46 false [d24]) fun d25 =>
  some (d25, h15))
theorem s__ask_Ask__text_eq (n : Nat) (H : Heap) (fl : Nat) (a0 : DV) : callG Try.prog ENV (n + 1) 25 [a0] H fl = s__ask_Ask__text n H fl a0 := by kernel_rfl
noncomputable def s_ask_Bytes (n : Nat) (H : Heap) (fl : Nat) (a0 : DV) : R :=
  bi (allocG 28 a0 (List.length H) (H ++ [.hole])) fun h0 =>
  bi (loadG true 8 (.ptr (List.length H) 0) h0) fun d1 =>
  bi (cP n 21 false [d1]) fun d2 =>
  bi (notD d2) fun d3 =>
  condR d3 (
  some ((.tup [(.list 0 [] .ti), (I .i64 2)]), h0)) (
  bi (loadG true 8 (.ptr (List.length H) 0) h0) fun d4 =>
  bi (cP n 25 false [d4]) fun d5 =>
  some ((.tup [d5, (I .i64 0)]), h0))
theorem s_ask_Bytes_eq (n : Nat) (H : Heap) (fl : Nat) (a0 : DV) : callG Try.prog ENV (n + 1) 10 [a0] H fl = s_ask_Bytes n H fl a0 := by kernel_rfl
end Go.Proofs.Ytcpgmbpndpcmdaa
namespace Go.Proofs.Ytcpgmbpndpcmdaa
open Go
set_option linter.unusedSimpArgs false
set_option linter.unusedVariables false
def cntV (c : Int) : Int := if c = 1 ∨ c = 2 then 2000 else if c = 3 ∨ c = 4 ∨ c = 23 then 125 else if c = 43 then 4 else 0
def wrdV (c : Int) : Int := if c = 6 then 1 else if c = 16 then 123 else if c = 23 then 121 else 0
def bitV (c : Int) : Int := if c = 5 then 1 else if c = 15 then 1968 else 0
def isV (c : Int) : Bool := decide (c = 1 ∨ c = 2 ∨ c = 3 ∨ c = 4 ∨ c = 5 ∨ c = 6 ∨ c = 15 ∨ c = 16 ∨ c = 22 ∨ c = 23 ∨ c = 43)
def fitV (n m : Int) : Bool := decide (n = 0 ∧ m = 0 ∨ 1 ≤ n ∧ n ≤ m)
theorem code_cases (c : Int) : c = 1 ∨ c = 2 ∨ c = 3 ∨ c = 4 ∨ c = 5 ∨ c = 6 ∨ c = 15 ∨ c = 16 ∨ c = 22 ∨ c = 23 ∨ c = 43 ∨ (c ≠ 1 ∧ c ≠ 2 ∧ c ≠ 3 ∧ c ≠ 4 ∧ c ≠ 5 ∧ c ≠ 6 ∧ c ≠ 15 ∧ c ≠ 16 ∧ c ≠ 22 ∧ c ≠ 23 ∧ c ≠ 43) := by omega
theorem cntV_le (c : Int) : 0 ≤ cntV c ∧ cntV c ≤ 2000 := by unfold cntV; repeat' split <;> omega
theorem wrdV_le (c : Int) : 0 ≤ wrdV c ∧ wrdV c ≤ 123 := by unfold wrdV; repeat' split <;> omega
theorem bitV_le (c : Int) : 0 ≤ bitV c ∧ bitV c ≤ 1968 := by unfold bitV; repeat' split <;> omega
def FormedP (a : Rq) : Prop := isV a.code = true ∧ fitV a.cnt (cntV a.code) = true ∧ fitV a.words.length (wrdV a.code) = true ∧ fitV a.bits.length (bitV a.code) = true ∧ (a.code = 22 ∨ a.and_ = 0 ∧ a.or_ = 0) ∧ (a.code = 23 ∨ a.to_ = 0) ∧ 0 ≤ a.addr ∧ a.addr ≤ 65535 ∧ (a.code = 43 → a.addr ≤ 255) ∧ 0 ≤ a.to_ ∧ a.to_ ≤ 65535
instance (a : Rq) : Decidable (FormedP a) := by unfold FormedP; infer_instance
def placesV (a : Rq) : Int := if a.code = 1 ∨ a.code = 2 ∨ a.code = 3 ∨ a.code = 4 ∨ a.code = 23 then a.cnt else if a.code = 15 then a.bits.length else if a.code = 16 then a.words.length else 1
def PlacedP (a : Rq) : Prop := a.code = 43 ∨ (a.code = 23 → a.to_ + a.words.length ≤ 65536) ∧ a.addr + placesV a ≤ 65536
instance (a : Rq) : Decidable (PlacedP a) := by unfold PlacedP; infer_instance
def twoV (n : Int) : List Int := [n / 256 % 256, n % 256]
def wtV (a : Rq) : List Int := twoV a.words.length ++ ((wbI a.words).length : Int) % 256 :: wbI a.words
def btV (a : Rq) : List Int := twoV a.bits.length ++ ((pkI a.bits).length : Int) % 256 :: pkI a.bits
def tailV (a : Rq) : List Int :=
  if a.code = 5 then (if a.bits.head? = some true then [255, 0] else [0, 0])
  else if a.code = 6 then wbI a.words
  else if a.code = 15 then btV a
  else if a.code = 16 then wtV a
  else if a.code = 22 then twoV a.and_ ++ twoV a.or_
  else if a.code = 23 then twoV a.cnt ++ twoV a.to_ ++ wtV a
  else twoV a.cnt
def textV (a : Rq) : List Int := if a.code = 43 then [43, 14, a.cnt % 256, a.addr % 256] else a.code % 256 :: twoV a.addr ++ tailV a
def numV (l : List Int) (i : Nat) : Int := if i + 2 ≤ l.length then 256 * l.getD i 0 + l.getD (i + 1) 0 else 0
def readV (b : List Int) : Rq :=
  let c := b.getD 0 0
  if c = 43 then ⟨43, numV b 2 % 256, numV b 1 % 256, 0, [], [], 0, 0⟩
  else
    let t := b.drop 3
    let a : Rq := ⟨c, numV b 1, 0, 0, [], [], 0, 0⟩
    if c = 5 then { a with bits := [decide (numV t 0 = 65280)] }
    else if c = 6 then { a with words := [numV t 0] }
    else if c = 15 then { a with bits := btI (t.drop 3) (numV t 0) }
    else if c = 16 then { a with words := wdI (t.drop 3) }
    else if c = 22 then { a with and_ := numV t 0, or_ := numV t 2 }
    else if c = 23 then { a with cnt := numV t 0, to_ := numV t 2, words := wdI ((t.drop 4).drop 3) }
    else { a with cnt := numV t 0 }
theorem fit_pos {n m : Int} (h : fitV n m = true) (hm : 0 ≤ m) : 0 ≤ n ∧ n ≤ m ∧ (m = 0 → n = 0) ∧ (1 ≤ m → 1 ≤ n) := by
  unfold fitV at h
  have := of_decide_eq_true h
  omega
theorem numV_0 (a b : Int) (l : List Int) : numV (a :: b :: l) 0 = 256 * a + b := by simp [numV]
theorem numV_c (a : Int) (l : List Int) (i : Nat) : numV (a :: l) (i + 1) = numV l i := by
  unfold numV
  simp only [List.length_cons, List.getD_cons_succ]
  by_cases h : i + 2 ≤ l.length
  · rw [if_pos h, if_pos (by omega)]
  · rw [if_neg h, if_neg (by omega)]
theorem numV_two (n : Int) (l : List Int) (h0 : 0 ≤ n) (h1 : n < 65536) : numV (twoV n ++ l) 0 = n := by
  show numV (n / 256 % 256 :: n % 256 :: l) 0 = n
  rw [numV_0]
  omega
end Go.Proofs.Ytcpgmbpndpcmdaa
namespace Go.Proofs.Ytcpgmbpndpcmdaa
open Go
set_option maxRecDepth 100000
set_option linter.unusedVariables false
noncomputable def s_word_Put (n : Nat) (H : Heap) (fl : Nat) (a0 : DV) : R :=
  bi (allocG 104 (.agg [(I .u8 0), (I .u8 0)]) (List.length H) (H ++ [.hole])) fun h0 =>
  bi (shrK .u16 a0 (I .u64 8)) fun d1 =>
  bi (cvK .u8 d1) fun d2 =>
  bi (cvK .u8 a0) fun d3 =>
  bi (buildA (.agg [(I .u8 0), (I .u8 0)]) 1 [(0, d2), (1, d3)]) fun d4 =>
  bi (storeG 2 (.ptr (List.length H) 0) d4 h0 fl) fun h5 =>
  bi (cellR true 2 (.ptr (List.length H) 0) h5) fun r0 =>
  some (r0, h5)
theorem s_word_Put_eq (n : Nat) (H : Heap) (fl : Nat) (a0 : DV) : callG Try.prog ENV (n + 1) 54 [a0] H fl = s_word_Put n H fl a0 := by kernel_rfl
end Go.Proofs.Ytcpgmbpndpcmdaa
namespace Go.Proofs.Ytcpgmbpndpcmdaa
open Go
set_option linter.unusedSimpArgs false
theorem word_Put_c (n : Nat) (hn : 1 ≤ n) (x : Int) (h0 : 0 ≤ x) (h1 : x < 65536) : cP n 54 false [I .u16 x] = some (.agg [I .u8 (x / 256), I .u8 (x % 256)]) := by
  obtain ⟨n, rfl⟩ : ∃ m, n = m + 1 := ⟨n - 1, by omega⟩
  refine cP_of rfl ((s_word_Put_eq _ _ _ _).trans (by unfold s_word_Put; simp -implicitDefEqProofs (disch := first | omega | (simp only [List.length_set, List.length_append, List.length_cons, List.length_nil, List.length_take, List.length_drop, List.length_map]; omega) | simp) [wrap_i64, wrap_u16_id, wrap_u8_id, tdiv_pos, tmod_pos, -getElem?_pos, -getElem?_neg, -List.length_eq_zero_iff, -List.getElem_cons_drop]; first | exact rfl | exact ⟨rfl, rfl⟩)) ?_
  have : x / 256 % 256 = x / 256 := by omega
  simp [shrI_w8, wrap_u8, this]
end Go.Proofs.Ytcpgmbpndpcmdaa
namespace Go.Proofs.Ytcpgmbpndpcmdaa
open Go
set_option maxRecDepth 100000
set_option linter.unusedVariables false
end Go.Proofs.Ytcpgmbpndpcmdaa
namespace Go.Proofs.Ytcpgmbpndpcmdaa
open Go
set_option linter.unusedSimpArgs false
end Go.Proofs.Ytcpgmbpndpcmdaa
namespace Go.Proofs.Ytcpgmbpndpcmdaa
open Go
set_option linter.unusedSimpArgs false
def gd (b : Bool) (v : DV) : DV := if b then v else .flat undef
def gO (b : Bool) (x : Option DV) : Option DV := if b then x else some (.flat undef)
theorem wantF_sy (b : Bool) (x : Option DV) : wantF (.flat (.bool b)) true x = gO b x := by cases b <;> rfl
theorem wantF_sn (b : Bool) (x : Option DV) : wantF (.flat (.bool b)) false x = gO (!b) x := by cases b <;> rfl
theorem gO_some (b : Bool) (v : DV) : gO b (some v) = some (gd b v) := by cases b <;> rfl
theorem gO_loadG (b : Bool) (ag : Bool) (sz : Nat) (v : DV) (H : Heap) : gO b (loadG ag sz (gd b v) H) = gO b (loadG ag sz v H) := by cases b <;> rfl
theorem gO_lenD (b : Bool) (v : DV) : gO b (lenD (gd b v)) = gO b (lenD v) := by cases b <;> rfl
theorem gO_notD (b : Bool) (v : DV) : gO b (notD (gd b v)) = gO b (notD v) := by cases b <;> rfl
theorem gO_eqK1 (b : Bool) (k : IntKind) (v w : DV) : gO b (eqK k (gd b v) w) = gO b (eqK k v w) := by cases b <;> rfl
theorem gO_neK1 (b : Bool) (k : IntKind) (v w : DV) : gO b (neK k (gd b v) w) = gO b (neK k v w) := by cases b <;> rfl
theorem gO_ltK1 (b : Bool) (k : IntKind) (v w : DV) : gO b (ltK k (gd b v) w) = gO b (ltK k v w) := by cases b <;> rfl
theorem gO_leK1 (b : Bool) (k : IntKind) (v w : DV) : gO b (leK k (gd b v) w) = gO b (leK k v w) := by cases b <;> rfl
theorem gO_gtK1 (b : Bool) (k : IntKind) (v w : DV) : gO b (gtK k (gd b v) w) = gO b (gtK k v w) := by cases b <;> rfl
theorem gO_geK1 (b : Bool) (k : IntKind) (v w : DV) : gO b (geK k (gd b v) w) = gO b (geK k v w) := by cases b <;> rfl
theorem gO_max1 (b : Bool) (v w : DV) : gO b (maxI (gd b v) w) = gO b (maxI v w) := by cases b <;> rfl
theorem gO_max2 (b : Bool) (v w : DV) : gO b (maxI v (gd b w)) = gO b (maxI v w) := by cases b <;> rfl
theorem gO_addK1 (b : Bool) (k : IntKind) (v w : DV) : gO b (addK k (gd b v) w) = gO b (addK k v w) := by cases b <;> rfl
theorem gO_addK2 (b : Bool) (k : IntKind) (v w : DV) : gO b (addK k v (gd b w)) = gO b (addK k v w) := by cases b <;> rfl
theorem gO_mulK1 (b : Bool) (k : IntKind) (v w : DV) : gO b (mulK k v (gd b w)) = gO b (mulK k v w) := by cases b <;> rfl
theorem gO_ltK2 (b : Bool) (k : IntKind) (v w : DV) : gO b (ltK k v (gd b w)) = gO b (ltK k v w) := by cases b <;> rfl
theorem gO_leK2 (b : Bool) (k : IntKind) (v w : DV) : gO b (leK k v (gd b w)) = gO b (leK k v w) := by cases b <;> rfl
theorem gO_cvK (b : Bool) (k : IntKind) (v : DV) : gO b (cvK k (gd b v)) = gO b (cvK k v) := by cases b <;> rfl
theorem gO_idx (b : Bool) (sz : Nat) (v w : DV) : gO b (idxSl sz (gd b v) w) = gO b (idxSl sz v w) := by cases b <;> rfl
theorem gO_eqB (b : Bool) (v w : DV) : gO b (eqB (gd b v) (gd b w)) = gO b (eqB v w) := by cases b <;> rfl
theorem gO_pick (b : Bool) (c v w : DV) : gO b (pickD (gd b c) v w) = gO b (pickD c v w) := by cases b <;> rfl
theorem gO_pick2 (b : Bool) (c v w : DV) : gO b (pickD c (gd b v) w) = gO b (pickD c v w) := by cases b <;> rfl
theorem gO_cP1 (b : Bool) (n f : Nat) (t : Bool) (v : DV) : gO b (cP n f t [gd b v]) = gO b (cP n f t [v]) := by cases b <;> rfl
theorem gO_cP1b (b : Bool) (n f : Nat) (t : Bool) (v w : DV) : gO b (cP n f t [gd b v, w]) = gO b (cP n f t [v, w]) := by cases b <;> rfl
theorem gO_cP2 (b : Bool) (n f : Nat) (t : Bool) (v w : DV) : gO b (cP n f t [gd b v, gd b w]) = gO b (cP n f t [v, w]) := by cases b <;> rfl
theorem gO_cP2a (b : Bool) (n f : Nat) (t : Bool) (v w : DV) : gO b (cP n f t [v, gd b w]) = gO b (cP n f t [v, w]) := by cases b <;> rfl
theorem pick_t (b c : Bool) : pickD (.flat (.bool b)) (.flat (.bool true)) (gd (!b) (.flat (.bool c))) = some (.flat (.bool (b || c))) := by cases b <;> rfl
theorem pick_t2 (b c : Bool) : pickD (.flat (.bool (!b))) (.flat (.bool true)) (gd b (.flat (.bool c))) = some (.flat (.bool (!b || c))) := by cases b <;> rfl
theorem pick_f (b c : Bool) : pickD (.flat (.bool b)) (gd b (.flat (.bool c))) (.flat (.bool false)) = some (.flat (.bool (b && c))) := by cases b <;> rfl
theorem pick_f2 (b c d : Bool) : pickD (.flat (.bool b)) (gd b (.flat (.bool c))) (.flat (.bool d)) = some (.flat (.bool (if b then c else d))) := by cases b <;> rfl
theorem gd_gd (b : Bool) (v : DV) : gd b (gd b v) = gd b v := by cases b <;> rfl
theorem wantF_gt (b c : Bool) (x : Option DV) : wantF (gd b (.flat (.bool c))) true x = gO (b && c) x := by cases b <;> cases c <;> rfl
theorem wantF_gf (b c : Bool) (x : Option DV) : wantF (gd b (.flat (.bool c))) false x = gO (b && !c) x := by cases b <;> cases c <;> rfl
theorem gO_pkf (b c e : Bool) : gO b (pickD (.flat (.bool c)) (gd (b && c) (.flat (.bool e))) (.flat (.bool false))) = gO b (some (.flat (.bool (c && e)))) := by cases b <;> cases c <;> rfl
theorem gO_pkt (b c e : Bool) : gO b (pickD (.flat (.bool c)) (.flat (.bool true)) (gd (b && !c) (.flat (.bool e)))) = gO b (some (.flat (.bool (c || e)))) := by cases b <;> cases c <;> rfl
theorem gO_pktn (b c e : Bool) : gO b (pickD (.flat (.bool (!c))) (.flat (.bool true)) (gd (b && c) (.flat (.bool e)))) = gO b (some (.flat (.bool (!c || e)))) := by cases b <;> cases c <;> rfl
theorem gO_eqK2 (b : Bool) (k : IntKind) (v w : DV) : gO b (eqK k v (gd b w)) = gO b (eqK k v w) := by cases b <;> rfl
theorem gO_neK2 (b : Bool) (k : IntKind) (v w : DV) : gO b (neK k v (gd b w)) = gO b (neK k v w) := by cases b <;> rfl
theorem gO_gtK2 (b : Bool) (k : IntKind) (v w : DV) : gO b (gtK k v (gd b w)) = gO b (gtK k v w) := by cases b <;> rfl
theorem gO_geK2 (b : Bool) (k : IntKind) (v w : DV) : gO b (geK k v (gd b w)) = gO b (geK k v w) := by cases b <;> rfl
theorem gO_subK2 (b : Bool) (k : IntKind) (v w : DV) : gO b (subK k v (gd b w)) = gO b (subK k v w) := by cases b <;> rfl
theorem gO_subK1 (b : Bool) (k : IntKind) (v w : DV) : gO b (subK k (gd b v) w) = gO b (subK k v w) := by cases b <;> rfl
theorem gO_min1 (b : Bool) (v w : DV) : gO b (minI (gd b v) w) = gO b (minI v w) := by cases b <;> rfl
theorem gO_min2 (b : Bool) (v w : DV) : gO b (minI v (gd b w)) = gO b (minI v w) := by cases b <;> rfl
theorem gO_remK1 (b : Bool) (k : IntKind) (v w : DV) : gO b (remK k (gd b v) w) = gO b (remK k v w) := by cases b <;> rfl
theorem gO_cP3 (b : Bool) (n f : Nat) (t : Bool) (v w x : DV) : gO b (cP n f t [gd b v, gd b w, gd b x]) = gO b (cP n f t [v, w, x]) := by cases b <;> rfl
theorem gO_nilD (b : Bool) (v : DV) : gO b (nilD (gd b v)) = gO b (nilD v) := by cases b <;> rfl
theorem gO_fieldD (b : Bool) (f s : Nat) (v : DV) : gO b (fieldD f s (gd b v)) = gO b (fieldD f s v) := by cases b <;> rfl
theorem gO_idxArr1 (b : Bool) (l s : Nat) (v w : DV) : gO b (idxArr l s v (gd b w)) = gO b (idxArr l s v w) := by cases b <;> rfl
theorem gO_idxArr2 (b : Bool) (l s : Nat) (v w : DV) : gO b (idxArr l s (gd b v) w) = gO b (idxArr l s v w) := by cases b <;> rfl
theorem gO_idx2 (b : Bool) (sz : Nat) (v w : DV) : gO b (idxSl sz v (gd b w)) = gO b (idxSl sz v w) := by cases b <;> rfl
theorem gO_extD (b : Bool) (i : Nat) (v : DV) : gO b (extD i (gd b v)) = gO b (extD i v) := by cases b <;> rfl
end Go.Proofs.Ytcpgmbpndpcmdaa
namespace Go.Proofs.Ytcpgmbpndpcmdaa
open Go
set_option linter.unusedSimpArgs false
set_option linter.unusedVariables false
set_option maxRecDepth 100000
def plT (t : Tag) : Tag := match t with | .ti => .ti | .sh => .sh | .own _ => .sh
theorem buildL_bt3 (a b c : List Int) (t1 t2 t3 : Tag) : buildL false 1 3 (.list 0 [] .ti) [(0, LV 1 (I .u8) a t1), (1, LV 1 (I .u8) b t2), (2, LV 1 (I .u8) c t3)] = some (LV 1 btE [(a, plT t1), (b, plT t2), (c, plT t3)] .ti) := by
  cases t1 <;> cases t2 <;> cases t3 <;> cases a <;> cases b <;> cases c <;> kernel_rfl
theorem buildL_u4 (a b c d : Int) : buildL false 1 4 (I .u8 0) [(0, I .u8 a), (1, I .u8 b), (2, I .u8 c), (3, I .u8 d)] = some (LV 1 (I .u8) [a, b, c, d] .ti) := by kernel_rfl
theorem buildL_w2 (a b : Int) : buildL false 1 2 (I .u16 0) [(0, I .u16 a), (1, I .u16 b)] = some (LV 1 (I .u16) [a, b] .ti) := rfl
theorem two_eq (n : Int) : n % 65536 / 256 = n / 256 % 256 ∧ n % 65536 % 256 = n % 256 := by omega
theorem ask_two_c (n : Nat) (hn : 2 ≤ n) (x : Int) : cP n 47 false [I .i64 x] = some (LV 1 (I .u8) (twoV x) .sh) := by
  obtain ⟨n, rfl⟩ : ∃ m, n = m + 1 := ⟨n - 1, by omega⟩
  have e := word_Put_c n (by omega) (x % 65536) (by omega) (by omega)
  rw [(two_eq x).1, (two_eq x).2] at e
  refine cP_of rfl ((s_ask_two_eq _ _ _ _).trans (by unfold s_ask_two; simp -implicitDefEqProofs (disch := first | omega | (simp only [List.length_set, List.length_append, List.length_cons, List.length_nil, List.length_take, List.length_drop, List.length_map]; omega) | simp) [wrap_i64, wrap_u16_id, wrap_u8_id, tdiv_pos, tmod_pos, -getElem?_pos, -getElem?_neg, -List.length_eq_zero_iff, -List.getElem_cons_drop, wrap_u16, e]; first | exact rfl | exact ⟨rfl, rfl⟩)) ?_
  rfl
theorem ask_counted_c (n : Nat) (hn : 10 ≤ n) (x : Int) (l : List Int) (t : Tag) (hl : l.length ≤ 100000) : cP n 77 false [I .i64 x, LV 1 (I .u8) l t] = some (LV 1 (I .u8) (twoV x ++ ((l.length : Int) % 256) :: l) .sh) := by
  obtain ⟨n, rfl⟩ : ∃ m, n = m + 1 := ⟨n - 1, by omega⟩
  have e1 := ask_two_c n (by omega) x
  have e2 := buildL_bt3 (twoV x) [(l.length : Int) % 256] l .sh .ti .sh
  simp only [plT] at e2
  have hc : catB [(twoV x, Tag.sh), ([(l.length : Int) % 256], Tag.ti), (l, Tag.sh)] = twoV x ++ ((l.length : Int) % 256) :: l := by simp [catB]
  have e3 := concat_c n [(twoV x, .sh), ([(l.length : Int) % 256], .ti), (l, .sh)] .ti (by rw [hc]; simp [twoV]; omega) (by simp) (by simp; omega)
  rw [hc] at e3
  exact cP_of (r := LV 1 (I .u8) (twoV x ++ ((l.length : Int) % 256) :: l) .sh) (args' := [I .i64 x, LV 1 (I .u8) l .sh]) (by simp [argEl_eq]) ((s_ask_counted_eq _ _ _ _ _).trans (by unfold s_ask_counted; simp -implicitDefEqProofs (disch := first | omega | (simp only [List.length_set, List.length_append, List.length_cons, List.length_nil, List.length_take, List.length_drop, List.length_map]; omega) | simp) [wrap_i64, wrap_u16_id, wrap_u8_id, tdiv_pos, tmod_pos, -getElem?_pos, -getElem?_neg, -List.length_eq_zero_iff, -List.getElem_cons_drop, wrap_u8, e1, e2, e3]; first | exact rfl | exact ⟨rfl, rfl⟩)) (by simp)
theorem arg_rq (a : Rq) (t1 t2 : Tag) : argEl (rqE a t1 t2) = some (rqE a .sh .sh) := by simp [argEl_eq, rqE]
theorem wb_len (a : Rq) (h : RqOk a) : (wbI a.words).length ≤ 6000 := by rw [wbI_length]; have := h.lw; omega
theorem pkl_le (a : Rq) (h : RqOk a) : (pkI a.bits).length ≤ 6000 := by rw [pkI_length]; have := h.lb; omega
theorem layCount_c (n : Nat) (hn : 3 ≤ n) (a : Rq) (t1 t2 : Tag) : cP n 56 false [rqE a t1 t2] = some (LV 1 (I .u8) (twoV a.cnt) .sh) := by
  obtain ⟨n, rfl⟩ : ∃ m, n = m + 1 := ⟨n - 1, by omega⟩
  have e1 := ask_two_c n (by omega) a.cnt
  exact cP_of (r := LV 1 (I .u8) (twoV a.cnt) .sh) (by simp [arg_rq]; rfl) ((s_ask_layCount_eq _ _ _ _).trans (by unfold s_ask_layCount rqE; simp -implicitDefEqProofs (disch := first | omega | (simp only [List.length_set, List.length_append, List.length_cons, List.length_nil, List.length_take, List.length_drop, List.length_map]; omega) | simp) [wrap_i64, wrap_u16_id, wrap_u8_id, tdiv_pos, tmod_pos, -getElem?_pos, -getElem?_neg, -List.length_eq_zero_iff, -List.getElem_cons_drop, e1]; first | exact rfl | exact ⟨rfl, rfl⟩)) (by simp)
theorem layBit_c (n : Nat) (hn : 3 ≤ n) (a : Rq) (t1 t2 : Tag) (h0 : a.bits ≠ []) : cP n 58 false [rqE a t1 t2] = some (LV 1 (I .u8) (if a.bits.head? = some true then [255, 0] else [0, 0]) .sh) := by
  obtain ⟨n, rfl⟩ : ∃ m, n = m + 1 := ⟨n - 1, by omega⟩
  obtain ⟨c, ad, k, t, w, b, an, o⟩ := a
  have e1 := ask_two_c n (by omega) 65280
  have e2 := ask_two_c n (by omega) 0
  have f1 : twoV 65280 = [255, 0] := rfl
  have f2 : twoV 0 = [0, 0] := rfl
  rw [f1] at e1
  rw [f2] at e2
  cases b with
  | nil => exact absurd rfl h0
  | cons x b =>
    cases x
    · exact cP_of (r := LV 1 (I .u8) [0, 0] .sh) (by simp [arg_rq]; rfl) ((s_ask_layBit_eq _ _ _ _).trans (by unfold s_ask_layBit rqE; simp -implicitDefEqProofs (disch := first | omega | (simp only [List.length_set, List.length_append, List.length_cons, List.length_nil, List.length_take, List.length_drop, List.length_map]; omega) | simp) [wrap_i64, wrap_u16_id, wrap_u8_id, tdiv_pos, tmod_pos, -getElem?_pos, -getElem?_neg, -List.length_eq_zero_iff, -List.getElem_cons_drop, e2]; first | exact rfl | exact ⟨rfl, rfl⟩)) (by simp)
    · exact cP_of (r := LV 1 (I .u8) [255, 0] .sh) (by simp [arg_rq]; rfl) ((s_ask_layBit_eq _ _ _ _).trans (by unfold s_ask_layBit rqE; simp -implicitDefEqProofs (disch := first | omega | (simp only [List.length_set, List.length_append, List.length_cons, List.length_nil, List.length_take, List.length_drop, List.length_map]; omega) | simp) [wrap_i64, wrap_u16_id, wrap_u8_id, tdiv_pos, tmod_pos, -getElem?_pos, -getElem?_neg, -List.length_eq_zero_iff, -List.getElem_cons_drop, e1]; first | exact rfl | exact ⟨rfl, rfl⟩)) (by simp)
theorem layWord_c (n : Nat) (hn : 3 ≤ n) (a : Rq) (h : RqOk a) (t1 t2 : Tag) : cP n 60 false [rqE a t1 t2] = some (LV 1 (I .u8) (wbI a.words) .sh) := by
  obtain ⟨n, rfl⟩ : ∃ m, n = m + 1 := ⟨n - 1, by omega⟩
  have e1 := word_Bytes_c n a.words .sh (by omega) h.w (by have := h.lw; omega)
  exact cP_of (r := LV 1 (I .u8) (wbI a.words) .sh) (by simp [arg_rq]; rfl) ((s_ask_layWord_eq _ _ _ _).trans (by unfold s_ask_layWord rqE; simp -implicitDefEqProofs (disch := first | omega | (simp only [List.length_set, List.length_append, List.length_cons, List.length_nil, List.length_take, List.length_drop, List.length_map]; omega) | simp) [wrap_i64, wrap_u16_id, wrap_u8_id, tdiv_pos, tmod_pos, -getElem?_pos, -getElem?_neg, -List.length_eq_zero_iff, -List.getElem_cons_drop, e1]; first | exact rfl | exact ⟨rfl, rfl⟩)) (by simp)
theorem layBits_c (n : Nat) (hn : 20 ≤ n) (a : Rq) (h : RqOk a) (t1 t2 : Tag) : cP n 62 false [rqE a t1 t2] = some (LV 1 (I .u8) (btV a) .sh) := by
  obtain ⟨n, rfl⟩ : ∃ m, n = m + 1 := ⟨n - 1, by omega⟩
  have e1 := word_Pack_c n a.bits .sh (by omega) (by have := h.lb; omega)
  have e2 := ask_counted_c n (by omega) a.bits.length (pkI a.bits) .sh (by have := pkl_le a h; omega)
  exact cP_of (r := LV 1 (I .u8) (btV a) .sh) (by simp [arg_rq]; rfl) ((s_ask_layBits_eq _ _ _ _).trans (by unfold s_ask_layBits rqE; simp -implicitDefEqProofs (disch := first | omega | (simp only [List.length_set, List.length_append, List.length_cons, List.length_nil, List.length_take, List.length_drop, List.length_map]; omega) | simp) [wrap_i64, wrap_u16_id, wrap_u8_id, tdiv_pos, tmod_pos, -getElem?_pos, -getElem?_neg, -List.length_eq_zero_iff, -List.getElem_cons_drop, e1, e2]; first | exact rfl | exact ⟨rfl, rfl⟩)) (by simp)
theorem layWords_c (n : Nat) (hn : 20 ≤ n) (a : Rq) (h : RqOk a) (t1 t2 : Tag) : cP n 64 false [rqE a t1 t2] = some (LV 1 (I .u8) (wtV a) .sh) := by
  obtain ⟨n, rfl⟩ : ∃ m, n = m + 1 := ⟨n - 1, by omega⟩
  have e1 := word_Bytes_c n a.words .sh (by omega) h.w (by have := h.lw; omega)
  have e2 := ask_counted_c n (by omega) a.words.length (wbI a.words) .sh (by have := wb_len a h; omega)
  exact cP_of (r := LV 1 (I .u8) (wtV a) .sh) (by simp [arg_rq]; rfl) ((s_ask_layWords_eq _ _ _ _).trans (by unfold s_ask_layWords rqE; simp -implicitDefEqProofs (disch := first | omega | (simp only [List.length_set, List.length_append, List.length_cons, List.length_nil, List.length_take, List.length_drop, List.length_map]; omega) | simp) [wrap_i64, wrap_u16_id, wrap_u8_id, tdiv_pos, tmod_pos, -getElem?_pos, -getElem?_neg, -List.length_eq_zero_iff, -List.getElem_cons_drop, e1, e2]; first | exact rfl | exact ⟨rfl, rfl⟩)) (by simp)
theorem layMasks_c (n : Nat) (hn : 3 ≤ n) (a : Rq) (h : RqOk a) (t1 t2 : Tag) : cP n 66 false [rqE a t1 t2] = some (LV 1 (I .u8) (twoV a.and_ ++ twoV a.or_) .sh) := by
  obtain ⟨n, rfl⟩ : ∃ m, n = m + 1 := ⟨n - 1, by omega⟩
  have e1 := word_Bytes_c n [a.and_, a.or_] .ti (by omega) (by intro x hx; simp at hx; rcases hx with rfl | rfl; exact h.a; exact h.o) (by simp)
  have e2 : wbI [a.and_, a.or_] = twoV a.and_ ++ twoV a.or_ := by
    have := h.a
    have := h.o
    rw [wbI_cons _ _ (by omega), wbI_cons _ _ (by omega), wbI_nil]
    unfold twoV
    rw [show a.and_ / 256 % 256 = a.and_ / 256 by omega, show a.or_ / 256 % 256 = a.or_ / 256 by omega]
    rfl
  rw [e2] at e1
  have e3 := buildL_w2 a.and_ a.or_
  exact cP_of (r := LV 1 (I .u8) (twoV a.and_ ++ twoV a.or_) .sh) (by simp [arg_rq]; rfl) ((s_ask_layMasks_eq _ _ _ _).trans (by unfold s_ask_layMasks rqE; simp -implicitDefEqProofs (disch := first | omega | (simp only [List.length_set, List.length_append, List.length_cons, List.length_nil, List.length_take, List.length_drop, List.length_map]; omega) | simp) [wrap_i64, wrap_u16_id, wrap_u8_id, tdiv_pos, tmod_pos, -getElem?_pos, -getElem?_neg, -List.length_eq_zero_iff, -List.getElem_cons_drop, e1, e3]; first | exact rfl | exact ⟨rfl, rfl⟩)) (by simp)
theorem layBoth_c (n : Nat) (hn : 30 ≤ n) (a : Rq) (h : RqOk a) (t1 t2 : Tag) : cP n 68 false [rqE a t1 t2] = some (LV 1 (I .u8) (twoV a.cnt ++ twoV a.to_ ++ wtV a) .sh) := by
  obtain ⟨n, rfl⟩ : ∃ m, n = m + 1 := ⟨n - 1, by omega⟩
  have e1 := layCount_c n (by omega) a .sh .sh
  have e2 := ask_two_c n (by omega) a.to_
  have e3 := layWords_c n (by omega) a h .sh .sh
  have e4 := buildL_bt3 (twoV a.cnt) (twoV a.to_) (wtV a) .sh .sh .sh
  simp only [plT] at e4
  have hc : catB [(twoV a.cnt, Tag.sh), (twoV a.to_, Tag.sh), (wtV a, Tag.sh)] = twoV a.cnt ++ twoV a.to_ ++ wtV a := by simp [catB]
  have e5 := concat_c n [(twoV a.cnt, .sh), (twoV a.to_, .sh), (wtV a, .sh)] .ti (by rw [hc]; have := wb_len a h; simp [twoV, wtV]; omega) (by simp) (by simp; omega)
  rw [hc] at e5
  unfold rqE at e1 e3
  exact cP_of (r := LV 1 (I .u8) (twoV a.cnt ++ twoV a.to_ ++ wtV a) .sh) (by simp [arg_rq]; rfl) ((s_ask_layBoth_eq _ _ _ _).trans (by unfold s_ask_layBoth rqE; simp -implicitDefEqProofs (disch := first | omega | (simp only [List.length_set, List.length_append, List.length_cons, List.length_nil, List.length_take, List.length_drop, List.length_map]; omega) | simp) [wrap_i64, wrap_u16_id, wrap_u8_id, tdiv_pos, tmod_pos, -getElem?_pos, -getElem?_neg, -List.length_eq_zero_iff, -List.getElem_cons_drop, e1, e2, e3, e4, e5]; first | exact rfl | exact ⟨rfl, rfl⟩)) (by simp)
def fnD (i : Nat) : DV := .flat (.func (.func i) #[] #[])
def layD (c : Int) : DV := if c = 5 then fnD 58 else if c = 6 then fnD 60 else if c = 15 then fnD 62 else if c = 16 then fnD 64 else if c = 22 then fnD 66 else if c = 23 then fnD 68 else if isV c = true then fnD 56 else .flat .nilFunc
def rdD (c : Int) : DV := if c = 5 then fnD 59 else if c = 6 then fnD 61 else if c = 15 then fnD 63 else if c = 16 then fnD 65 else if c = 22 then fnD 67 else if c = 23 then fnD 69 else if isV c = true then fnD 57 else .flat .nilFunc
def formD (c : Int) : DV := .agg [I .i64 (cntV c), I .i64 (wrdV c), I .i64 (bitV c), layD c, rdD c]
@[simp] theorem leaf_fn (i : Nat) : (DV.flat (.func (.func i) #[] #[])).leaf = true := rfl
@[simp] theorem leaf_nilfn : (DV.flat .nilFunc).leaf = true := rfl
theorem layD_leaf (c : Int) : (layD c).leaf = true ∧ (layD c).cells = [layD c] := by unfold layD fnD; (repeat' split) <;> exact ⟨rfl, rfl⟩
theorem rdD_leaf (c : Int) : (rdD c).leaf = true ∧ (rdD c).cells = [rdD c] := by unfold rdD fnD; (repeat' split) <;> exact ⟨rfl, rfl⟩
theorem formOf_c (n : Nat) (hn : 1 ≤ n) (c : Int) : cP n 45 false [I .i64 c] = some (.tup [formD c, Bo (isV c)]) := by
  obtain ⟨n, rfl⟩ : ∃ m, n = m + 1 := ⟨n - 1, by omega⟩
  have go : ∀ r, (∃ H', s_ask_formOf n [] 0 (I .i64 c) = some (r, H')) → (∀ H', outD false H' r = some r) → r = .tup [formD c, Bo (isV c)] → cP (n + 1) 45 false [I .i64 c] = some (.tup [formD c, Bo (isV c)]) := by
    intro r ⟨H', h⟩ h1 h2
    rw [← h2]
    exact cP_of rfl ((s_ask_formOf_eq _ _ _ _).trans h) (h1 H')
  rcases code_cases c with rfl | rfl | rfl | rfl | rfl | rfl | rfl | rfl | rfl | rfl | rfl | h
  all_goals first
    | (refine go _ ⟨_, rfl⟩ (fun H' => rfl) rfl)
    | (refine go (.tup [.agg [I .i64 0, I .i64 0, I .i64 0, .flat .nilFunc, .flat .nilFunc], Bo false]) ⟨_, by unfold s_ask_formOf; simp -implicitDefEqProofs (disch := first | omega | (simp only [List.length_set, List.length_append, List.length_cons, List.length_nil, List.length_take, List.length_drop, List.length_map]; omega) | simp) [wrap_i64, wrap_u16_id, wrap_u8_id, tdiv_pos, tmod_pos, -getElem?_pos, -getElem?_neg, -List.length_eq_zero_iff, -List.getElem_cons_drop, h]; first | done | rfl | exact ⟨rfl, rfl⟩⟩ (fun H' => rfl) ?_
       have : isV c = false := by unfold isV; simp [h]
       unfold formD cntV wrdV bitV layD rdD
       simp [h, this])
end Go.Proofs.Ytcpgmbpndpcmdaa
