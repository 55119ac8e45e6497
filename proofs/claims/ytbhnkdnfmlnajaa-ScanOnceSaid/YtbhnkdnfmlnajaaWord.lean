/- Layer 2 (word): what each function of the program computes. -/
import Derived.Test.YtbhnkdnfmlnajaaBase
import Derived.Test.YtbhnkdnfmlnajaaPlainW
import Derived.Deep.RegionHeld3
import Derived.IntWalk
namespace Go.Proofs.Ytbhnkdnfmlnajaa
open Go.RowKit

theorem infoB : (Try.prog.info? 5).map (fun i => (i.zero, i.size, i.bytes)) = some (some (.int .u8 0), 1, 1) := by kernel_rfl
theorem infoW : (Try.prog.info? 75).map (fun i => (i.zero, i.size, i.bytes)) = some (some (.int .u16 0), 1, 2) := by kernel_rfl
theorem infoT : (Try.prog.info? 4).map (fun i => (i.zero, i.size, i.bytes)) = some (some (.bool false), 1, 1) := by kernel_rfl

set_option maxHeartbeats 400000 in
theorem word_Put (n : Int) (w : World) (h0 : 0 ≤ n) (h1 : n < 65536) :
    Calls Try.prog 179 #[.int .u16 n] w fun e w' => e = .returned (.agg #[.int .u8 (n / 256), .int .u8 (n % 256)]) ∧ Below w.heap.size w w' := by
  go_enter Try.func179, Try.ntmps179
  go_wp2
  refine bodyPost_ret (v := .agg #[.int .u8 (n / 256), .int .u8 (n % 256)]) (by simp [results, Try.results179, go_sem]) rfl ?_
  exact ⟨rfl, belowA (Below.refl _ w) _⟩

set_option maxHeartbeats 400000 in
theorem word_Words_no (v : Value) (l : List UInt8) (w : World) (h : RdV encB w v l) (hn : l.length % 2 = 1) :
    Calls Try.prog 171 #[v] w fun e w' => e = .returned (.tuple #[.slice none 0 0, .bool false]) ∧ w = w' := by
  obtain ⟨a, c, rfl, hc, hm, _⟩ := h.open
  have hb : (Go.bits .and .i64 (l.length : Int) 1 == 1) = true := by rw [and1_i64 _ (by omega) (by omega), beq_iff_eq]; omega
  clear hn
  go_enter Try.func171, Try.ntmps171
  go_wp2
  go_ret2
  exact ⟨rfl, rfl⟩
set_option maxRecDepth 100000 in
set_option maxHeartbeats 400000 in
theorem word_Words_yes (v : Value) (l : List UInt8) (w : World) (h : RdV encB w v l) (hn : l.length % 2 = 0) (hl : l.length ≤ 100000) :
    Calls Try.prog 171 #[v] w fun e w' => ∃ v', e = .returned (.tuple #[v', .bool true]) ∧ Own encW 75 w' w.heap.size v' (wWords l) ∧ Below w.heap.size w w' := by
  obtain ⟨a, c, rfl, hc, hm, hcl⟩ := h.open
  have hcl' := Lib.hid hcl
  clear hcl
  have hb : (Go.bits .and .i64 (l.length : Int) 1 == 1) = false := by rw [and1_i64 _ (by omega) (by omega), beq_eq_false_iff_ne]; omega
  have hn' := Lib.hid hn
  clear hn
  go_enter Try.func171, Try.ntmps171
  go_wp2
  go_loopw [4, 5] (fun x i wr => ∃ k : Nat, k ≤ l.length ∧ k % 2 = 0 ∧ i = .int .i64 k ∧ Own encW 75 wr w.heap.size x (wWords (l.take k)) ∧ Below w.heap.size w wr) (fun _ i _ => l.length - (intOf i).toNat)
  case atStart => exact ⟨0, Nat.zero_le _, rfl, rfl, Own.nil _ _ _ _, Below.refl _ _⟩
  case round =>
    obtain ⟨k, hk, hk2, rfl, ho, hB⟩ := hrel
    clear hb
    have hn := hn'.out
    have hcl := hcl'.out
    by_cases hlt : k < l.length
    · obtain ⟨b, o, rfl, hcell⟩ := hcl.resolve_left (by omega)
      have hx0 := hcell k hlt
      have hlx := World.block_lt_of_cell? _ _ hx0
      simp only [] at hlx
      have hx := (hB.cell (p := ⟨b, o + k, none⟩) hlx).trans hx0
      have hy := (hB.cell (p := ⟨b, o + (k + 1), none⟩) hlx).trans (hcell (k + 1) (by omega))
      simp only [encB] at hx hy
      have ag := (fun e => absurd (ho.base b e).1 (by omega) : _ = some b → False)
      have hlr := Nat.lt_of_lt_of_le hlx hB.size
      have hs := Lib.hid (wWords_step l k (by omega) hk2)
      clear hcell hcl hx0
      go_wp2
      have q0 : (0 : Int) ≤ (k : Int) := by omega
      have q1 : (k : Int) < (l.length : Int) := by omega
      have q2 : (0 : Int) ≤ (k : Int) + 1 := by omega
      have q3 : (k : Int) + 1 < (l.length : Int) := by omega
      have q4 : IntKind.i64.wrap ((k : Int) + 1) = (k : Int) + 1 := IntWalk.i64_in _ (by omega)
      have q5 : ((k : Int) + 1).toNat = k + 1 := by omega
      have lenF : ((wWords (l.take k)).length + [mkW l[k] l[k + 1]].length) * 2 ≤ 140737488355328 := by rw [wWords_len, List.length_take, List.length_singleton]; omega
      go_region_held3 (fun w' => w'.cell? ⟨b, o + k, none⟩ = some (.int .u8 (l[k].toNat : Int)) ∧ w'.cell? ⟨b, o + (k + 1), none⟩ = some (.int .u8 (l[k + 1].toNat : Int)))
        (first | (go_split_ands; refine ⟨hg1.cell ?_ (fun e => ag e.symm), hg1.cell ?_ (fun e => ag e.symm)⟩ <;> assumption) | (go_keep; done))
        ((refine step_app (enc := encW) (l := wWords (l.take k)) (m := [mkW l[k] l[k + 1]]) encW_one rfl _ _ _ rfl 75 (.int .u16 0) 2 Try.underlying56 infoW rfl w.heap.size _ rfl (by first | exact ho.drew.alloc _ | exact (ho.alloc _).drew) _ rfl (RdV.drew (RdV.lit encW _ _ [mkW l[k] l[k + 1]] _ _ _ rfl (Nat.le_refl _) (by simp) (by simp [encW, or_mkW]))) (by simp) lenF (by omega) (by first | exact Nat.le_succ_of_le hB.size | (simp; exact Nat.le_succ_of_le hB.size)) ?_; intro v1 w1 ho1 hg1))
      clear q0 q1 q2 q3 q4 q5
      go_wp2
      go_roundw
      case rel => exact ⟨k + 2, by omega, by omega, by go_num, by rw [hs.out]; exact ho1, by first | exact belowG (Below.drew (belowA hB _)) hg1 (fun k hk => (ho.base k hk).1) | exact belowG (belowA (Below.drew hB) _) hg1 (fun k hk => (ho.base k hk).1)⟩
      case measure => simp [intOf]; omega
    · obtain rfl : k = l.length := by omega
      rw [List.take_length] at ho
      go_wp2
      go_ret2
      exact ⟨_, rfl, ho, hB⟩

/-! ### joined, Bytes -/
set_option maxHeartbeats 400000 in
theorem word_Bytes1 (n : UInt16) (w : World) :
    Calls Try.prog 181 #[.int .u16 (n.toNat : Int)] w fun e w' => ∃ v', e = .returned v' ∧ RdV encB w' v' [UInt8.ofNat (n.toNat / 256), UInt8.ofNat (n.toNat % 256)] ∧ Below w.heap.size w w' := by
  have hn := n.toNat_lt
  go_enter Try.func181, Try.ntmps181
  go_wp2_with (go_at_call 179; refine (word_Put _ _ (by omega) (by omega)).mono ?_; rintro e w1 ⟨rfl, hB1⟩)
  go_ret
  exact ⟨_, rfl, RdV.lit encB _ _ _ _ _ _ rfl (Nat.le_refl _) (by simp) (by simp [encB]; omega), belowA hB1 _⟩
set_option maxRecDepth 100000 in
set_option maxHeartbeats 400000 in
theorem word_joined (v : Value) (l : List UInt16) (w : World) (h : RdV encW w v l) (hl : l.length ≤ 100000) :
    Calls Try.prog 180 #[v, .func (.func 181) #[] #[]] w fun e w' => ∃ v', e = .returned v' ∧ Own encB 5 w' w.heap.size v' (wBytes l) ∧ Below w.heap.size w w' := by
  obtain ⟨a, c, rfl, hc, hm, hcl⟩ := h.open
  go_enter Try.func180, Try.ntmps180
  go_wp2
  go_loopw [5, 10] (fun x i wr => ∃ k : Nat, k ≤ l.length ∧ i = .int .i64 k ∧ Own encB 5 wr w.heap.size x (wBytes (l.take k)) ∧ Below w.heap.size w wr) (fun _ i _ => l.length - (intOf i).toNat)
  case atStart => exact ⟨0, Nat.zero_le _, rfl, Own.nil _ _ _ _, Below.refl _ _⟩
  case round =>
    obtain ⟨k, hk, rfl, ho, hB⟩ := hrel
    by_cases hlt : k < l.length
    · obtain ⟨b, o, rfl, hcell⟩ := hcl.resolve_left (by omega)
      have hx0 := hcell k hlt
      have hlx := World.block_lt_of_cell? _ _ hx0
      simp only [] at hlx
      have hx := (hB.cell (p := ⟨b, o + k, none⟩) hlx).trans hx0
      simp only [encW] at hx
      have hs := Lib.hid (wBytes_step l k hlt)
      clear hcell hcl hx0
      have lenF : (wBytes (l.take k)).length + 2 ≤ 140737488355328 := by rw [wBytes_len, List.length_take]; omega
      go_wp2_with (first | (go_at_call 181; refine (word_Bytes1 _ _).mono ?_; rintro e w1 ⟨v1, rfl, hr1, hB1⟩) |
        (at_builtin; refine wp_app (enc := encB) (l := wBytes (l.take k)) (m := [UInt8.ofNat (l[k].toNat / 256), UInt8.ofNat (l[k].toNat % 256)]) encB_one rfl (.tmp 14) (.tmp 17) _ rfl _ _ _ Try.underlying251 infoB rfl w.heap.size _ rfl ?a1 _ rfl ?a2 ?a3 (by omega) ?a4 ?a5))
      case a1 => exact ho.below hB1
      case a2 => exact hr1
      case a3 => rw [Nat.mul_one]; exact lenF
      case a4 => exact (belowT hB hB1).size
      intro v2 w2 ho2 hg2
      go_wp2
      go_roundw
      case rel => exact ⟨k + 1, by omega, by go_num, by rw [hs.out]; exact ho2, belowG (belowT hB hB1) hg2 (fun k hk => (ho.base k hk).1)⟩
      case measure => simp [intOf]; omega
    · obtain rfl : k = l.length := by omega
      rw [List.take_length] at ho
      go_wp2
      go_ret
      exact ⟨_, rfl, ho, hB⟩

theorem word_Bytes (v : Value) (l : List UInt16) (w : World) (h : RdV encW w v l) (hl : l.length ≤ 100000) :
    Calls Try.prog 166 #[v] w fun e w' => ∃ v', e = .returned v' ∧ Own encB 5 w' w.heap.size v' (wBytes l) ∧ Below w.heap.size w w' := by
  go_enter Try.func166, Try.ntmps166
  go_wp2_with (go_at_call 180; refine (word_joined _ _ _ h hl).mono ?_; rintro e w1 ⟨v1, rfl, hr1, hB1⟩)
  go_ret
  exact ⟨_, rfl, hr1, hB1⟩

set_option maxRecDepth 100000 in
set_option maxHeartbeats 400000 in
theorem word_Pack (v : Value) (l : List Bool) (w : World) (h : RdV encT w v l) (hl : l.length ≤ 100000) :
    Calls Try.prog 168 #[v] w fun e w' => ∃ v', e = .returned v' ∧ Own encB 5 w' w.heap.size v' (wPack l) ∧ Below w.heap.size w w' := by
  obtain ⟨a, c, rfl, hc, hm, hcl⟩ := h.open
  obtain ⟨i0, hi0, hz0, hz1, hz2⟩ := info_parts infoB
  have hdiv : ((l.length : Int) + 8 - 1) / 8 = (((l.length + 7) / 8 : Nat) : Int) := by omega
  go_enter Try.func168, Try.ntmps168
  go_wp2_with (at_make; refine wpList_make_full _ rfl _ _ 251 rfl w.heap.size 5 i0 (.int .u8 0) 1 Try.underlying251 hi0 hz0 hz1 _ _ _ _ ((l.length + 7) / 8) rfl rfl ?a1 ?a2 ?a3 ?a4 ?a5 ?_)
  case a1 => exact hdiv
  case a2 => exact hdiv
  case a3 => rw [hz2]; omega
  case a4 => simp only [maxLen]; omega
  case a5 => exact Nat.le_refl _
  intro w1 hown hg1
  have ho1 : Own encB 5 w1 w.heap.size (.slice (some ⟨w.heap.size, 0, none⟩) ((l.length + 7) / 8) ((l.length + 7) / 8)) (pk (l.take 0) ((l.length + 7) / 8)) := by
    rw [List.take_zero, pk_nil]; exact Own.made (0 : UInt8) hown (by omega)
  have hB1 := belowG (Below.refl _ w) hg1 (by simp)
  clear hown hg1
  go_wp2
  go_loopw [14] (fun i wr => ∃ k : Nat, k ≤ l.length ∧ i = .int .i64 k ∧ Own encB 5 wr w.heap.size (.slice (some ⟨w.heap.size, 0, none⟩) ((l.length + 7) / 8) ((l.length + 7) / 8)) (pk (l.take k) ((l.length + 7) / 8)) ∧ Below w.heap.size w wr) (fun i _ => l.length - (intOf i).toNat)
  case atStart => exact ⟨0, Nat.zero_le _, rfl, ho1, hB1⟩
  case round =>
    clear ho1 hB1
    obtain ⟨k, hk, rfl, ho, hB⟩ := hrel
    by_cases hlt : k < l.length
    · obtain ⟨b, o, rfl, hcell⟩ := hcl.resolve_left (by omega)
      have hx0 := hcell k hlt
      have hlx := World.block_lt_of_cell? _ _ hx0
      simp only [] at hlx
      have hx := (hB.cell (p := ⟨b, o + k, none⟩) hlx).trans hx0
      simp only [encT] at hx
      have hn : k / 8 < (pk (l.take k) ((l.length + 7) / 8)).length := by rw [pk_len]; omega
      cases hv : l[k] with
      | false =>
        rw [hv] at hx
        have hs := Lib.hid (pk_false l k ((l.length + 7) / 8) hlt hv)
        clear hcell hcl hx0 hv
        go_wp2
        go_roundw
        case rel => exact ⟨k + 1, by omega, by go_num, by rw [hs.out]; exact ho, hB⟩
        case measure => simp [intOf]; omega
      | true =>
        rw [hv] at hx
        have hs := Lib.hid (pk_true l k ((l.length + 7) / 8) hlt hv hn).1
        have hc8 := (pk_true l k ((l.length + 7) / 8) hlt hv hn).2
        obtain ⟨hca, hfa⟩ := ho.at (k / 8) hn
        have hset := ho.set (k / 8) (UInt8.ofNat ((pk (l.take k) ((l.length + 7) / 8))[k / 8].toNat + 2 ^ (k % 8)))
        simp only [encB] at hca hset
        have hor := Lib.hid (or_bit _ (k % 8) (by omega) hc8)
        clear hcell hcl hx0 hv
        go_wp2
        go_region
        rw [hor.out]
        go_wp2
        go_roundw
        case rel => exact ⟨k + 1, by omega, by go_num, by rw [hs.out]; exact hset.1.drew, Below.drew (belowG hB hset.2 (by simp))⟩
        case measure => simp [intOf]; omega
    · obtain rfl : k = l.length := by omega
      rw [List.take_length, pk_all] at ho
      go_wp2
      go_ret
      exact ⟨_, rfl, ho, hB⟩

/-! ### Bits -/
set_option maxRecDepth 100000 in
set_option maxHeartbeats 800000 in
theorem word_Bits_no (v : Value) (b : List UInt8) (n : Int) (w : World) (h : RdV encB w v b) (hn : n < 0 ∨ ¬ bitsFit b n.toNat) (hx1 : n ≤ 9223372036854775807) (hx0 : -9223372036854775808 ≤ n) :
    Calls Try.prog 169 #[v, .int .i64 n] w fun e w' => e = .returned (.tuple #[.slice none 0 0, .bool false]) ∧ w = w' := by
  obtain ⟨a, c, rfl, hc, hm, hcl⟩ := h.open
  by_cases h0 : n < 0
  · clear hn hcl
    go_enter Try.func169, Try.ntmps169
    go_wp2
    go_ret2
    exact ⟨rfl, rfl⟩
  · obtain ⟨m, rfl⟩ := Int.eq_ofNat_of_zero_le (by omega : 0 ≤ n)
    have hf := Lib.hid (hn.resolve_left h0)
    rw [Int.toNat_natCast] at hf
    clear hn
    by_cases hl : b.length = (m + 7) / 8
    · have q1 : (((b.length : Nat) : Int) != (m : Int) / 8 + ((m : Int) % 8 + 8 - 1) / 8) = false := by rw [bne_eq_false_iff_eq]; omega
      have h8 : 0 < m % 8 := by
        rcases Nat.eq_zero_or_pos (m % 8) with h | h
        · exact absurd ⟨hl, .inl h⟩ hf.out
        · exact h
      have hne : ¬ (b.getD (m / 8) 0).toNat / 2 ^ (m % 8) = 0 := fun h => hf.out ⟨hl, .inr h⟩
      obtain ⟨g, o, rfl, hcell⟩ := hcl.resolve_left (by omega)
      have hx := hcell (b.length - 1) (by omega)
      have e1 : b[b.length - 1]'(by omega) = b.getD (m / 8) 0 := by
        rw [List.getD_eq_getElem?_getD, List.getElem?_eq_getElem (by omega), Option.getD_some]
        congr 1; omega
      rw [e1] at hx
      simp only [encB] at hx
      generalize b.getD (m / 8) 0 = y at *
      have hl' := Lib.hid hl
      have hlb : 1 ≤ b.length := by omega
      have hne' : ((y.toNat : Int) / 2 ^ (m % 8) != 0) = true := by rw [shr_nat, bne_iff_ne]; omega
      clear hcell hcl e1 hl hne
      go_enter Try.func169, Try.ntmps169
      go_wp2
      go_ret2
      exact ⟨rfl, rfl⟩
    · have q1 : (((b.length : Nat) : Int) != (m : Int) / 8 + ((m : Int) % 8 + 8 - 1) / 8) = true := by rw [bne_iff_ne]; omega
      clear hcl hl
      go_enter Try.func169, Try.ntmps169
      go_wp2
      go_ret2
      exact ⟨rfl, rfl⟩

set_option maxRecDepth 100000 in
set_option maxHeartbeats 800000 in
theorem word_Bits_yes (v : Value) (b : List UInt8) (m : Nat) (w : World) (h : RdV encB w v b) (hf : bitsFit b m) (hx : m ≤ 800000) :
    Calls Try.prog 169 #[v, .int .i64 (m : Int)] w fun e w' => ∃ v', e = .returned (.tuple #[v', .bool true]) ∧ Own encT 4 w' w.heap.size v' (wBitsL b m) ∧ Below w.heap.size w w' := by
  obtain ⟨a, c, rfl, hc, hm, hcl⟩ := h.open
  have hl := hf.1
  have hf' := Lib.hid hf
  have q1 : (((b.length : Nat) : Int) != (m : Int) / 8 + ((m : Int) % 8 + 8 - 1) / 8) = false := by rw [bne_eq_false_iff_eq]; omega
  have hl' := Lib.hid hl
  have hcl' := Lib.hid hcl
  clear hl hcl hf
  by_cases h8 : m % 8 = 0
  · have h8' := Lib.hid h8
    have hd : ((m : Int) % 8) ≤ 0 := by omega
    clear h8
    go_enter Try.func169, Try.ntmps169
    go_wp2
    go_loopw [7, 40] (fun x i wr => ∃ k : Nat, k ≤ m ∧ i = .int .i64 k ∧ Own encT 4 wr w.heap.size x (wBitsL b k) ∧ Below w.heap.size w wr) (fun _ i _ => m - (intOf i).toNat)
    case atStart => exact ⟨0, Nat.zero_le _, rfl, Own.nil _ _ _ _, Below.refl _ _⟩
    case round =>
      obtain ⟨k, hk, rfl, ho, hB⟩ := hrel
      by_cases hlt : k < m
      · have hlk : k / 8 < b.length := by have := hl'.out; omega
        obtain ⟨g, o, he, hcell⟩ := hcl'.out.resolve_left (by omega)
        have hx0 := hcell (k / 8) hlk
        have e1 : b[k / 8] = b.getD (k / 8) 0 := by rw [List.getD_eq_getElem?_getD, List.getElem?_eq_getElem hlk, Option.getD_some]
        rw [e1] at hx0
        have hlx := World.block_lt_of_cell? _ _ hx0
        simp only [] at hlx
        have hx := (hB.cell (p := ⟨g, o + k / 8, none⟩) hlx).trans hx0
        simp only [encB] at hx
        have hv := and_bit (b.getD (k / 8) 0) (k % 8)
        have hs := Lib.hid (wBitsL_step b k)
        have lenF : (wBitsL b k).length + 1 ≤ 140737488355328 := by rw [wBitsL_len]; omega
        generalize b.getD (k / 8) 0 = y at *
        clear hcell hx0 e1
        cases he
        go_wp2_with (at_builtin; refine wp_app (enc := encT) (l := wBitsL b k) (m := [bitsOf y (k % 8)]) encT_one rfl (.tmp 43) (.tmp 54) _ rfl _ _ _ Try.underlying55 infoT rfl w.heap.size _ rfl (ho.alloc _) _ rfl ?a2 ?a3 (by omega) ?a4 ?a5)
        case a2 => exact RdV.lit encT _ _ [bitsOf y (k % 8)] _ _ _ rfl (Nat.le_refl _) (by simp) (by simp [encT])
        case a3 => rw [Nat.mul_one]; exact lenF
        case a4 => exact Nat.le_trans hB.size (by simp)
        intro v2 w2 ho2 hg2
        clear hv
        go_wp2
        go_roundw
        case rel => exact ⟨k + 1, by omega, by go_num, by rw [hs.out]; exact ho2, belowG (belowA hB _) hg2 (fun k hk => (ho.base k hk).1)⟩
        case measure => simp [intOf]; omega
      · obtain rfl : k = m := by omega
        go_wp2
        go_ret2
        exact ⟨_, rfl, ho, hB⟩
  · have hd : 0 < m % 8 := by omega
    obtain ⟨g0, o0, he0, hcell0⟩ := hcl'.out.resolve_left (by have := hl'.out; omega)
    have hlb : 1 ≤ b.length := by have := hl'.out; omega
    have hx1 := hcell0 (b.length - 1) (by omega)
    have e0 : b[b.length - 1]'(by omega) = b.getD (m / 8) 0 := by
      rw [List.getD_eq_getElem?_getD, List.getElem?_eq_getElem (by have := hl'.out; omega), Option.getD_some]
      congr 1; have := hl'.out; omega
    rw [e0] at hx1
    simp only [encB] at hx1
    have hne : (((b.getD (m / 8) 0).toNat : Int) / 2 ^ (m % 8) != 0) = false := by
      rw [shr_nat, bne_eq_false_iff_eq]; have := hf'.out.2.resolve_left h8; omega
    generalize b.getD (m / 8) 0 = y0 at *
    clear hcell0 e0
    subst he0
    go_enter Try.func169, Try.ntmps169
    go_wp2
    go_loopw [7, 40] (fun x i wr => ∃ k : Nat, k ≤ m ∧ i = .int .i64 k ∧ Own encT 4 wr w.heap.size x (wBitsL b k) ∧ Below w.heap.size w wr) (fun _ i _ => m - (intOf i).toNat)
    case atStart => exact ⟨0, Nat.zero_le _, rfl, Own.nil _ _ _ _, Below.refl _ _⟩
    case round =>
      obtain ⟨k, hk, rfl, ho, hB⟩ := hrel
      by_cases hlt : k < m
      · have hlk : k / 8 < b.length := by have := hl'.out; omega
        obtain ⟨g, o, he, hcell⟩ := hcl'.out.resolve_left (by omega)
        have hx0 := hcell (k / 8) hlk
        have e1 : b[k / 8] = b.getD (k / 8) 0 := by rw [List.getD_eq_getElem?_getD, List.getElem?_eq_getElem hlk, Option.getD_some]
        rw [e1] at hx0
        have hlx := World.block_lt_of_cell? _ _ hx0
        simp only [] at hlx
        have hx := (hB.cell (p := ⟨g, o + k / 8, none⟩) hlx).trans hx0
        simp only [encB] at hx
        have hv := and_bit (b.getD (k / 8) 0) (k % 8)
        have hs := Lib.hid (wBitsL_step b k)
        have lenF : (wBitsL b k).length + 1 ≤ 140737488355328 := by rw [wBitsL_len]; omega
        generalize b.getD (k / 8) 0 = y at *
        clear hcell hx0 e1
        cases he
        go_wp2_with (at_builtin; refine wp_app (enc := encT) (l := wBitsL b k) (m := [bitsOf y (k % 8)]) encT_one rfl (.tmp 43) (.tmp 54) _ rfl _ _ _ Try.underlying55 infoT rfl w.heap.size _ rfl (ho.alloc _) _ rfl ?d2 ?d3 (by omega) ?d4 ?d5)
        case d2 => exact RdV.lit encT _ _ [bitsOf y (k % 8)] _ _ _ rfl (Nat.le_refl _) (by simp) (by simp [encT])
        case d3 => rw [Nat.mul_one]; exact lenF
        case d4 => exact Nat.le_trans hB.size (by simp)
        intro v2 w2 ho2 hg2
        clear hv
        go_wp2
        go_roundw
        case rel => exact ⟨k + 1, by omega, by go_num, by rw [hs.out]; exact ho2, belowG (belowA hB _) hg2 (fun k hk => (ho.base k hk).1)⟩
        case measure => simp [intOf]; omega
      · obtain rfl : k = m := by omega
        go_wp2
        go_ret2
        exact ⟨_, rfl, ho, hB⟩
end Go.Proofs.Ytbhnkdnfmlnajaa
