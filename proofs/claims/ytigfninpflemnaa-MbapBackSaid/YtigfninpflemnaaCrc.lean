/- Layer 1 (crc): what each function of the program and of its reference computes. -/
import Derived.Test.YtigfninpflemnaaBase
import Derived.Deep.QuietTactic
import Derived.BigQuiet
namespace Go.Proofs.Ytigfninpflemnaa
open Go.RowKit

theorem infoB : (Try.prog.info? 5).map (fun i => (i.zero, i.size, i.bytes)) = some (some (.int .u8 0), 1, 1) := by kernel_rfl

set_option maxHeartbeats 400000 in
theorem crc_More (s : Int) (v : Value) (l : List UInt8) (w : World) (h : RdV encB w v l) :
    Calls Try.prog 23 #[.int .u16 s, v] w fun e w' => e = .returned (.int .u16 (crcMore s l)) ∧ w = w' := by
  obtain ⟨a, c, rfl, hc, hm, hl⟩ := h.open
  clear h
  go_enter Try.func23, Try.ntmps23
  go_wp2
  go_loop [0, 10] (fun x i => ∃ k : Nat, k ≤ l.length ∧ i = .int .i64 k ∧ x = .int .u16 (crcMore s (l.take k))) (fun _ i => l.length - (intOf i).toNat)
  case atStart => exact ⟨0, Nat.zero_le _, rfl, rfl⟩
  case round =>
    obtain ⟨k, hk, rfl, rfl⟩ := hrel
    by_cases hlt : k < l.length
    · obtain ⟨b, o, rfl, hcell⟩ := hl.resolve_left (by omega)
      have hx := hcell k hlt
      unfold encB at hx
      have hs := Lib.hid (crcMore_snoc s l k hlt)
      clear hcell hl
      generalize crcMore s (l.take k) = x at *
      generalize l[k] = y at *
      go_wp2
      go_loop [0, 18] (fun z i => ∃ j : Nat, j ≤ 8 ∧ i = .int .i64 j ∧ z = .int .u16 (crcBits j (Go.bits .xor .u16 x (IntKind.u16.wrap (y.toNat : Int))))) (fun _ i => 8 - (intOf i).toNat)
      case atStart => exact ⟨0, Nat.zero_le _, rfl, rfl⟩
      case round =>
        obtain ⟨j, hj, rfl, rfl⟩ := hrel
        by_cases hjt : j < 8
        · go_wp2
          go_round
          case rel => exact ⟨j + 1, by omega, by go_num, rfl⟩
          case measure => simp [intOf]; omega
        · obtain rfl : j = 8 := by omega
          go_wp2
          go_round
          case rel => exact ⟨k + 1, by omega, by go_num, by rw [hs.out]; rfl⟩
          case measure => simp [intOf]; omega
    · obtain rfl : k = l.length := by omega
      go_wp2
      go_ret
      exact ⟨by simp, rfl⟩

theorem crc_Sum (v : Value) (l : List UInt8) (w : World) (h : RdV encB w v l) :
    Calls Try.prog 21 #[v] w fun e w' => e = .returned (.int .u16 (crcMore 65535 l)) ∧ w = w' := by
  go_enter Try.func21, Try.ntmps21
  go_wp2_with (go_at_call 23; refine (crc_More _ _ _ _ h).mono ?_; rintro e w' ⟨rfl, rfl⟩)
  go_ret
  exact ⟨rfl, rfl⟩

set_option maxHeartbeats 400000 in
theorem crc_Put (v : Value) (l : List UInt8) (w : World) (h : RdV encB w v l) (hl : l.length ≤ 100000) :
    Calls Try.prog 19 #[v] w fun e w' => ∃ v', e = .returned v' ∧ Own encB 5 w' w.heap.size v' (crcPut l) ∧ Below w.heap.size w w' := by
  obtain ⟨a, c, rfl, hc, hm, hcl⟩ := h.open
  have hs := Lib.hid h
  clear h hcl
  go_enter Try.func19, Try.ntmps19
  go_wp2_with (first | (go_at_call 21; refine (crc_Sum _ _ _ hs.out).mono ?_; rintro e w' ⟨rfl, rfl⟩) |
    (at_builtin; refine wp_app_full (enc := encB) (l := l) (m := [lowB (crcMore 65535 l % 256), lowB (crcMore 65535 l / 256 % 256)]) encB_one rfl _ _ _ rfl _ _ _ Try.underlying23 infoB rfl _ rfl ?h1 ?h2 _ rfl ?h3 (by simp) ?h4 (by omega) ?h5))
  case h1 => exact (hs.out.cap (Nat.le_refl _)).alloc _
  case h2 => rintro rfl; exact hs.out.none
  case h3 => exact RdV.lit encB _ _ _ _ _ _ rfl (Nat.le_refl _) (by simp) (by simp [encB_mod])
  case h4 => simp; omega
  case h5 =>
    intro v' w1 ho hg
    go_wp2
    go_ret
    exact ⟨v', rfl, ho.lower (by simp), ((Below.refl _ _).alloc (Nat.le_refl _) _).grown hg (by simp) (by simp)⟩

set_option maxHeartbeats 400000 in
theorem crc_Cut_no (v : Value) (l : List UInt8) (w : World) (h : RdV encB w v l) (hn : l.length < 2 ∨ crcMore 65535 l ≠ 0) :
    Calls Try.prog 16 #[v] w fun e w' => e = .returned (.tuple #[.slice none 0 0, .bool false]) ∧ w = w' := by
  obtain ⟨a, c, rfl, hc, hm, hcl⟩ := h.open
  have hs := Lib.hid h
  clear h hcl
  by_cases h2 : l.length < 2
  · clear hn
    go_enter Try.func16, Try.ntmps16
    go_wp2
    go_ret2
    exact ⟨rfl, rfl⟩
  · have hne : (crcMore 65535 l == 0) = false := by
      rcases hn with hn | hn
      · omega
      · simpa using hn
    have hne2 : (crcMore 65535 l != 0) = true := by simp [bne, hne]
    clear hn
    go_enter Try.func16, Try.ntmps16
    go_wp2_with (first | (go_at_call 21; refine (crc_Sum _ _ _ hs.out).mono ?_; rintro e w' ⟨rfl, rfl⟩))
    all_goals go_ret2
    all_goals exact ⟨rfl, rfl⟩
set_option maxHeartbeats 400000 in
theorem crc_Cut_yes (v : Value) (l : List UInt8) (w : World) (h : RdV encB w v l) (h2 : 2 ≤ l.length) (hz : crcMore 65535 l = 0) (hl : l.length ≤ 100000) :
    Calls Try.prog 16 #[v] w fun e w' => ∃ v', e = .returned (.tuple #[v', .bool true]) ∧ Own encB 5 w' w.heap.size v' (l.take (l.length - 2)) ∧ Below w.heap.size w w' := by
  obtain ⟨a, c, rfl, hc, hm, hcl⟩ := h.open
  have hs := Lib.hid h
  have hz' := Lib.hid hz
  clear h hcl hz
  go_enter Try.func16, Try.ntmps16
  go_wp2_with (first | (go_at_call 21; refine (crc_Sum _ _ _ hs.out).mono ?_; rintro e w' ⟨rfl, rfl⟩; rw [hz'.out]) |
    (at_builtin; refine wp_app (enc := encB) (l := []) (m := l.take (l.length - 2)) encB_one rfl _ _ _ rfl _ _ _ Try.underlying23 infoB rfl w.heap.size _ rfl (Own.nil _ _ _ _) _ rfl ?h1 (by simp; omega) (by omega) (by simp) ?h2))
  case h1 => exact hs.out.take _ _ (by omega) (by omega)
  case h2 =>
    intro v' w1 ho hg
    go_wp2
    go_ret2
    exact ⟨v', rfl, by simpa using ho, (Below.refl _ _).grown hg (by simp) (by simp [Value.ownBlock])⟩
end Go.Proofs.Ytigfninpflemnaa
