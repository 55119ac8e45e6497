/- Sums once more, as the old contracts tell them: More, Sum, Put (names of their own: beside GCrc). -/
import Derived.Test.YtbmjflieedadkaaBase
import Derived.Deep.QuietTactic
import Derived.BigQuiet
namespace Go.Proofs.Ytbmjflieedadkaa
open Go.RowKit

theorem infoB : (Try.prog.info? 5).map (fun i => (i.zero, i.size, i.bytes)) = some (some (.int .u8 0), 1, 1) := by kernel_rfl

set_option maxHeartbeats 400000 in
theorem crc_More_w (s : Int) (v : Value) (l : List UInt8) (w : World) (h : RdV encB w v l) :
    Calls Try.prog 59 #[.int .u16 s, v] w fun e w' => e = .returned (.int .u16 (crcMore s l)) ∧ w = w' := by
  obtain ⟨a, c, rfl, hc, hm, hl⟩ := h.open
  clear h
  go_enter Try.func59, Try.ntmps59
  go_wp2
  go_loop [0, 10] (fun x i => ∃ k : Nat, k ≤ l.length ∧ i = .int .i64 k ∧ x = .int .u16 (crcMore s (l.take k))) (fun _ i => l.length - (intOf i).toNat)
  case atStart => exact ⟨0, Nat.zero_le _, rfl, rfl⟩
  case round =>
    obtain ⟨k, hk, rfl, rfl⟩ := hrel
    by_cases hlt : k < l.length
    · obtain ⟨b, o, rfl, hcell⟩ := hl.resolve_left (by omega)
      have hx := hcell k hlt
      unfold encB at hx
      have hs := Lib.hid (crcMore_snoc s l k hlt)
      clear hcell hl
      generalize crcMore s (l.take k) = x at *
      generalize l[k] = y at *
      go_wp2
      go_loop [0, 18] (fun z i => ∃ j : Nat, j ≤ 8 ∧ i = .int .i64 j ∧ z = .int .u16 (crcBits j (Go.bits .xor .u16 x (IntKind.u16.wrap (y.toNat : Int))))) (fun _ i => 8 - (intOf i).toNat)
      case atStart => exact ⟨0, Nat.zero_le _, rfl, rfl⟩
      case round =>
        obtain ⟨j, hj, rfl, rfl⟩ := hrel
        by_cases hjt : j < 8
        · go_wp2
          go_round
          case rel => exact ⟨j + 1, by omega, by go_num, rfl⟩
          case measure => simp [intOf]; omega
        · obtain rfl : j = 8 := by omega
          go_wp2
          go_round
          case rel => exact ⟨k + 1, by omega, by go_num, by rw [hs.out]; rfl⟩
          case measure => simp [intOf]; omega
    · obtain rfl : k = l.length := by omega
      go_wp2
      go_ret
      exact ⟨by simp, rfl⟩

theorem crc_Sum_w (v : Value) (l : List UInt8) (w : World) (h : RdV encB w v l) :
    Calls Try.prog 50 #[v] w fun e w' => e = .returned (.int .u16 (crcMore 65535 l)) ∧ w = w' := by
  go_enter Try.func50, Try.ntmps50
  go_wp2_with (go_at_call 59; refine (crc_More_w _ _ _ _ h).mono ?_; rintro e w' ⟨rfl, rfl⟩)
  go_ret
  exact ⟨rfl, rfl⟩

set_option maxHeartbeats 400000 in
theorem crc_Put_w (v : Value) (l : List UInt8) (w : World) (h : RdV encB w v l) (hl : l.length ≤ 100000) :
    Calls Try.prog 38 #[v] w fun e w' => ∃ v', e = .returned v' ∧ Own encB 5 w' w.heap.size v' (crcPut l) ∧ Below w.heap.size w w' := by
  obtain ⟨a, c, rfl, hc, hm, hcl⟩ := h.open
  have hs := Lib.hid h
  clear h hcl
  go_enter Try.func38, Try.ntmps38
  go_wp2_with (first | (go_at_call 50; refine (crc_Sum_w _ _ _ hs.out).mono ?_; rintro e w' ⟨rfl, rfl⟩) |
    (at_builtin; refine wp_app_full (enc := encB) (l := l) (m := [lowB (crcMore 65535 l % 256), lowB (crcMore 65535 l / 256 % 256)]) encB_one rfl _ _ _ rfl _ _ _ Try.underlying22 infoB rfl _ rfl ?h1 ?h2 _ rfl ?h3 (by simp) ?h4 (by omega) ?h5))
  case h1 => exact (hs.out.cap (Nat.le_refl _)).alloc _
  case h2 => rintro rfl; exact hs.out.none
  case h3 => exact RdV.lit encB _ _ _ _ _ _ rfl (Nat.le_refl _) (by simp) (by simp [encB_mod])
  case h4 => simp; omega
  case h5 =>
    intro v' w1 ho hg
    go_wp2
    go_ret
    exact ⟨v', rfl, ho.lower (by simp), ((Below.refl _ _).alloc (Nat.le_refl _) _).grown hg (by simp) (by simp)⟩

end Go.Proofs.Ytbmjflieedadkaa
