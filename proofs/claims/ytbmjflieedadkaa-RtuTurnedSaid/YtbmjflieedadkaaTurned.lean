/- RtuTurned: the walk of its good case in the old style: the bytes that are turned are the call's own. -/
import Derived.Test.YtbmjflieedadkaaGRtuL
import Derived.Test.YtbmjflieedadkaaCrcW
import Derived.Test.YtbmjflieedadkaaPrimL
import Derived.Test.YtbmjflieedadkaaPlainT
namespace Go.Proofs.Ytbmjflieedadkaa
open Go Go.RowKit
set_option linter.unusedSimpArgs false
set_option linter.unusedVariables false
theorem within_fine (k : Nat) (w : World) (h1 : 1 ≤ k) (h2 : k ≤ 253) : Calls Try.prog 36 #[.int .i64 k, .int .i64 1, .int .i64 253] w fun e w' => e = .returned .nilIface ∧ w = w' := by
  go_enter Try.func36, Try.ntmps36
  go_wp2
  go_ret
  exact ⟨rfl, rfl⟩
set_option maxHeartbeats 800000 in
theorem rtu_Bytes_own (vp : Value) (u : Int) (l : List UInt8) (w : World) (hu : 0 ≤ u ∧ u < 256) (r : RdV encB w vp l) (h0 : 1 ≤ l.length) (h2 : l.length ≤ 253) :
    Calls Try.prog 10 #[.agg #[.int .u8 u, vp]] w fun e w' => ∃ v', e = .returned (.tuple #[v', .int .i64 0]) ∧ Own encB 5 w' w.heap.size v' (crcPut (lowB u :: l)) ∧ Below w.heap.size w w' := by
  obtain ⟨a, c, rfl, hc, hm, hcl⟩ := r.open
  have hr := Lib.hid r
  clear hcl r
  have hub := Lib.hid (encB_low u hu.1 hu.2)
  go_enter Try.func10, Try.ntmps10
  go_wp2_with (first | (go_at_call 36; refine (within_fine _ _ h0 h2).mono ?_; rintro e w1 ⟨rfl, rfl⟩) |
    (at_builtin; refine wp_app (enc := encB) (l := [lowB u]) (m := l) encB_one rfl (.tmp 16) (.tmp 18) _ rfl _ _ _ Try.underlying22 infoB rfl w.heap.size _ rfl ?a1 _ rfl ?a2 ?a3 (by omega) ?a4 ?a5))
  case a1 =>
    show Own encB 5 _ w.heap.size (.slice (some ⟨w.heap.size + 1, 0, none⟩) 1 1) [lowB u]
    exact Own.litg encB (w.alloc _) 5 w.heap.size (w.heap.size + 1) (by simp) (by simp) [lowB u] _ 1 rfl (by simp) (by rw [hub.out]; rfl)
  case a2 => exact (hr.out.alloc _).alloc _
  case a3 => simp; omega
  case a4 => simp; omega
  case a5 =>
    intro v2 w2 ho2 hg2
    have hB2 := belowG (belowA (belowA (Below.refl _ w) _) _) hg2 (by simp [Value.ownBlock])
    go_wp2_with (go_at_call 38; refine (crc_Put_w _ _ _ ho2.rd (by simp; omega)).mono ?_; rintro e w3 ⟨v3, rfl, ho3, hB3⟩)
    go_ret2
    exact ⟨v3, rfl, ho3.lower hB2.size, belowT hB2 hB3⟩
theorem awake03_calls (w : World) : Calls Try.prog 9 #[] w fun e w' => e = .returned (.bool true) ∧ Below w.heap.size w w' := by
  have h : (callG Try.prog ENV 3999 9 [] [] 0).map (·.1) = some (.flat (.bool true)) := by kernel_rfl
  obtain ⟨⟨d, H'⟩, h, rfl⟩ := Option.map_eq_some_iff.1 h
  exact law_call h (w := w) (vs := #[]) (by simp [RepL])
theorem flip_bits (c : UInt8) (j : Nat) (h : j < 8) : Go.bits .xor .u8 (c.toNat : Int) ((2 ^ j : Nat) : Int) = ((flipB c j).toNat : Int) := by
  rw [flipB_nat c j h]
  exact bits_xor_nat .u8 8 (by decide) (fun n h0 h1 => by simp [IntKind.wrap, IntKind.bits, IntKind.signed]; omega) _ _ c.toNat_lt (Nat.pow_lt_pow_right (by omega) h)
theorem bitZ_at (j : Nat) (h : j < 8) : (#[Value.int .u8 1, .int .u8 2, .int .u8 4, .int .u8 8, .int .u8 16, .int .u8 32, .int .u8 64, .int .u8 128] : Array Value)[j]? = some (.int .u8 ((2 ^ j : Nat) : Int)) := by
  match j, h with
  | 0, _ => rfl
  | 1, _ => rfl
  | 2, _ => rfl
  | 3, _ => rfl
  | 4, _ => rfl
  | 5, _ => rfl
  | 6, _ => rfl
  | 7, _ => rfl
theorem flipsL_one (l : List UInt8) (a t k : Nat) (h : t / 2 ^ k % 2 = 1) (hk : (a + k) / 8 < l.length) : flipsL l a t (k + 1) = (flipsL l a t k).set ((a + k) / 8) (flipB ((flipsL l a t k)[(a + k) / 8]'(by rw [flipsL_len]; exact hk)) ((a + k) % 8)) := by
  have hk' : (a + k) / 8 < (flipsL l a t k).length := by rw [flipsL_len]; exact hk
  show (if t / 2 ^ k % 2 = 1 then flip1 (flipsL l a t k) (a + k) else flipsL l a t k) = _
  rw [if_pos h]
  unfold flip1
  rw [List.getElem?_eq_getElem hk']
theorem flipsL_no (l : List UInt8) (a t k : Nat) (h : t / 2 ^ k % 2 = 0) : flipsL l a t (k + 1) = flipsL l a t k := by
  show (if t / 2 ^ k % 2 = 1 then flip1 (flipsL l a t k) (a + k) else flipsL l a t k) = _
  rw [if_neg (by omega)]
/-- what Read tells of bytes whose sum is another one -/
theorem rtu_Read_six (b : List Int) (hb : Bytes b) (h4 : 4 ≤ b.length) (hl : b.length ≤ 256) (hs : sumN b ≠ 0) : ∃ H', callG Try.prog ENV 1200 12 [LV 1 (I .u8) b .sh] [] 0 = some (.tup [.agg [I .u8 0, .list 0 [] .ti], I .i64 6], H') := by
  have hw := fun H => within_c 1199 H b.length 4 256 (by omega)
  unfold wiV at hw
  rw [if_neg (by omega), if_neg (by omega)] at hw
  have hC := crc_Cut_no 1199 b .sh hb (by omega) (by omega) (.inr hs)
  have h : ∃ H', s_rtu_Read 1199 [] 0 (LV 1 (I .u8) b .sh) = some (.tup [.agg [I .u8 0, .list 0 [] .ti], I .i64 6], H') := ⟨_, by unfold s_rtu_Read; simp -implicitDefEqProofs (disch := first | omega | (simp only [List.length_set, List.length_append, List.length_cons, List.length_nil, List.length_take, List.length_drop, List.length_map]; omega) | simp) [wrap_i64, wrap_u16_id, wrap_u8_id, tdiv_pos, tmod_pos, -getElem?_pos, -getElem?_neg, -List.length_eq_zero_iff, -List.getElem_cons_drop, hw, nen_nil, hC]; rfl⟩
  obtain ⟨H', h⟩ := h
  exact ⟨H', (s_rtu_Read_eq _ _ _ _).trans h⟩
theorem repE_mk0 {α : Type} {enc : α → Value} {e' : α → DV} (he : ∀ a, e' a = .flat (enc a)) (h1 : ∀ a, (enc a).cells = #[enc a] ∧ isOne (enc a) = true) {I : Nat → Nat → Prop} {w : World} {b : Nat} : ∀ (l : List α) (o : Nat), (∀ j (h : j < l.length), w.cell? ⟨b, o + j, none⟩ = some (enc l[j]) ∧ I b (o + j)) → RepE I w 1 (l.map e') b o
  | [], o, _ => by simp [RepE]
  | a :: l, o, h => by
    simp only [List.map_cons, RepE]
    refine ⟨⟨by rw [he]; simp [DV.cells, DV.leaf, (h1 a).2], enc a, by rw [he]; simp only [Rep], by rw [(h1 a).1]; rfl, ?_⟩, repE_mk0 he h1 l (o + 1) fun j hj => ?_⟩
    · rw [(h1 a).1]
      intro j v hj
      cases j with
      | zero =>
        simp at hj
        subst hj
        obtain ⟨h2, h3⟩ := h 0 (by simp)
        exact ⟨h2, h3, (h1 _).2⟩
      | succ j => simp at hj
    · have := h (j + 1) (by simpa using hj)
      rw [show o + (j + 1) = o + 1 + j by omega] at this
      exact this
/-- a row of the call's own, as a list of bytes -/
theorem own_list {e : TypeId} {w : World} {base g n cap : Nat} {l : List UInt8} (ho : Own encB e w base (.slice (some ⟨g, 0, none⟩) n cap) l) : RepL Any w [] [LV 1 (I .u8) (l.map fun c => (c.toNat : Int)) .sh] [.slice (some ⟨g, 0, none⟩) n cap] := by
  simp only [RepL]
  refine ⟨_, _, rfl, ?_, rfl⟩
  have hrd := ho.rd
  obtain ⟨A, c, he, hc, hm, hcl⟩ := hrd.open
  injection he with e1 e2 e3
  subst e1; subst e2; subst e3
  unfold LV
  rw [List.map_map]
  cases l with
  | nil =>
    simp only [List.map_nil, mkl, Rep, TagOk]
    exact ⟨_, _, rfl, Nat.zero_le _, by simp, .inl trivial, trivial⟩
  | cons x l =>
    obtain ⟨b, o, hb, hcell⟩ := hcl.resolve_left (by simp)
    have hE := repE_mk0 (enc := encB) (e' := I .u8 ∘ fun c : UInt8 => (c.toNat : Int)) (fun a => rfl) (fun a => ⟨rfl, rfl⟩) (I := Any) (w := w) (b := b) (x :: l) o (fun j hj => ⟨hcell j hj, trivial⟩)
    simp only [List.map_cons, mkl, Rep, TagOk]
    exact ⟨some ⟨g, 0, none⟩, cap, by simp, by simpa using hc, by simpa using hm, .inr ⟨b, o, hb, by simpa using hE⟩, trivial⟩
theorem nB_of (l : List UInt8) : nB (l.map fun c => (c.toNat : Int)) = l := by
  unfold nB
  rw [List.map_map]
  refine (List.map_congr_left fun c _ => ?_).trans (List.map_id _)
  show lowB (c.toNat : Int) = c
  unfold lowB
  simp
theorem bytes_of (l : List UInt8) : Bytes (l.map fun c => (c.toNat : Int)) := by
  intro x hx
  obtain ⟨c, _, rfl⟩ := List.mem_map.1 hx
  have := c.toNat_lt
  omega
theorem Read_calls (w : World) (base g n cap : Nat) (l : List UInt8) {e : TypeId} (ho : Own encB e w base (.slice (some ⟨g, 0, none⟩) n cap) l) (h4 : 4 ≤ l.length) (hl : l.length ≤ 256) (hs : nMore 65535 l ≠ 0) :
    Calls Try.prog 12 #[.slice (some ⟨g, 0, none⟩) n cap] w fun e w' => (∃ A c, e = .returned (.tuple #[.agg #[.int .u8 0, .slice A 0 c], .int .i64 6])) ∧ Below w.heap.size w w' := by
  obtain ⟨H', h⟩ := rtu_Read_six (l.map fun c => (c.toNat : Int)) (bytes_of l) (by simpa using h4) (by simpa using hl) (by unfold sumN; rw [nB_of]; exact hs)
  refine (pure_call mixed noOwn primSound (callG_ok _ _ _ _ _ _ _ _ h) (own_list ho)).mono fun e w' ⟨V, he, hb, I', G, hV⟩ => ⟨?_, hb⟩
  simp only [Rep, RepL] at hV
  obtain ⟨vs, rfl, v1, r1, h1, ⟨vs2, rfl, u1, s1, h3, hu, u2, s2, h4', ⟨A, c, rfl, _⟩, hs2⟩, v2, r2, h5, h6, hr2⟩ := hV
  subst hr2; subst hs2; subst h5; subst h4'
  obtain rfl : vs = #[.agg vs2, v2] := by cases vs; simp_all
  obtain rfl : vs2 = #[u1, .slice A 0 c] := by cases vs2; simp_all
  try simp only [I, Rep] at hu h6
  subst hu; subst h6
  exact ⟨A, c, he⟩
set_option maxRecDepth 100000 in
set_option maxHeartbeats 3200000 in
theorem RtuTurned_good (vp : Value) (u : Int) (l : List UInt8) (at_ turn : Nat) (w : World) (hu : 0 ≤ u ∧ u < 256) (r : RdV encB w vp l) (h0 : 1 ≤ l.length) (h2 : l.length ≤ 253) (ht0 : turn ≠ 0) (ht : turn < 65536) (ha : at_ + 16 ≤ 8 * (l.length + 3)) :
    Calls Try.prog 5 #[.agg #[.int .u8 u, vp], .int .i64 (at_ : Int), .int .u16 (turn : Int)] w fun e w' => e = .returned (.bool true) ∧ Below w.heap.size w w' := by
  obtain ⟨N, hN⟩ : ∃ N, N = l.length + 3 := ⟨_, rfl⟩
  obtain ⟨B, hB⟩ : ∃ B, Hid (B = crcPut (lowB u :: l)) := ⟨_, Lib.hid rfl⟩
  have hlen : B.length = N := by rw [hB.out, hN]; simp [crcPut]
  have hz : nMore 65535 B = 0 := by
    have e1 := crcPut_zero (lowB u :: l)
    have e2 := crcMore_nat (crcPut (lowB u :: l)) 65535 (by omega)
    rw [← hB.out] at e1 e2
    have e3 : ((nMore 65535 B : Nat) : Int) = 0 := e2.symm.trans e1
    omega
  have hsum := Lib.hid (flips_sum B at_ turn (by omega) ht0 ht hz)
  have hlen' := Lib.hid hlen
  obtain ⟨a, c, rfl, hc, hm, hcl⟩ := r.open
  have hr := Lib.hid r
  have z0 : N ≤ 256 := by omega
  have z1 : 4 ≤ N := by omega
  have z3 : at_ + 16 ≤ 8 * N := by omega
  have z4 : ¬ ((turn : Int) = 0) := by omega
  have z5 : ¬ (400 < (l.length : Int)) := by omega
  have z6 : ¬ ((at_ : Int) < 0) := by omega
  have z7 : ¬ ((8 : Int) * (N : Int) - 16 < (at_ : Int)) := by omega
  clear hcl r hz hlen
  go_enter Try.func5, Try.ntmps5
  go_wp2_with fail
  refine (awake03_calls _).mono ?_
  rintro e w1 ⟨rfl, hB1⟩
  have c0 : w1.cell? ⟨w.heap.size, 0, none⟩ = some (.int .u8 u) := cellT hB1 (cell_made 0 _ rfl)
  have c1 : w1.cell? ⟨w.heap.size, 1, none⟩ = some (.slice a l.length c) := cellT hB1 (cell_made 1 _ rfl)
  go_wp2_with fail
  refine (rtu_Bytes_own _ u l _ hu ((hr.out.alloc _).below hB1) h0 h2).mono ?_
  rintro e w2 ⟨v2, rfl, ho, hB2⟩
  have hB12 := belowT (belowT (belowA (Below.refl _ w) _) hB1) hB2
  rw [← hB.out] at ho
  obtain ⟨g, cap, rfl, hg1, hg2⟩ := ho.block (by rw [hlen'.out]; omega)
  rw [hlen'.out] at ho ⊢
  have ho := ho.lower ((belowT (belowA (Below.refl _ w) _) hB1).size)
  clear c0 c1 hB1 hB2 hr z5 h0 h2 hc hm hN ha
  go_wp2
  · go_ret
    exact ⟨rfl, hB12⟩
  clear z4 z6 z7
  go_loopw [2, 10] (fun tv iv wr => ∃ k s : Nat, k ≤ 16 ∧ iv = .int .i64 k ∧ tv = .int .u16 (s : Int) ∧ Hid (s = turn / 2 ^ k) ∧ Own encB 5 wr w.heap.size (.slice (some ⟨g, 0, none⟩) N cap) (flipsL B at_ turn k) ∧ Below w.heap.size w wr) (fun _ iv _ => 16 - (intOf iv).toNat)
  case atStart => exact ⟨0, turn, Nat.zero_le _, rfl, rfl, Lib.hid (by simp), ho, hB12⟩
  case round =>
    clear ho hB12
    obtain ⟨k, s, hk, rfl, rfl, hs, ho, hB3⟩ := hrel
    have hs1 : s < 65536 := by rw [hs.out]; exact Nat.lt_of_le_of_lt (Nat.div_le_self _ _) ht
    obtain ⟨s2, hs2⟩ : ∃ s2, s2 = s / 2 := ⟨_, rfl⟩
    have q2 : (s : Int) / 2 = (s2 : Int) := by omega
    have hs2' : Hid (s2 = turn / 2 ^ (k + 1)) := Lib.hid (by rw [hs2, hs.out, Nat.pow_succ, Nat.div_div_eq_div_mul])
    by_cases hlt : k < 16
    · rcases (by omega : s % 2 = 0 ∨ s % 2 = 1) with hm | hm
      · have q1 : (s : Int) % 2 = 0 := by omega
        have hno := Lib.hid (flipsL_no B at_ turn k (by rw [← hs.out]; exact hm))
        clear hm hs2 hs
        go_wp2
        go_roundw
        case rel => exact ⟨k + 1, s2, by omega, by go_num, rfl, hs2', by rw [hno.out]; exact ho, hB3⟩
        case measure => simp [intOf]; omega
      · have q1 : (s : Int) % 2 = 1 := by omega
        obtain ⟨p, hp⟩ : ∃ p, p = at_ + k := ⟨_, rfl⟩
        have hpi : (at_ : Int) + (k : Int) = (p : Int) := by omega
        have hp8 : p / 8 < N := by omega
        have hpl : p / 8 < (flipsL B at_ turn k).length := by rw [flipsL_len, hlen'.out]; exact hp8
        have hone : Hid (flipsL B at_ turn (k + 1) = (flipsL B at_ turn k).set (p / 8) (flipB ((flipsL B at_ turn k)[p / 8]'hpl) (p % 8))) := by
          subst hp
          exact Lib.hid (flipsL_one B at_ turn k (by rw [← hs.out]; exact hm) (by rw [hlen'.out]; exact hp8))
        obtain ⟨hca, hfa⟩ := ho.at (p / 8) hpl
        have hlg := (ho.base _ rfl).2
        have hbits := flip_bits (flipsL B at_ turn k)[p / 8] (p % 8) (by omega)
        have hset := fun W (h : Own encB 5 W w.heap.size (.slice (some ⟨g, 0, none⟩) N cap) (flipsL B at_ turn k)) => h.set (p / 8) (flipB (flipsL B at_ turn k)[p / 8] (p % 8))
        simp only [encB] at hca hset
        obtain ⟨y, hy⟩ : ∃ y : Int, y = ((2 ^ (p % 8) : Nat) : Int) := ⟨_, rfl⟩
        have hZ := bitZ_at (p % 8) (by omega)
        rw [← hy] at hZ hbits
        obtain ⟨Z, hZe⟩ : ∃ Z : Array Value, Z = #[Value.int .u8 1, .int .u8 2, .int .u8 4, .int .u8 8, .int .u8 16, .int .u8 32, .int .u8 64, .int .u8 128] := ⟨_, rfl⟩
        rw [← hZe] at hZ
        have k3 : (wr.alloc (.cells Z 5)).drew.cell? ⟨wr.heap.size, p % 8, none⟩ = some (.int .u8 y) := cell_made (w := wr) (p % 8) _ hZ
        have hoZ := Own.alloc ho (.cells Z 5)
        obtain ⟨k2, f2⟩ := hoZ.drew.at (p / 8) hpl
        simp only [encB] at k2
        have hsW := hset _ hoZ
        have hBZ : Below w.heap.size w (wr.alloc (.cells Z 5)) := belowA hB3 _
        have hBs := belowG hBZ hsW.2 (fun j hj => (ho.base j hj).1)
        have hsO := hsW.1
        rw [← hone.out] at hsO
        generalize ((flipB (flipsL B at_ turn k)[p / 8] (p % 8)).toNat : Int) = z at *
        generalize (((flipsL B at_ turn k)[p / 8]).toNat : Int) = x at *
        subst hZe
        have q3 : IntKind.u16.wrap (s2 : Int) = (s2 : Int) := wraps_u16 _ (by omega) (by omega)
        have hsO := Lib.hid hsO
        have hBs := Lib.hid hBs
        clear hset hs hs2 hs1 hm hy hZ hp hoZ hsW hBZ ho hB3 hlg hone hpl
        go_wp2
        go_region
        go_wp2
        go_roundw
        case rel => exact ⟨k + 1, s2, by omega, by go_num, rfl, hs2', hsO.out.drew, Below.drew hBs.out⟩
        case measure => simp [intOf]; omega
    · obtain rfl : k = 16 := by omega
      go_wp2_with fail
      refine (Read_calls _ _ _ _ _ _ ho (by rw [flipsL_len, hlen'.out]; exact z1) (by rw [flipsL_len, hlen'.out]; exact z0) hsum.out).mono ?_
      rintro e w5 ⟨⟨A, c5, rfl⟩, hB5⟩
      have hB6 := belowT hB3 hB5
      go_wp2
      go_ret
      exact ⟨rfl, belowA hB6 _⟩
end Go.Proofs.Ytbmjflieedadkaa
