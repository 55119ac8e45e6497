/- The law ScanOnce: its walk. Printed by gscan2.py. -/
import Derived.Test.YtbhnkdnfmlnajaaScanL
namespace Go.Proofs.Ytbhnkdnfmlnajaa
open Go Go.RowKit Go.Maps
set_option linter.unusedSimpArgs false
set_option linter.unusedVariables false
/-- how far to the next channel that has groups left -/
def dist (g p0 p1 p2 c : Int) : Nat :=
  if c = 0 then (if p0 < g then 0 else if p1 < g then 1 else 2)
  else if c = 1 then (if p1 < g then 0 else if p2 < g then 1 else 2)
  else (if p2 < g then 0 else if p0 < g then 1 else 2)
theorem belowS'' {B : Nat} {a w : World} {p : Addr} {v : Value} (h : Below B a w) (hp : B ≤ p.block) : Below B a (w.setCell p v) := h.setCell hp v
set_option maxRecDepth 100000 in
set_option maxHeartbeats 6400000 in
theorem ScanOnce_w (w : World) (g rounds : Int) (vl : Value) (l : List Int) (hl : RdV encN w vl l) (hrw : -9223372036854775808 ≤ rounds ∧ rounds < 9223372036854775808) :
    Calls Try.prog 4 #[.int .i64 g, .int .i64 rounds, vl] w fun e w' => e = .returned (.bool true) ∧ Below w.heap.size w w' := by
  obtain ⟨A, cp, rfl, hcp, hm0, hcl⟩ := hl.open
  have hcl := Lib.hid hcl
  clear hl
  go_enter Try.func4, Try.ntmps4
  go_wp2_with fail
  refine (awake17_w _).mono ?_
  rintro e w1 ⟨rfl, hB1⟩
  have hB1 := Lib.hid hB1
  by_cases hg : 1 ≤ g ∧ g ≤ 48
  case neg =>
    go_wp2_with fail
    refine (New_no w1 g (by omega)).mono ?_
    rintro e w2 ⟨rfl, rfl⟩
    go_wp2
    go_ret
    exact ⟨rfl, hB1.out⟩
  go_wp2_with fail
  refine (New_w w1 g hg).mono ?_
  rintro e w2 ⟨s, m, rfl, hS, hs, hm, hlt, hB2⟩
  have hsw : w.heap.size ≤ w1.heap.size := hB1.out.size
  have hms : w.heap.size ≤ m := by omega
  have hss : w.heap.size ≤ s := by omega
  have hS := Lib.hid hS
  have hB := Lib.hid (belowT hB1.out hB2)
  clear hB1 hB2 hs hm hlt hsw
  by_cases hr1 : rounds < 1
  · go_wp2
    go_ret
    exact ⟨rfl, hB.out⟩
  by_cases hr5 : 5 < rounds
  · go_wp2
    go_ret
    exact ⟨rfl, hB.out⟩
  by_cases h3 : 300 < l.length
  · go_wp2
    go_ret
    exact ⟨rfl, hB.out⟩
  have h3' : ¬ (300 : Int) < (l.length : Int) := by omega
  have e0 := op_zero g hg.1
  rw [← e0] at hS
  have e0 := Lib.hid e0
  have hgb := Lib.hid hg
  go_wp2_with fail
  go_loopw [10, 11] (fun av nv wr => ∃ (at_ : Nat) (n : Int) (m : Nat), 1 ≤ n ∧ n ≤ rounds + 1 ∧ av = .int .i64 at_ ∧ at_ ≤ 200 * n.toNat ∧ nv = .int .i64 n ∧ Sc wr s m g n (op g 0) (op g 0) (op g 0) ∧ w.heap.size ≤ m ∧ Below w.heap.size w wr) (fun _ nv _ => (rounds + 1 - intOf nv).toNat)
  case atStart => exact ⟨0, 1, m, by omega, by omega, rfl, by omega, rfl, hS.out, hms, hB.out⟩
  case round =>
    clear hS hB hms
    obtain ⟨at0, n, m, hn1, hn2, rfl, hat, rfl, hS, hms, hB⟩ := hrel
    have hS := Lib.hid hS
    have hB := Lib.hid hB
    by_cases hnr : n ≤ rounds
    case neg =>
      obtain rfl : n = rounds + 1 := by omega
      have hq : ¬ rounds + 1 ≤ rounds := by omega
      have hwr : IntKind.i64.wrap (rounds + 1) = rounds + 1 := IntWalk.i64_in _ (by omega)
      go_wp2_with fail
      refine (Round_w _ s m g _ _ _ _ hS.out).mono ?_
      rintro e wA ⟨rfl, rfl⟩
      go_wp2
      go_ret
      exact ⟨rfl, hB.out⟩
    obtain ⟨b, hb⟩ : ∃ b, b = wr.heap.size := ⟨_, rfl⟩
    have hsb : s ≠ b := by have := hS.out.1.lt; omega
    have hmb : m ≠ b := by have := hS.out.2.1.lt; omega
    have hwb : w.heap.size ≤ b := by have := hB.out.size; omega
    have hX : BX (wr.alloc (.cells #[.int .i64 0, .int .i64 0, .int .i64 0] 36)) b 36 #[.int .i64 0, .int .i64 0, .int .i64 0] := BX.made hb
    have hS := Lib.hid (hS.out.grown (World.grownBy_alloc wr (.cells #[.int .i64 0, .int .i64 0, .int .i64 0] 36) none) (by simp) (by simp))
    have hB := Lib.hid (belowA hB.out (.cells #[.int .i64 0, .int .i64 0, .int .i64 0] 36))
    have hX := Lib.hid hX
    have hw3 : IntKind.i64.wrap (3 * g) = 3 * g := IntWalk.i64_in _ (by have := hgb.out; omega)
    have hg0 := hgb.out
    obtain ⟨g1, g2⟩ := hg0
    have hbh := Lib.hid hb
    clear hb
    go_wp2_with fail
    rw [← hbh.out]
    go_loopw [10, 13] (fun av kv wm => ∃ (k at_ : Nat) (p0 p1 p2 : Int), (k : Int) ≤ 3 * g ∧ kv = .int .i64 k ∧ av = .int .i64 at_ ∧ at_ ≤ at0 + k ∧ Sc wm s m g n (op g p0) (op g p1) (op g p2) ∧ BX wm b 36 #[.int .i64 p0, .int .i64 p1, .int .i64 p2] ∧ Hid ((0 ≤ p0 ∧ p0 ≤ g) ∧ (0 ≤ p1 ∧ p1 ≤ g) ∧ (0 ≤ p2 ∧ p2 ≤ g) ∧ p0 + p1 + p2 = (k : Int)) ∧ Below w.heap.size w wm) (fun _ kv _ => (3 * g - intOf kv).toNat)
    case atStart => exact ⟨0, at0, 0, 0, 0, by omega, rfl, rfl, by omega, hS.out, hX.out, Lib.hid (by omega), hB.out⟩
    case round =>
      clear hS hX hB
      obtain ⟨k, at1, p0, p1, p2, hk, rfl, rfl, hat1, hS, hX, hbd, hB⟩ := hrel
      have hS := Lib.hid hS
      have hX := Lib.hid hX
      have hB := Lib.hid hB
      by_cases hk3 : (k : Int) < 3 * g
      case neg =>
        have hbq := hbd.out
        have hq : ¬ (k : Int) < 3 * g := hk3
        have ha : all3 g p0 p1 p2 = true := by unfold all3; simp; omega
        have hcp := Complete_w _ s m g n _ _ _ hS.out
        rw [none_all g p0 p1 p2 hbq.1.2 hbq.2.1.2 hbq.2.2.1.2, ha] at hcp
        have hbg := Begin_u _ s m g n p0 p1 p2 hS.out (by omega) g1 hbq.1.2 hbq.2.1.2 hbq.2.2.1.2 true ha
        simp only [if_true] at hbg
        have hcp := Lib.hid hcp
        have hbg := Lib.hid hbg
        have hwn : IntKind.i64.wrap (n + 1) = n + 1 := IntWalk.i64_in _ (by omega)
        clear ha hbq
        go_wp2_with fail
        refine hcp.out.mono ?_
        rintro e wC ⟨rfl, rfl⟩
        go_wp2_with fail
        refine hbg.out.mono ?_
        rintro e wD ⟨hG, rfl, M, hM, hSM⟩
        have hMs : w.heap.size ≤ M := by have := hB.out.size; rcases hM with hM | hM <;> omega
        have hSM := Lib.hid hSM
        have hB := Lib.hid (belowG hB.out hG (by rintro k hk; obtain rfl := Option.some.inj hk; exact hss))
        clear hcp hbg hG hM
        go_wp2
        go_roundw
        case rel => exact ⟨at1, n + 1, M, by omega, by omega, by go_num, by omega, by go_num, hSM.out, hMs, hB.out⟩
        case measure => simp [intOf]; omega
      have hnone : none3 (op g p0) (op g p1) (op g p2) = false := by
        have hbq := hbd.out
        rw [none_all g p0 p1 p2 (by omega) (by omega) (by omega)]
        unfold all3
        by_cases q0 : p0 = g <;> by_cases q1 : p1 = g <;> by_cases q2 : p2 = g <;> simp [q0, q1, q2] <;> omega
      have hcp := Complete_w _ s m g n _ _ _ hS.out
      rw [hnone] at hcp
      have hcp := Lib.hid hcp
      clear hnone
      go_wp2_with fail
      refine hcp.out.mono ?_
      rintro e wC ⟨rfl, rfl⟩
      go_wp2_with fail
      refine (Round_w _ s m g n _ _ _ hS.out).mono ?_
      rintro e wC ⟨rfl, rfl⟩
      clear hcp
      by_cases hal : at1 < l.length
      · obtain ⟨pb, po, hA, hcells⟩ := hcl.out.resolve_left (by intro e; rw [e] at hal; simp at hal)
        subst hA
        have hc0 := hcells at1 hal
        have hpb : pb < w.heap.size := World.block_lt_of_cell? _ _ hc0
        have hck := (hB.out.cell (p := ⟨pb, po + at1, none⟩) hpb).trans hc0
        simp only [encN] at hck
        obtain ⟨y, hy⟩ : ∃ y, Hid (y = l[at1]) := ⟨_, Lib.hid rfl⟩
        rw [← hy.out] at hck
        have hal' : (at1 : Int) < (l.length : Int) := by omega
        clear hcells hc0
        by_cases hy0 : 0 ≤ y
        · by_cases hy2 : y ≤ 2
          · have tok := True.intro
            go_wp2_with fail
            go_loopw [14] (fun cv wi => ∃ c : Int, 0 ≤ c ∧ c ≤ 2 ∧ cv = .int .i64 c ∧ Sc wi s m g n (op g p0) (op g p1) (op g p2) ∧ BX wi b 36 #[.int .i64 p0, .int .i64 p1, .int .i64 p2] ∧ Below w.heap.size w wi) (fun cv _ => dist g p0 p1 p2 (intOf cv))
            case atStart => exact ⟨y, by omega, by omega, rfl, hS.out, hX.out, hB.out⟩
            case round =>
              clear hS hX hB
              obtain ⟨c, hc0, hc2, rfl, hS, hX, hB⟩ := hrel
              have y0 := hX.cell 0 rfl
              have y1 := hX.cell 1 rfl
              have y2 := hX.cell 2 rfl
              have hS := Lib.hid hS
              have hX := Lib.hid hX
              have hB := Lib.hid hB
              rcases (by omega : c = 0 ∨ c = 1 ∨ c = 2) with rfl | rfl | rfl
              · by_cases hp : p0 < g
                · have hlk : lk (op g p0) (op g p1) (op g p2) 0 = some p0 := by show op g p0 = some p0; exact if_pos hp
                  have hp' : ¬ g ≤ p0 := by omega
                  have hn1 := Next_w _ s m g n _ _ _ hS.out 0 (by decide)
                  rw [hlk] at hn1
                  have hd1 := Done_w _ s m g n _ _ _ hS.out 0 (by decide) (by intro v hv; rw [hlk] at hv; cases hv; have := hbd.out; omega)
                  rw [hlk] at hd1
                  have hop := op_step g p0 p0 0 0 hbd.out.1 (by intro h; first | exact if_pos hp | (exfalso; revert h; decide))
                  have hop1 := op_step g p1 p0 0 1 hbd.out.2.1 (by intro h; first | exact if_pos hp | (exfalso; revert h; decide))
                  have hop2 := op_step g p2 p0 0 2 hbd.out.2.2.1 (by intro h; first | exact if_pos hp | (exfalso; revert h; decide))
                  simp only [← hop.1, ← hop1.1, ← hop2.1] at hd1
                  have hq := Lib.hid (show (0 ≤ sp 0 0 p0 ∧ sp 0 0 p0 ≤ g) ∧ (0 ≤ sp 1 0 p1 ∧ sp 1 0 p1 ≤ g) ∧ (0 ≤ sp 2 0 p2 ∧ sp 2 0 p2 ≤ g) ∧ sp 0 0 p0 + sp 1 0 p1 + sp 2 0 p2 = ((k + 1 : Nat) : Int) from ⟨hop.2, hop1.2, hop2.2, by have := hbd.out.2.2.2; simp [sp]; omega⟩)
                  have hn1 := Lib.hid hn1
                  have hd1 := Lib.hid hd1
                  have hw1 : IntKind.i64.wrap (p0 + 1) = p0 + 1 := IntWalk.i64_in _ (by have := hbd.out; omega)
                  clear hlk hop hop1 hop2
                  go_wp2_with fail
                  refine hn1.out.mono ?_
                  rintro e wA ⟨rfl, rfl⟩
                  go_wp2_with fail
                  refine hd1.out.mono ?_
                  rintro e wB ⟨hG, rfl, hSB⟩
                  have hX := hX.out.grown hG (by simpa using hmb.symm)
                  have hcc := hX.cell 0 rfl
                  have hff := hX.frozen 0
                  have hX := Lib.hid hX
                  have hSB := Lib.hid hSB
                  have hB := Lib.hid (belowG hB.out hG (by rintro k hk; obtain rfl := Option.some.inj hk; exact hms))
                  clear hG hn1 hd1
                  go_wp2
                  go_roundw
                  case rel => exact ⟨k + 1, at1 + 1, _, _, _, by omega, by go_num, by go_num, by omega, hSB.out.grown gr_set (by simpa using hsb) (by simpa using hmb), hX.out.set 0 _, hq, belowS'' hB.out (by simpa using hwb)⟩
                  case measure => simp [intOf]; omega
                · have hp' : g ≤ p0 := by omega
                  have hdist : dist g p0 p1 p2 1 < dist g p0 p1 p2 0 := by
                    have := hbd.out
                    by_cases q0 : p0 < g <;> by_cases q1 : p1 < g <;> by_cases q2 : p2 < g <;> simp [dist, q0, q1, q2] <;> omega
                  go_wp2
                  go_roundw
                  case rel => exact ⟨1, by omega, by omega, by go_num, hS.out, hX.out, hB.out⟩
                  case measure => simpa [intOf] using hdist
              · by_cases hp : p1 < g
                · have hlk : lk (op g p0) (op g p1) (op g p2) 1 = some p1 := by show op g p1 = some p1; exact if_pos hp
                  have hp' : ¬ g ≤ p1 := by omega
                  have hn1 := Next_w _ s m g n _ _ _ hS.out 1 (by decide)
                  rw [hlk] at hn1
                  have hd1 := Done_w _ s m g n _ _ _ hS.out 1 (by decide) (by intro v hv; rw [hlk] at hv; cases hv; have := hbd.out; omega)
                  rw [hlk] at hd1
                  have hop := op_step g p0 p1 1 0 hbd.out.1 (by intro h; first | exact if_pos hp | (exfalso; revert h; decide))
                  have hop1 := op_step g p1 p1 1 1 hbd.out.2.1 (by intro h; first | exact if_pos hp | (exfalso; revert h; decide))
                  have hop2 := op_step g p2 p1 1 2 hbd.out.2.2.1 (by intro h; first | exact if_pos hp | (exfalso; revert h; decide))
                  simp only [← hop.1, ← hop1.1, ← hop2.1] at hd1
                  have hq := Lib.hid (show (0 ≤ sp 0 1 p0 ∧ sp 0 1 p0 ≤ g) ∧ (0 ≤ sp 1 1 p1 ∧ sp 1 1 p1 ≤ g) ∧ (0 ≤ sp 2 1 p2 ∧ sp 2 1 p2 ≤ g) ∧ sp 0 1 p0 + sp 1 1 p1 + sp 2 1 p2 = ((k + 1 : Nat) : Int) from ⟨hop.2, hop1.2, hop2.2, by have := hbd.out.2.2.2; simp [sp]; omega⟩)
                  have hn1 := Lib.hid hn1
                  have hd1 := Lib.hid hd1
                  have hw1 : IntKind.i64.wrap (p1 + 1) = p1 + 1 := IntWalk.i64_in _ (by have := hbd.out; omega)
                  clear hlk hop hop1 hop2
                  go_wp2_with fail
                  refine hn1.out.mono ?_
                  rintro e wA ⟨rfl, rfl⟩
                  go_wp2_with fail
                  refine hd1.out.mono ?_
                  rintro e wB ⟨hG, rfl, hSB⟩
                  have hX := hX.out.grown hG (by simpa using hmb.symm)
                  have hcc := hX.cell 1 rfl
                  have hff := hX.frozen 1
                  have hX := Lib.hid hX
                  have hSB := Lib.hid hSB
                  have hB := Lib.hid (belowG hB.out hG (by rintro k hk; obtain rfl := Option.some.inj hk; exact hms))
                  clear hG hn1 hd1
                  go_wp2
                  go_roundw
                  case rel => exact ⟨k + 1, at1 + 1, _, _, _, by omega, by go_num, by go_num, by omega, hSB.out.grown gr_set (by simpa using hsb) (by simpa using hmb), hX.out.set 1 _, hq, belowS'' hB.out (by simpa using hwb)⟩
                  case measure => simp [intOf]; omega
                · have hp' : g ≤ p1 := by omega
                  have hdist : dist g p0 p1 p2 2 < dist g p0 p1 p2 1 := by
                    have := hbd.out
                    by_cases q0 : p0 < g <;> by_cases q1 : p1 < g <;> by_cases q2 : p2 < g <;> simp [dist, q0, q1, q2] <;> omega
                  go_wp2
                  go_roundw
                  case rel => exact ⟨2, by omega, by omega, by go_num, hS.out, hX.out, hB.out⟩
                  case measure => simpa [intOf] using hdist
              · by_cases hp : p2 < g
                · have hlk : lk (op g p0) (op g p1) (op g p2) 2 = some p2 := by show op g p2 = some p2; exact if_pos hp
                  have hp' : ¬ g ≤ p2 := by omega
                  have hn1 := Next_w _ s m g n _ _ _ hS.out 2 (by decide)
                  rw [hlk] at hn1
                  have hd1 := Done_w _ s m g n _ _ _ hS.out 2 (by decide) (by intro v hv; rw [hlk] at hv; cases hv; have := hbd.out; omega)
                  rw [hlk] at hd1
                  have hop := op_step g p0 p2 2 0 hbd.out.1 (by intro h; first | exact if_pos hp | (exfalso; revert h; decide))
                  have hop1 := op_step g p1 p2 2 1 hbd.out.2.1 (by intro h; first | exact if_pos hp | (exfalso; revert h; decide))
                  have hop2 := op_step g p2 p2 2 2 hbd.out.2.2.1 (by intro h; first | exact if_pos hp | (exfalso; revert h; decide))
                  simp only [← hop.1, ← hop1.1, ← hop2.1] at hd1
                  have hq := Lib.hid (show (0 ≤ sp 0 2 p0 ∧ sp 0 2 p0 ≤ g) ∧ (0 ≤ sp 1 2 p1 ∧ sp 1 2 p1 ≤ g) ∧ (0 ≤ sp 2 2 p2 ∧ sp 2 2 p2 ≤ g) ∧ sp 0 2 p0 + sp 1 2 p1 + sp 2 2 p2 = ((k + 1 : Nat) : Int) from ⟨hop.2, hop1.2, hop2.2, by have := hbd.out.2.2.2; simp [sp]; omega⟩)
                  have hn1 := Lib.hid hn1
                  have hd1 := Lib.hid hd1
                  have hw1 : IntKind.i64.wrap (p2 + 1) = p2 + 1 := IntWalk.i64_in _ (by have := hbd.out; omega)
                  clear hlk hop hop1 hop2
                  go_wp2_with fail
                  refine hn1.out.mono ?_
                  rintro e wA ⟨rfl, rfl⟩
                  go_wp2_with fail
                  refine hd1.out.mono ?_
                  rintro e wB ⟨hG, rfl, hSB⟩
                  have hX := hX.out.grown hG (by simpa using hmb.symm)
                  have hcc := hX.cell 2 rfl
                  have hff := hX.frozen 2
                  have hX := Lib.hid hX
                  have hSB := Lib.hid hSB
                  have hB := Lib.hid (belowG hB.out hG (by rintro k hk; obtain rfl := Option.some.inj hk; exact hms))
                  clear hG hn1 hd1
                  go_wp2
                  go_roundw
                  case rel => exact ⟨k + 1, at1 + 1, _, _, _, by omega, by go_num, by go_num, by omega, hSB.out.grown gr_set (by simpa using hsb) (by simpa using hmb), hX.out.set 2 _, hq, belowS'' hB.out (by simpa using hwb)⟩
                  case measure => simp [intOf]; omega
                · have hp' : g ≤ p2 := by omega
                  have hdist : dist g p0 p1 p2 0 < dist g p0 p1 p2 2 := by
                    have := hbd.out
                    by_cases q0 : p0 < g <;> by_cases q1 : p1 < g <;> by_cases q2 : p2 < g <;> simp [dist, q0, q1, q2] <;> omega
                  go_wp2
                  go_roundw
                  case rel => exact ⟨0, by omega, by omega, by go_num, hS.out, hX.out, hB.out⟩
                  case measure => simpa [intOf] using hdist
          · have hy2' : decide (y ≤ 2) = false := by simpa using hy2
            go_wp2_with fail
            go_loopw [14] (fun cv wi => ∃ c : Int, 0 ≤ c ∧ c ≤ 2 ∧ cv = .int .i64 c ∧ Sc wi s m g n (op g p0) (op g p1) (op g p2) ∧ BX wi b 36 #[.int .i64 p0, .int .i64 p1, .int .i64 p2] ∧ Below w.heap.size w wi) (fun cv _ => dist g p0 p1 p2 (intOf cv))
            case atStart => exact ⟨0, by omega, by omega, rfl, hS.out, hX.out, hB.out⟩
            case round =>
              clear hS hX hB
              obtain ⟨c, hc0, hc2, rfl, hS, hX, hB⟩ := hrel
              have y0 := hX.cell 0 rfl
              have y1 := hX.cell 1 rfl
              have y2 := hX.cell 2 rfl
              have hS := Lib.hid hS
              have hX := Lib.hid hX
              have hB := Lib.hid hB
              rcases (by omega : c = 0 ∨ c = 1 ∨ c = 2) with rfl | rfl | rfl
              · by_cases hp : p0 < g
                · have hlk : lk (op g p0) (op g p1) (op g p2) 0 = some p0 := by show op g p0 = some p0; exact if_pos hp
                  have hp' : ¬ g ≤ p0 := by omega
                  have hn1 := Next_w _ s m g n _ _ _ hS.out 0 (by decide)
                  rw [hlk] at hn1
                  have hd1 := Done_w _ s m g n _ _ _ hS.out 0 (by decide) (by intro v hv; rw [hlk] at hv; cases hv; have := hbd.out; omega)
                  rw [hlk] at hd1
                  have hop := op_step g p0 p0 0 0 hbd.out.1 (by intro h; first | exact if_pos hp | (exfalso; revert h; decide))
                  have hop1 := op_step g p1 p0 0 1 hbd.out.2.1 (by intro h; first | exact if_pos hp | (exfalso; revert h; decide))
                  have hop2 := op_step g p2 p0 0 2 hbd.out.2.2.1 (by intro h; first | exact if_pos hp | (exfalso; revert h; decide))
                  simp only [← hop.1, ← hop1.1, ← hop2.1] at hd1
                  have hq := Lib.hid (show (0 ≤ sp 0 0 p0 ∧ sp 0 0 p0 ≤ g) ∧ (0 ≤ sp 1 0 p1 ∧ sp 1 0 p1 ≤ g) ∧ (0 ≤ sp 2 0 p2 ∧ sp 2 0 p2 ≤ g) ∧ sp 0 0 p0 + sp 1 0 p1 + sp 2 0 p2 = ((k + 1 : Nat) : Int) from ⟨hop.2, hop1.2, hop2.2, by have := hbd.out.2.2.2; simp [sp]; omega⟩)
                  have hn1 := Lib.hid hn1
                  have hd1 := Lib.hid hd1
                  have hw1 : IntKind.i64.wrap (p0 + 1) = p0 + 1 := IntWalk.i64_in _ (by have := hbd.out; omega)
                  clear hlk hop hop1 hop2
                  go_wp2_with fail
                  refine hn1.out.mono ?_
                  rintro e wA ⟨rfl, rfl⟩
                  go_wp2_with fail
                  refine hd1.out.mono ?_
                  rintro e wB ⟨hG, rfl, hSB⟩
                  have hX := hX.out.grown hG (by simpa using hmb.symm)
                  have hcc := hX.cell 0 rfl
                  have hff := hX.frozen 0
                  have hX := Lib.hid hX
                  have hSB := Lib.hid hSB
                  have hB := Lib.hid (belowG hB.out hG (by rintro k hk; obtain rfl := Option.some.inj hk; exact hms))
                  clear hG hn1 hd1
                  go_wp2
                  go_roundw
                  case rel => exact ⟨k + 1, at1 + 1, _, _, _, by omega, by go_num, by go_num, by omega, hSB.out.grown gr_set (by simpa using hsb) (by simpa using hmb), hX.out.set 0 _, hq, belowS'' hB.out (by simpa using hwb)⟩
                  case measure => simp [intOf]; omega
                · have hp' : g ≤ p0 := by omega
                  have hdist : dist g p0 p1 p2 1 < dist g p0 p1 p2 0 := by
                    have := hbd.out
                    by_cases q0 : p0 < g <;> by_cases q1 : p1 < g <;> by_cases q2 : p2 < g <;> simp [dist, q0, q1, q2] <;> omega
                  go_wp2
                  go_roundw
                  case rel => exact ⟨1, by omega, by omega, by go_num, hS.out, hX.out, hB.out⟩
                  case measure => simpa [intOf] using hdist
              · by_cases hp : p1 < g
                · have hlk : lk (op g p0) (op g p1) (op g p2) 1 = some p1 := by show op g p1 = some p1; exact if_pos hp
                  have hp' : ¬ g ≤ p1 := by omega
                  have hn1 := Next_w _ s m g n _ _ _ hS.out 1 (by decide)
                  rw [hlk] at hn1
                  have hd1 := Done_w _ s m g n _ _ _ hS.out 1 (by decide) (by intro v hv; rw [hlk] at hv; cases hv; have := hbd.out; omega)
                  rw [hlk] at hd1
                  have hop := op_step g p0 p1 1 0 hbd.out.1 (by intro h; first | exact if_pos hp | (exfalso; revert h; decide))
                  have hop1 := op_step g p1 p1 1 1 hbd.out.2.1 (by intro h; first | exact if_pos hp | (exfalso; revert h; decide))
                  have hop2 := op_step g p2 p1 1 2 hbd.out.2.2.1 (by intro h; first | exact if_pos hp | (exfalso; revert h; decide))
                  simp only [← hop.1, ← hop1.1, ← hop2.1] at hd1
                  have hq := Lib.hid (show (0 ≤ sp 0 1 p0 ∧ sp 0 1 p0 ≤ g) ∧ (0 ≤ sp 1 1 p1 ∧ sp 1 1 p1 ≤ g) ∧ (0 ≤ sp 2 1 p2 ∧ sp 2 1 p2 ≤ g) ∧ sp 0 1 p0 + sp 1 1 p1 + sp 2 1 p2 = ((k + 1 : Nat) : Int) from ⟨hop.2, hop1.2, hop2.2, by have := hbd.out.2.2.2; simp [sp]; omega⟩)
                  have hn1 := Lib.hid hn1
                  have hd1 := Lib.hid hd1
                  have hw1 : IntKind.i64.wrap (p1 + 1) = p1 + 1 := IntWalk.i64_in _ (by have := hbd.out; omega)
                  clear hlk hop hop1 hop2
                  go_wp2_with fail
                  refine hn1.out.mono ?_
                  rintro e wA ⟨rfl, rfl⟩
                  go_wp2_with fail
                  refine hd1.out.mono ?_
                  rintro e wB ⟨hG, rfl, hSB⟩
                  have hX := hX.out.grown hG (by simpa using hmb.symm)
                  have hcc := hX.cell 1 rfl
                  have hff := hX.frozen 1
                  have hX := Lib.hid hX
                  have hSB := Lib.hid hSB
                  have hB := Lib.hid (belowG hB.out hG (by rintro k hk; obtain rfl := Option.some.inj hk; exact hms))
                  clear hG hn1 hd1
                  go_wp2
                  go_roundw
                  case rel => exact ⟨k + 1, at1 + 1, _, _, _, by omega, by go_num, by go_num, by omega, hSB.out.grown gr_set (by simpa using hsb) (by simpa using hmb), hX.out.set 1 _, hq, belowS'' hB.out (by simpa using hwb)⟩
                  case measure => simp [intOf]; omega
                · have hp' : g ≤ p1 := by omega
                  have hdist : dist g p0 p1 p2 2 < dist g p0 p1 p2 1 := by
                    have := hbd.out
                    by_cases q0 : p0 < g <;> by_cases q1 : p1 < g <;> by_cases q2 : p2 < g <;> simp [dist, q0, q1, q2] <;> omega
                  go_wp2
                  go_roundw
                  case rel => exact ⟨2, by omega, by omega, by go_num, hS.out, hX.out, hB.out⟩
                  case measure => simpa [intOf] using hdist
              · by_cases hp : p2 < g
                · have hlk : lk (op g p0) (op g p1) (op g p2) 2 = some p2 := by show op g p2 = some p2; exact if_pos hp
                  have hp' : ¬ g ≤ p2 := by omega
                  have hn1 := Next_w _ s m g n _ _ _ hS.out 2 (by decide)
                  rw [hlk] at hn1
                  have hd1 := Done_w _ s m g n _ _ _ hS.out 2 (by decide) (by intro v hv; rw [hlk] at hv; cases hv; have := hbd.out; omega)
                  rw [hlk] at hd1
                  have hop := op_step g p0 p2 2 0 hbd.out.1 (by intro h; first | exact if_pos hp | (exfalso; revert h; decide))
                  have hop1 := op_step g p1 p2 2 1 hbd.out.2.1 (by intro h; first | exact if_pos hp | (exfalso; revert h; decide))
                  have hop2 := op_step g p2 p2 2 2 hbd.out.2.2.1 (by intro h; first | exact if_pos hp | (exfalso; revert h; decide))
                  simp only [← hop.1, ← hop1.1, ← hop2.1] at hd1
                  have hq := Lib.hid (show (0 ≤ sp 0 2 p0 ∧ sp 0 2 p0 ≤ g) ∧ (0 ≤ sp 1 2 p1 ∧ sp 1 2 p1 ≤ g) ∧ (0 ≤ sp 2 2 p2 ∧ sp 2 2 p2 ≤ g) ∧ sp 0 2 p0 + sp 1 2 p1 + sp 2 2 p2 = ((k + 1 : Nat) : Int) from ⟨hop.2, hop1.2, hop2.2, by have := hbd.out.2.2.2; simp [sp]; omega⟩)
                  have hn1 := Lib.hid hn1
                  have hd1 := Lib.hid hd1
                  have hw1 : IntKind.i64.wrap (p2 + 1) = p2 + 1 := IntWalk.i64_in _ (by have := hbd.out; omega)
                  clear hlk hop hop1 hop2
                  go_wp2_with fail
                  refine hn1.out.mono ?_
                  rintro e wA ⟨rfl, rfl⟩
                  go_wp2_with fail
                  refine hd1.out.mono ?_
                  rintro e wB ⟨hG, rfl, hSB⟩
                  have hX := hX.out.grown hG (by simpa using hmb.symm)
                  have hcc := hX.cell 2 rfl
                  have hff := hX.frozen 2
                  have hX := Lib.hid hX
                  have hSB := Lib.hid hSB
                  have hB := Lib.hid (belowG hB.out hG (by rintro k hk; obtain rfl := Option.some.inj hk; exact hms))
                  clear hG hn1 hd1
                  go_wp2
                  go_roundw
                  case rel => exact ⟨k + 1, at1 + 1, _, _, _, by omega, by go_num, by go_num, by omega, hSB.out.grown gr_set (by simpa using hsb) (by simpa using hmb), hX.out.set 2 _, hq, belowS'' hB.out (by simpa using hwb)⟩
                  case measure => simp [intOf]; omega
                · have hp' : g ≤ p2 := by omega
                  have hdist : dist g p0 p1 p2 0 < dist g p0 p1 p2 2 := by
                    have := hbd.out
                    by_cases q0 : p0 < g <;> by_cases q1 : p1 < g <;> by_cases q2 : p2 < g <;> simp [dist, q0, q1, q2] <;> omega
                  go_wp2
                  go_roundw
                  case rel => exact ⟨0, by omega, by omega, by go_num, hS.out, hX.out, hB.out⟩
                  case measure => simpa [intOf] using hdist
        · have hy0' : decide (0 ≤ y) = false := by simpa using hy0
          go_wp2_with fail
          go_loopw [14] (fun cv wi => ∃ c : Int, 0 ≤ c ∧ c ≤ 2 ∧ cv = .int .i64 c ∧ Sc wi s m g n (op g p0) (op g p1) (op g p2) ∧ BX wi b 36 #[.int .i64 p0, .int .i64 p1, .int .i64 p2] ∧ Below w.heap.size w wi) (fun cv _ => dist g p0 p1 p2 (intOf cv))
          case atStart => exact ⟨0, by omega, by omega, rfl, hS.out, hX.out, hB.out⟩
          case round =>
            clear hS hX hB
            obtain ⟨c, hc0, hc2, rfl, hS, hX, hB⟩ := hrel
            have y0 := hX.cell 0 rfl
            have y1 := hX.cell 1 rfl
            have y2 := hX.cell 2 rfl
            have hS := Lib.hid hS
            have hX := Lib.hid hX
            have hB := Lib.hid hB
            rcases (by omega : c = 0 ∨ c = 1 ∨ c = 2) with rfl | rfl | rfl
            · by_cases hp : p0 < g
              · have hlk : lk (op g p0) (op g p1) (op g p2) 0 = some p0 := by show op g p0 = some p0; exact if_pos hp
                have hp' : ¬ g ≤ p0 := by omega
                have hn1 := Next_w _ s m g n _ _ _ hS.out 0 (by decide)
                rw [hlk] at hn1
                have hd1 := Done_w _ s m g n _ _ _ hS.out 0 (by decide) (by intro v hv; rw [hlk] at hv; cases hv; have := hbd.out; omega)
                rw [hlk] at hd1
                have hop := op_step g p0 p0 0 0 hbd.out.1 (by intro h; first | exact if_pos hp | (exfalso; revert h; decide))
                have hop1 := op_step g p1 p0 0 1 hbd.out.2.1 (by intro h; first | exact if_pos hp | (exfalso; revert h; decide))
                have hop2 := op_step g p2 p0 0 2 hbd.out.2.2.1 (by intro h; first | exact if_pos hp | (exfalso; revert h; decide))
                simp only [← hop.1, ← hop1.1, ← hop2.1] at hd1
                have hq := Lib.hid (show (0 ≤ sp 0 0 p0 ∧ sp 0 0 p0 ≤ g) ∧ (0 ≤ sp 1 0 p1 ∧ sp 1 0 p1 ≤ g) ∧ (0 ≤ sp 2 0 p2 ∧ sp 2 0 p2 ≤ g) ∧ sp 0 0 p0 + sp 1 0 p1 + sp 2 0 p2 = ((k + 1 : Nat) : Int) from ⟨hop.2, hop1.2, hop2.2, by have := hbd.out.2.2.2; simp [sp]; omega⟩)
                have hn1 := Lib.hid hn1
                have hd1 := Lib.hid hd1
                have hw1 : IntKind.i64.wrap (p0 + 1) = p0 + 1 := IntWalk.i64_in _ (by have := hbd.out; omega)
                clear hlk hop hop1 hop2
                go_wp2_with fail
                refine hn1.out.mono ?_
                rintro e wA ⟨rfl, rfl⟩
                go_wp2_with fail
                refine hd1.out.mono ?_
                rintro e wB ⟨hG, rfl, hSB⟩
                have hX := hX.out.grown hG (by simpa using hmb.symm)
                have hcc := hX.cell 0 rfl
                have hff := hX.frozen 0
                have hX := Lib.hid hX
                have hSB := Lib.hid hSB
                have hB := Lib.hid (belowG hB.out hG (by rintro k hk; obtain rfl := Option.some.inj hk; exact hms))
                clear hG hn1 hd1
                go_wp2
                go_roundw
                case rel => exact ⟨k + 1, at1 + 1, _, _, _, by omega, by go_num, by go_num, by omega, hSB.out.grown gr_set (by simpa using hsb) (by simpa using hmb), hX.out.set 0 _, hq, belowS'' hB.out (by simpa using hwb)⟩
                case measure => simp [intOf]; omega
              · have hp' : g ≤ p0 := by omega
                have hdist : dist g p0 p1 p2 1 < dist g p0 p1 p2 0 := by
                  have := hbd.out
                  by_cases q0 : p0 < g <;> by_cases q1 : p1 < g <;> by_cases q2 : p2 < g <;> simp [dist, q0, q1, q2] <;> omega
                go_wp2
                go_roundw
                case rel => exact ⟨1, by omega, by omega, by go_num, hS.out, hX.out, hB.out⟩
                case measure => simpa [intOf] using hdist
            · by_cases hp : p1 < g
              · have hlk : lk (op g p0) (op g p1) (op g p2) 1 = some p1 := by show op g p1 = some p1; exact if_pos hp
                have hp' : ¬ g ≤ p1 := by omega
                have hn1 := Next_w _ s m g n _ _ _ hS.out 1 (by decide)
                rw [hlk] at hn1
                have hd1 := Done_w _ s m g n _ _ _ hS.out 1 (by decide) (by intro v hv; rw [hlk] at hv; cases hv; have := hbd.out; omega)
                rw [hlk] at hd1
                have hop := op_step g p0 p1 1 0 hbd.out.1 (by intro h; first | exact if_pos hp | (exfalso; revert h; decide))
                have hop1 := op_step g p1 p1 1 1 hbd.out.2.1 (by intro h; first | exact if_pos hp | (exfalso; revert h; decide))
                have hop2 := op_step g p2 p1 1 2 hbd.out.2.2.1 (by intro h; first | exact if_pos hp | (exfalso; revert h; decide))
                simp only [← hop.1, ← hop1.1, ← hop2.1] at hd1
                have hq := Lib.hid (show (0 ≤ sp 0 1 p0 ∧ sp 0 1 p0 ≤ g) ∧ (0 ≤ sp 1 1 p1 ∧ sp 1 1 p1 ≤ g) ∧ (0 ≤ sp 2 1 p2 ∧ sp 2 1 p2 ≤ g) ∧ sp 0 1 p0 + sp 1 1 p1 + sp 2 1 p2 = ((k + 1 : Nat) : Int) from ⟨hop.2, hop1.2, hop2.2, by have := hbd.out.2.2.2; simp [sp]; omega⟩)
                have hn1 := Lib.hid hn1
                have hd1 := Lib.hid hd1
                have hw1 : IntKind.i64.wrap (p1 + 1) = p1 + 1 := IntWalk.i64_in _ (by have := hbd.out; omega)
                clear hlk hop hop1 hop2
                go_wp2_with fail
                refine hn1.out.mono ?_
                rintro e wA ⟨rfl, rfl⟩
                go_wp2_with fail
                refine hd1.out.mono ?_
                rintro e wB ⟨hG, rfl, hSB⟩
                have hX := hX.out.grown hG (by simpa using hmb.symm)
                have hcc := hX.cell 1 rfl
                have hff := hX.frozen 1
                have hX := Lib.hid hX
                have hSB := Lib.hid hSB
                have hB := Lib.hid (belowG hB.out hG (by rintro k hk; obtain rfl := Option.some.inj hk; exact hms))
                clear hG hn1 hd1
                go_wp2
                go_roundw
                case rel => exact ⟨k + 1, at1 + 1, _, _, _, by omega, by go_num, by go_num, by omega, hSB.out.grown gr_set (by simpa using hsb) (by simpa using hmb), hX.out.set 1 _, hq, belowS'' hB.out (by simpa using hwb)⟩
                case measure => simp [intOf]; omega
              · have hp' : g ≤ p1 := by omega
                have hdist : dist g p0 p1 p2 2 < dist g p0 p1 p2 1 := by
                  have := hbd.out
                  by_cases q0 : p0 < g <;> by_cases q1 : p1 < g <;> by_cases q2 : p2 < g <;> simp [dist, q0, q1, q2] <;> omega
                go_wp2
                go_roundw
                case rel => exact ⟨2, by omega, by omega, by go_num, hS.out, hX.out, hB.out⟩
                case measure => simpa [intOf] using hdist
            · by_cases hp : p2 < g
              · have hlk : lk (op g p0) (op g p1) (op g p2) 2 = some p2 := by show op g p2 = some p2; exact if_pos hp
                have hp' : ¬ g ≤ p2 := by omega
                have hn1 := Next_w _ s m g n _ _ _ hS.out 2 (by decide)
                rw [hlk] at hn1
                have hd1 := Done_w _ s m g n _ _ _ hS.out 2 (by decide) (by intro v hv; rw [hlk] at hv; cases hv; have := hbd.out; omega)
                rw [hlk] at hd1
                have hop := op_step g p0 p2 2 0 hbd.out.1 (by intro h; first | exact if_pos hp | (exfalso; revert h; decide))
                have hop1 := op_step g p1 p2 2 1 hbd.out.2.1 (by intro h; first | exact if_pos hp | (exfalso; revert h; decide))
                have hop2 := op_step g p2 p2 2 2 hbd.out.2.2.1 (by intro h; first | exact if_pos hp | (exfalso; revert h; decide))
                simp only [← hop.1, ← hop1.1, ← hop2.1] at hd1
                have hq := Lib.hid (show (0 ≤ sp 0 2 p0 ∧ sp 0 2 p0 ≤ g) ∧ (0 ≤ sp 1 2 p1 ∧ sp 1 2 p1 ≤ g) ∧ (0 ≤ sp 2 2 p2 ∧ sp 2 2 p2 ≤ g) ∧ sp 0 2 p0 + sp 1 2 p1 + sp 2 2 p2 = ((k + 1 : Nat) : Int) from ⟨hop.2, hop1.2, hop2.2, by have := hbd.out.2.2.2; simp [sp]; omega⟩)
                have hn1 := Lib.hid hn1
                have hd1 := Lib.hid hd1
                have hw1 : IntKind.i64.wrap (p2 + 1) = p2 + 1 := IntWalk.i64_in _ (by have := hbd.out; omega)
                clear hlk hop hop1 hop2
                go_wp2_with fail
                refine hn1.out.mono ?_
                rintro e wA ⟨rfl, rfl⟩
                go_wp2_with fail
                refine hd1.out.mono ?_
                rintro e wB ⟨hG, rfl, hSB⟩
                have hX := hX.out.grown hG (by simpa using hmb.symm)
                have hcc := hX.cell 2 rfl
                have hff := hX.frozen 2
                have hX := Lib.hid hX
                have hSB := Lib.hid hSB
                have hB := Lib.hid (belowG hB.out hG (by rintro k hk; obtain rfl := Option.some.inj hk; exact hms))
                clear hG hn1 hd1
                go_wp2
                go_roundw
                case rel => exact ⟨k + 1, at1 + 1, _, _, _, by omega, by go_num, by go_num, by omega, hSB.out.grown gr_set (by simpa using hsb) (by simpa using hmb), hX.out.set 2 _, hq, belowS'' hB.out (by simpa using hwb)⟩
                case measure => simp [intOf]; omega
              · have hp' : g ≤ p2 := by omega
                have hdist : dist g p0 p1 p2 0 < dist g p0 p1 p2 2 := by
                  have := hbd.out
                  by_cases q0 : p0 < g <;> by_cases q1 : p1 < g <;> by_cases q2 : p2 < g <;> simp [dist, q0, q1, q2] <;> omega
                go_wp2
                go_roundw
                case rel => exact ⟨0, by omega, by omega, by go_num, hS.out, hX.out, hB.out⟩
                case measure => simpa [intOf] using hdist
      · have hal' : ¬ (at1 : Int) < (l.length : Int) := by omega
        go_wp2_with fail
        go_loopw [14] (fun cv wi => ∃ c : Int, 0 ≤ c ∧ c ≤ 2 ∧ cv = .int .i64 c ∧ Sc wi s m g n (op g p0) (op g p1) (op g p2) ∧ BX wi b 36 #[.int .i64 p0, .int .i64 p1, .int .i64 p2] ∧ Below w.heap.size w wi) (fun cv _ => dist g p0 p1 p2 (intOf cv))
        case atStart => exact ⟨0, by omega, by omega, rfl, hS.out, hX.out, hB.out⟩
        case round =>
          clear hS hX hB
          obtain ⟨c, hc0, hc2, rfl, hS, hX, hB⟩ := hrel
          have y0 := hX.cell 0 rfl
          have y1 := hX.cell 1 rfl
          have y2 := hX.cell 2 rfl
          have hS := Lib.hid hS
          have hX := Lib.hid hX
          have hB := Lib.hid hB
          rcases (by omega : c = 0 ∨ c = 1 ∨ c = 2) with rfl | rfl | rfl
          · by_cases hp : p0 < g
            · have hlk : lk (op g p0) (op g p1) (op g p2) 0 = some p0 := by show op g p0 = some p0; exact if_pos hp
              have hp' : ¬ g ≤ p0 := by omega
              have hn1 := Next_w _ s m g n _ _ _ hS.out 0 (by decide)
              rw [hlk] at hn1
              have hd1 := Done_w _ s m g n _ _ _ hS.out 0 (by decide) (by intro v hv; rw [hlk] at hv; cases hv; have := hbd.out; omega)
              rw [hlk] at hd1
              have hop := op_step g p0 p0 0 0 hbd.out.1 (by intro h; first | exact if_pos hp | (exfalso; revert h; decide))
              have hop1 := op_step g p1 p0 0 1 hbd.out.2.1 (by intro h; first | exact if_pos hp | (exfalso; revert h; decide))
              have hop2 := op_step g p2 p0 0 2 hbd.out.2.2.1 (by intro h; first | exact if_pos hp | (exfalso; revert h; decide))
              simp only [← hop.1, ← hop1.1, ← hop2.1] at hd1
              have hq := Lib.hid (show (0 ≤ sp 0 0 p0 ∧ sp 0 0 p0 ≤ g) ∧ (0 ≤ sp 1 0 p1 ∧ sp 1 0 p1 ≤ g) ∧ (0 ≤ sp 2 0 p2 ∧ sp 2 0 p2 ≤ g) ∧ sp 0 0 p0 + sp 1 0 p1 + sp 2 0 p2 = ((k + 1 : Nat) : Int) from ⟨hop.2, hop1.2, hop2.2, by have := hbd.out.2.2.2; simp [sp]; omega⟩)
              have hn1 := Lib.hid hn1
              have hd1 := Lib.hid hd1
              have hw1 : IntKind.i64.wrap (p0 + 1) = p0 + 1 := IntWalk.i64_in _ (by have := hbd.out; omega)
              clear hlk hop hop1 hop2
              go_wp2_with fail
              refine hn1.out.mono ?_
              rintro e wA ⟨rfl, rfl⟩
              go_wp2_with fail
              refine hd1.out.mono ?_
              rintro e wB ⟨hG, rfl, hSB⟩
              have hX := hX.out.grown hG (by simpa using hmb.symm)
              have hcc := hX.cell 0 rfl
              have hff := hX.frozen 0
              have hX := Lib.hid hX
              have hSB := Lib.hid hSB
              have hB := Lib.hid (belowG hB.out hG (by rintro k hk; obtain rfl := Option.some.inj hk; exact hms))
              clear hG hn1 hd1
              go_wp2
              go_roundw
              case rel => exact ⟨k + 1, at1 + 1, _, _, _, by omega, by go_num, by go_num, by omega, hSB.out.grown gr_set (by simpa using hsb) (by simpa using hmb), hX.out.set 0 _, hq, belowS'' hB.out (by simpa using hwb)⟩
              case measure => simp [intOf]; omega
            · have hp' : g ≤ p0 := by omega
              have hdist : dist g p0 p1 p2 1 < dist g p0 p1 p2 0 := by
                have := hbd.out
                by_cases q0 : p0 < g <;> by_cases q1 : p1 < g <;> by_cases q2 : p2 < g <;> simp [dist, q0, q1, q2] <;> omega
              go_wp2
              go_roundw
              case rel => exact ⟨1, by omega, by omega, by go_num, hS.out, hX.out, hB.out⟩
              case measure => simpa [intOf] using hdist
          · by_cases hp : p1 < g
            · have hlk : lk (op g p0) (op g p1) (op g p2) 1 = some p1 := by show op g p1 = some p1; exact if_pos hp
              have hp' : ¬ g ≤ p1 := by omega
              have hn1 := Next_w _ s m g n _ _ _ hS.out 1 (by decide)
              rw [hlk] at hn1
              have hd1 := Done_w _ s m g n _ _ _ hS.out 1 (by decide) (by intro v hv; rw [hlk] at hv; cases hv; have := hbd.out; omega)
              rw [hlk] at hd1
              have hop := op_step g p0 p1 1 0 hbd.out.1 (by intro h; first | exact if_pos hp | (exfalso; revert h; decide))
              have hop1 := op_step g p1 p1 1 1 hbd.out.2.1 (by intro h; first | exact if_pos hp | (exfalso; revert h; decide))
              have hop2 := op_step g p2 p1 1 2 hbd.out.2.2.1 (by intro h; first | exact if_pos hp | (exfalso; revert h; decide))
              simp only [← hop.1, ← hop1.1, ← hop2.1] at hd1
              have hq := Lib.hid (show (0 ≤ sp 0 1 p0 ∧ sp 0 1 p0 ≤ g) ∧ (0 ≤ sp 1 1 p1 ∧ sp 1 1 p1 ≤ g) ∧ (0 ≤ sp 2 1 p2 ∧ sp 2 1 p2 ≤ g) ∧ sp 0 1 p0 + sp 1 1 p1 + sp 2 1 p2 = ((k + 1 : Nat) : Int) from ⟨hop.2, hop1.2, hop2.2, by have := hbd.out.2.2.2; simp [sp]; omega⟩)
              have hn1 := Lib.hid hn1
              have hd1 := Lib.hid hd1
              have hw1 : IntKind.i64.wrap (p1 + 1) = p1 + 1 := IntWalk.i64_in _ (by have := hbd.out; omega)
              clear hlk hop hop1 hop2
              go_wp2_with fail
              refine hn1.out.mono ?_
              rintro e wA ⟨rfl, rfl⟩
              go_wp2_with fail
              refine hd1.out.mono ?_
              rintro e wB ⟨hG, rfl, hSB⟩
              have hX := hX.out.grown hG (by simpa using hmb.symm)
              have hcc := hX.cell 1 rfl
              have hff := hX.frozen 1
              have hX := Lib.hid hX
              have hSB := Lib.hid hSB
              have hB := Lib.hid (belowG hB.out hG (by rintro k hk; obtain rfl := Option.some.inj hk; exact hms))
              clear hG hn1 hd1
              go_wp2
              go_roundw
              case rel => exact ⟨k + 1, at1 + 1, _, _, _, by omega, by go_num, by go_num, by omega, hSB.out.grown gr_set (by simpa using hsb) (by simpa using hmb), hX.out.set 1 _, hq, belowS'' hB.out (by simpa using hwb)⟩
              case measure => simp [intOf]; omega
            · have hp' : g ≤ p1 := by omega
              have hdist : dist g p0 p1 p2 2 < dist g p0 p1 p2 1 := by
                have := hbd.out
                by_cases q0 : p0 < g <;> by_cases q1 : p1 < g <;> by_cases q2 : p2 < g <;> simp [dist, q0, q1, q2] <;> omega
              go_wp2
              go_roundw
              case rel => exact ⟨2, by omega, by omega, by go_num, hS.out, hX.out, hB.out⟩
              case measure => simpa [intOf] using hdist
          · by_cases hp : p2 < g
            · have hlk : lk (op g p0) (op g p1) (op g p2) 2 = some p2 := by show op g p2 = some p2; exact if_pos hp
              have hp' : ¬ g ≤ p2 := by omega
              have hn1 := Next_w _ s m g n _ _ _ hS.out 2 (by decide)
              rw [hlk] at hn1
              have hd1 := Done_w _ s m g n _ _ _ hS.out 2 (by decide) (by intro v hv; rw [hlk] at hv; cases hv; have := hbd.out; omega)
              rw [hlk] at hd1
              have hop := op_step g p0 p2 2 0 hbd.out.1 (by intro h; first | exact if_pos hp | (exfalso; revert h; decide))
              have hop1 := op_step g p1 p2 2 1 hbd.out.2.1 (by intro h; first | exact if_pos hp | (exfalso; revert h; decide))
              have hop2 := op_step g p2 p2 2 2 hbd.out.2.2.1 (by intro h; first | exact if_pos hp | (exfalso; revert h; decide))
              simp only [← hop.1, ← hop1.1, ← hop2.1] at hd1
              have hq := Lib.hid (show (0 ≤ sp 0 2 p0 ∧ sp 0 2 p0 ≤ g) ∧ (0 ≤ sp 1 2 p1 ∧ sp 1 2 p1 ≤ g) ∧ (0 ≤ sp 2 2 p2 ∧ sp 2 2 p2 ≤ g) ∧ sp 0 2 p0 + sp 1 2 p1 + sp 2 2 p2 = ((k + 1 : Nat) : Int) from ⟨hop.2, hop1.2, hop2.2, by have := hbd.out.2.2.2; simp [sp]; omega⟩)
              have hn1 := Lib.hid hn1
              have hd1 := Lib.hid hd1
              have hw1 : IntKind.i64.wrap (p2 + 1) = p2 + 1 := IntWalk.i64_in _ (by have := hbd.out; omega)
              clear hlk hop hop1 hop2
              go_wp2_with fail
              refine hn1.out.mono ?_
              rintro e wA ⟨rfl, rfl⟩
              go_wp2_with fail
              refine hd1.out.mono ?_
              rintro e wB ⟨hG, rfl, hSB⟩
              have hX := hX.out.grown hG (by simpa using hmb.symm)
              have hcc := hX.cell 2 rfl
              have hff := hX.frozen 2
              have hX := Lib.hid hX
              have hSB := Lib.hid hSB
              have hB := Lib.hid (belowG hB.out hG (by rintro k hk; obtain rfl := Option.some.inj hk; exact hms))
              clear hG hn1 hd1
              go_wp2
              go_roundw
              case rel => exact ⟨k + 1, at1 + 1, _, _, _, by omega, by go_num, by go_num, by omega, hSB.out.grown gr_set (by simpa using hsb) (by simpa using hmb), hX.out.set 2 _, hq, belowS'' hB.out (by simpa using hwb)⟩
              case measure => simp [intOf]; omega
            · have hp' : g ≤ p2 := by omega
              have hdist : dist g p0 p1 p2 0 < dist g p0 p1 p2 2 := by
                have := hbd.out
                by_cases q0 : p0 < g <;> by_cases q1 : p1 < g <;> by_cases q2 : p2 < g <;> simp [dist, q0, q1, q2] <;> omega
              go_wp2
              go_roundw
              case rel => exact ⟨0, by omega, by omega, by go_num, hS.out, hX.out, hB.out⟩
              case measure => simpa [intOf] using hdist
end Go.Proofs.Ytbhnkdnfmlnajaa
