/- The law ModesFall: it answers true. -/
import Derived.Test.YtigfninpflemnabFLModesFall
import Derived.Test.YtigfninpflemnabEqMs
import Derived.Test.YtigfninpflemnabLModesStrikes
-- NEEDS: triunelaw14.ModesFall
namespace Go.Proofs.Ytigfninpflemnab
open Go
set_option linter.unusedSimpArgs false
set_option linter.unusedVariables false
set_option maxRecDepth 100000
theorem acE_cells (x : Act) : (acE x).cells = [I .i64 x.do_, I .i64 x.ch, Bo x.b0, Bo x.b1, Bo x.b2, Bo x.sp, Bo x.f0, Bo x.f1, Bo x.f2] := rfl
theorem msEq_refl (m : Ms) : msEq m m = true := by simp [msEq]
theorem Fall_L1 (n j k : Nat) (m g : Ms) (H : Heap) (hj : H[j]? = some (.cells 72 m.C)) (hk : H[k]? = some (.cells 72 g.C)) (le : MsLe m g) (ok : MsLat m) (K : Ex → KF) (mm : Nat) (x1 x5 x6 x8 x10 : DV) :
    s_triunelaw14_ModesFall_L1 n 0 K (mm + 4) x1 x5 x6 x8 x10 (.ptr j 0) (.ptr k 0) (I .i64 0) H = K (.exit 2) (s_triunelaw14_ModesFall_O1 x1 .any x5 x6 x8 x10) H := by
  obtain ⟨st, ⟨a, ac, al⟩, ⟨b, bc, bl⟩, ⟨c, cc, cl⟩, spl, te, sf⟩ := m
  obtain ⟨st', ⟨a', ac', al'⟩, ⟨b', bc', bl'⟩, ⟨c', cc', cl'⟩, spl', te', sf'⟩ := g
  have la := le.a
  have lb := le.b
  have lc := le.c
  obtain ⟨a1, a2, a3, a4⟩ := la
  obtain ⟨b1, b2, b3, b4⟩ := lb
  obtain ⟨c1, c2, c3, c4⟩ := lc
  obtain ⟨o1, o2, o3⟩ := ok
  unfold LatOk at a4 b4 c4 o1 o2 o3
  simp only at a1 a2 a3 a4 b1 b2 b3 b4 c1 c2 c3 c4 o1 o2 o3
  unfold Ms.C at hj hk
  cases a'
  · cases b'
    · cases c'
      · simp -implicitDefEqProofs (disch := first | omega | (simp only [List.length_set, List.length_append, List.length_cons, List.length_nil, List.length_take, List.length_drop, List.length_map]; omega) | simp) [wrap_i64, wrap_u16_id, wrap_u8_id, tdiv_pos, tmod_pos, -getElem?_pos, -getElem?_neg, -List.length_eq_zero_iff, -List.getElem_cons_drop, s_triunelaw14_ModesFall_L1, s_triunelaw14_ModesFall_B1, hj, hk, idxArr_k]
      · have := c1 rfl
        subst this
        simp -implicitDefEqProofs (disch := first | omega | (simp only [List.length_set, List.length_append, List.length_cons, List.length_nil, List.length_take, List.length_drop, List.length_map]; omega) | simp) [wrap_i64, wrap_u16_id, wrap_u8_id, tdiv_pos, tmod_pos, -getElem?_pos, -getElem?_neg, -List.length_eq_zero_iff, -List.getElem_cons_drop, s_triunelaw14_ModesFall_L1, s_triunelaw14_ModesFall_B1, hj, hk, idxArr_k]
    · have := b1 rfl
      subst this
      cases c'
      · simp -implicitDefEqProofs (disch := first | omega | (simp only [List.length_set, List.length_append, List.length_cons, List.length_nil, List.length_take, List.length_drop, List.length_map]; omega) | simp) [wrap_i64, wrap_u16_id, wrap_u8_id, tdiv_pos, tmod_pos, -getElem?_pos, -getElem?_neg, -List.length_eq_zero_iff, -List.getElem_cons_drop, s_triunelaw14_ModesFall_L1, s_triunelaw14_ModesFall_B1, hj, hk, idxArr_k]
      · have := c1 rfl
        subst this
        simp -implicitDefEqProofs (disch := first | omega | (simp only [List.length_set, List.length_append, List.length_cons, List.length_nil, List.length_take, List.length_drop, List.length_map]; omega) | simp) [wrap_i64, wrap_u16_id, wrap_u8_id, tdiv_pos, tmod_pos, -getElem?_pos, -getElem?_neg, -List.length_eq_zero_iff, -List.getElem_cons_drop, s_triunelaw14_ModesFall_L1, s_triunelaw14_ModesFall_B1, hj, hk, idxArr_k]
  · have := a1 rfl
    subst this
    cases b'
    · cases c'
      · simp -implicitDefEqProofs (disch := first | omega | (simp only [List.length_set, List.length_append, List.length_cons, List.length_nil, List.length_take, List.length_drop, List.length_map]; omega) | simp) [wrap_i64, wrap_u16_id, wrap_u8_id, tdiv_pos, tmod_pos, -getElem?_pos, -getElem?_neg, -List.length_eq_zero_iff, -List.getElem_cons_drop, s_triunelaw14_ModesFall_L1, s_triunelaw14_ModesFall_B1, hj, hk, idxArr_k]
      · have := c1 rfl
        subst this
        simp -implicitDefEqProofs (disch := first | omega | (simp only [List.length_set, List.length_append, List.length_cons, List.length_nil, List.length_take, List.length_drop, List.length_map]; omega) | simp) [wrap_i64, wrap_u16_id, wrap_u8_id, tdiv_pos, tmod_pos, -getElem?_pos, -getElem?_neg, -List.length_eq_zero_iff, -List.getElem_cons_drop, s_triunelaw14_ModesFall_L1, s_triunelaw14_ModesFall_B1, hj, hk, idxArr_k]
    · have := b1 rfl
      subst this
      cases c'
      · simp -implicitDefEqProofs (disch := first | omega | (simp only [List.length_set, List.length_append, List.length_cons, List.length_nil, List.length_take, List.length_drop, List.length_map]; omega) | simp) [wrap_i64, wrap_u16_id, wrap_u8_id, tdiv_pos, tmod_pos, -getElem?_pos, -getElem?_neg, -List.length_eq_zero_iff, -List.getElem_cons_drop, s_triunelaw14_ModesFall_L1, s_triunelaw14_ModesFall_B1, hj, hk, idxArr_k]
      · have := c1 rfl
        subst this
        simp -implicitDefEqProofs (disch := first | omega | (simp only [List.length_set, List.length_append, List.length_cons, List.length_nil, List.length_take, List.length_drop, List.length_map]; omega) | simp) [wrap_i64, wrap_u16_id, wrap_u8_id, tdiv_pos, tmod_pos, -getElem?_pos, -getElem?_neg, -List.length_eq_zero_iff, -List.getElem_cons_drop, s_triunelaw14_ModesFall_L1, s_triunelaw14_ModesFall_B1, hj, hk, idxArr_k]
theorem Fall_L0 (n : Nat) (hn : 20 ≤ n) (l : List Act) (tl : Tag) (hl : l.length ≤ 200) : ∀ (mm i : Nat) (m : Ms) (H : Heap), l.length < mm + i → i ≤ l.length → H[0]? = some m.B → H[1]? = some (ms0 m.strikes).B → WfH H → MsOk m i → MsLat m →
    ∃ H', ∀ K, s_triunelaw14_ModesFall_L0 n 0 K mm (LV 9 acE l tl) (Bo true) (.ptr 0 0) (.ptr 1 0) (I .i64 i) H = K (.exit 0) (s_triunelaw14_ModesFall_O0 .any (Bo true)) H' := by
  intro mm
  induction mm with
  | zero => intro i m H h; omega
  | succ mm ih =>
    intro i m H hm hi hk h1 hw ok lat
    by_cases h : i < l.length
    · have hkl := hp_lt hk
      have h1l := hp_lt h1
      obtain ⟨e, g, hg⟩ : ∃ e g, doV m l[i] = (e, g) := ⟨_, _, rfl⟩
      have g1 : (doV m l[i]).1 = e := by rw [hg]
      have g2 : (doV m l[i]).2 = g := by rw [hg]
      have gs := doV_strikes m l[i]
      have gok := doV_ok ok l[i]
      have glat := doV_lat lat l[i]
      have gerr := doV_err m l[i]
      have gres := doV_reset m l[i]
      have gle := doV_le lat l[i]
      have hS := modes_State_c n 0 (H ++ [.hole]) m (by omega) (by rw [hp_get_left _ _ _ hkl]; exact hk)
      have hw1 : WfH (H ++ [DBlk.cells 72 m.C]) := hw.app (by intro b hb; simp at hb; subst hb; exact st_wf _ _)
      have hD := do_c n 0 0 (H ++ [DBlk.cells 72 m.C]) m l[i] (by omega) (by omega) (by rw [hp_get_left _ _ _ hkl]; exact hk) hw1 1000 (by omega) (ok.mono (by omega))
      rw [g1, g2] at *
      have hS2 := modes_State_c n 0 (H.set 0 g.B ++ [DBlk.cells 72 m.C, .hole]) g (by omega) (by rw [hp_get_left _ _ _ (by simpa using hkl)]; exact hp_set_get _ _ _ hkl)
      have hS3 := modes_State_c n 1 (H.set 0 g.B ++ [DBlk.cells 72 m.C, .cells 72 g.C]) (ms0 m.strikes) (by omega) (by rw [hp_get_left _ _ _ (by simpa using h1l), hp_set_ne _ _ _ _ (by omega)]; exact h1)
      have hM := modes_Mode_c n m (by omega)
      have hM2 := modes_Mode_c n g (by omega)
      have hw2 : WfH (H.set 0 g.B ++ [DBlk.cells 72 m.C, .cells 72 g.C]) := (hw.set 0 (msB_wf _ _)).app (by intro b hb; simp at hb; rcases hb with rfl | rfl <;> exact st_wf _ _)
      obtain ⟨H', q⟩ := ih (i + 1) g (H.set 0 g.B ++ [DBlk.cells 72 m.C, .cells 72 g.C]) (by omega) (by omega) (by rw [hp_get_left _ _ _ (by simpa using hkl)]; exact hp_set_get _ _ _ hkl) (by rw [hp_get_left _ _ _ (by simpa using h1l), hp_set_ne _ _ _ _ (by omega), gs]; exact h1) hw2 (by rw [show ((i + 1 : Nat) : Int) = (i : Int) + 1 by omega]; exact gok) glat
      have hi2 : ((i + 1 : Nat) : Int) = (i : Int) + 1 := by omega
      rw [hi2] at q
      refine ⟨H', fun K => ?_⟩
      have hmm := neq_ms m m
      have h00 := neq_ms (ms0 m.strikes) (ms0 m.strikes)
      simp only [msEq_refl, Bool.not_true] at hmm h00
      have hac := acE_cells l[i]
      have f1 : (H.set 0 g.B ++ [DBlk.cells 72 m.C, .cells 72 g.C])[H.length]? = some (.cells 72 m.C) := hp_get_0 _ _ _ _ (by simp)
      have f2 : (H.set 0 g.B ++ [DBlk.cells 72 m.C, .cells 72 g.C])[H.length + 1]? = some (.cells 72 g.C) := hp_get_1 _ _ _ _ _ (by simp)
      have qL : ∀ le : MsLe m g, ∀ x1 x5 x6 x8 x10 K, loopG [1, 5, 6, 8, 10, 11, 13, 14] [1, 4, 5, 6, 8, 10] 134 (s_triunelaw14_ModesFall_b1 n 0) n (s_triunelaw14_ModesFall_I1 x1 x5 x6 x8 x10 (.ptr H.length 0) (.ptr (H.length + 1) 0) (I .i64 0)) (H.set 0 g.B ++ [DBlk.cells 72 m.C, .cells 72 g.C]) K = K (.exit 2) (s_triunelaw14_ModesFall_O1 x1 .any x5 x6 x8 x10) (H.set 0 g.B ++ [DBlk.cells 72 m.C, .cells 72 g.C]) := by
        intro le x1 x5 x6 x8 x10 K
        obtain ⟨k, hk⟩ : ∃ k, n = k + 4 := ⟨n - 4, by omega⟩
        rw [s_triunelaw14_ModesFall_L1_eq]
        have := Fall_L1 n H.length (H.length + 1) m g _ f1 f2 le lat K k x1 x5 x6 x8 x10
        rw [← hk] at this
        exact this
      have hmd : MsLe m g → ¬ modeV m < modeV g := fun le => by have := le.mode; omega
      unfold s_triunelaw14_ModesFall_L0 s_triunelaw14_ModesFall_B0
      unfold acE at hD
      by_cases c2 : l[i].do_ = 2
      · rw [c2] at hD
        by_cases c1 : e = 0
        · have hg0 := gres c2 c1
          subst hg0
          unfold Ms.C at *
          simp -implicitDefEqProofs (disch := first | omega | (simp only [List.length_set, List.length_append, List.length_cons, List.length_nil, List.length_take, List.length_drop, List.length_map]; omega) | simp) [wrap_i64, wrap_u16_id, wrap_u8_id, tdiv_pos, tmod_pos, -getElem?_pos, -getElem?_neg, -List.length_eq_zero_iff, -List.getElem_cons_drop, h, hS, hS2, hS3, hD, hac, c2, c1, h00, hmm, q]
        · have hg0 := gerr c1
          subst hg0
          unfold Ms.C at *
          simp -implicitDefEqProofs (disch := first | omega | (simp only [List.length_set, List.length_append, List.length_cons, List.length_nil, List.length_take, List.length_drop, List.length_map]; omega) | simp) [wrap_i64, wrap_u16_id, wrap_u8_id, tdiv_pos, tmod_pos, -getElem?_pos, -getElem?_neg, -List.length_eq_zero_iff, -List.getElem_cons_drop, h, hS, hS2, hS3, hD, hac, c2, c1, h00, hmm, q]
      · have le := gle c2
        have hmd := hmd le
        have qL := qL le
        by_cases c1 : e = 0
        · unfold Ms.C at *
          cases hs : m.safe with
          | true =>
            have hs2 := le.safe hs
            simp only [hs, hs2] at *
            simp -implicitDefEqProofs (disch := first | omega | (simp only [List.length_set, List.length_append, List.length_cons, List.length_nil, List.length_take, List.length_drop, List.length_map]; omega) | simp) [wrap_i64, wrap_u16_id, wrap_u8_id, tdiv_pos, tmod_pos, -getElem?_pos, -getElem?_neg, -List.length_eq_zero_iff, -List.getElem_cons_drop, h, hS, hS2, hS3, hD, hac, c2, c1, hM, hM2, hmd, qL, q, s_triunelaw14_ModesFall_O1]
          | false =>
            simp only [hs] at *
            simp -implicitDefEqProofs (disch := first | omega | (simp only [List.length_set, List.length_append, List.length_cons, List.length_nil, List.length_take, List.length_drop, List.length_map]; omega) | simp) [wrap_i64, wrap_u16_id, wrap_u8_id, tdiv_pos, tmod_pos, -getElem?_pos, -getElem?_neg, -List.length_eq_zero_iff, -List.getElem_cons_drop, h, hS, hS2, hS3, hD, hac, c2, c1, hM, hM2, hmd, qL, q, s_triunelaw14_ModesFall_O1]
        · have hg0 := gerr c1
          subst hg0
          unfold Ms.C at *
          cases hs : g.safe with
          | true =>
            simp only [hs] at *
            simp -implicitDefEqProofs (disch := first | omega | (simp only [List.length_set, List.length_append, List.length_cons, List.length_nil, List.length_take, List.length_drop, List.length_map]; omega) | simp) [wrap_i64, wrap_u16_id, wrap_u8_id, tdiv_pos, tmod_pos, -getElem?_pos, -getElem?_neg, -List.length_eq_zero_iff, -List.getElem_cons_drop, h, hS, hS2, hS3, hD, hac, c2, c1, hM, hM2, hmd, hmm, qL, q, s_triunelaw14_ModesFall_O1]
          | false =>
            simp only [hs] at *
            simp -implicitDefEqProofs (disch := first | omega | (simp only [List.length_set, List.length_append, List.length_cons, List.length_nil, List.length_take, List.length_drop, List.length_map]; omega) | simp) [wrap_i64, wrap_u16_id, wrap_u8_id, tdiv_pos, tmod_pos, -getElem?_pos, -getElem?_neg, -List.length_eq_zero_iff, -List.getElem_cons_drop, h, hS, hS2, hS3, hD, hac, c2, c1, hM, hM2, hmd, hmm, qL, q, s_triunelaw14_ModesFall_O1]
    · have : i = l.length := by omega
      subst this
      exact ⟨H, fun K => by unfold s_triunelaw14_ModesFall_L0 s_triunelaw14_ModesFall_B0; simp -implicitDefEqProofs (disch := first | omega | (simp only [List.length_set, List.length_append, List.length_cons, List.length_nil, List.length_take, List.length_drop, List.length_map]; omega) | simp) [wrap_i64, wrap_u16_id, wrap_u8_id, tdiv_pos, tmod_pos, -getElem?_pos, -getElem?_neg, -List.length_eq_zero_iff, -List.getElem_cons_drop]⟩
theorem shp_b1 {d : Nat} {e : List DV} (h : Shp Try.prog (d + 1) 4 e) : ∃ b : Bool, e = [Bo b] ∧ True := by
  obtain ⟨b, rfl⟩ := shp_bool Try.underlying4 h
  exact ⟨b, rfl, trivial⟩
theorem shp_i64 {d : Nat} {e : List DV} (h : Shp Try.prog (d + 1) 3 e) : ∃ n : Int, e = [I .i64 n] ∧ True := by
  obtain ⟨n, rfl, _⟩ := shp_int (k := .i64) Try.underlying3 h
  exact ⟨n, rfl, trivial⟩
theorem shp_b3 {d : Nat} {e : List DV} (h : Shp Try.prog (d + 2) 60 e) : ∃ a b c, e = [Bo a, Bo b, Bo c] := by
  obtain ⟨ns, hn, rfl, _⟩ := shp_array (e := 4) (fun n : Bool => [Bo n]) (fun _ => True) Try.underlying60 (fun x hx => shp_b1 hx) h
  match ns, hn with
  | [a, b, c], _ => exact ⟨a, b, c, rfl⟩
theorem shp_vd {d : Nat} {e : List DV} (h : Shp Try.prog (d + 3) 62 e) : ∃ a b c s, e = [Bo a, Bo b, Bo c, Bo s] := by
  have h := shp_struct Try.underlying62 h
  simp only [List.map_cons, List.map_nil, ShpFs] at h
  obtain ⟨a, _, rfl, ha, b, _, rfl, hb, rfl⟩ := h
  obtain ⟨x, y, z, rfl⟩ := shp_b3 ha
  obtain ⟨s, rfl⟩ := shp_bool Try.underlying4 hb
  exact ⟨x, y, z, s, rfl⟩
theorem shp_act {d : Nat} {e : List DV} (h : Shp Try.prog (d + 4) 64 e) : ∃ x : Act, elOf (isAgT Try.prog 64) e = acE x ∧ True := by
  have h := shp_struct Try.underlying64 h
  simp only [List.map_cons, List.map_nil, ShpFs] at h
  obtain ⟨a, _, rfl, ha, b, _, rfl, hb, c, _, rfl, hc, f, _, rfl, hf, rfl⟩ := h
  obtain ⟨a, rfl, _⟩ := shp_i64 ha
  obtain ⟨b, rfl, _⟩ := shp_i64 hb
  obtain ⟨v0, v1, v2, sp, rfl⟩ := shp_vd hc
  obtain ⟨f0, f1, f2, rfl⟩ := shp_b3 hf
  exact ⟨⟨a, b, v0, v1, v2, sp, f0, f1, f2⟩, by kernel_rfl, trivial⟩
theorem Fall_run (n : Nat) (up : cP n 23 false [] = some (Bo true)) (hn : 3000 ≤ n) (s : Int) (l : List Act) :
    ∃ H', s_triunelaw14_ModesFall n [] 0 (I .i64 s) (LV 9 acE l .sh) = some (Bo true, H') := by
  have hp0 : ∀ k x, binD Try.prog .eql 53 x (.const (.pointer none)) (.ptr k 0) (.flat (.pointer none)) = some (Bo false) := fun k x => binD_ptr_nil Try.underlying53 _ _ _ _
  have hp1 : ∀ x, binD Try.prog .eql 53 x (.const (.pointer none)) (.flat (.pointer none)) (.flat (.pointer none)) = some (Bo true) := fun x => by kernel_rfl
  by_cases c0 : 1 ≤ s ∧ s ≤ 20
  · have hN := modes_New_c n 0 [] s (by omega) c0
    have hN2 := modes_New_c n 0 [(ms0 s).B] s (by omega) c0
    simp only [List.length_nil, List.nil_append, List.length_cons, List.cons_append] at hN hN2
    by_cases c1 : 200 < l.length
    · exact ⟨_, by unfold s_triunelaw14_ModesFall; simp -implicitDefEqProofs (disch := first | omega | (simp only [List.length_set, List.length_append, List.length_cons, List.length_nil, List.length_take, List.length_drop, List.length_map]; omega) | simp) [wrap_i64, wrap_u16_id, wrap_u8_id, tdiv_pos, tmod_pos, -getElem?_pos, -getElem?_neg, -List.length_eq_zero_iff, -List.getElem_cons_drop, up, hN, hN2, hp0, c1]; rfl⟩
    · have hw0 : WfH [(ms0 s).B, (ms0 s).B] := by
        intro b hb
        simp at hb
        subst hb
        exact msB_wf _ _
      obtain ⟨H', q⟩ := Fall_L0 n (by omega) l .sh (by omega) n 0 (ms0 s) [(ms0 s).B, (ms0 s).B] (by omega) (by omega) rfl rfl hw0 (ms0_ok s) (ms0_lat s)
      have q' := fun K => (s_triunelaw14_ModesFall_L0_eq n 0 K n (LV 9 acE l .sh) (Bo true) (.ptr 0 0) (.ptr 1 0) (I .i64 0) [(ms0 s).B, (ms0 s).B]).trans (q K)
      exact ⟨H', by unfold s_triunelaw14_ModesFall; simp -implicitDefEqProofs (disch := first | omega | (simp only [List.length_set, List.length_append, List.length_cons, List.length_nil, List.length_take, List.length_drop, List.length_map]; omega) | simp) [wrap_i64, wrap_u16_id, wrap_u8_id, tdiv_pos, tmod_pos, -getElem?_pos, -getElem?_neg, -List.length_eq_zero_iff, -List.getElem_cons_drop, up, hN, hN2, hp0, c1, q', s_triunelaw14_ModesFall_O0]⟩
  · have hN := modes_New_no n 0 [] s (by omega) c0
    exact ⟨_, by unfold s_triunelaw14_ModesFall; simp -implicitDefEqProofs (disch := first | omega | (simp only [List.length_set, List.length_append, List.length_cons, List.length_nil, List.length_take, List.length_drop, List.length_map]; omega) | simp) [wrap_i64, wrap_u16_id, wrap_u8_id, tdiv_pos, tmod_pos, -getElem?_pos, -getElem?_neg, -List.length_eq_zero_iff, -List.getElem_cons_drop, up, hN, hp1]; rfl⟩
theorem ModesFall_all (e0 e1 : List DV) (h0 : Shp Try.prog 8 3 e0) (h1 : Shp Try.prog 8 52 e1) :
    ∃ H', callG Try.prog ENV 4000 6 [elOf (isAgT Try.prog 3) e0, elOf (isAgT Try.prog 52) e1] [] 0 = some (.flat (.bool true), H') := by
  obtain ⟨s, rfl, _⟩ := shp_int (k := .i64) Try.underlying3 h0
  obtain ⟨l, rfl, _, _⟩ := shp_slice (e := 64) acE (fun _ => True) (sz := 9) Try.underlying52 (by kernel_rfl) (fun x hx => shp_act (d := 3) hx) h1
  have r : ∀ a, elOf (isAgT Try.prog 3) [.flat (.int .i64 a)] = I .i64 a := fun a => by kernel_rfl
  have r1 : elOf (isAgT Try.prog 52) [LV 9 acE l .sh] = LV 9 acE l .sh := by kernel_rfl
  obtain ⟨H', h⟩ := Fall_run 3999 awake14 (by omega) s l
  rw [r, r1]
  exact ⟨H', (s_triunelaw14_ModesFall_eq 3999 [] 0 _ _).trans h⟩
end Go.Proofs.Ytigfninpflemnab
