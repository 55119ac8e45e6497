/- The law ModesStrikes: it answers true. -/
import Derived.Test.YtigfninpflemnabFLModesStrikes
import Derived.Test.YtigfninpflemnabGModesN
import Derived.Test.YtigfninpflemnabShp
-- NEEDS: triunelaw14.ModesStrikes
namespace Go.Proofs.Ytigfninpflemnab
open Go
set_option linter.unusedSimpArgs false
set_option linter.unusedVariables false
set_option maxRecDepth 100000
theorem awake14 : cP 3999 23 false [] = some (Bo true) := by kernel_rfl
def one3 (ch : Int) (b0 b1 b2 : Bool) : Prop := (ch = 0 ∧ b0 = true ∧ b1 = false ∧ b2 = false) ∨ (ch = 1 ∧ b0 = false ∧ b1 = true ∧ b2 = false) ∨ (ch = 2 ∧ b0 = false ∧ b1 = false ∧ b2 = true)
def ct (b : Bool) (i : Int) : Int := if b = true then i else 0
def stI (s : Int) (b0 b1 b2 : Bool) (i : Int) : Ms := ⟨s, ⟨true, ct b0 i, 0⟩, ⟨true, ct b1 i, 0⟩, ⟨true, ct b2 i, 0⟩, 0, -1, false⟩
def stF (s : Int) (b0 b1 b2 : Bool) : Ms := ⟨s, ⟨!b0, ct b0 s, ct b0 1⟩, ⟨!b1, ct b1 s, ct b1 1⟩, ⟨!b2, ct b2 s, ct b2 1⟩, 0, -1, false⟩
theorem msRound_I {ch s i : Int} {b0 b1 b2 : Bool} (h : one3 ch b0 b1 b2) (h0 : 0 ≤ i) (h1 : i + 1 < s) : msRound (stI s b0 b1 b2 i) b0 b1 b2 false = stI s b0 b1 b2 (i + 1) := by
  have e1 : ¬ s ≤ i + 1 := by omega
  have e2 : ¬ s ≤ 0 := by omega
  rcases h with ⟨_, rfl, rfl, rfl⟩ | ⟨_, rfl, rfl, rfl⟩ | ⟨_, rfl, rfl, rfl⟩ <;> simp [msRound, msR, stI, ct, chR, moreV, manyV, b2i, e1, e2]
theorem msRound_Z {ch s i : Int} {b0 b1 b2 : Bool} (h : one3 ch b0 b1 b2) (h1 : 0 < s) : msRound (stI s b0 b1 b2 i) false false false false = stI s b0 b1 b2 0 := by
  have e2 : ¬ s ≤ 0 := by omega
  rcases h with ⟨_, rfl, rfl, rfl⟩ | ⟨_, rfl, rfl, rfl⟩ | ⟨_, rfl, rfl, rfl⟩ <;> simp [msRound, msR, stI, ct, chR, moreV, manyV, b2i, e2]
theorem orI_01 : orI .i64 0 1 = 1 := by decide
theorem msRound_F {ch s : Int} {b0 b1 b2 : Bool} (h : one3 ch b0 b1 b2) (h1 : 0 < s) : msRound (stI s b0 b1 b2 (s - 1)) b0 b1 b2 false = stF s b0 b1 b2 := by
  have e2 : ¬ s ≤ 0 := by omega
  have e3 : s - 1 + 1 = s := by omega
  rcases h with ⟨_, rfl, rfl, rfl⟩ | ⟨_, rfl, rfl, rfl⟩ | ⟨_, rfl, rfl, rfl⟩ <;> simp [msRound, msR, stI, stF, ct, chR, moreV, manyV, b2i, e2, e3, orI_01]
theorem stI_ok {s i x : Int} {b0 b1 b2 : Bool} (h0 : 0 ≤ i) (h1 : i ≤ x) : MsOk (stI s b0 b1 b2 i) x := by
  constructor <;> (simp only [stI, ct]; first | (split <;> omega) | omega)
theorem msB_wf (n : Nat) (m : Ms) : WfB n m.B := by
  unfold Ms.B
  intro d hd
  simp at hd
  rcases hd with rfl | rfl | rfl | rfl | rfl | rfl | rfl | rfl | rfl | rfl | rfl | rfl | rfl <;> rfl
theorem vd_wf (n : Nat) (a b c d : Bool) : WfB n (.cells 62 (vdC a b c d)) := by
  unfold vdC
  intro d hd
  simp at hd
  rcases hd with rfl | rfl | rfl | rfl <;> rfl
theorem st_wf (n : Nat) (m : Ms) : WfB n (.cells 72 m.C) := by
  unfold Ms.C
  intro d hd
  simp at hd
  rcases hd with rfl | rfl | rfl | rfl | rfl | rfl | rfl | rfl | rfl | rfl | rfl | rfl <;> rfl
theorem Strikes_L0 (n : Nat) (hn : 20 ≤ n) (s ch good : Int) (b0 b1 b2 : Bool) (hc : one3 ch b0 b1 b2) (hs : s ≤ 20) (hg : good < s) (g0 : 0 ≤ good) : ∀ (m : Nat) (i : Int) (H : Heap), good < m + i → 0 ≤ i → i ≤ good → H[0]? = some (stI s b0 b1 b2 i).B → H[1]? = some (.cells 62 (vdC b0 b1 b2 false)) → WfH H →
    ∃ H', (∀ K, s_triunelaw14_ModesStrikes_L0 n 0 K m (I .i64 s) (I .i64 ch) (I .i64 good) (Bo true) (.ptr 0 0) (.ptr 1 0) (I .i64 i) H = K (.exit 0) (s_triunelaw14_ModesStrikes_O0 (I .i64 s) (I .i64 ch) (Bo true) (.ptr 0 0) (.ptr 1 0)) H') ∧ H'[0]? = some (stI s b0 b1 b2 good).B ∧ H'[1]? = some (.cells 62 (vdC b0 b1 b2 false)) ∧ WfH H' := by
  intro m
  induction m with
  | zero => intro i H h; omega
  | succ m ih =>
    intro i H hm h0 hi hk hv hw
    by_cases h : i < good
    · have hR := modes_Round_c n 0 0 H (stI s b0 b1 b2 i) b0 b1 b2 false (by omega) (by omega) hk hw 1000 (by omega) (stI_ok h0 (by omega))
      rw [msRound_I hc h0 (by omega)] at hR
      have hkl := hp_lt hk
      obtain ⟨H', q, q2⟩ := ih (i + 1) (H.set 0 (stI s b0 b1 b2 (i + 1)).B) (by omega) (by omega) (by omega) (hp_set_get _ _ _ hkl) (by rw [hp_set_ne _ _ _ _ (by omega)]; exact hv) (hw.set 0 (msB_wf _ _))
      unfold vdC at hR hv
      exact ⟨H', fun K => by unfold s_triunelaw14_ModesStrikes_L0 s_triunelaw14_ModesStrikes_B0; simp -implicitDefEqProofs (disch := first | omega | (simp only [List.length_set, List.length_append, List.length_cons, List.length_nil, List.length_take, List.length_drop, List.length_map]; omega) | simp) [wrap_i64, wrap_u16_id, wrap_u8_id, tdiv_pos, tmod_pos, -getElem?_pos, -getElem?_neg, -List.length_eq_zero_iff, -List.getElem_cons_drop, h, hv, hR, q], q2⟩
    · have : i = good := by omega
      subst this
      exact ⟨H, fun K => by unfold s_triunelaw14_ModesStrikes_L0 s_triunelaw14_ModesStrikes_B0; simp -implicitDefEqProofs (disch := first | omega | (simp only [List.length_set, List.length_append, List.length_cons, List.length_nil, List.length_take, List.length_drop, List.length_map]; omega) | simp) [wrap_i64, wrap_u16_id, wrap_u8_id, tdiv_pos, tmod_pos, -getElem?_pos, -getElem?_neg, -List.length_eq_zero_iff, -List.getElem_cons_drop], hk, hv, hw⟩
theorem Strikes_L1 (n : Nat) (hn : 20 ≤ n) (s ch : Int) (b0 b1 b2 : Bool) (hc : one3 ch b0 b1 b2) (hs0 : 1 ≤ s) (hs : s ≤ 20) : ∀ (m : Nat) (i : Int) (H : Heap), s < m + i → 0 ≤ i → i < s → H[0]? = some (stI s b0 b1 b2 i).B → H[1]? = some (.cells 62 (vdC b0 b1 b2 false)) → WfH H →
    ∃ H', (∀ K, s_triunelaw14_ModesStrikes_L1 n 0 K m (I .i64 s) (I .i64 ch) (Bo true) (.ptr 0 0) (.ptr 1 0) (I .i64 i) H = K (.exit 2) (s_triunelaw14_ModesStrikes_O1 (I .i64 ch) .any (Bo true) (.ptr 0 0)) H') ∧ H'[0]? = some (stF s b0 b1 b2).B := by
  intro m
  induction m with
  | zero => intro i H h; omega
  | succ m ih =>
    intro i H hm h0 hi hk hv hw
    have hkl := hp_lt hk
    have hvl := hp_lt hv
    have hS := modes_State_c n 0 (H ++ [.hole]) (stI s b0 b1 b2 i) (by omega) (by rw [hp_get_left _ _ _ hkl]; exact hk)
    have hMd := modes_Mode_c n (stI s b0 b1 b2 i) (by omega)
    have hmv : modeV (stI s b0 b1 b2 i) = 2 := by simp [modeV, stI, manyV, b2i]; decide
    rw [hmv] at hMd
    have hw2 : WfH (H ++ [DBlk.cells 72 (stI s b0 b1 b2 i).C]) := hw.app (by intro b hb; simp at hb; subst hb; exact st_wf _ _)
    have hk2 : (H ++ [DBlk.cells 72 (stI s b0 b1 b2 i).C])[0]? = some (stI s b0 b1 b2 i).B := by rw [hp_get_left _ _ _ hkl]; exact hk
    have hv2 : (H ++ [DBlk.cells 72 (stI s b0 b1 b2 i).C])[1]? = some (.cells 62 (vdC b0 b1 b2 false)) := by rw [hp_get_left _ _ _ hvl]; exact hv
    have hR := modes_Round_c n 0 0 _ (stI s b0 b1 b2 i) b0 b1 b2 false (by omega) (by omega) hk2 hw2 1000 (by omega) (stI_ok h0 (by omega))
    have fin : ∃ H', (∀ K, s_triunelaw14_ModesStrikes_L1 n 0 K m (I .i64 s) (I .i64 ch) (Bo true) (.ptr 0 0) (.ptr 1 0) (I .i64 (i + 1)) (H.set 0 (msRound (stI s b0 b1 b2 i) b0 b1 b2 false).B ++ [DBlk.cells 72 (stI s b0 b1 b2 i).C]) = K (.exit 2) (s_triunelaw14_ModesStrikes_O1 (I .i64 ch) .any (Bo true) (.ptr 0 0)) H') ∧ H'[0]? = some (stF s b0 b1 b2).B := by
      rw [← List.set_append_left _ _ hkl]
      by_cases h : i + 1 < s
      · rw [msRound_I hc h0 h]
        exact ih (i + 1) _ (by omega) (by omega) h (hp_set_get _ _ _ (hp_lt hk2)) (by rw [hp_set_ne _ _ _ _ (by omega)]; exact hv2) (hw2.set 0 (msB_wf _ _))
      · have e : i = s - 1 := by omega
        have e2 : i + 1 = s := by omega
        obtain ⟨mm, rfl⟩ : ∃ mm, m = mm + 1 := ⟨m - 1, by omega⟩
        have hF := msRound_F hc (by omega : 0 < s)
        rw [← e] at hF
        rw [hF, e2]
        exact ⟨_, fun K => by unfold s_triunelaw14_ModesStrikes_L1 s_triunelaw14_ModesStrikes_B1; simp -implicitDefEqProofs (disch := first | omega | (simp only [List.length_set, List.length_append, List.length_cons, List.length_nil, List.length_take, List.length_drop, List.length_map]; omega) | simp) [wrap_i64, wrap_u16_id, wrap_u8_id, tdiv_pos, tmod_pos, -getElem?_pos, -getElem?_neg, -List.length_eq_zero_iff, -List.getElem_cons_drop], hp_set_get _ _ _ (hp_lt hk2)⟩
    obtain ⟨H', q, q2⟩ := fin
    refine ⟨H', fun K => ?_, q2⟩
    unfold vdC at hR hv hv2
    unfold Ms.C at hS hMd hR q hv2
    unfold s_triunelaw14_ModesStrikes_L1 s_triunelaw14_ModesStrikes_B1
    rcases hc with ⟨rfl, rfl, rfl, rfl⟩ | ⟨rfl, rfl, rfl, rfl⟩ | ⟨rfl, rfl, rfl, rfl⟩
    · simp only [stI, ct, if_true, Bool.false_eq_true, if_false] at hS hMd hR q hv2 ⊢
      simp -implicitDefEqProofs (disch := first | omega | (simp only [List.length_set, List.length_append, List.length_cons, List.length_nil, List.length_take, List.length_drop, List.length_map]; omega) | simp) [wrap_i64, wrap_u16_id, wrap_u8_id, tdiv_pos, tmod_pos, -getElem?_pos, -getElem?_neg, -List.length_eq_zero_iff, -List.getElem_cons_drop, hi, hv, hvl, hS, hMd, hR, hv2, q, idxArr_k]
    · simp only [stI, ct, if_true, Bool.false_eq_true, if_false] at hS hMd hR q hv2 ⊢
      simp -implicitDefEqProofs (disch := first | omega | (simp only [List.length_set, List.length_append, List.length_cons, List.length_nil, List.length_take, List.length_drop, List.length_map]; omega) | simp) [wrap_i64, wrap_u16_id, wrap_u8_id, tdiv_pos, tmod_pos, -getElem?_pos, -getElem?_neg, -List.length_eq_zero_iff, -List.getElem_cons_drop, hi, hv, hvl, hS, hMd, hR, hv2, q, idxArr_k]
    · simp only [stI, ct, if_true, Bool.false_eq_true, if_false] at hS hMd hR q hv2 ⊢
      simp -implicitDefEqProofs (disch := first | omega | (simp only [List.length_set, List.length_append, List.length_cons, List.length_nil, List.length_take, List.length_drop, List.length_map]; omega) | simp) [wrap_i64, wrap_u16_id, wrap_u8_id, tdiv_pos, tmod_pos, -getElem?_pos, -getElem?_neg, -List.length_eq_zero_iff, -List.getElem_cons_drop, hi, hv, hvl, hS, hMd, hR, hv2, q, idxArr_k]
theorem ms0_I (s : Int) (b0 b1 b2 : Bool) : stI s b0 b1 b2 0 = ms0 s := by cases b0 <;> cases b1 <;> cases b2 <;> rfl
theorem Strikes_run (n : Nat) (up : cP n 23 false [] = some (Bo true)) (hn : 3000 ≤ n) (s ch good : Int) :
    ∃ H', s_triunelaw14_ModesStrikes n [] 0 (I .i64 s) (I .i64 ch) (I .i64 good) = some (Bo true, H') := by
  have hp0 : ∀ k x, binD Try.prog .eql 53 x (.const (.pointer none)) (.ptr k 0) (.flat (.pointer none)) = some (Bo false) := fun k x => binD_ptr_nil Try.underlying53 _ _ _ _
  have hp1 : ∀ x, binD Try.prog .eql 53 x (.const (.pointer none)) (.flat (.pointer none)) (.flat (.pointer none)) = some (Bo true) := fun x => by kernel_rfl
  by_cases c0 : 1 ≤ s ∧ s ≤ 20
  · have hN := modes_New_c n 0 [] s (by omega) c0
    simp only [List.length_nil, List.nil_append] at hN
    by_cases c1 : ch < 0
    · exact ⟨_, by unfold s_triunelaw14_ModesStrikes; simp -implicitDefEqProofs (disch := first | omega | (simp only [List.length_set, List.length_append, List.length_cons, List.length_nil, List.length_take, List.length_drop, List.length_map]; omega) | simp) [wrap_i64, wrap_u16_id, wrap_u8_id, tdiv_pos, tmod_pos, -getElem?_pos, -getElem?_neg, -List.length_eq_zero_iff, -List.getElem_cons_drop, up, hN, hp0, c1]; rfl⟩
    by_cases c2 : 2 < ch
    · exact ⟨_, by unfold s_triunelaw14_ModesStrikes; simp -implicitDefEqProofs (disch := first | omega | (simp only [List.length_set, List.length_append, List.length_cons, List.length_nil, List.length_take, List.length_drop, List.length_map]; omega) | simp) [wrap_i64, wrap_u16_id, wrap_u8_id, tdiv_pos, tmod_pos, -getElem?_pos, -getElem?_neg, -List.length_eq_zero_iff, -List.getElem_cons_drop, up, hN, hp0, c1, c2]; rfl⟩
    obtain ⟨b0, b1, b2, hc⟩ : ∃ b0 b1 b2, one3 ch b0 b1 b2 := by
      rcases (by omega : ch = 0 ∨ ch = 1 ∨ ch = 2) with h | h | h
      · exact ⟨true, false, false, .inl ⟨h, rfl, rfl, rfl⟩⟩
      · exact ⟨false, true, false, .inr (.inl ⟨h, rfl, rfl, rfl⟩)⟩
      · exact ⟨false, false, true, .inr (.inr ⟨h, rfl, rfl, rfl⟩)⟩
    have hw0 : WfH [(ms0 s).B, .cells 62 (vdC b0 b1 b2 false)] := by
      intro b hb
      simp at hb
      rcases hb with rfl | rfl
      · exact msB_wf _ _
      · exact vd_wf _ _ _ _ _
    have hfin : ∀ (H1 : Heap), H1[0]? = some (stI s b0 b1 b2 0).B → H1[1]? = some (.cells 62 (vdC b0 b1 b2 false)) → WfH H1 →
        ∃ H', (∀ K, loopG [0, 1, 7, 8, 10, 12] [1, 6, 7, 8] 109 (s_triunelaw14_ModesStrikes_b1 n 0) n (s_triunelaw14_ModesStrikes_I1 (I .i64 s) (I .i64 ch) (Bo true) (.ptr 0 0) (.ptr 1 0) (I .i64 0)) H1 K = K (.exit 2) (s_triunelaw14_ModesStrikes_O1 (I .i64 ch) .any (Bo true) (.ptr 0 0)) H') ∧ cO n 31 [.ptr 0 0] (H' ++ [.hole]) = some (.agg (stF s b0 b1 b2).C) := by
      intro H1 e1 e2 e3
      obtain ⟨H', q, q2⟩ := Strikes_L1 n (by omega) s ch b0 b1 b2 hc c0.1 c0.2 n 0 H1 (by omega) (by omega) (by omega) e1 e2 e3
      exact ⟨H', fun K => (s_triunelaw14_ModesStrikes_L1_eq _ _ _ _ _ _ _ _ _ _ _).trans (q K), modes_State_c n 0 _ _ (by omega) (by rw [hp_get_left _ _ _ (hp_lt q2)]; exact q2)⟩
    have hMd := modes_Mode_c n (stF s b0 b1 b2) (by omega)
    have hmv : modeV (stF s b0 b1 b2) = 1 := by
      rcases hc with ⟨_, rfl, rfl, rfl⟩ | ⟨_, rfl, rfl, rfl⟩ | ⟨_, rfl, rfl, rfl⟩ <;> simp [modeV, stF, manyV, b2i] <;> decide
    rw [hmv] at hMd
    by_cases c3 : 0 ≤ good ∧ good < s
    · obtain ⟨c3, c4⟩ := c3
      obtain ⟨H1, q, k1, k2, k3⟩ := Strikes_L0 n (by omega) s ch good b0 b1 b2 hc c0.2 c4 c3 n 0 [(ms0 s).B, .cells 62 (vdC b0 b1 b2 false)] (by omega) (by omega) c3 (by rw [ms0_I]; rfl) rfl hw0
      have q' := fun K => (s_triunelaw14_ModesStrikes_L0_eq n 0 K n (I .i64 s) (I .i64 ch) (I .i64 good) (Bo true) (.ptr 0 0) (.ptr 1 0) (I .i64 0) [(ms0 s).B, .cells 62 (vdC b0 b1 b2 false)]).trans (q K)
      have hR := modes_Round_c n 0 0 H1 _ false false false false (by omega) (by omega) k1 k3 1000 (by omega) (stI_ok c3 (by omega))
      rw [msRound_Z hc (by omega)] at hR
      obtain ⟨H', f1, f2⟩ := hfin (H1.set 0 (stI s b0 b1 b2 0).B) (hp_set_get _ _ _ (hp_lt k1)) (by rw [hp_set_ne _ _ _ _ (by omega)]; exact k2) (k3.set 0 (msB_wf _ _))
      unfold ms0 Ms.B vdC at q'
      unfold ms0 Ms.B at hN
      unfold vdC at hR
      unfold stF Ms.C at f2 hMd
      rcases hc with ⟨rfl, rfl, rfl, rfl⟩ | ⟨rfl, rfl, rfl, rfl⟩ | ⟨rfl, rfl, rfl, rfl⟩
      all_goals
        simp only [ct, if_true, Bool.false_eq_true, if_false, Bool.not_true, Bool.not_false] at f2 hMd
        exact ⟨_, by unfold s_triunelaw14_ModesStrikes; simp -implicitDefEqProofs (disch := first | omega | (simp only [List.length_set, List.length_append, List.length_cons, List.length_nil, List.length_take, List.length_drop, List.length_map]; omega) | simp) [wrap_i64, wrap_u16_id, wrap_u8_id, tdiv_pos, tmod_pos, -getElem?_pos, -getElem?_neg, -List.length_eq_zero_iff, -List.getElem_cons_drop, up, hN, hp0, c3, c4, q', hR, f1, f2, hMd, idxArr_k, s_triunelaw14_ModesStrikes_O0, s_triunelaw14_ModesStrikes_O1]; rfl⟩
    · obtain ⟨H', f1, f2⟩ := hfin [(ms0 s).B, .cells 62 (vdC b0 b1 b2 false)] (by rw [ms0_I]; rfl) rfl hw0
      unfold ms0 Ms.B vdC at f1
      unfold ms0 Ms.B at hN
      unfold stF Ms.C at f2 hMd
      by_cases c5 : 0 ≤ good
      · have c6 : ¬ good < s := fun h => c3 ⟨c5, h⟩
        rcases hc with ⟨rfl, rfl, rfl, rfl⟩ | ⟨rfl, rfl, rfl, rfl⟩ | ⟨rfl, rfl, rfl, rfl⟩
        all_goals
          simp only [ct, if_true, Bool.false_eq_true, if_false, Bool.not_true, Bool.not_false] at f2 hMd
          exact ⟨_, by unfold s_triunelaw14_ModesStrikes; simp -implicitDefEqProofs (disch := first | omega | (simp only [List.length_set, List.length_append, List.length_cons, List.length_nil, List.length_take, List.length_drop, List.length_map]; omega) | simp) [wrap_i64, wrap_u16_id, wrap_u8_id, tdiv_pos, tmod_pos, -getElem?_pos, -getElem?_neg, -List.length_eq_zero_iff, -List.getElem_cons_drop, up, hN, hp0, c5, c6, f1, f2, hMd, idxArr_k, s_triunelaw14_ModesStrikes_O1]; rfl⟩
      · rcases hc with ⟨rfl, rfl, rfl, rfl⟩ | ⟨rfl, rfl, rfl, rfl⟩ | ⟨rfl, rfl, rfl, rfl⟩
        all_goals
          simp only [ct, if_true, Bool.false_eq_true, if_false, Bool.not_true, Bool.not_false] at f2 hMd
          exact ⟨_, by unfold s_triunelaw14_ModesStrikes; simp -implicitDefEqProofs (disch := first | omega | (simp only [List.length_set, List.length_append, List.length_cons, List.length_nil, List.length_take, List.length_drop, List.length_map]; omega) | simp) [wrap_i64, wrap_u16_id, wrap_u8_id, tdiv_pos, tmod_pos, -getElem?_pos, -getElem?_neg, -List.length_eq_zero_iff, -List.getElem_cons_drop, up, hN, hp0, c5, f1, f2, hMd, idxArr_k, s_triunelaw14_ModesStrikes_O1]; rfl⟩
  · have hN := modes_New_no n 0 [] s (by omega) c0
    exact ⟨_, by unfold s_triunelaw14_ModesStrikes; simp -implicitDefEqProofs (disch := first | omega | (simp only [List.length_set, List.length_append, List.length_cons, List.length_nil, List.length_take, List.length_drop, List.length_map]; omega) | simp) [wrap_i64, wrap_u16_id, wrap_u8_id, tdiv_pos, tmod_pos, -getElem?_pos, -getElem?_neg, -List.length_eq_zero_iff, -List.getElem_cons_drop, up, hN, hp1]; rfl⟩
theorem ModesStrikes_all (e0 e1 e2 : List DV) (h0 : Shp Try.prog 8 3 e0) (h1 : Shp Try.prog 8 3 e1) (h2 : Shp Try.prog 8 3 e2) :
    ∃ H', callG Try.prog ENV 4000 7 [elOf (isAgT Try.prog 3) e0, elOf (isAgT Try.prog 3) e1, elOf (isAgT Try.prog 3) e2] [] 0 = some (.flat (.bool true), H') := by
  obtain ⟨s, rfl, _⟩ := shp_int (k := .i64) Try.underlying3 h0
  obtain ⟨c, rfl, _⟩ := shp_int (k := .i64) Try.underlying3 h1
  obtain ⟨g, rfl, _⟩ := shp_int (k := .i64) Try.underlying3 h2
  have r : ∀ a, elOf (isAgT Try.prog 3) [.flat (.int .i64 a)] = I .i64 a := fun a => by kernel_rfl
  obtain ⟨H', h⟩ := Strikes_run 3999 awake14 (by omega) s c g
  rw [r, r, r]
  exact ⟨H', (s_triunelaw14_ModesStrikes_eq 3999 [] 0 _ _ _).trans h⟩
end Go.Proofs.Ytigfninpflemnab
