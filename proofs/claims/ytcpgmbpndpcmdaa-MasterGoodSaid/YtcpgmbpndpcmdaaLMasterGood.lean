/- The law MasterGood: it answers true. -/
import Derived.Test.YtcpgmbpndpcmdaaKG8
import Derived.Test.YtcpgmbpndpcmdaaFLMasterGood
-- NEEDS: triunelaw08.MasterGood
-- ENV2
namespace Go.Proofs.Ytcpgmbpndpcmdaa
open Go
set_option linter.unusedSimpArgs false
set_option linter.unusedVariables false
set_option maxRecDepth 100000
set_option maxHeartbeats 1000000
theorem goodS_ok (u g wt tr : Int) (a : Rq) (x : An) (i : Int) (hc : CfgP u g wt tr) (ha : RightP a) (oa : RqOk a) (hv : ansV a x = true) (ok : AnOk x) (h0 : 0 ≤ i) (hi : i ≤ 20) : MstOk (goodS u g wt tr a (putI (u :: ansTextV a x)) i) 100 := by
  obtain ⟨o1, o2, o3, _⟩ := ansV_open hv
  have hbx := ansText_bytes a x o1 o2 o3 ok
  obtain ⟨l1, l2⟩ := ansText_len a x hv
  obtain ⟨⟨c1, c2⟩, ⟨c3, c4⟩, ⟨c5, c6⟩, c7, c8⟩ := hc
  refine ⟨⟨by show 0 ≤ u; omega, by show u < 256; omega⟩, ⟨by show 0 ≤ wt; omega, by show wt ≤ _; omega⟩, .inr (.inr rfl), ⟨h0, by show i ≤ _; omega⟩, ⟨h0, by show i ≤ _; omega⟩, ⟨by show (0 : Int) ≤ 1; decide, by show (1 : Int) ≤ 100; decide⟩, fun _ => ha, oa, ?_, ?_⟩
  · refine putI_bytes fun y hy => ?_
    rcases List.mem_cons.1 hy with rfl | hy
    · omega
    · exact hbx y hy
  · show (putI (u :: ansTextV a x)).length ≤ 300
    rw [putI_length]
    simp
    omega
theorem good_L (n : Nat) (k : Nat) (u g wt tr : Int) (a : Rq) (x : An) (hn : 10100 ≤ n) (hc : CfgP u g wt tr) (ha : RightP a) (oa : RqOk a) (hv : ansV a x = true) (ok : AnOk x) (hw2 : g ≤ 2 * wt - 1)
    (lx : x.bits.length ≤ 10000 ∧ x.words.length ≤ 10000 ∧ x.texts.length ≤ 10000) (y7 y12 : DV) (hk0 : 3 ≤ k) : ∀ (m : Nat) (i : Int) (H : Heap) (t1 t2 t3 : Tag), (g - i).toNat < m → 0 ≤ i → i ≤ g →
      H[k]? = some ((if i = g then goodZ u g wt tr a else goodS u g wt tr a (putI (u :: ansTextV a x)) i).B t1 t2 t3) → WfH H → MTag t1 t2 t3 (if i = g then goodZ u g wt tr a else goodS u g wt tr a (putI (u :: ansTextV a x)) i).came.length H →
      H[0]? = some (cfgB u g wt tr) → H[2]? = some (.cells 48 (anE x .sh .sh .sh).cells) →
    ∃ H' s1 s2 s3, (∀ K, s_triunelaw08_MasterGood_L0 n 0 K m (.ptr 0 0) (.ptr 2 0) y7 (.ptr k 0) y12 (I .i64 i) H = K (.exit 0) (s_triunelaw08_MasterGood_O0 .any y7 (.ptr k 0) y12) H') ∧ H'[k]? = some ((goodZ u g wt tr a).B s1 s2 s3) := by
  intro m
  induction m with
  | zero => intro i H t1 t2 t3 h; omega
  | succ m ih =>
    intro i H t1 t2 t3 hm h0 hi hk hw ht hc0 hx0
    have hkl := hp_lt hk
    obtain ⟨⟨c1, c2⟩, ⟨c3, c4⟩, ⟨c5, c6⟩, c7, c8⟩ := hc
    by_cases c : i = g
    · refine ⟨H, t1, t2, t3, fun K => ?_, by rw [hk, if_pos c]⟩
      unfold s_triunelaw08_MasterGood_L0 s_triunelaw08_MasterGood_B0
      unfold cfgB at hc0
      have cc : ¬ i < g := by omega
      simp -implicitDefEqProofs (disch := first | omega | (simp only [List.length_set, List.length_append, List.length_cons, List.length_nil, List.length_take, List.length_drop, List.length_map]; omega) | simp) [wrap_i64, wrap_u16_id, wrap_u8_id, tdiv_pos, tmod_pos, -getElem?_pos, -getElem?_neg, -List.length_eq_zero_iff, -List.getElem_cons_drop, hc0, cc]
    · rw [if_neg c] at hk ht
      have cc : i < g := by omega
      have hk' : (H ++ [DBlk.hole])[k]? = some ((goodS u g wt tr a (putI (u :: ansTextV a x)) i).B t1 t2 t3) := by rw [hp_get_left _ _ _ hkl]; exact hk
      have hwh : WfH (H ++ [DBlk.hole]) := hw.app fun b hb => by
        simp only [List.mem_singleton] at hb
        subst hb
        trivial
      obtain ⟨tb, tq, t3', q1, q2, q3, hT⟩ := mTick_c n k 0 (by omega) (H ++ [DBlk.hole]) (goodS u g wt tr a (putI (u :: ansTextV a x)) i) 100 t1 t2 t3 hk' hwh (by omega) (ht.app _) (goodS_ok u g wt tr a x i ⟨⟨c1, c2⟩, ⟨c3, c4⟩, ⟨c5, c6⟩, c7, c8⟩ ha oa hv ok h0 (by omega)) (by omega)
      rw [good_tick u g wt tr a x i hv ok h0 (by omega) (by omega) hw2] at hT q1
      have hsub : (g - 1 : Int) < 9223372036854775808 := by omega
      by_cases cl : i + 1 = g
      · rw [if_pos cl] at hT q1
        simp only at hT q1
        simp only [hp_set_left _ _ _ _ hkl] at hT
        obtain ⟨H', s1, s2, s3, hr, hr2⟩ := ih (i + 1) (H.set k ((goodZ u g wt tr a).B t1 t2 t3') ++ [outB 1 x tq tq tq]) t1 t2 t3' (by omega) (by omega) (by omega)
          (by rw [if_pos cl]; simp [hkl]) ((hw.set k (q1.wf ht)).outB q3) (by rw [if_pos cl]; exact MTag.step (m := goodS u g wt tr a (putI (u :: ansTextV a x)) i) ht hk q1)
          (by rw [hp_get_left _ _ _ (by simp; omega), hp_set_ne _ _ _ _ (by omega)]; exact hc0) (by rw [hp_get_left _ _ _ (by simp; omega), hp_set_ne _ _ _ _ (by omega)]; exact hx0)
        refine ⟨H', s1, s2, s3, fun K => ?_, hr2⟩
        unfold s_triunelaw08_MasterGood_L0 s_triunelaw08_MasterGood_B0
        rw [cl] at hr
        have hsame := cP_up (ansSame_c n x x tq tq tq .sh .sh .sh lx.1 lx.2.1 lx.2.2 (by omega))
        simp only [decide_true, Bool.and_self] at hsame
        have e1 : ¬ i < g - 1 := by omega
        have e2 : i = g - 1 := by omega
        have g0 : (H.set k ((goodZ u g wt tr a).B t1 t2 t3'))[0]? = some (cfgB u g wt tr) := by rw [hp_set_ne _ _ _ _ (by omega)]; exact hc0
        have g2 : (H.set k ((goodZ u g wt tr a).B t1 t2 t3'))[2]? = some (.cells 48 (anE x .sh .sh .sh).cells) := by rw [hp_set_ne _ _ _ _ (by omega)]; exact hx0
        have l0 : 0 < H.length := by omega
        have l2 : 2 < H.length := by omega
        generalize hG : H.set k ((goodZ u g wt tr a).B t1 t2 t3') = G at *
        have hGl : G.length = H.length := by rw [← hG]; simp
        unfold outB outE anE cfgB at *
        simp only [cells_agg] at *
        subst e2
        simp -implicitDefEqProofs (disch := first | omega | (simp only [List.length_set, List.length_append, List.length_cons, List.length_nil, List.length_take, List.length_drop, List.length_map]; omega) | simp) [wrap_i64, wrap_u16_id, wrap_u8_id, tdiv_pos, tmod_pos, -getElem?_pos, -getElem?_neg, -List.length_eq_zero_iff, -List.getElem_cons_drop, hc0, cc, hT, g0, g2, e1, hsame, hr, hGl, l0, l2]
      · rw [if_neg cl] at hT q1
        simp only at hT q1
        simp only [hp_set_left _ _ _ _ hkl] at hT
        obtain ⟨H', s1, s2, s3, hr, hr2⟩ := ih (i + 1) (H.set k ((goodS u g wt tr a (putI (u :: ansTextV a x)) (i + 1)).B t1 t2 t3') ++ [outB 0 anZ tq tq tq]) t1 t2 t3' (by omega) (by omega) (by omega)
          (by rw [if_neg cl]; simp [hkl]) ((hw.set k (q1.wf ht)).outB q3) (by rw [if_neg cl]; exact MTag.step (m := goodS u g wt tr a (putI (u :: ansTextV a x)) i) ht hk q1)
          (by rw [hp_get_left _ _ _ (by simp; omega), hp_set_ne _ _ _ _ (by omega)]; exact hc0) (by rw [hp_get_left _ _ _ (by simp; omega), hp_set_ne _ _ _ _ (by omega)]; exact hx0)
        refine ⟨H', s1, s2, s3, fun K => ?_, hr2⟩
        unfold s_triunelaw08_MasterGood_L0 s_triunelaw08_MasterGood_B0
        have e1 : i < g - 1 := by omega
        have e2 : ¬ i = g - 1 := by omega
        have g0 : (H.set k ((goodS u g wt tr a (putI (u :: ansTextV a x)) (i + 1)).B t1 t2 t3'))[0]? = some (cfgB u g wt tr) := by rw [hp_set_ne _ _ _ _ (by omega)]; exact hc0
        have l0 : 0 < H.length := by omega
        generalize hG : H.set k ((goodS u g wt tr a (putI (u :: ansTextV a x)) (i + 1)).B t1 t2 t3') = G at *
        have hGl : G.length = H.length := by rw [← hG]; simp
        unfold outB outE anE cfgB at *
        simp only [cells_agg] at *
        simp -implicitDefEqProofs (disch := first | omega | (simp only [List.length_set, List.length_append, List.length_cons, List.length_nil, List.length_take, List.length_drop, List.length_map]; omega) | simp) [wrap_i64, wrap_u16_id, wrap_u8_id, tdiv_pos, tmod_pos, -getElem?_pos, -getElem?_neg, -List.length_eq_zero_iff, -List.getElem_cons_drop, hc0, cc, hT, g0, e1, e2, hr, hGl, l0]
theorem bnil (t : Operand) : binD Try.prog .eql 31 t (.const (.pointer none)) (.flat (.pointer none)) (.flat (.pointer none)) = some (Bo true) := by kernel_rfl
theorem good_run (n : Nat) (up : cP2 n 5 false [] = some (Bo true)) (hn : 39000 ≤ n) (u g wt tr : Int) (a : Rq) (ha : RqTy a) (x : An) (hx : AnTy x) :
    ∃ H', s_triunelaw08_MasterGood n [] 0 (cfgE u g wt tr) (rqE a .sh .sh) (anE x .sh .sh .sh) = some (Bo true, H') := by
  have l1 := cP_up (ref06_Large_c n a .sh .sh (by omega))
  have l2 := cP_up (ref07_Large_c n x .sh .sh .sh hx.s (by omega))
  by_cases h0 : CfgP u g wt tr
  · have hN := mNew_yes n (by omega) u g wt tr [cfgB u g wt tr, .cells 28 (rqE a .sh .sh).cells, .cells 48 (anE x .sh .sh .sh).cells] 0 (by simp) h0
    have bp := fun o => binD_ptr_nil (t := 31) Try.underlying31 o (.const (.pointer none)) 4 0
    cases h1 : lgV a with
    | true =>
      rw [h1] at l1
      unfold rqE anE cfgE cfgB at *
      simp only [cells_agg] at hN
      exact ⟨_, by unfold s_triunelaw08_MasterGood; simp -implicitDefEqProofs (disch := first | omega | (simp only [List.length_set, List.length_append, List.length_cons, List.length_nil, List.length_take, List.length_drop, List.length_map]; omega) | simp) [wrap_i64, wrap_u16_id, wrap_u8_id, tdiv_pos, tmod_pos, -getElem?_pos, -getElem?_neg, -List.length_eq_zero_iff, -List.getElem_cons_drop, up, l1, hN, bp]; rfl⟩
    | false =>
      rw [h1] at l1
      cases h2 : anLarge x with
      | true =>
        rw [h2] at l2
        unfold rqE anE cfgE cfgB at *
        simp only [cells_agg] at hN
        exact ⟨_, by unfold s_triunelaw08_MasterGood; simp -implicitDefEqProofs (disch := first | omega | (simp only [List.length_set, List.length_append, List.length_cons, List.length_nil, List.length_take, List.length_drop, List.length_map]; omega) | simp) [wrap_i64, wrap_u16_id, wrap_u8_id, tdiv_pos, tmod_pos, -getElem?_pos, -getElem?_neg, -List.length_eq_zero_iff, -List.getElem_cons_drop, up, l1, l2, hN, bp]; rfl⟩
      | false =>
        rw [h2] at l2
        have oka := ha.ok h1
        have ok := hx.ok h2
        obtain ⟨g1, g2, g3, g4⟩ := large_open h2
        have k1 := cP_up (ansBytes_c n (by omega) a oka x ok .sh .sh .sh .sh .sh)
        by_cases hv : ansV a x = true
        · have e1 : ansBytV a x = .tup [LV 1 (I .u8) (ansTextV a x) .sh, I .i64 0] := by
            unfold ansBytV
            rw [if_pos (ansV_open hv).1, if_pos hv]
          rw [e1] at k1
          have hR := (ansV_open hv).1
          have w0 : WfH [cfgB u g wt tr, .cells 28 (rqE a .sh .sh).cells, .cells 48 (anE x .sh .sh .sh).cells, cfgB u g wt tr, (mst0 u g wt tr).B .ti .ti .ti] := by
            intro b hb
            simp only [List.mem_cons, List.not_mem_nil, or_false] at hb
            rcases hb with rfl | rfl | rfl | rfl | rfl
            · intro d hd; simp only [cfgB, List.mem_cons, List.not_mem_nil, or_false] at hd; rcases hd with rfl | rfl | rfl | rfl <;> rfl
            · intro d hd; simp only [rqE, cells_agg, List.mem_cons, List.not_mem_nil, or_false] at hd; rcases hd with rfl | rfl | rfl | rfl | rfl | rfl | rfl | rfl <;> simp
            · intro d hd; simp only [anE, cells_agg, List.mem_cons, List.not_mem_nil, or_false] at hd; rcases hd with rfl | rfl | rfl | rfl <;> simp
            · intro d hd; simp only [cfgB, List.mem_cons, List.not_mem_nil, or_false] at hd; rcases hd with rfl | rfl | rfl | rfl <;> rfl
            · exact Mst.wf (.inr rfl) (.inr rfl) fun l => by simp
          obtain ⟨t1, t2, t3, q1, q2, q3, hS⟩ := mStart_c n 4 0 (by omega) [cfgB u g wt tr, .cells 28 (rqE a .sh .sh).cells, .cells 48 (anE x .sh .sh .sh).cells, cfgB u g wt tr, (mst0 u g wt tr).B .ti .ti .ti] (mst0 u g wt tr) a .sh .sh .ti .ti .ti rfl w0 (by omega) ⟨.inr rfl, .inr rfl, .inl rfl⟩ oka (.inl rfl) (.inl rfl)
          have es : startV (mst0 u g wt tr) a = (0, ⟨u, g, wt, tr, 1, g, 0, 0, a, []⟩) := by
            unfold startV
            rw [if_neg (by simp [mst0]), if_neg (by simpa using hR)]
            rfl
          rw [es] at hS q3
          simp only at hS q3
          have q3 : t3 = .ti := by rcases q3 with ⟨h, _⟩ | ⟨h, _⟩ <;> exact h
          subst q3
          simp only [List.set_cons_succ, List.set_cons_zero] at hS
          by_cases c9 : 2 * wt - 1 < g
          · unfold rqE anE cfgE cfgB at *
            simp only [cells_agg] at *
            obtain ⟨⟨c1, c2⟩, ⟨c3, c4⟩, ⟨c5, c6⟩, c7, c8⟩ := h0
            exact ⟨_, by unfold s_triunelaw08_MasterGood; simp -implicitDefEqProofs (disch := first | omega | (simp only [List.length_set, List.length_append, List.length_cons, List.length_nil, List.length_take, List.length_drop, List.length_map]; omega) | simp) [wrap_i64, wrap_u16_id, wrap_u8_id, tdiv_pos, tmod_pos, -getElem?_pos, -getElem?_neg, -List.length_eq_zero_iff, -List.getElem_cons_drop, up, l1, l2, k1, hN, bp, hS, c9]; rfl⟩
          · obtain ⟨⟨c1, c2⟩, ⟨c3, c4⟩, ⟨c5, c6⟩, c7, c8⟩ := id h0
            obtain ⟨o1, o2, o3, _⟩ := ansV_open hv
            have hbx := ansText_bytes a x o1 o2 o3 ok
            obtain ⟨m1, m2⟩ := ansText_len a x hv
            have hB := cP_up (rtu_Bytes_c n ⟨u, ansTextV a x⟩ .sh ⟨⟨by show 0 ≤ u; omega, by show u < 256; omega⟩, hbx, by show (ansTextV a x).length ≤ 1000; omega⟩ (by omega))
            unfold bytV at hB
            rw [if_neg (by show ¬ (ansTextV a x).length < 1; omega), if_neg (by show ¬ 253 < (ansTextV a x).length; omega)] at hB
            obtain ⟨b1, hb1⟩ : ∃ b1 : DBlk, b1 = .cells 28 (rqE a .sh .sh).cells := ⟨_, rfl⟩
            obtain ⟨b2, hb2⟩ : ∃ b2 : DBlk, b2 = .cells 48 (anE x .sh .sh .sh).cells := ⟨_, rfl⟩
            have hM1 : Mst.B ⟨u, g, wt, tr, 1, g, 0, 0, a, []⟩ t1 t2 .ti = Mst.B ⟨u, g, wt, tr, 1, g, 0, 0, a, []⟩ t1 t2 .ti := rfl
            have w1 : WfH [cfgB u g wt tr, b1, b2, cfgB u g wt tr, Mst.B ⟨u, g, wt, tr, 1, g, 0, 0, a, []⟩ t1 t2 .ti, .hole] := by
              have := (w0.set 4 (b := Mst.B ⟨u, g, wt, tr, 1, g, 0, 0, a, []⟩ t1 t2 .ti) (Mst.wf q1 q2 fun l => by simp)).app (X := [.hole]) (fun b hb => by
                simp only [List.mem_singleton] at hb
                subst hb
                trivial)
              rw [hb1, hb2]
              exact this
            obtain ⟨tb, tq, t3', k5, k6, k7, hT⟩ := mTick_c n 4 0 (by omega) [cfgB u g wt tr, b1, b2, cfgB u g wt tr, Mst.B ⟨u, g, wt, tr, 1, g, 0, 0, a, []⟩ t1 t2 .ti, .hole] ⟨u, g, wt, tr, 1, g, 0, 0, a, []⟩ 100 t1 t2 .ti rfl w1 (by omega) ⟨q1, q2, .inl rfl⟩
              ⟨⟨by show 0 ≤ u; omega, by show u < 256; omega⟩, ⟨by show 0 ≤ wt; omega, by show wt ≤ _; omega⟩, .inr (.inl rfl), ⟨by show 0 ≤ g; omega, by show g ≤ _; omega⟩, ⟨by show (0 : Int) ≤ 0; decide, by show (0 : Int) ≤ 100; decide⟩, ⟨by show (0 : Int) ≤ 0; decide, by show (0 : Int) ≤ 100; decide⟩, fun _ => hR, oka, fun y hy => (by cases hy), by show (0 : Nat) ≤ 300; decide⟩ (by omega)
            have et : tickV ⟨u, g, wt, tr, 1, g, 0, 0, a, []⟩ = (putI (u :: textV a), 0, anZ, goodS u g wt tr a [] 0) := by
              have hm : ¬ min (g + 1) 1048576 < g := by omega
              unfold tickV sendV Mst.tock Mst.turn frameV goodS
              simp [hm]
            rw [et] at hT k5
            simp only at hT k5
            have k5 : t3' = .ti := by rcases k5 with ⟨h, _⟩ | ⟨h, _⟩ <;> exact h
            subst k5
            simp only [List.set_cons_succ, List.set_cons_zero] at hT
            obtain ⟨t4, H4, hK, hK1, hK2, hK3⟩ := mTake_c n 4 (by omega) [cfgB u g wt tr, b1, b2, cfgB u g wt tr, (goodS u g wt tr a [] 0).B t1 t2 .ti, outB 0 anZ tq tq tq] (goodS u g wt tr a [] 0) (putI (u :: ansTextV a x)) .sh t1 t2 .ti rfl ⟨q1, q2, .inl rfl⟩ (by show (0 : Nat) ≤ 300; decide) (by rw [putI_length]; simp; omega)
            have ek : takeV (goodS u g wt tr a [] 0) (putI (u :: ansTextV a x)) = goodS u g wt tr a (putI (u :: ansTextV a x)) 0 := by
              unfold takeV
              rw [if_neg (fun h => by have := congrArg List.length h; rw [putI_length] at this; simp at this), if_pos (by rfl)]
              unfold goodS
              have : List.take (300 - ([] : List Int).length) (putI (u :: ansTextV a x)) = putI (u :: ansTextV a x) := List.take_of_length_le (by rw [putI_length]; simp; omega)
              simp only [this, List.nil_append]
            rw [ek] at hK1 hK2
            have w2 : WfH [cfgB u g wt tr, b1, b2, cfgB u g wt tr, (goodS u g wt tr a [] 0).B t1 t2 .ti, outB 0 anZ tq tq tq] := by
              have := (w0.set 4 (b := (goodS u g wt tr a [] 0).B t1 t2 .ti) (Mst.wf q1 q2 fun l => by simp)).outB (k := 0) (x := anZ) k7
              rw [hb1, hb2]
              exact this
            obtain ⟨H5, s1, s2, s3, hL, hL2⟩ := good_L n 4 u g wt tr a x (by omega) h0 hR oka hv ok (by omega) ⟨by omega, by omega, by omega⟩ (Bo true) (LV 1 (I .u8) (putI (u :: textV a)) tb) (by omega) n 0 H4 t1 t2 t4 (by omega) (by omega) (by omega)
              (by rw [if_neg (by omega)]; exact hK1) (hK3.wf w2) (by rw [if_neg (by omega)]; exact hK2) (hK3.same 0 _ (by decide) (fun e s n h => by unfold cfgB at h; cases h) rfl) (hK3.same 2 _ (by decide) (fun e s n h => by cases h) (by rw [← hb2]; rfl))
            have hY := mBusy_c n 4 (by omega) H5 _ _ _ _ hL2
            have hY0 : (goodZ u g wt tr a).st = 0 := rfl
            rw [hY0] at hY
            have hlen : 0 < (putI (u :: textV a)).length := by rw [putI_length]; omega
            have q := fun K => (s_triunelaw08_MasterGood_L0_eq n 0 K n (.ptr 0 0) (.ptr 2 0) (Bo true) (.ptr 4 0) (LV 1 (I .u8) (putI (u :: textV a)) tb) (I .i64 0) H4).trans (hL K)
            rw [← hb1, ← hb2] at hN hS
            generalize Mst.B ⟨u, g, wt, tr, 1, g, 0, 0, a, []⟩ t1 t2 .ti = MB at *
            generalize (goodS u g wt tr a [] 0).B t1 t2 .ti = MC at *
            subst hb1
            subst hb2
            unfold rqE anE cfgE cfgB outE outB anZ fmE at *
            simp only [cells_agg] at *
            exact ⟨_, by unfold s_triunelaw08_MasterGood; simp -implicitDefEqProofs (disch := first | omega | (simp only [List.length_set, List.length_append, List.length_cons, List.length_nil, List.length_take, List.length_drop, List.length_map]; omega) | simp) [wrap_i64, wrap_u16_id, wrap_u8_id, tdiv_pos, tmod_pos, -getElem?_pos, -getElem?_neg, -List.length_eq_zero_iff, -List.getElem_cons_drop, up, l1, l2, k1, hN, bp, hS, c9, hT, hB, hK, q, s_triunelaw08_MasterGood_O0, hlen, hY]; rfl⟩
        · have hv' : ansV a x = false := by simpa using hv
          have e1 : ∃ c : Int, c ≠ 0 ∧ ansBytV a x = .tup [.list 0 [] .sh, I .i64 c] := by
            unfold ansBytV
            rw [hv']
            split
            · exact ⟨2, by decide, rfl⟩
            · exact ⟨1, by decide, rfl⟩
          obtain ⟨c, c0, e1⟩ := e1
          rw [e1] at k1
          unfold rqE anE cfgE cfgB at *
          simp only [cells_agg] at hN
          exact ⟨_, by unfold s_triunelaw08_MasterGood; simp -implicitDefEqProofs (disch := first | omega | (simp only [List.length_set, List.length_append, List.length_cons, List.length_nil, List.length_take, List.length_drop, List.length_map]; omega) | simp) [wrap_i64, wrap_u16_id, wrap_u8_id, tdiv_pos, tmod_pos, -getElem?_pos, -getElem?_neg, -List.length_eq_zero_iff, -List.getElem_cons_drop, up, l1, l2, k1, hN, bp, c0]; rfl⟩
  · have hN := mNew_no n (by omega) u g wt tr [cfgB u g wt tr, .cells 28 (rqE a .sh .sh).cells, .cells 48 (anE x .sh .sh .sh).cells] 0 (by simp) h0
    unfold rqE anE cfgE cfgB at *
    simp only [cells_agg] at hN
    exact ⟨_, by unfold s_triunelaw08_MasterGood; simp -implicitDefEqProofs (disch := first | omega | (simp only [List.length_set, List.length_append, List.length_cons, List.length_nil, List.length_take, List.length_drop, List.length_map]; omega) | simp) [wrap_i64, wrap_u16_id, wrap_u8_id, tdiv_pos, tmod_pos, -getElem?_pos, -getElem?_neg, -List.length_eq_zero_iff, -List.getElem_cons_drop, up, hN, bnil]; rfl⟩
theorem MasterGood_all (e0 e1 e2 : List DV) (h0 : Shp Try.prog 8 23 e0) (h1 : Shp Try.prog 8 28 e1) (h2 : Shp Try.prog 8 48 e2) :
    ∃ H', callG Try.prog ENV2 40000 4 [elOf (isAgT Try.prog 23) e0, elOf (isAgT Try.prog 28) e1, elOf (isAgT Try.prog 48) e2] [] 0 = some (.flat (.bool true), H') := by
  obtain ⟨u, g, wt, tr, r0, _⟩ := shp_cfg (d := 5) h0
  obtain ⟨a, r1, a1⟩ := shp_rq (d := 5) h1
  obtain ⟨x, r2, x1⟩ := shp_an (d := 5) h2
  obtain ⟨H', h⟩ := good_run 39999 (awake08 39998 rfl) (by omega) u g wt tr a a1 x x1
  rw [r0, r1, r2]
  exact ⟨H', (s_triunelaw08_MasterGood_eq 39999 [] 0 _ _ _).trans h⟩
end Go.Proofs.Ytcpgmbpndpcmdaa
