/- The law MasterDoes: it answers true. -/
import Derived.Test.YtcpgmbpndpcmdaaGreatKD10
import Derived.Test.YtcpgmbpndpcmdaaGreatFLMasterDoes
-- NEEDS: triunelaw08.MasterDoes; triunelaw08.small
-- ENV2
namespace Go.Proofs.YtcpgmbpndpcmdaaGreat
open Go
set_option linter.unusedSimpArgs false
set_option linter.unusedVariables false
set_option maxRecDepth 100000
set_option maxHeartbeats 2000000
theorem read_small (a : Rq) (b : List Int) (hb : b.length ≤ 600) : (ansReadV a b).1.bits.length ≤ 10000 ∧ (ansReadV a b).1.words.length ≤ 10000 ∧ (ansReadV a b).1.texts.length ≤ 1000 := by
  have key : (guessA a b).bits.length ≤ 10000 ∧ (guessA a b).words.length ≤ 10000 ∧ (guessA a b).texts.length ≤ 1000 := by
    have h3 := (guessA_texts a b hb).2
    refine ⟨?_, ?_, by omega⟩
    · unfold guessA
      split
      · simp
      split
      · have := gBits_len a.cnt (b.drop 2)
        rw [List.length_drop] at this
        show (gBits a.cnt (b.drop 2)).length ≤ 10000
        omega
      split
      · simp
      split
      · simp
      · simp [anZ]
    · unfold guessA
      split
      · simp
      split
      · simp
      split
      · have := wdI_len (b.drop 2)
        rw [List.length_drop] at this
        show (wdI (b.drop 2)).length ≤ 10000
        omega
      split
      · simp
      · simp [anZ]
  unfold ansReadV
  split
  · split
    · exact key
    · simp [anZ]
  · simp [anZ]
theorem told_small (m : Mst) (hl : m.came.length ≤ 300) : (toldV m).1.bits.length ≤ 10000 ∧ (toldV m).1.words.length ≤ 10000 ∧ (toldV m).1.texts.length ≤ 1000 := by
  unfold toldV
  split
  · simp [anZ]
  · refine read_small _ _ ?_
    unfold rdV
    split
    · simp
    split
    · simp
    split
    · simp
    · simp
      omega
theorem tick_small (m : Mst) (hl : m.came.length ≤ 300) : (tickV m).2.2.1.bits.length ≤ 10000 ∧ (tickV m).2.2.1.words.length ≤ 10000 ∧ (tickV m).2.2.1.texts.length ≤ 1000 := by
  have z : anZ.bits.length ≤ 10000 ∧ anZ.words.length ≤ 10000 ∧ anZ.texts.length ≤ 1000 := by simp [anZ]
  have t := told_small m.tock hl
  unfold tickV
  split
  · exact z
  split
  · exact z
  · unfold waitV
    split
    · split
      · exact t
      · exact z
    split
    · exact z
    split
    · exact z
    · exact z
theorem tick_sent (m : Mst) (x : Int) (ok : MstOk m x) : (tickV m).1.length ≤ 1000 := by
  unfold tickV
  split
  · simp
  split
  · rename_i h1 h2
    obtain ⟨l1, l2⟩ := text_few m.a (ok.a h1).1 ok.oa
    unfold sendV
    split
    · simp
    · show (putI (m.u :: textV m.a)).length ≤ 1000
      rw [putI_length]
      simp
      omega
  · simp
structure ActT where
  d : Int
  a : Rq
  b : List Int
def actE (x : ActT) : DV := .agg [I .i64 x.d, I .i64 x.a.code, I .i64 x.a.addr, I .i64 x.a.cnt, I .i64 x.a.to_, LV 1 (I .u16) x.a.words .sh, LV 1 Bo x.a.bits .sh, I .u16 x.a.and_, I .u16 x.a.or_, LV 1 (I .u8) x.b .sh]
structure ActOk (x : ActT) : Prop where
  a : RqTy x.a
  b : Bytes x.b
  lb : x.b.length ≤ 140737488355328
  lw : x.a.words.length ≤ 140737488355328
  lt : x.a.bits.length ≤ 140737488355328
def totA : List ActT → Int
  | [] => 0
  | x :: l => (x.b.length : Int) + x.a.words.length + x.a.bits.length + totA l
theorem totA_nn : ∀ l, 0 ≤ totA l
  | [] => by simp [totA]
  | x :: l => by have := totA_nn l; simp only [totA]; omega
theorem totA_mem : ∀ (l : List ActT) (x : ActT), x ∈ l → (x.b.length : Int) + x.a.words.length + x.a.bits.length ≤ totA l
  | [], x, h => by cases h
  | y :: l, x, h => by
    have hn := totA_nn l
    rcases List.mem_cons.1 h with rfl | h
    · simp only [totA]; omega
    · have := totA_mem l x h
      simp only [totA]; omega
theorem small_L (n fl : Nat) (ls : List ActT) (hl : ls.length ≤ 140737488355328) (hb : ∀ x ∈ ls, ActOk x) : ∀ (m i : Nat) (N : Int) (H : Heap), 0 ≤ N → N ≤ 500000000000000 → ls.length < m + i → i ≤ ls.length →
    ∃ N' : Int, (∀ K, s_triunelaw08_small_L0 n fl K m (LV 10 actE ls .sh) (I .i64 N) (I .i64 i) H = K (.exit 0) (s_triunelaw08_small_O0 (LV 10 actE ls .sh) (I .i64 N')) H) ∧ (N' < 10000 → N + totA (ls.drop i) < 10000) := by
  intro m
  induction m with
  | zero => intro i N H h0 h1 h2 h3; omega
  | succ m ih =>
    intro i N H h0 h1 h2 hi
    by_cases h : i < ls.length
    · have hm := List.getElem_mem h
      have hbi := hb _ hm
      have hd : ls.drop i = ls[i] :: ls.drop (i + 1) := List.drop_eq_getElem_cons h
      have b1 := hbi.lb; have b2 := hbi.lw; have b3 := hbi.lt
      by_cases hN : N < 100000
      · obtain ⟨N', q1, q2⟩ := ih (i + 1) (N + ls[i].b.length + ls[i].a.words.length + ls[i].a.bits.length) H (by omega) (by omega) (by omega) (by omega)
        have hi2 : ((i + 1 : Nat) : Int) = (i : Int) + 1 := by omega
        rw [hi2] at q1
        refine ⟨N', ?_, ?_⟩
        · intro K; unfold s_triunelaw08_small_L0 s_triunelaw08_small_B0; simp -implicitDefEqProofs (disch := first | omega | (simp only [List.length_set, List.length_append, List.length_cons, List.length_nil, List.length_take, List.length_drop, List.length_map]; omega) | simp) [wrap_i64, wrap_u16_id, wrap_u8_id, tdiv_pos, tmod_pos, -getElem?_pos, -getElem?_neg, -List.length_eq_zero_iff, -List.getElem_cons_drop, h, hN, actE, q1]
        · intro h4; have := q2 h4; rw [hd, totA]; omega
      · exact ⟨N, fun K => by unfold s_triunelaw08_small_L0 s_triunelaw08_small_B0; simp -implicitDefEqProofs (disch := first | omega | (simp only [List.length_set, List.length_append, List.length_cons, List.length_nil, List.length_take, List.length_drop, List.length_map]; omega) | simp) [wrap_i64, wrap_u16_id, wrap_u8_id, tdiv_pos, tmod_pos, -getElem?_pos, -getElem?_neg, -List.length_eq_zero_iff, -List.getElem_cons_drop, h, hN], fun h4 => by omega⟩
    · have hd : ls.drop i = [] := by simp; omega
      exact ⟨N, fun K => by unfold s_triunelaw08_small_L0 s_triunelaw08_small_B0; simp -implicitDefEqProofs (disch := first | omega | (simp only [List.length_set, List.length_append, List.length_cons, List.length_nil, List.length_take, List.length_drop, List.length_map]; omega) | simp) [wrap_i64, wrap_u16_id, wrap_u8_id, tdiv_pos, tmod_pos, -getElem?_pos, -getElem?_neg, -List.length_eq_zero_iff, -List.getElem_cons_drop, h], fun h4 => by rw [hd, totA]; omega⟩
theorem small_c (n : Nat) (ls : List ActT) (hl : ls.length ≤ 140737488355328) (hb : ∀ x ∈ ls, ActOk x) (hn : ls.length + 10 ≤ n) :
    ∃ b : Bool, cP2 n 5 false [LV 10 actE ls .sh] = some (Bo b) ∧ (b = true → ls.length ≤ 200 ∧ totA ls < 10000) := by
  obtain ⟨n, rfl⟩ : ∃ m, n = m + 1 := ⟨n - 1, by omega⟩
  obtain ⟨N, q1, q2⟩ := small_L n 0 ls hl hb n 0 0 [] (by omega) (by omega) (by omega) (by omega)
  have q : ∀ K, loopG [0, 3, 4] [0, 3] 46 (s_triunelaw08_small_b0 n 0) n (s_triunelaw08_small_I0 (LV 10 actE ls .sh) (I .i64 0) (I .i64 0)) [] K = K (.exit 0) (s_triunelaw08_small_O0 (LV 10 actE ls .sh) (I .i64 N)) [] := fun K => (s_triunelaw08_small_L0_eq n 0 K n _ _ _ []).trans (q1 K)
  have go : ∀ b : Bool, (∃ H', s_triunelaw08_small n [] 0 (LV 10 actE ls .sh) = some (Bo b, H')) → cP2 (n + 1) 5 false [LV 10 actE ls .sh] = some (Bo b) := by
    intro b ⟨H', h⟩
    exact cP2_of (args' := [LV 10 actE ls .sh]) (by simp [argEl_eq]) ((s_triunelaw08_small_eq _ _ _ _).trans h) (by simp)
  unfold s_triunelaw08_small at go
  by_cases c1 : N < 10000
  · by_cases c2 : ls.length ≤ 200
    · exact ⟨true, go true ⟨_, by simp -implicitDefEqProofs (disch := first | omega | (simp only [List.length_set, List.length_append, List.length_cons, List.length_nil, List.length_take, List.length_drop, List.length_map]; omega) | simp) [wrap_i64, wrap_u16_id, wrap_u8_id, tdiv_pos, tmod_pos, -getElem?_pos, -getElem?_neg, -List.length_eq_zero_iff, -List.getElem_cons_drop, q, s_triunelaw08_small_O0, c1, c2]; first | rfl | exact ⟨by omega, rfl⟩⟩, fun _ => ⟨c2, by have := q2 c1; simpa using this⟩⟩
    · exact ⟨false, go false ⟨_, by simp -implicitDefEqProofs (disch := first | omega | (simp only [List.length_set, List.length_append, List.length_cons, List.length_nil, List.length_take, List.length_drop, List.length_map]; omega) | simp) [wrap_i64, wrap_u16_id, wrap_u8_id, tdiv_pos, tmod_pos, -getElem?_pos, -getElem?_neg, -List.length_eq_zero_iff, -List.getElem_cons_drop, q, s_triunelaw08_small_O0, c1, c2]; first | rfl | exact ⟨by omega, rfl⟩⟩, fun h => by cases h⟩
  · exact ⟨false, go false ⟨_, by simp -implicitDefEqProofs (disch := first | omega | (simp only [List.length_set, List.length_append, List.length_cons, List.length_nil, List.length_take, List.length_drop, List.length_map]; omega) | simp) [wrap_i64, wrap_u16_id, wrap_u8_id, tdiv_pos, tmod_pos, -getElem?_pos, -getElem?_neg, -List.length_eq_zero_iff, -List.getElem_cons_drop, q, s_triunelaw08_small_O0, c1]; rfl⟩, fun h => by cases h⟩
theorem does_L (n : Nat) (ls : List ActT) (k1 k2 : Nat) (hk12 : k1 ≠ k2) (hls : ls.length ≤ 200) (htot : totA ls < 10000) (hb : ∀ x ∈ ls, ActOk x) (hn : 33200 ≤ n) : ∀ (m i : Nat) (mm rr : Mst) (H : Heap) (t1 t2 t3 s1 s2 s3 : Tag), ls.length < m + i → i ≤ ls.length → MRel mm rr i →
    H[k1]? = some (mm.B t1 t2 t3) → H[k2]? = some (rr.RB s1 s2 s3) → MTag t1 t2 t3 mm.came.length H → okT s1 → okT s2 → okT s3 → WfH H →
    ∃ H', ∀ K, s_triunelaw08_MasterDoes_L0 n 0 K m (LV 10 actE ls .sh) (Bo true) (.ptr k1 0) (.ptr k2 0) (I .i64 i) H = K (.exit 0) (s_triunelaw08_MasterDoes_O0 .any (Bo true)) H' := by
  intro m
  induction m with
  | zero => intro i mm rr H t1 t2 t3 s1 s2 s3 h; omega
  | succ m ih =>
    intro i mm rr H t1 t2 t3 s1 s2 s3 hm hi hrel hk1 hk2 ht o1 o2 o3 hw
    by_cases h : i < ls.length
    · have hl1 := hp_lt hk1
      have hl2 := hp_lt hk2
      have hmem := List.getElem_mem h
      have hbi := hb _ hmem
      have hti := totA_mem ls _ hmem
      have hi2 : ((i + 1 : Nat) : Int) = (i : Int) + 1 := by omega
      have i0 : (0 : Int) ≤ i := by omega
      have i1 : (i : Int) ≤ 1000 := by omega
      generalize hx : ls[i] = x at *
      by_cases c0 : x.d = 0
      · obtain ⟨e1, e2, e3, hrel2⟩ := rel_tick hrel i0 i1
        obtain ⟨b1, b2, b3⟩ := tick_small mm hrel.ok.l
        have b4 := tick_sent mm _ hrel.ok
        have hwh : WfH (H ++ [DBlk.hole]) := hw.app fun b hb => by
          simp only [List.mem_singleton] at hb
          subst hb
          trivial
        obtain ⟨tb, tq, t3', q1, q2, q3, hT⟩ := mTick_c n k1 0 (by omega) (H ++ [DBlk.hole]) mm _ t1 t2 t3 (by rw [hp_get_left _ _ _ hl1]; exact hk1) hwh (by omega) (ht.app _) hrel.ok (by omega)
        simp only [hp_set_left _ _ _ _ hl1] at hT
        have hG1k1 : (H.set k1 ((tickV mm).2.2.2.B t1 t2 t3'))[k1]? = some ((tickV mm).2.2.2.B t1 t2 t3') := hp_set_get _ _ _ hl1
        have hG1k2 : (H.set k1 ((tickV mm).2.2.2.B t1 t2 t3'))[k2]? = some (rr.RB s1 s2 s3) := by rw [hp_set_ne _ _ _ _ (fun e => hk12 e.symm)]; exact hk2
        have hG1w : WfH (H.set k1 ((tickV mm).2.2.2.B t1 t2 t3')) := hw.set k1 (q1.wf ht)
        have hG1t : MTag t1 t2 t3' (tickV mm).2.2.2.came.length (H.set k1 ((tickV mm).2.2.2.B t1 t2 t3')) := by
          have := MTag.step (b := (tickV mm).2.2.2.B t1 t2 t3') (X := []) ht hk1 q1
          simpa using this
        have hG1l : (H.set k1 ((tickV mm).2.2.2.B t1 t2 t3')).length = H.length := by simp
        generalize H.set k1 ((tickV mm).2.2.2.B t1 t2 t3') = G1 at *
        have hw1 : WfH (G1 ++ [outB (tickV mm).2.1 (tickV mm).2.2.1 tq tq tq, DBlk.hole]) := by
          have := (hG1w.outB (k := (tickV mm).2.1) (x := (tickV mm).2.2.1) q3).app (X := [DBlk.hole]) (fun b hb => by
            simp only [List.mem_singleton] at hb
            subst hb
            trivial)
          simpa using this
        obtain ⟨ub, uq, s3', p1, p2, p3, hR⟩ := rTick_c n k2 0 (by omega) (G1 ++ [outB (tickV mm).2.1 (tickV mm).2.2.1 tq tq tq, DBlk.hole]) rr _ s1 s2 s3 (by rw [hp_get_left _ _ _ (hp_lt hG1k2)]; exact hG1k2) hw1 (by omega) o1 o2 o3 hrel.okr (by omega)
        simp only [hp_set_left _ _ _ _ (hp_lt hG1k2)] at hR
        rw [← e1, ← e2, ← e3] at hR
        have hG2k1 : (G1.set k2 ((rTickV rr).2.2.2.RB s1 s2 s3'))[k1]? = some ((tickV mm).2.2.2.B t1 t2 t3') := by rw [hp_set_ne _ _ _ _ hk12]; exact hG1k1
        have hG2k2 : (G1.set k2 ((rTickV rr).2.2.2.RB s1 s2 s3'))[k2]? = some ((rTickV rr).2.2.2.RB s1 s2 s3') := hp_set_get _ _ _ (hp_lt hG1k2)
        have hG2w : WfH (G1.set k2 ((rTickV rr).2.2.2.RB s1 s2 s3')) := hG1w.set k2 (Mst.wfR o1 o2 p1)
        have hG2t : MTag t1 t2 t3' (tickV mm).2.2.2.came.length (G1.set k2 ((rTickV rr).2.2.2.RB s1 s2 s3')) := hG1t.set hG1k2
        have hG2l : (G1.set k2 ((rTickV rr).2.2.2.RB s1 s2 s3')).length = H.length := by simp [hG1l]
        generalize G1.set k2 ((rTickV rr).2.2.2.RB s1 s2 s3') = G2 at *
        have zy : ∀ (y : An) N, WfB N (DBlk.cells 51 (anE y uq uq uq).cells) := fun y N d hd => by
          simp only [anE, cells_agg, List.mem_cons, List.not_mem_nil, or_false] at hd
          rcases hd with rfl | rfl | rfl | rfl <;> simp [inSc_okT p3]
        have hw2 : WfH (G2 ++ [outB (tickV mm).2.1 (tickV mm).2.2.1 tq tq tq, .cells 51 (anE (tickV mm).2.2.1 uq uq uq).cells]) := by
          have := (hG2w.outB (k := (tickV mm).2.1) (x := (tickV mm).2.2.1) q3).app (X := [.cells 51 (anE (tickV mm).2.2.1 uq uq uq).cells]) (fun b hb => by
            simp only [List.mem_singleton] at hb
            subst hb
            exact zy _ _)
          simpa using this
        obtain ⟨H', q⟩ := ih (i + 1) (tickV mm).2.2.2 (rTickV rr).2.2.2 (G2 ++ [outB (tickV mm).2.1 (tickV mm).2.2.1 tq tq tq, .cells 51 (anE (tickV mm).2.2.1 uq uq uq).cells]) t1 t2 t3' s1 s2 s3' (by omega) (by omega) (by rw [hi2]; exact hrel2)
          (by rw [hp_get_left _ _ _ (hp_lt hG2k1)]; exact hG2k1) (by rw [hp_get_left _ _ _ (hp_lt hG2k2)]; exact hG2k2) (hG2t.app _) o1 o2 p1 hw2
        rw [hi2] at q
        have hS1 := cP_up (ref01_Same_c n (tickV mm).1 (tickV mm).1 tb ub (by omega) (by omega))
        have hS7 := cP_up (ref07_Same_c n (tickV mm).2.2.1 (tickV mm).2.2.1 tq tq tq uq uq uq b1 b2 b3 b1 b2 b3 (by omega))
        simp only [decide_true, Bool.and_self] at hS1 hS7
        have hB := mBusy_c n k1 (by omega) (G2 ++ [outB (tickV mm).2.1 (tickV mm).2.2.1 tq tq tq, .cells 51 (anE (tickV mm).2.2.1 uq uq uq).cells]) _ _ _ _ (by rw [hp_get_left _ _ _ (hp_lt hG2k1)]; exact hG2k1)
        have est := hrel2.st
        rw [est] at hB
        have lk1 := hp_lt hG1k1
        have lk2 := hp_lt hG1k2
        have l2k2 := hp_lt hG2k2
        clear ih hrel hrel2 hw hw1 hw2 hwh zy hG2t hG1t ht
        generalize tickV mm = w1 at *
        generalize rTickV rr = w2 at *
        obtain ⟨sb, kd, y, m2⟩ := w1
        obtain ⟨sb', kd', y', r2⟩ := w2
        simp only at *
        refine ⟨H', fun K => ?_⟩
        unfold s_triunelaw08_MasterDoes_L0 s_triunelaw08_MasterDoes_B0
        unfold outB outE anE at *
        simp only [cells_agg] at *
        unfold Mst.RB Mst.C at hG2k2
        simp -implicitDefEqProofs (disch := first | omega | (simp only [List.length_set, List.length_append, List.length_cons, List.length_nil, List.length_take, List.length_drop, List.length_map]; omega) | simp) [wrap_i64, wrap_u16_id, wrap_u8_id, tdiv_pos, tmod_pos, -getElem?_pos, -getElem?_neg, -List.length_eq_zero_iff, -List.getElem_cons_drop, h, hx, actE, c0, hT, hR, hS1, hS7, hB, hG1l, hG2l, hG2k2, l2k2, q]
      · by_cases c1 : x.d = 1
        · have oa : RightP x.a → RqOk x.a := fun hr => by
            obtain ⟨_, _, _, _, _, _, l1, l2⟩ := formed_le x.a hr.1
            exact ⟨hbi.a.w, hbi.a.a, hbi.a.o, by omega, by omega⟩
          obtain ⟨e1, hrel2⟩ := rel_start hrel i0 x.a oa
          obtain ⟨u1, u2, u3, q1, q2, q3, hT⟩ := mStart_c n k1 0 (by omega) H mm x.a .sh .sh t1 t2 t3 hk1 hw (by omega) ht oa (.inl rfl) (.inl rfl)
          have hG1k1 : (H.set k1 ((startV mm x.a).2.B u1 u2 u3))[k1]? = some ((startV mm x.a).2.B u1 u2 u3) := hp_set_get _ _ _ hl1
          have hG1k2 : (H.set k1 ((startV mm x.a).2.B u1 u2 u3))[k2]? = some (rr.RB s1 s2 s3) := by rw [hp_set_ne _ _ _ _ (fun e => hk12 e.symm)]; exact hk2
          have hG1w : WfH (H.set k1 ((startV mm x.a).2.B u1 u2 u3)) := hw.set k1 (Mst.wf q1 q2 (q3.sc ht))
          have hG1t : MTag u1 u2 u3 (startV mm x.a).2.came.length (H.set k1 ((startV mm x.a).2.B u1 u2 u3)) := by
            have := MTag.step (b := (startV mm x.a).2.B u1 u2 u3) (X := []) ht hk1 q3
            rw [List.append_nil] at this
            exact ⟨q1, q2, this.c⟩
          generalize H.set k1 ((startV mm x.a).2.B u1 u2 u3) = G1 at *
          obtain ⟨v1, v2, p1, p2, hR⟩ := rStart_c n k2 0 (by omega) G1 rr x.a .sh .sh s1 s2 s3 hG1k2 hG1w (by omega) o1 o2 o3 oa
          rw [← e1] at hR
          have hG2k1 : (G1.set k2 ((rStartV rr x.a).2.RB v1 v2 s3))[k1]? = some ((startV mm x.a).2.B u1 u2 u3) := by rw [hp_set_ne _ _ _ _ hk12]; exact hG1k1
          have hG2k2 : (G1.set k2 ((rStartV rr x.a).2.RB v1 v2 s3))[k2]? = some ((rStartV rr x.a).2.RB v1 v2 s3) := hp_set_get _ _ _ (hp_lt hG1k2)
          have hG2w : WfH (G1.set k2 ((rStartV rr x.a).2.RB v1 v2 s3)) := hG1w.set k2 (Mst.wfR p1 p2 o3)
          have hG2t : MTag u1 u2 u3 (startV mm x.a).2.came.length (G1.set k2 ((rStartV rr x.a).2.RB v1 v2 s3)) := hG1t.set hG1k2
          generalize G1.set k2 ((rStartV rr x.a).2.RB v1 v2 s3) = G2 at *
          obtain ⟨H', q⟩ := ih (i + 1) (startV mm x.a).2 (rStartV rr x.a).2 G2 u1 u2 u3 v1 v2 s3 (by omega) (by omega) (by rw [hi2]; exact hrel2) hG2k1 hG2k2 hG2t p1 p2 o3 hG2w
          rw [hi2] at q
          have hB := mBusy_c n k1 (by omega) G2 _ _ _ _ hG2k1
          have est := hrel2.st
          rw [est] at hB
          clear ih hrel hrel2 hw hG2t hG1t ht
          generalize startV mm x.a = w1 at *
          generalize rStartV rr x.a = w2 at *
          obtain ⟨cd, m2⟩ := w1
          obtain ⟨cd', r2⟩ := w2
          simp only at *
          refine ⟨H', fun K => ?_⟩
          unfold s_triunelaw08_MasterDoes_L0 s_triunelaw08_MasterDoes_B0
          unfold rqE at *
          unfold Mst.RB Mst.C at hG2k2
          simp -implicitDefEqProofs (disch := first | omega | (simp only [List.length_set, List.length_append, List.length_cons, List.length_nil, List.length_take, List.length_drop, List.length_map]; omega) | simp) [wrap_i64, wrap_u16_id, wrap_u8_id, tdiv_pos, tmod_pos, -getElem?_pos, -getElem?_neg, -List.length_eq_zero_iff, -List.getElem_cons_drop, h, hx, actE, c1, hT, hR, hB, hG2k2, q]
        · have hrel2 := rel_take hrel i0 x.b hbi.b
          obtain ⟨u3, H1, hT, hT1, hT2, hT3⟩ := mTake_c n k1 (by omega) H mm x.b .sh t1 t2 t3 hk1 ht hrel.ok.l (by omega)
          have hG1k2 : H1[k2]? = some (rr.RB s1 s2 s3) := hT3.same k2 _ (fun e => hk12 e.symm) (fun _ _ _ h => by cases h) hk2
          have hG1w := hT3.wf hw
          obtain ⟨v3, p3, hR⟩ := rTake_c n k2 0 (by omega) H1 rr x.b .sh s1 s2 s3 hG1k2 hG1w (by omega) o1 o2 o3 hrel.okr.l (by omega)
          have hG2k1 : (H1.set k2 ((rTakeV rr x.b).RB s1 s2 v3))[k1]? = some ((takeV mm x.b).B t1 t2 u3) := by rw [hp_set_ne _ _ _ _ hk12]; exact hT1
          have hG2k2 : (H1.set k2 ((rTakeV rr x.b).RB s1 s2 v3))[k2]? = some ((rTakeV rr x.b).RB s1 s2 v3) := hp_set_get _ _ _ (hp_lt hG1k2)
          have hG2w : WfH (H1.set k2 ((rTakeV rr x.b).RB s1 s2 v3)) := hG1w.set k2 (Mst.wfR o1 o2 p3)
          have hG2t : MTag t1 t2 u3 (takeV mm x.b).came.length (H1.set k2 ((rTakeV rr x.b).RB s1 s2 v3)) := hT2.set hG1k2
          generalize H1.set k2 ((rTakeV rr x.b).RB s1 s2 v3) = G2 at *
          obtain ⟨H', q⟩ := ih (i + 1) (takeV mm x.b) (rTakeV rr x.b) G2 t1 t2 u3 s1 s2 v3 (by omega) (by omega) (by rw [hi2]; exact hrel2) hG2k1 hG2k2 hG2t o1 o2 p3 hG2w
          rw [hi2] at q
          have hB := mBusy_c n k1 (by omega) G2 _ _ _ _ hG2k1
          have est := hrel2.st
          rw [est] at hB
          clear ih hrel hrel2 hw hG2t ht
          generalize takeV mm x.b = m2 at *
          generalize rTakeV rr x.b = r2 at *
          refine ⟨H', fun K => ?_⟩
          unfold s_triunelaw08_MasterDoes_L0 s_triunelaw08_MasterDoes_B0
          unfold Mst.RB Mst.C at hG2k2
          simp -implicitDefEqProofs (disch := first | omega | (simp only [List.length_set, List.length_append, List.length_cons, List.length_nil, List.length_take, List.length_drop, List.length_map]; omega) | simp) [wrap_i64, wrap_u16_id, wrap_u8_id, tdiv_pos, tmod_pos, -getElem?_pos, -getElem?_neg, -List.length_eq_zero_iff, -List.getElem_cons_drop, h, hx, actE, c0, c1, hT, hR, hB, hG2k2, q]
    · exact ⟨H, fun K => by unfold s_triunelaw08_MasterDoes_L0 s_triunelaw08_MasterDoes_B0; simp -implicitDefEqProofs (disch := first | omega | (simp only [List.length_set, List.length_append, List.length_cons, List.length_nil, List.length_take, List.length_drop, List.length_map]; omega) | simp) [wrap_i64, wrap_u16_id, wrap_u8_id, tdiv_pos, tmod_pos, -getElem?_pos, -getElem?_neg, -List.length_eq_zero_iff, -List.getElem_cons_drop, h]⟩
theorem shp_actT {d : Nat} {e : List DV} (h : Shp Tryz.prog (d + 4) 43 e) : ∃ x : ActT, elOf (isAgT Tryz.prog 43) e = actE x ∧ ActOk x := by
  have h := shp_struct Tryz.underlying43 h
  simp only [List.map_cons, List.map_nil, ShpFs] at h
  obtain ⟨a, _, rfl, ha, b, _, rfl, hb, c, _, rfl, hc, rfl⟩ := h
  obtain ⟨d, rfl, hd⟩ := shp_int (k := .i64) Tryz.underlying3 ha
  have hb := shp_struct Tryz.underlying40 hb
  simp only [List.map_cons, List.map_nil, ShpFs] at hb
  obtain ⟨a1, _, rfl, ha1, a2, _, rfl, ha2, a3, _, rfl, ha3, a4, _, rfl, ha4, a5, _, rfl, ha5, a6, _, rfl, ha6, a7, _, rfl, ha7, a8, _, rfl, ha8, rfl⟩ := hb
  obtain ⟨a1, rfl, w1⟩ := shp_int (k := .i64) Tryz.underlying3 ha1
  obtain ⟨a2, rfl, w2⟩ := shp_int (k := .i64) Tryz.underlying3 ha2
  obtain ⟨a3, rfl, w3⟩ := shp_int (k := .i64) Tryz.underlying3 ha3
  obtain ⟨a4, rfl, w4⟩ := shp_int (k := .i64) Tryz.underlying3 ha4
  obtain ⟨g, rfl, lg, wg⟩ := shp_ints (k := .u16) Tryz.underlying36 Tryz.underlying38 (by kernel_rfl) ha5
  obtain ⟨i, rfl, li, _⟩ := shp_slice (e := 4) Bo (fun _ => True) (sz := 1) Tryz.underlying37 (by kernel_rfl) (fun x hx => shp_bo hx) ha6
  obtain ⟨j, rfl, wj⟩ := shp_int (k := .u16) Tryz.underlying38 ha7
  obtain ⟨k, rfl, wk⟩ := shp_int (k := .u16) Tryz.underlying38 ha8
  obtain ⟨b, rfl, lb, wb⟩ := shp_ints (k := .u8) Tryz.underlying41 Tryz.underlying5 (by kernel_rfl) hc
  have y1 : Tryz.prog.bytesOf 38 = 2 := by kernel_rfl
  have y2 : Tryz.prog.bytesOf 4 = 1 := by kernel_rfl
  have y3 : Tryz.prog.bytesOf 5 = 1 := by kernel_rfl
  rw [y1] at lg
  rw [y2] at li
  rw [y3] at lb
  simp only [reachBytes] at lg li lb
  exact ⟨⟨d, ⟨a1, a2, a3, a4, g, i, j, k⟩, b⟩, by kernel_rfl, ⟨⟨fun x hx => wf_u16 (wg x hx), wf_u16 wj, wf_u16 wk, wf_i64 w1, wf_i64 w2, wf_i64 w3, wf_i64 w4⟩, fun x hx => wf_u8 (wb x hx), by show b.length ≤ _; omega, by show g.length ≤ _; omega, by show i.length ≤ _; omega⟩⟩
theorem bnil1 (t : Operand) : binD Tryz.prog .eql 27 t (.const (.pointer none)) (.flat (.pointer none)) (.flat (.pointer none)) = some (Bo true) := by kernel_rfl
theorem bnil2 (t : Operand) : binD Tryz.prog .eql 31 t (.const (.pointer none)) (.flat (.pointer none)) (.flat (.pointer none)) = some (Bo true) := by kernel_rfl
theorem does_run (n : Nat) (up : cP2 n 4 false [] = some (Bo true)) (hn : 39000 ≤ n) (u g wt tr : Int) (ls : List ActT) (hl : ls.length ≤ 140737488355328) (hb : ∀ x ∈ ls, ActOk x) (hnl : ls.length + 10 ≤ n) :
    ∃ H', s_triunelaw08_MasterDoes n [] 0 (cfgE u g wt tr) (LV 10 actE ls .sh) = some (Bo true, H') := by
  obtain ⟨sm, hS, hS2⟩ := small_c n ls hl hb hnl
  cases sm with
  | false =>
    unfold cfgE at *
    exact ⟨_, by unfold s_triunelaw08_MasterDoes; simp -implicitDefEqProofs (disch := first | omega | (simp only [List.length_set, List.length_append, List.length_cons, List.length_nil, List.length_take, List.length_drop, List.length_map]; omega) | simp) [wrap_i64, wrap_u16_id, wrap_u8_id, tdiv_pos, tmod_pos, -getElem?_pos, -getElem?_neg, -List.length_eq_zero_iff, -List.getElem_cons_drop, up, hS]; rfl⟩
  | true =>
    obtain ⟨hls, htot⟩ := hS2 rfl
    have hR := mRight_c n (by omega) u g wt tr
    have hR2 := rRight_c n (by omega) u g wt tr
    by_cases h0 : CfgP u g wt tr
    · rw [decide_eq_true h0] at hR hR2
      obtain ⟨⟨c1, c2⟩, ⟨c3, c4⟩, ⟨c5, c6⟩, c7, c8⟩ := id h0
      have hN := mNew_yes n (by omega) u g wt tr [cfgB u g wt tr] 0 (by simp) h0
      have hN2 := rNew_yes n (by omega) u g wt tr [cfgB u g wt tr, cfgB u g wt tr, (mst0 u g wt tr).B .ti .ti .ti] 0 (by simp) h0
      have bp := fun o => binD_ptr_nil (t := 27) Tryz.underlying27 o (.const (.pointer none)) 2 0
      have bp2 := fun o => binD_ptr_nil (t := 31) Tryz.underlying31 o (.const (.pointer none)) 3 0
      have ok0 : MstOk (mst0 u g wt tr) 0 := ⟨⟨by show 0 ≤ u; omega, by show u < 256; omega⟩, ⟨by show 0 ≤ wt; omega, by show wt ≤ _; omega⟩, .inl rfl, ⟨by show 0 ≤ g; omega, by show g ≤ _; omega⟩, ⟨Int.le_refl _, Int.le_refl _⟩, ⟨Int.le_refl _, Int.le_refl _⟩, fun h => absurd rfl h, ⟨fun y hy => (by cases hy), ⟨Int.le_refl _, by show (0 : Int) < _; decide⟩, ⟨Int.le_refl _, by show (0 : Int) < _; decide⟩, by show (0 : Nat) ≤ _; decide, by show (0 : Nat) ≤ _; decide⟩, fun y hy => (by cases hy), by show (0 : Nat) ≤ _; decide⟩
      have rel0 : MRel (mst0 u g wt tr) (mst0 u g wt tr) ((0 : Nat) : Int) := ⟨⟨rfl, rfl, rfl, rfl⟩, rfl, ⟨rfl, by show g ≤ 20 + ((0 : Nat) : Int); omega⟩, rfl, rfl, fun _ => rfl, fun _ => rfl, ok0, ok0⟩
      have w0 : WfH [cfgB u g wt tr, cfgB u g wt tr, (mst0 u g wt tr).B .ti .ti .ti, (mst0 u g wt tr).RB .ti .ti .ti] := by
        intro b hb
        simp only [List.mem_cons, List.not_mem_nil, or_false] at hb
        rcases hb with rfl | rfl | rfl | rfl
        · intro d hd; simp only [cfgB, List.mem_cons, List.not_mem_nil, or_false] at hd; rcases hd with rfl | rfl | rfl | rfl <;> rfl
        · intro d hd; simp only [cfgB, List.mem_cons, List.not_mem_nil, or_false] at hd; rcases hd with rfl | rfl | rfl | rfl <;> rfl
        · exact Mst.wf (.inr rfl) (.inr rfl) fun l => by simp
        · exact Mst.wfR (.inr rfl) (.inr rfl) (.inr rfl)
      obtain ⟨H', q⟩ := does_L n ls 2 3 (by decide) hls htot hb (by omega) n 0 (mst0 u g wt tr) (mst0 u g wt tr) [cfgB u g wt tr, cfgB u g wt tr, (mst0 u g wt tr).B .ti .ti .ti, (mst0 u g wt tr).RB .ti .ti .ti] .ti .ti .ti .ti .ti .ti (by omega) (by omega) rel0 rfl rfl ⟨.inr rfl, .inr rfl, .inl rfl⟩ (.inr rfl) (.inr rfl) (.inr rfl) w0
      have q := fun K => (s_triunelaw08_MasterDoes_L0_eq n 0 K n (LV 10 actE ls .sh) (Bo true) (.ptr 2 0) (.ptr 3 0) (I .i64 0) [cfgB u g wt tr, cfgB u g wt tr, (mst0 u g wt tr).B .ti .ti .ti, (mst0 u g wt tr).RB .ti .ti .ti]).trans (q K)
      generalize (mst0 u g wt tr).B .ti .ti .ti = M1 at *
      generalize (mst0 u g wt tr).RB .ti .ti .ti = M2 at *
      unfold cfgE cfgB at *
      exact ⟨_, by unfold s_triunelaw08_MasterDoes; simp -implicitDefEqProofs (disch := first | omega | (simp only [List.length_set, List.length_append, List.length_cons, List.length_nil, List.length_take, List.length_drop, List.length_map]; omega) | simp) [wrap_i64, wrap_u16_id, wrap_u8_id, tdiv_pos, tmod_pos, -getElem?_pos, -getElem?_neg, -List.length_eq_zero_iff, -List.getElem_cons_drop, up, hS, hR, hR2, hN, hN2, bp, bp2, q, s_triunelaw08_MasterDoes_O0]; rfl⟩
    · rw [decide_eq_false h0] at hR hR2
      have hN := mNew_no n (by omega) u g wt tr [cfgB u g wt tr] 0 (by simp) h0
      have hN2 := rNew_no n (by omega) u g wt tr [cfgB u g wt tr, cfgB u g wt tr] 0 h0
      unfold cfgE cfgB at *
      exact ⟨_, by unfold s_triunelaw08_MasterDoes; simp -implicitDefEqProofs (disch := first | omega | (simp only [List.length_set, List.length_append, List.length_cons, List.length_nil, List.length_take, List.length_drop, List.length_map]; omega) | simp) [wrap_i64, wrap_u16_id, wrap_u8_id, tdiv_pos, tmod_pos, -getElem?_pos, -getElem?_neg, -List.length_eq_zero_iff, -List.getElem_cons_drop, up, hS, hR, hR2, hN, hN2, bnil1, bnil2]; rfl⟩
theorem MasterDoes_all (e0 e1 : List DV) (h0 : Shp Tryz.prog 8 23 e0) (h1 : Shp Tryz.prog 8 24 e1) :
    ∃ N H', callG Tryz.prog ENV2 N 3 [elOf (isAgT Tryz.prog 23) e0, elOf (isAgT Tryz.prog 24) e1] [] 0 = some (.flat (.bool true), H') := by
  obtain ⟨u, g, wt, tr, r0, _⟩ := shp_cfg (d := 5) h0
  obtain ⟨l, rfl, hl, hb⟩ := shp_slice (e := 43) actE ActOk (sz := 10) Tryz.underlying24 (by kernel_rfl) (fun x hx => shp_actT (d := 3) hx) h1
  have y1 : Tryz.prog.bytesOf 43 = 120 := by kernel_rfl
  rw [y1] at hl
  simp only [reachBytes] at hl
  have r1 : elOf (isAgT Tryz.prog 24) [LV 10 actE l .sh] = LV 10 actE l .sh := by kernel_rfl
  obtain ⟨H', h⟩ := does_run (39998 + l.length + 1) (awake08u (39998 + l.length) (by omega)) (by omega) u g wt tr l (by omega) hb (by omega)
  rw [r0, r1]
  exact ⟨_, H', (s_triunelaw08_MasterDoes_eq (39998 + l.length + 1) [] 0 _ _).trans h⟩
end Go.Proofs.YtcpgmbpndpcmdaaGreat
