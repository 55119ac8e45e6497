/- Texts of mine, laid together: GMas2, GMas3, GMas4, GMas5, GMasL, GAw08. -/
import Derived.Test.YtcpgmbpndpcmdaaKG7
/- A master: what its functions leave and answer (second part). -/
namespace Go.Proofs.Ytcpgmbpndpcmdaa
open Go
set_option linter.unusedSimpArgs false
set_option linter.unusedVariables false
set_option maxRecDepth 100000
theorem prim_call0 {f : FuncId} {g : Prim} (hp : ENV.prim f = some g) (n : Nat) (args : List DV) (H : Heap) (fl : Nat) : callG Try.prog ENV (n + 1) f args H fl = g args H := by
  rw [callG_eq]
  unfold bodyG
  rw [hp]
theorem clone16_c (n : Nat) (hn : 1 ≤ n) (l : List Int) (t : Tag) (h : Words l) (hl : l.length ≤ 100000) : cP2 n 22 false [LV 1 (I .u16) l t] = some (LV 1 (I .u16) l .sh) := by
  obtain ⟨n, rfl⟩ : ∃ m, n = m + 1 := ⟨n - 1, by omega⟩
  have hp : ENV.prim 22 = some (primLL dW eW id) := by kernel_rfl
  refine cP_up (cP_of (args' := [LV 1 (I .u16) l .sh]) (r := mkl 1 ((id (toW l)).map eW) .sh) (H' := []) (by simp [argEl_eq]) ?_ ?_)
  · rw [prim_call0 hp]
    exact primLL_LV .sh [] (mapO_dW l h) (by unfold toW; simpa using hl)
  · show outD false [] (mkl 1 ((toW l).map eW) .sh) = _
    rw [mkl_eW, ofW_toW l h]
    simp
theorem cloneB_c (n : Nat) (hn : 1 ≤ n) (l : List Bool) (t : Tag) (hl : l.length ≤ 100000) : cP2 n 23 false [LV 1 Bo l t] = some (LV 1 Bo l .sh) := by
  obtain ⟨n, rfl⟩ : ∃ m, n = m + 1 := ⟨n - 1, by omega⟩
  have hp : ENV.prim 23 = some (primLL dT eT id) := by kernel_rfl
  refine cP_up (cP_of (args' := [LV 1 Bo l .sh]) (r := mkl 1 ((id l).map eT) .sh) (H' := []) (by simp [argEl_eq]) ?_ ?_)
  · rw [prim_call0 hp]
    exact primLL_LV .sh [] (mapO_dT l) hl
  · show outD false [] (mkl 1 (l.map eT) .sh) = _
    rw [mkl_eT]
    simp
def outZ : DBlk := .cells 50 [I .i64 0, I .i64 0, .list 0 [] .ti, .list 0 [] .ti, .list 0 [] .ti]
theorem WfH.out {H : Heap} (h : WfH H) : WfH (H ++ [outZ]) := h.app fun b hb => by
  simp only [List.mem_singleton] at hb
  subst hb
  intro d hd
  simp only [List.mem_cons, List.not_mem_nil, or_false] at hd
  rcases hd with rfl | rfl | rfl | rfl | rfl <;> rfl
theorem hp_set_same {H : Heap} {k : Nat} {b : DBlk} (h : H[k]? = some b) : H.set k b = H := by
  have hl := hp_lt h
  apply List.ext_getElem?
  intro j
  by_cases hj : j = k
  · subst hj; rw [hp_set_get _ _ _ hl, h]
  · rw [hp_set_ne _ _ _ _ hj]
/-- it could not: again, or how it failed -/
def failedV (m : Mst) (kind : Int) : Int × Mst := if m.n < m.tr then (0, m.turn 1) else (kind, m.turn 0)
theorem mFailed_c (n k fl : Nat) (hn : 2 ≤ n) (H : Heap) (m : Mst) (t1 t2 t3 : Tag) (kind : Int) (hk : H[k]? = some (m.B t1 t2 t3)) (hw : WfH H) (hfl : fl ≤ k) (h1 : okT t1) (h2 : okT t2) :
    cW2 n 51 [.ptr k 0, I .i64 kind] H fl = some (outE (failedV m kind).1 anZ .ti .ti .ti, H.set k ((failedV m kind).2.B t1 t2 .ti)) := by
  obtain ⟨n, rfl⟩ : ∃ m, n = m + 1 := ⟨n - 1, by omega⟩
  have hkl := hp_lt hk
  have hT := fun st => mTurn_c n k fl (by omega) (H ++ [outZ]) m t1 t2 t3 st (by rw [hp_get_left _ _ _ hkl]; exact hk) hw.out hfl h1 h2
  simp only [hp_set_left _ _ _ _ hkl] at hT
  have key : ∀ (r : Int × Mst), failedV m kind = r → (∃ st, r.2 = m.turn st) → (∃ o, s___master_Master__failed n H fl (.ptr k 0) (I .i64 kind) = some (outE r.1 anZ .ti .ti .ti, H.set k (r.2.B t1 t2 .ti) ++ [o])) →
      cW2 (n + 1) 51 [.ptr k 0, I .i64 kind] H fl = some (outE (failedV m kind).1 anZ .ti .ti .ti, H.set k ((failedV m kind).2.B t1 t2 .ti)) := by
    intro r e1 e2 ⟨o, h⟩
    rw [e1]
    exact cW2_of ((s___master_Master__failed_eq _ _ _ _ _).trans h) (by simp [outE]) (cutH_set hw (k := k) hkl (by simp [hkl]) (fun j hj hjk => by rw [hp_get_left _ _ _ (by simpa using hj), hp_set_ne _ _ _ _ hjk]) (Mst.old h1 h2 fun l => by simp))
  unfold s___master_Master__failed at key
  unfold failedV at key ⊢
  unfold Mst.B Mst.C at hk
  unfold outZ at hT
  by_cases c : m.n < m.tr
  · have hT := hT 1
    exact key _ (if_pos c) ⟨1, rfl⟩ ⟨_, by simp -implicitDefEqProofs (disch := first | omega | (simp only [List.length_set, List.length_append, List.length_cons, List.length_nil, List.length_take, List.length_drop, List.length_map]; omega) | simp) [wrap_i64, wrap_u16_id, wrap_u8_id, tdiv_pos, tmod_pos, -getElem?_pos, -getElem?_neg, -List.length_eq_zero_iff, -List.getElem_cons_drop, hk, hkl, c, hT, outE, anZ]; all_goals (repeat' (first | rfl | apply And.intro))⟩
  · have hT := hT 0
    exact key _ (if_neg c) ⟨0, rfl⟩ ⟨_, by simp -implicitDefEqProofs (disch := first | omega | (simp only [List.length_set, List.length_append, List.length_cons, List.length_nil, List.length_take, List.length_drop, List.length_map]; omega) | simp) [wrap_i64, wrap_u16_id, wrap_u8_id, tdiv_pos, tmod_pos, -getElem?_pos, -getElem?_neg, -List.length_eq_zero_iff, -List.getElem_cons_drop, hk, hkl, c, hT, outE, anZ]; all_goals (repeat' (first | rfl | apply And.intro))⟩
/-- what is sent -/
def frameV (m : Mst) : List Int := putI (m.u :: textV m.a)
def sendV (m : Mst) : List Int × Mst := if m.q < m.g ∧ m.f < m.wt then ([], m) else (frameV m, { m.turn 2 with q := 0, n := m.n + 1 })
/-- a tag of what came, behind a step -/
def KeepT (t3 t3' : Tag) (m r : Mst) : Prop := t3' = .ti ∧ r.came = [] ∨ t3' = t3 ∧ r.came = m.came
theorem text_few (a : Rq) (h : FormedP a) (ho : RqOk a) : 1 ≤ (textV a).length ∧ (textV a).length ≤ 253 := by
  refine ⟨?_, text_most a h⟩
  have := (text_back a h ho).2.2.2
  cases hq : textV a with
  | nil => exact absurd hq this
  | cons x l => simp
theorem mSend_c (n k fl : Nat) (hn : 1300 ≤ n) (H : Heap) (m : Mst) (t1 t2 t3 : Tag) (hk : H[k]? = some (m.B t1 t2 t3)) (hw : WfH H) (hfl : fl ≤ k) (ht : MTag t1 t2 t3 m.came.length H)
    (ha : RightP m.a) (oa : RqOk m.a) (hu : 0 ≤ m.u ∧ m.u < 256) (hnn : 0 ≤ m.n ∧ m.n < 1000000) :
    ∃ tb t3', KeepT t3 t3' m (sendV m).2 ∧ okT tb ∧ cW2 n 30 [.ptr k 0] H fl = some (.tup [LV 1 (I .u8) (sendV m).1 tb, outE 0 anZ .ti .ti .ti], H.set k ((sendV m).2.B t1 t2 t3')) := by
  obtain ⟨n, rfl⟩ : ∃ m, n = m + 1 := ⟨n - 1, by omega⟩
  have hkl := hp_lt hk
  have h1 := ht.a
  have h2 := ht.b
  have hold3 : ∀ (X : Heap) (l : List Int), oldLeaf H.length X (LV 1 (I .u8) l t3) = some (LV 1 (I .u8) l t3) := by
    intro X l
    have h3 := ht.sc 1 (I .u8) l
    unfold oldLeaf
    rw [LV_leaf, h3]
    rfl
  by_cases c : m.q < m.g ∧ m.f < m.wt
  · refine ⟨.ti, t3, .inr ⟨rfl, by unfold sendV; rw [if_pos c]⟩, .inr rfl, ?_⟩
    unfold sendV
    rw [if_pos c]
    have hR := mRest_c n k (by omega) (H ++ [outZ])
    refine cW2_of (r := .tup [LV 1 (I .u8) [] .ti, outE 0 anZ .ti .ti .ti]) (H' := H ++ [outZ]) ((s___master_Master__send_eq _ _ _ _).trans ?_) (by simp [outE]) (cutH_set hw (k := k) (b := m.B t1 t2 t3) hkl (by rw [hp_get_left _ _ _ hkl]; exact hk) (fun j hj hjk => by rw [hp_get_left _ _ _ hj]) (Mst.old h1 h2 (hold3 _)))
    obtain ⟨c1, c2⟩ := c
    unfold Mst.B Mst.C at hk
    unfold s___master_Master__send
    unfold outE anZ outZ at *
    simp -implicitDefEqProofs (disch := first | omega | (simp only [List.length_set, List.length_append, List.length_cons, List.length_nil, List.length_take, List.length_drop, List.length_map]; omega) | simp) [wrap_i64, wrap_u16_id, wrap_u8_id, tdiv_pos, tmod_pos, -getElem?_pos, -getElem?_neg, -List.length_eq_zero_iff, -List.getElem_cons_drop, hk, hkl, c1, c2, hR]
    all_goals (repeat' (first | rfl | apply And.intro))
  · obtain ⟨l1, l2⟩ := text_few m.a ha.1 oa
    have hT := mTurn_c n k fl (by omega) (H ++ [outZ]) m t1 t2 t3 2 (by rw [hp_get_left _ _ _ hkl]; exact hk) hw.out hfl h1 h2
    simp only [hp_set_left _ _ _ _ hkl] at hT
    have hA := cP_up (Bytes_c n (by omega) m.a oa t1 t2)
    rw [if_pos ha] at hA
    have hB := cP_up (rtu_Bytes_c n ⟨m.u, textV m.a⟩ .sh ⟨hu, text_bytes m.a, by show (textV m.a).length ≤ 1000; omega⟩ (by omega))
    unfold bytV at hB
    rw [if_neg (by show ¬ (textV m.a).length < 1; omega), if_neg (by show ¬ 253 < (textV m.a).length; omega)] at hB
    refine ⟨.sh, .ti, .inl ⟨rfl, by unfold sendV; rw [if_neg c]; rfl⟩, .inl rfl, ?_⟩
    unfold sendV
    rw [if_neg c]
    have key : (∃ o, s___master_Master__send n H fl (.ptr k 0) = some (.tup [LV 1 (I .u8) (frameV m) .sh, outE 0 anZ .ti .ti .ti], H.set k (Mst.B { m.turn 2 with q := 0, n := m.n + 1 } t1 t2 .ti) ++ [o])) →
        cW2 (n + 1) 30 [.ptr k 0] H fl = some (.tup [LV 1 (I .u8) (frameV m) .sh, outE 0 anZ .ti .ti .ti], H.set k (Mst.B { m.turn 2 with q := 0, n := m.n + 1 } t1 t2 .ti)) := by
      intro ⟨o, h⟩
      exact cW2_of ((s___master_Master__send_eq _ _ _ _).trans h) (by simp [outE]) (cutH_set hw (k := k) hkl (by simp [hkl]) (fun j hj hjk => by rw [hp_get_left _ _ _ (by simpa using hj), hp_set_ne _ _ _ _ hjk]) (Mst.old h1 h2 fun l => by simp))
    obtain ⟨n0, n1⟩ := hnn
    unfold s___master_Master__send frameV at key
    unfold frameV
    unfold Mst.B Mst.C Mst.turn at *
    unfold outE anZ outZ rqE fmE at *
    by_cases c1 : m.q < m.g
    · have c2 : ¬ m.f < m.wt := fun h => c ⟨c1, h⟩
      exact key ⟨_, by simp -implicitDefEqProofs (disch := first | omega | (simp only [List.length_set, List.length_append, List.length_cons, List.length_nil, List.length_take, List.length_drop, List.length_map]; omega) | simp) [wrap_i64, wrap_u16_id, wrap_u8_id, tdiv_pos, tmod_pos, -getElem?_pos, -getElem?_neg, -List.length_eq_zero_iff, -List.getElem_cons_drop, hk, hkl, c1, c2, hT, hA, hB, n0, n1]; all_goals (repeat' (first | rfl | apply And.intro))⟩
    · exact key ⟨_, by simp -implicitDefEqProofs (disch := first | omega | (simp only [List.length_set, List.length_append, List.length_cons, List.length_nil, List.length_take, List.length_drop, List.length_map]; omega) | simp) [wrap_i64, wrap_u16_id, wrap_u8_id, tdiv_pos, tmod_pos, -getElem?_pos, -getElem?_neg, -List.length_eq_zero_iff, -List.getElem_cons_drop, hk, hkl, c1, hT, hA, hB, n0, n1]; all_goals (repeat' (first | rfl | apply And.intro))⟩
/-- the answer that came, if it is one -/
def toldV (m : Mst) : An × Bool := if (rdV m.came).2 ≠ 0 ∨ (rdV m.came).1.u ≠ m.u then (anZ, false) else ((ansReadV m.a (rdV m.came).1.p).1, decide ((ansReadV m.a (rdV m.came).1.p).2 = 0))
theorem mTold_c (n k : Nat) (hn : 1300 ≤ n) (H : Heap) (m : Mst) (t1 t2 t3 : Tag) (hk : H[k]? = some (m.B t1 t2 t3)) (oa : RqOk m.a) (hb : Bytes m.came) (hl : m.came.length ≤ 1000) :
    ∃ s, okT s ∧ cO2 n 50 [.ptr k 0] H = some (.tup [anE (toldV m).1 s s s, Bo (toldV m).2]) := by
  obtain ⟨n, rfl⟩ : ∃ m, n = m + 1 := ⟨n - 1, by omega⟩
  have hkl := hp_lt hk
  have hR := cP_up (rtu_Read_c n m.came t3 hb hl (by omega))
  have ok := rdV_ok m.came hb
  have hA := Read_c n (by omega) m.a oa (rdV m.came).1.p ok.p t1 t2 .sh
  unfold toldV
  have key : ∀ (r : An × Bool) (s : Tag), (∃ H', s___master_Master__told n H H.length (.ptr k 0) = some (.tup [anE r.1 s s s, Bo r.2], H')) → okT s → cO2 (n + 1) 50 [.ptr k 0] H = some (.tup [anE r.1 s s s, Bo r.2]) := by
    intro r s ⟨H', h⟩ hs
    exact cO2_of ((s___master_Master__told_eq _ _ _ _).trans h) (by simp [anE, oldLeaf_okT hs])
  by_cases c1 : (rdV m.came).2 = 0
  · by_cases c2 : (rdV m.came).1.u = m.u
    · rw [if_neg (by simp [c1, c2])]
      unfold s___master_Master__told at key
      generalize (rdV m.came).2 = e at *
      generalize (rdV m.came).1 = x at *
      generalize (ansReadV m.a x.p).2 = e2 at *
      generalize (ansReadV m.a x.p).1 = y at *
      unfold Mst.B Mst.C rqE anE fmE at *
      exact ⟨.sh, .inl rfl, key (_, _) .sh ⟨_, by simp -implicitDefEqProofs (disch := first | omega | (simp only [List.length_set, List.length_append, List.length_cons, List.length_nil, List.length_take, List.length_drop, List.length_map]; omega) | simp) [wrap_i64, wrap_u16_id, wrap_u8_id, tdiv_pos, tmod_pos, -getElem?_pos, -getElem?_neg, -List.length_eq_zero_iff, -List.getElem_cons_drop, hk, hkl, c1, c2, hR, hA]; all_goals (repeat' (first | rfl | apply And.intro))⟩ (.inl rfl)⟩
    · rw [if_pos (.inr c2)]
      unfold s___master_Master__told at key
      generalize (rdV m.came).2 = e at *
      generalize (rdV m.came).1 = x at *
      unfold Mst.B Mst.C anE fmE anZ at *
      exact ⟨.ti, .inr rfl, key (_, _) .ti ⟨_, by simp -implicitDefEqProofs (disch := first | omega | (simp only [List.length_set, List.length_append, List.length_cons, List.length_nil, List.length_take, List.length_drop, List.length_map]; omega) | simp) [wrap_i64, wrap_u16_id, wrap_u8_id, tdiv_pos, tmod_pos, -getElem?_pos, -getElem?_neg, -List.length_eq_zero_iff, -List.getElem_cons_drop, hk, hkl, c1, c2, hR]; all_goals (repeat' (first | rfl | apply And.intro))⟩ (.inr rfl)⟩
  · rw [if_pos (.inl c1)]
    unfold s___master_Master__told at key
    generalize (rdV m.came).2 = e at *
    generalize (rdV m.came).1 = x at *
    unfold Mst.B Mst.C anE fmE anZ at *
    exact ⟨.ti, .inr rfl, key (_, _) .ti ⟨_, by simp -implicitDefEqProofs (disch := first | omega | (simp only [List.length_set, List.length_append, List.length_cons, List.length_nil, List.length_take, List.length_drop, List.length_map]; omega) | simp) [wrap_i64, wrap_u16_id, wrap_u8_id, tdiv_pos, tmod_pos, -getElem?_pos, -getElem?_neg, -List.length_eq_zero_iff, -List.getElem_cons_drop, hk, hkl, c1, hR]; all_goals (repeat' (first | rfl | apply And.intro))⟩ (.inr rfl)⟩
end Go.Proofs.Ytcpgmbpndpcmdaa

/- A master: what its functions leave and answer (third part): wait, Tick, Take, Start. -/
namespace Go.Proofs.Ytcpgmbpndpcmdaa
open Go
set_option linter.unusedSimpArgs false
set_option linter.unusedVariables false
set_option maxRecDepth 100000
set_option maxHeartbeats 1000000
/-- it waits: a kind, an answer, what is left -/
def waitV (m : Mst) : Int × An × Mst :=
  if m.came ≠ [] ∧ m.g ≤ m.q then (if (toldV m).2 = true then (1, (toldV m).1, m.turn 0) else ((failedV m 3).1, anZ, (failedV m 3).2))
  else if m.came ≠ [] ∧ 2 * m.wt ≤ m.f then ((failedV m 3).1, anZ, (failedV m 3).2)
  else if m.came = [] ∧ m.wt ≤ m.f then ((failedV m 2).1, anZ, (failedV m 2).2)
  else (0, anZ, m)
theorem failed_turn (m : Mst) (kind : Int) : ∃ st, (failedV m kind).2 = m.turn st := by
  unfold failedV
  split
  · exact ⟨1, rfl⟩
  · exact ⟨0, rfl⟩
theorem MTag.old {t1 t2 t3 : Tag} {len : Nat} {H : Heap} (ht : MTag t1 t2 t3 len H) (X : Heap) (l : List Int) : oldLeaf H.length X (LV 1 (I .u8) l t3) = some (LV 1 (I .u8) l t3) := by
  have h3 := ht.sc 1 (I .u8) l
  unfold oldLeaf
  rw [LV_leaf, h3]
  rfl
theorem mWait_c (n k fl : Nat) (hn : 1400 ≤ n) (H : Heap) (m : Mst) (t1 t2 t3 : Tag) (hk : H[k]? = some (m.B t1 t2 t3)) (hw : WfH H) (hfl : fl ≤ k) (ht : MTag t1 t2 t3 m.came.length H)
    (oa : RqOk m.a) (hb : Bytes m.came) (hl : m.came.length ≤ 1000) (hwt : 0 ≤ m.wt ∧ m.wt ≤ 1000000) :
    ∃ tb t3', KeepT t3 t3' m (waitV m).2.2 ∧ okT tb ∧ cW2 n 31 [.ptr k 0] H fl = some (.tup [LV 1 (I .u8) [] .ti, outE (waitV m).1 (waitV m).2.1 tb tb tb], H.set k ((waitV m).2.2.B t1 t2 t3')) := by
  obtain ⟨n, rfl⟩ : ∃ m, n = m + 1 := ⟨n - 1, by omega⟩
  have hkl := hp_lt hk
  have h1 := ht.a
  have h2 := ht.b
  have h3 := ht.old
  obtain ⟨w0, w1⟩ := hwt
  have hF := fun kind => mFailed_c n k fl (by omega) (H ++ [outZ]) m t1 t2 t3 kind (by rw [hp_get_left _ _ _ hkl]; exact hk) hw.out hfl h1 h2
  have hT := mTurn_c n k fl (by omega) (H ++ [outZ]) m t1 t2 t3 0 (by rw [hp_get_left _ _ _ hkl]; exact hk) hw.out hfl h1 h2
  have hR := mRest_c n k (by omega) (H ++ [outZ])
  simp only [hp_set_left _ _ _ _ hkl] at hF hT
  have key : ∀ (r : Int × An × Mst) (tb t3' : Tag), (waitV m) = r → okT tb → (t3' = .ti ∧ r.2.2.came = [] ∨ t3' = t3 ∧ r.2.2.came = m.came) →
      (∃ X, s___master_Master__wait n H fl (.ptr k 0) = some (.tup [LV 1 (I .u8) [] .ti, outE r.1 r.2.1 tb tb tb], H.set k (r.2.2.B t1 t2 t3') ++ X)) →
      ∃ tb t3', KeepT t3 t3' m (waitV m).2.2 ∧ okT tb ∧ cW2 (n + 1) 31 [.ptr k 0] H fl = some (.tup [LV 1 (I .u8) [] .ti, outE (waitV m).1 (waitV m).2.1 tb tb tb], H.set k ((waitV m).2.2.B t1 t2 t3')) := by
    intro r tb t3' e1 htb hk3 ⟨X, h⟩
    rw [e1]
    refine ⟨tb, t3', hk3, htb, cW2_of ((s___master_Master__wait_eq _ _ _ _).trans h) (by simp [outE, oldLeaf_okT htb]) (cutH_set hw (k := k) hkl (by simp [hkl]) (fun j hj hjk => by rw [hp_get_left _ _ _ (by simpa using hj), hp_set_ne _ _ _ _ hjk]) (Mst.old h1 h2 fun l => ?_))⟩
    rcases hk3 with ⟨rfl, _⟩ | ⟨rfl, _⟩
    · simp
    · exact h3 _ l
  obtain ⟨ts, hts, hD⟩ := mTold_c n k (by omega) (H ++ [outZ, .hole]) m t1 t2 t3 (by rw [hp_get_left _ _ _ hkl]; exact hk) oa hb hl
  have fc : ∀ kind, (failedV m kind).2.came = [] := fun kind => by
    obtain ⟨st, e⟩ := failed_turn m kind
    rw [e]
    rfl
  unfold waitV at key ⊢
  unfold s___master_Master__wait at key
  generalize toldV m = tv at *
  obtain ⟨y, is⟩ := tv
  have hk0 := hk
  by_cases c0 : m.came = []
  · simp only [c0, ne_eq, not_true, false_and, if_false, true_and] at key ⊢
    have hlen : m.came.length = 0 := by rw [c0]; rfl
    by_cases c1 : m.wt ≤ m.f
    · have hF := hF 2
      have fc := fc 2
      generalize failedV m 2 = r at *
      unfold Mst.B Mst.C at hk
      unfold outE outZ anZ at *
      exact key (r.1, anZ, r.2) .ti .ti (if_pos c1) (.inr rfl) (.inl ⟨rfl, fc⟩) ⟨_, by simp -implicitDefEqProofs (disch := first | omega | (simp only [List.length_set, List.length_append, List.length_cons, List.length_nil, List.length_take, List.length_drop, List.length_map]; omega) | simp) [wrap_i64, wrap_u16_id, wrap_u8_id, tdiv_pos, tmod_pos, -getElem?_pos, -getElem?_neg, -List.length_eq_zero_iff, -List.getElem_cons_drop, hk, hkl, hlen, c1, hF, anZ]; all_goals (repeat' (first | rfl | apply And.intro))⟩
    · have e := hp_set_same hk
      unfold Mst.B Mst.C at hk
      unfold outE outZ anZ at *
      exact key (0, anZ, m) .ti t3 (if_neg c1) (.inr rfl) (.inr ⟨rfl, c0⟩) ⟨_, by simp -implicitDefEqProofs (disch := first | omega | (simp only [List.length_set, List.length_append, List.length_cons, List.length_nil, List.length_take, List.length_drop, List.length_map]; omega) | simp) [wrap_i64, wrap_u16_id, wrap_u8_id, tdiv_pos, tmod_pos, -getElem?_pos, -getElem?_neg, -List.length_eq_zero_iff, -List.getElem_cons_drop, hk, hkl, hlen, c1, hR, e, anZ]; all_goals (repeat' (first | rfl | apply And.intro))⟩
  · simp only [c0, ne_eq, not_false_eq_true, false_and, if_false, true_and] at key ⊢
    have hlen : 0 < m.came.length := List.length_pos_iff.2 c0
    by_cases c1 : m.g ≤ m.q
    · cases is with
      | true =>
        simp only [if_pos c1, if_true] at key ⊢
        have hT := mTurn_c n k fl (by omega) (H ++ [outZ, .cells 48 (anE y ts ts ts).cells]) m t1 t2 t3 0 (by rw [hp_get_left _ _ _ hkl]; exact hk0) (hw.app fun b hb => by
          simp only [List.mem_cons, List.not_mem_nil, or_false] at hb
          rcases hb with rfl | rfl
          · intro d hd
            simp only [List.mem_cons, List.not_mem_nil, or_false] at hd
            rcases hd with rfl | rfl | rfl | rfl | rfl <;> rfl
          · intro d hd
            unfold anE at hd
            simp only [cells_agg, List.mem_cons, List.not_mem_nil, or_false] at hd
            rcases hd with rfl | rfl | rfl | rfl <;> simp [inSc_okT hts]) hfl h1 h2
        simp only [hp_set_left _ _ _ _ hkl] at hT
        unfold Mst.B Mst.C at hk
        unfold outE outZ anE at *
        simp only [cells_agg] at hT
        exact key (1, y, m.turn 0) ts .ti rfl hts (.inl ⟨rfl, rfl⟩) ⟨_, by simp -implicitDefEqProofs (disch := first | omega | (simp only [List.length_set, List.length_append, List.length_cons, List.length_nil, List.length_take, List.length_drop, List.length_map]; omega) | simp) [wrap_i64, wrap_u16_id, wrap_u8_id, tdiv_pos, tmod_pos, -getElem?_pos, -getElem?_neg, -List.length_eq_zero_iff, -List.getElem_cons_drop, hk, hkl, hlen, c1, hD, hT]; all_goals (repeat' (first | rfl | apply And.intro))⟩
      | false =>
        simp only [if_pos c1, Bool.false_eq_true, if_false] at key ⊢
        have hF := mFailed_c n k fl (by omega) (H ++ [outZ, .cells 48 (anE y ts ts ts).cells]) m t1 t2 t3 3 (by rw [hp_get_left _ _ _ hkl]; exact hk0) (hw.app fun b hb => by
          simp only [List.mem_cons, List.not_mem_nil, or_false] at hb
          rcases hb with rfl | rfl
          · intro d hd
            simp only [List.mem_cons, List.not_mem_nil, or_false] at hd
            rcases hd with rfl | rfl | rfl | rfl | rfl <;> rfl
          · intro d hd
            unfold anE at hd
            simp only [cells_agg, List.mem_cons, List.not_mem_nil, or_false] at hd
            rcases hd with rfl | rfl | rfl | rfl <;> simp [inSc_okT hts]) hfl h1 h2
        simp only [hp_set_left _ _ _ _ hkl] at hF
        have fc := fc 3
        generalize failedV m 3 = r at *
        unfold Mst.B Mst.C at hk
        unfold outE outZ anE anZ at *
        simp only [cells_agg] at hF
        exact key (r.1, anZ, r.2) .ti .ti rfl (.inr rfl) (.inl ⟨rfl, fc⟩) ⟨_, by simp -implicitDefEqProofs (disch := first | omega | (simp only [List.length_set, List.length_append, List.length_cons, List.length_nil, List.length_take, List.length_drop, List.length_map]; omega) | simp) [wrap_i64, wrap_u16_id, wrap_u8_id, tdiv_pos, tmod_pos, -getElem?_pos, -getElem?_neg, -List.length_eq_zero_iff, -List.getElem_cons_drop, hk, hkl, hlen, c1, hD, hF, anZ]; all_goals (repeat' (first | rfl | apply And.intro))⟩
    · by_cases c2 : 2 * m.wt ≤ m.f
      · simp only [if_neg c1, if_pos c2] at key ⊢
        have hF := hF 3
        have fc := fc 3
        generalize failedV m 3 = r at *
        unfold Mst.B Mst.C at hk
        unfold outE outZ anZ at *
        exact key (r.1, anZ, r.2) .ti .ti rfl (.inr rfl) (.inl ⟨rfl, fc⟩) ⟨_, by simp -implicitDefEqProofs (disch := first | omega | (simp only [List.length_set, List.length_append, List.length_cons, List.length_nil, List.length_take, List.length_drop, List.length_map]; omega) | simp) [wrap_i64, wrap_u16_id, wrap_u8_id, tdiv_pos, tmod_pos, -getElem?_pos, -getElem?_neg, -List.length_eq_zero_iff, -List.getElem_cons_drop, hk, hkl, hlen, c1, c2, hF, anZ]; all_goals (repeat' (first | rfl | apply And.intro))⟩
      · simp only [if_neg c1, if_neg c2] at key ⊢
        have e := hp_set_same hk
        unfold Mst.B Mst.C at hk
        unfold outE outZ anZ at *
        exact key (0, anZ, m) .ti t3 rfl (.inr rfl) (.inr ⟨rfl, rfl⟩) ⟨_, by simp -implicitDefEqProofs (disch := first | omega | (simp only [List.length_set, List.length_append, List.length_cons, List.length_nil, List.length_take, List.length_drop, List.length_map]; omega) | simp) [wrap_i64, wrap_u16_id, wrap_u8_id, tdiv_pos, tmod_pos, -getElem?_pos, -getElem?_neg, -List.length_eq_zero_iff, -List.getElem_cons_drop, hk, hkl, hlen, c1, c2, hR, e, anZ]; all_goals (repeat' (first | rfl | apply And.intro))⟩
end Go.Proofs.Ytcpgmbpndpcmdaa

/- A master: what its functions leave and answer (fourth part): Tick, Take, Start. -/
namespace Go.Proofs.Ytcpgmbpndpcmdaa
open Go
set_option linter.unusedSimpArgs false
set_option linter.unusedVariables false
set_option maxRecDepth 100000
set_option maxHeartbeats 1000000
@[simp] theorem cells_clo (fn : Fn) (a b : List DV) : (DV.clo fn a b).cells = [.clo fn a b] := rfl
@[simp] theorem leaf_clo (fn : Fn) (a b : List DV) : (DV.clo fn a b).leaf = true := rfl
@[simp] theorem idxV_agg (ag : Bool) (sz len : Nat) (cs : List DV) (k : IntKind) (i : Int) (h0 : 0 ≤ i) (h1 : i < len) : idxV ag sz len (.agg cs) (.flat (.int k i)) = partD ag sz (i.toNat * sz) cs := by
  unfold idxV intD
  simp only [h0, h1, and_self, if_true]
theorem cV2_ro {n fl f : Nat} {x : DV} {fs args : List DV} {H : Heap} {d : DV} (hm : ENV2.md f = .ro) (h : cO2 n f (x :: fs ++ args) H = some d) : cV2 n fl (.clo (.func f) (x :: fs) []) args H = some (d, H) := by
  unfold cV2 callVG callV
  simp only [fnOf, hm, List.append_nil]
  have := callO_ok (cf' := callG Try.prog ENV2 n) (fun _ _ _ _ _ h => h) (fl := fl) h
  unfold callO at this
  rw [this]
  rfl
theorem cV2_rw {n fl f : Nat} {x : DV} {fs args : List DV} {H : Heap} (hm : ENV2.md f = .rw) : cV2 n fl (.clo (.func f) (x :: fs) []) args H = cW2 n f (x :: fs ++ args) H fl := by
  unfold cV2 callVG callV cW2 callW
  simp only [fnOf, hm, callD, List.append_nil]
  cases callG Try.prog ENV2 n f (x :: fs ++ args) H fl with
  | none => rfl
  | some r =>
    simp only [Option.bind_some, bi_some]
    cases oldD H.length r.2 r.1 with
    | none => rfl
    | some d =>
      simp only [Option.bind_some, bi_some]
      cases cutH H.length r.2 with
      | none => rfl
      | some H' => rfl
/-- a tick -/
def Mst.tock (m : Mst) : Mst := { m with q := min (m.q + 1) 1048576, f := m.f + 1 }
def tickV (m : Mst) : List Int × Int × An × Mst := if m.st = 0 then ([], 0, anZ, m.tock) else if m.st = 1 then ((sendV m.tock).1, 0, anZ, (sendV m.tock).2) else ([], waitV m.tock)
structure MstOk (m : Mst) (x : Int) : Prop where
  u : 0 ≤ m.u ∧ m.u < 256
  wt : 0 ≤ m.wt ∧ m.wt ≤ 1000000
  st : m.st = 0 ∨ m.st = 1 ∨ m.st = 2
  q : 0 ≤ m.q ∧ m.q ≤ 1048576
  f : 0 ≤ m.f ∧ m.f ≤ x
  n : 0 ≤ m.n ∧ m.n ≤ x
  a : m.st ≠ 0 → RightP m.a
  oa : RqOk m.a
  b : Bytes m.came
  l : m.came.length ≤ 300
theorem mTick_c (n k fl : Nat) (hn : 1500 ≤ n) (H : Heap) (m : Mst) (x : Int) (t1 t2 t3 : Tag) (hk : H[k]? = some (m.B t1 t2 t3)) (hw : WfH H) (hfl : fl ≤ k) (ht : MTag t1 t2 t3 m.came.length H) (ok : MstOk m x) (hx : x < 1000000) :
    ∃ tb tq t3', KeepT t3 t3' m (tickV m).2.2.2 ∧ okT tb ∧ okT tq ∧ cW2 n 13 [.ptr k 0] H fl = some (.tup [LV 1 (I .u8) (tickV m).1 tb, outE (tickV m).2.1 (tickV m).2.2.1 tq tq tq], H.set k ((tickV m).2.2.2.B t1 t2 t3')) := by
  obtain ⟨n, rfl⟩ : ∃ m, n = m + 1 := ⟨n - 1, by omega⟩
  have hkl := hp_lt hk
  have h1 := ht.a
  have h2 := ht.b
  have h3 := ht.old
  obtain ⟨q0, q1⟩ := ok.q
  obtain ⟨f0, f1⟩ := ok.f
  have n0 := ok.n
  have hf2 : m.f + 1 < 9223372036854775808 := by omega
  have key : ∀ (r : List Int × Int × An × Mst) (tb tq t3' : Tag), tickV m = r → okT tb → okT tq → KeepT t3 t3' m r.2.2.2 →
      (∃ X, s___master_Master__Tick n H fl (.ptr k 0) = some (.tup [LV 1 (I .u8) r.1 tb, outE r.2.1 r.2.2.1 tq tq tq], H.set k (r.2.2.2.B t1 t2 t3') ++ X)) →
      ∃ tb tq t3', KeepT t3 t3' m (tickV m).2.2.2 ∧ okT tb ∧ okT tq ∧ cW2 (n + 1) 13 [.ptr k 0] H fl = some (.tup [LV 1 (I .u8) (tickV m).1 tb, outE (tickV m).2.1 (tickV m).2.2.1 tq tq tq], H.set k ((tickV m).2.2.2.B t1 t2 t3')) := by
    intro r tb tq t3' e1 htb hto hk3 ⟨X, h⟩
    rw [e1]
    refine ⟨tb, tq, t3', hk3, htb, hto, cW2_of ((s___master_Master__Tick_eq _ _ _ _).trans h) (by simp [outE, oldLeaf_okT htb, oldLeaf_okT hto]) (cutH_set hw (k := k) hkl (by simp [hkl]) (fun j hj hjk => by rw [hp_get_left _ _ _ (by simpa using hj), hp_set_ne _ _ _ _ hjk]) (Mst.old h1 h2 fun l => ?_))⟩
    rcases hk3 with ⟨rfl, _⟩ | ⟨rfl, _⟩
    · simp
    · exact h3 _ l
  have hk1 : (H.set k (m.tock.B t1 t2 t3) ++ [outZ])[k]? = some (m.tock.B t1 t2 t3) := by simp [hkl]
  have hw1 : WfH (H.set k (m.tock.B t1 t2 t3)) := hw.set k (Mst.wf h1 h2 fun l => ht.sc 1 (I .u8) l)
  have ht1 : MTag t1 t2 t3 m.tock.came.length (H.set k (m.tock.B t1 t2 t3) ++ [outZ]) := by
    refine ⟨h1, h2, ?_⟩
    rcases ht.c with rfl | ⟨j, rfl, hj, hj0⟩
    · exact .inl rfl
    · have hjl := hp_lt hj
      have hjk : j ≠ k := by
        rintro rfl
        rw [hk] at hj
        cases hj
      exact .inr ⟨j, rfl, by rw [hp_get_left _ _ _ (by simpa using hjl), hp_set_ne _ _ _ _ hjk]; exact hj, hj0⟩
  have e0 : m.q + 1 < 9223372036854775808 := by omega
  have hmin : ∀ H', storeG 1 (.ptr k 5) (I .i64 (min (m.q + 1) 1048576)) H' fl = storeG 1 (.ptr k 5) (I .i64 m.tock.q) H' fl := fun _ => rfl
  unfold tickV at key ⊢
  unfold s___master_Master__Tick at key
  rcases ok.st with s | s | s
  · have hR := mRest_c n k (by omega) (H.set k (m.tock.B t1 t2 t3) ++ [outZ])
    have hV := cV2_ro (fl := fl) (n := n) (f := 29) (x := .ptr k 0) (fs := []) (args := []) (by kernel_rfl) hR
    simp only [s, if_true] at key ⊢
    unfold Mst.tock Mst.B Mst.C at *
    unfold outE outZ anZ at *
    rw [s] at hk hV
    exact key ([], 0, _, _) .ti .ti t3 rfl (.inr rfl) (.inr rfl) (.inr ⟨rfl, rfl⟩) ⟨_, by simp -implicitDefEqProofs (disch := first | omega | (simp only [List.length_set, List.length_append, List.length_cons, List.length_nil, List.length_take, List.length_drop, List.length_map]; omega) | simp) [wrap_i64, wrap_u16_id, wrap_u8_id, tdiv_pos, tmod_pos, -getElem?_pos, -getElem?_neg, -List.length_eq_zero_iff, -List.getElem_cons_drop, hk, hkl, hV, f0, hf2, q0, e0, s]; all_goals (repeat' (first | rfl | apply And.intro))⟩
  · obtain ⟨tb, t3', k1, k2, hS⟩ := mSend_c n k fl (by omega) (H.set k (m.tock.B t1 t2 t3) ++ [outZ]) m.tock t1 t2 t3 hk1 hw1.out hfl ht1 (ok.a (by omega)) ok.oa ok.u ⟨n0.1, by show m.n < _; omega⟩
    have hV := cV2_rw (n := n) (fl := fl) (f := 30) (x := .ptr k 0) (fs := []) (args := []) (H := H.set k (m.tock.B t1 t2 t3) ++ [outZ]) (by kernel_rfl)
    rw [List.append_nil, hS] at hV
    simp only [hp_set_left _ _ _ _ (show k < (H.set k (m.tock.B t1 t2 t3)).length by simpa using hkl), List.set_set] at hV
    clear hS
    simp only [s, if_true, show ¬ (1 : Int) = 0 by decide, if_false] at key ⊢
    generalize hr : sendV m.tock = r at *
    unfold Mst.tock Mst.B Mst.C at *
    unfold outE outZ anZ at *
    rw [s] at hk hV
    exact key (r.1, 0, _, r.2) tb .ti t3' rfl k2 (.inr rfl) k1 ⟨_, by simp -implicitDefEqProofs (disch := first | omega | (simp only [List.length_set, List.length_append, List.length_cons, List.length_nil, List.length_take, List.length_drop, List.length_map]; omega) | simp) [wrap_i64, wrap_u16_id, wrap_u8_id, tdiv_pos, tmod_pos, -getElem?_pos, -getElem?_neg, -List.length_eq_zero_iff, -List.getElem_cons_drop, hk, hkl, hV, f0, hf2, q0, e0, s]; all_goals (repeat' (first | rfl | apply And.intro))⟩
  · obtain ⟨tb, t3', k1, k2, hS⟩ := mWait_c n k fl (by omega) (H.set k (m.tock.B t1 t2 t3) ++ [outZ]) m.tock t1 t2 t3 hk1 hw1.out hfl ht1 ok.oa ok.b (by have := ok.l; show m.came.length ≤ _; omega) ok.wt
    have hV := cV2_rw (n := n) (fl := fl) (f := 31) (x := .ptr k 0) (fs := []) (args := []) (H := H.set k (m.tock.B t1 t2 t3) ++ [outZ]) (by kernel_rfl)
    rw [List.append_nil, hS] at hV
    simp only [hp_set_left _ _ _ _ (show k < (H.set k (m.tock.B t1 t2 t3)).length by simpa using hkl), List.set_set] at hV
    clear hS
    simp only [s, show ¬ (2 : Int) = 0 by decide, show ¬ (2 : Int) = 1 by decide, if_false] at key ⊢
    generalize hr : waitV m.tock = r at *
    unfold Mst.tock Mst.B Mst.C at *
    unfold outE outZ at *
    rw [s] at hk hV
    exact key ([], r) .ti tb t3' rfl (.inr rfl) k2 k1 ⟨_, by simp -implicitDefEqProofs (disch := first | omega | (simp only [List.length_set, List.length_append, List.length_cons, List.length_nil, List.length_take, List.length_drop, List.length_map]; omega) | simp) [wrap_i64, wrap_u16_id, wrap_u8_id, tdiv_pos, tmod_pos, -getElem?_pos, -getElem?_neg, -List.length_eq_zero_iff, -List.getElem_cons_drop, hk, hkl, hV, f0, hf2, q0, e0, s]; all_goals (repeat' (first | rfl | apply And.intro))⟩
end Go.Proofs.Ytcpgmbpndpcmdaa

/- A master: what its functions leave and answer (fifth part): Take, Start. -/
namespace Go.Proofs.Ytcpgmbpndpcmdaa
open Go
set_option linter.unusedSimpArgs false
set_option linter.unusedVariables false
set_option maxRecDepth 100000
set_option maxHeartbeats 1000000
/-- what it takes -/
def takeV (m : Mst) (b : List Int) : Mst := if b = [] then m else if m.st = 2 then { m with q := 0, came := m.came ++ b.take (300 - m.came.length) } else { m with q := 0 }
/-- a heap in which a master was turned -/
structure Turned (H H' : Heap) (k : Nat) : Prop where
  len : H.length ≤ H'.length
  same : ∀ j b, j ≠ k → (∀ e s n, b ≠ DBlk.token e s n) → H[j]? = some b → H'[j]? = some b
  wf : WfH H → WfH H'
theorem Turned.refl (H : Heap) (k : Nat) : Turned H H k := ⟨Nat.le_refl _, fun _ _ _ _ h => h, id⟩
theorem Turned.set {H : Heap} {k : Nat} {b : DBlk} (hb : WfB H.length b) : Turned H (H.set k b) k := ⟨by simp, fun j c hj _ h => by rw [hp_set_ne _ _ _ _ hj]; exact h, fun h => h.set k hb⟩
theorem MTag.set {t1 t2 t3 : Tag} {len k : Nat} {H : Heap} {e : TypeId} {cs : List DV} {b : DBlk} (h : MTag t1 t2 t3 len H) (hk : H[k]? = some (.cells e cs)) : MTag t1 t2 t3 len (H.set k b) := by
  refine ⟨h.a, h.b, ?_⟩
  rcases h.c with rfl | ⟨j, rfl, hj, h0⟩
  · exact .inl rfl
  · have hjk : j ≠ k := by
      rintro rfl
      rw [hk] at hj
      cases hj
    exact .inr ⟨j, rfl, by rw [hp_set_ne _ _ _ _ hjk]; exact hj, h0⟩
theorem take_min (b : List Int) (c : Nat) (hc : c ≤ 300) : b.take (min (b.length : Int) (300 - (c : Int))).toNat = b.take (300 - c) := by
  have e : (min (b.length : Int) (300 - (c : Int))).toNat = min (300 - c) b.length := by omega
  rw [e, ← List.take_take, List.take_length]
theorem mTake_c (n k : Nat) (hn : 5 ≤ n) (H : Heap) (m : Mst) (b : List Int) (t t1 t2 t3 : Tag) (hk : H[k]? = some (m.B t1 t2 t3)) (ht : MTag t1 t2 t3 m.came.length H) (hl : m.came.length ≤ 300) (hb : b.length ≤ 1000000) :
    ∃ t3' H', cK2 n 12 [.ptr k 0, LV 1 (I .u8) b t] H 0 = some (.tup [], H') ∧ H'[k]? = some ((takeV m b).B t1 t2 t3') ∧ MTag t1 t2 t3' (takeV m b).came.length H' ∧ Turned H H' k := by
  obtain ⟨n, rfl⟩ : ∃ m, n = m + 1 := ⟨n - 1, by omega⟩
  have hkl := hp_lt hk
  have hlen : ∀ l : List Int, l ≠ [] → ¬ (l.length : Int) = 0 := fun l h h' => h (List.eq_nil_of_length_eq_zero (by omega))
  unfold cK2 takeV
  by_cases c1 : b = []
  · subst c1
    refine ⟨t3, H, (s___master_Master__Take_eq _ _ _ _ _).trans ?_, by rw [if_pos rfl]; exact hk, by rw [if_pos rfl]; exact ht, Turned.refl _ _⟩
    unfold s___master_Master__Take
    simp -implicitDefEqProofs (disch := first | omega | (simp only [List.length_set, List.length_append, List.length_cons, List.length_nil, List.length_take, List.length_drop, List.length_map]; omega) | simp) [wrap_i64, wrap_u16_id, wrap_u8_id, tdiv_pos, tmod_pos, -getElem?_pos, -getElem?_neg, -List.length_eq_zero_iff, -List.getElem_cons_drop]
  · have hbl := hlen b c1
    rw [if_neg c1]
    have hq : WfB H.length (Mst.B { m with q := 0 } t1 t2 t3) := Mst.wf ht.a ht.b fun l => ht.sc 1 (I .u8) l
    by_cases c2 : m.st = 2
    · rw [if_pos c2]
      obtain ⟨t4, H2, hA, hT, h2l, _, h2w, h2x⟩ := appG_all (e := 5) (ag := false) (sz := 1) (by_ := 1) (n0 := 0) (enc := I .u8) (xs := m.came) (ys := b.take (300 - m.came.length)) (t := t3) (t' := slT t ((min (b.length : Int) (300 - (m.came.length : Int))).toNat == b.length))
        (H := H.set k (Mst.B { m with q := 0 } t1 t2 t3)) (fl := 0) (Nat.le_refl _) (Nat.zero_le _) (ht.set hk).c rfl (by simp only [List.length_take]; omega) (by simp only [List.length_take]; omega)
      have hk2 : H2[k]? = some (Mst.B { m with q := 0 } t1 t2 t3) := h2x.2 k _ (hp_set_get _ _ _ hkl) (fun _ _ _ => by unfold Mst.B; exact fun h => by cases h)
      have hk2l := hp_lt hk2
      have hsc : ∀ l : List Int, inSc H2.length (LV 1 (I .u8) l t4) = true := fun l => (MTag.sc ⟨ht.a, ht.b, hT⟩ 1 (I .u8) l)
      have hfin : Turned H (H2.set k (Mst.B { m with q := 0, came := m.came ++ b.take (300 - m.came.length) } t1 t2 t4)) k := by
        refine ⟨by simp at h2l ⊢; omega, fun j c hj hc h => ?_, fun h => (h2w (h.set k hq)).set k (Mst.wf ht.a ht.b hsc)⟩
        rw [hp_set_ne _ _ _ _ hj]
        exact h2x.2 j c (by rw [hp_set_ne _ _ _ _ hj]; exact h) hc
      refine ⟨t4, _, (s___master_Master__Take_eq _ _ _ _ _).trans ?_, hp_set_get _ _ _ hk2l, ?_, hfin⟩
      · have e5 := take_min b m.came.length hl
        have hm0 : 0 ≤ min (b.length : Int) (300 - (m.came.length : Int)) := by omega
        have hm1 : min (b.length : Int) (300 - (m.came.length : Int)) ≤ b.length := by omega
        unfold s___master_Master__Take
        unfold Mst.B Mst.C at *
        simp only at *
        rw [c2] at hk hA hk2 ⊢
        simp -implicitDefEqProofs (disch := first | omega | (simp only [List.length_set, List.length_append, List.length_cons, List.length_nil, List.length_take, List.length_drop, List.length_map]; omega) | simp) [wrap_i64, wrap_u16_id, wrap_u8_id, tdiv_pos, tmod_pos, -getElem?_pos, -getElem?_neg, -List.length_eq_zero_iff, -List.getElem_cons_drop, hk, hkl, hbl, hA, hk2, hk2l, hm0, hm1, e5]
      · exact MTag.set (e := 62) (cs := Mst.C { m with q := 0 } t1 t2 t3) ⟨ht.a, ht.b, hT⟩ hk2
    · rw [if_neg c2]
      refine ⟨t3, H.set k (Mst.B { m with q := 0 } t1 t2 t3), (s___master_Master__Take_eq _ _ _ _ _).trans ?_, hp_set_get _ _ _ hkl, ht.set hk, Turned.set hq⟩
      unfold s___master_Master__Take
      unfold Mst.B Mst.C at *
      simp -implicitDefEqProofs (disch := first | omega | (simp only [List.length_set, List.length_append, List.length_cons, List.length_nil, List.length_take, List.length_drop, List.length_map]; omega) | simp) [wrap_i64, wrap_u16_id, wrap_u8_id, tdiv_pos, tmod_pos, -getElem?_pos, -getElem?_neg, -List.length_eq_zero_iff, -List.getElem_cons_drop, hk, hkl, hbl, c2]
      all_goals (repeat' (first | rfl | apply And.intro))
/-- it is asked to ask -/
def startV (m : Mst) (a : Rq) : Int × Mst := if m.st ≠ 0 then (8, m) else if ¬ RightP a then (2, m) else (0, { m with st := 1, f := 0, n := 0, a := a, came := [] })
theorem mStart_c (n k fl : Nat) (hn : 20 ≤ n) (H : Heap) (m : Mst) (a : Rq) (s1 s2 t1 t2 t3 : Tag) (hk : H[k]? = some (m.B t1 t2 t3)) (hw : WfH H) (hfl : fl ≤ k) (ht : MTag t1 t2 t3 m.came.length H) (oa : RqOk a) (os1 : okT s1) (os2 : okT s2) :
    ∃ t1' t2' t3', okT t1' ∧ okT t2' ∧ KeepT t3 t3' m (startV m a).2 ∧ cW2 n 9 [.ptr k 0, rqE a s1 s2] H fl = some (I .i64 (startV m a).1, H.set k ((startV m a).2.B t1' t2' t3')) := by
  obtain ⟨n, rfl⟩ : ∃ m, n = m + 1 := ⟨n - 1, by omega⟩
  have hkl := hp_lt hk
  have h1 := ht.a
  have h2 := ht.b
  have h3 := ht.old
  have same : ∀ (e : Int) (X : Heap), s___master_Master__Start n H fl (.ptr k 0) (rqE a s1 s2) = some (I .i64 e, H ++ X) → cW2 (n + 1) 9 [.ptr k 0, rqE a s1 s2] H fl = some (I .i64 e, H.set k (m.B t1 t2 t3)) := by
    intro e X h
    exact cW2_of ((s___master_Master__Start_eq _ _ _ _ _).trans h) (by simp) (cutH_set hw (k := k) (b := m.B t1 t2 t3) hkl (by rw [hp_get_left _ _ _ hkl]; exact hk) (fun j hj hjk => by rw [hp_get_left _ _ _ hj]) (Mst.old h1 h2 (h3 _)))
  have hB := fun X => mBusy_c n k (by omega) (H ++ X) m t1 t2 t3 (by rw [hp_get_left _ _ _ hkl]; exact hk)
  have hR := cP_up (Right_c n (by omega) a s1 s2)
  unfold startV
  by_cases c1 : m.st = 0
  · rw [if_neg (by simpa using c1)]
    have hB : ∀ X, cO2 n 15 [.ptr k 0] (H ++ X) = some (Bo false) := fun X => by rw [hB X, c1]; rfl
    by_cases c2 : RightP a
    · rw [if_neg (by simpa using c2)]
      rw [decide_eq_true c2] at hR
      have hC := clone16_c n (by omega) a.words s1 oa.w (by have := oa.lw; omega)
      have hD := cloneB_c n (by omega) a.bits s2 (by have := oa.lb; omega)
      have hbox : WfH (H.set k (Mst.B { m with a := a, n := 0 } .sh .sh t3) ++ [.cells 28 (rqE a .sh .sh).cells]) := (hw.set k (Mst.wf (.inl rfl) (.inl rfl) fun l => ht.sc 1 (I .u8) l)).app fun b hb => by
        simp only [List.mem_singleton] at hb
        subst hb
        intro d hd
        unfold rqE at hd
        simp only [cells_agg, List.mem_cons, List.not_mem_nil, or_false] at hd
        rcases hd with rfl | rfl | rfl | rfl | rfl | rfl | rfl | rfl <;> simp
      have hT := mTurn_c n k fl (by omega) (H.set k (Mst.B { m with a := a, n := 0 } .sh .sh t3) ++ [.cells 28 (rqE a .sh .sh).cells]) { m with a := a, n := 0 } .sh .sh t3 1 (by simp [hkl]) hbox hfl (.inl rfl) (.inl rfl)
      simp only [hp_set_left _ _ _ _ (show k < (H.set k (Mst.B { m with a := a, n := 0 } .sh .sh t3)).length by simpa using hkl), List.set_set] at hT
      refine ⟨.sh, .sh, .ti, .inl rfl, .inl rfl, .inl ⟨rfl, rfl⟩, ?_⟩
      refine cW2_of (r := I .i64 0) (H' := H.set k (Mst.B { m with st := 1, f := 0, n := 0, a := a, came := [] } .sh .sh .ti) ++ [.cells 28 (rqE a .sh .sh).cells]) ((s___master_Master__Start_eq _ _ _ _ _).trans ?_) (by simp) (cutH_set hw (k := k) hkl (by simp [hkl]) (fun j hj hjk => by rw [hp_get_left _ _ _ (by simpa using hj), hp_set_ne _ _ _ _ hjk]) (Mst.old (.inl rfl) (.inl rfl) fun l => by simp))
      unfold s___master_Master__Start
      unfold Mst.B Mst.C Mst.turn at *
      unfold rqE at *
      simp only [cells_agg] at hT ⊢
      simp -implicitDefEqProofs (disch := first | omega | (simp only [List.length_set, List.length_append, List.length_cons, List.length_nil, List.length_take, List.length_drop, List.length_map]; omega) | simp) [wrap_i64, wrap_u16_id, wrap_u8_id, tdiv_pos, tmod_pos, -getElem?_pos, -getElem?_neg, -List.length_eq_zero_iff, -List.getElem_cons_drop, hk, hkl, hB, hR, hC, hD, hT]
    · rw [if_pos c2]
      rw [decide_eq_false c2] at hR
      refine ⟨t1, t2, t3, h1, h2, .inr ⟨rfl, rfl⟩, same 2 [.cells 28 (rqE a s1 s2).cells] ?_⟩
      unfold s___master_Master__Start
      unfold rqE at *
      simp -implicitDefEqProofs (disch := first | omega | (simp only [List.length_set, List.length_append, List.length_cons, List.length_nil, List.length_take, List.length_drop, List.length_map]; omega) | simp) [wrap_i64, wrap_u16_id, wrap_u8_id, tdiv_pos, tmod_pos, -getElem?_pos, -getElem?_neg, -List.length_eq_zero_iff, -List.getElem_cons_drop, hkl, hB, hR]
  · rw [if_pos (by simpa using c1)]
    have hB : ∀ X, cO2 n 15 [.ptr k 0] (H ++ X) = some (Bo true) := fun X => by rw [hB X, decide_eq_true (by simpa using c1)]
    refine ⟨t1, t2, t3, h1, h2, .inr ⟨rfl, rfl⟩, same 8 [.cells 28 (rqE a s1 s2).cells] ?_⟩
    unfold s___master_Master__Start
    unfold rqE at *
    simp -implicitDefEqProofs (disch := first | omega | (simp only [List.length_set, List.length_append, List.length_cons, List.length_nil, List.length_take, List.length_drop, List.length_map]; omega) | simp) [wrap_i64, wrap_u16_id, wrap_u8_id, tdiv_pos, tmod_pos, -getElem?_pos, -getElem?_neg, -List.length_eq_zero_iff, -List.getElem_cons_drop, hkl, hB]
end Go.Proofs.Ytcpgmbpndpcmdaa

/- A master, in the laws: its state step by step, in plain words. -/
namespace Go.Proofs.Ytcpgmbpndpcmdaa
open Go
set_option linter.unusedSimpArgs false
set_option linter.unusedVariables false
theorem MTag.step {t1 t2 t3 t3' : Tag} {m r : Mst} {k : Nat} {H X : Heap} {e : TypeId} {cs : List DV} {b : DBlk} (h : MTag t1 t2 t3 m.came.length H) (hk : H[k]? = some (.cells e cs)) (hq : KeepT t3 t3' m r) : MTag t1 t2 t3' r.came.length (H.set k b ++ X) := by
  refine ⟨h.a, h.b, ?_⟩
  rcases hq with ⟨rfl, _⟩ | ⟨rfl, e2⟩
  · exact .inl rfl
  · rw [e2]
    rcases (h.set (b := b) hk).c with rfl | ⟨j, rfl, hj, h0⟩
    · exact .inl rfl
    · exact .inr ⟨j, rfl, by rw [hp_get_left _ _ _ (hp_lt hj)]; exact hj, h0⟩
theorem MTag.app {t1 t2 t3 : Tag} {len : Nat} {H : Heap} (X : Heap) (h : MTag t1 t2 t3 len H) : MTag t1 t2 t3 len (H ++ X) := by
  refine ⟨h.a, h.b, ?_⟩
  rcases h.c with rfl | ⟨j, rfl, hj, h0⟩
  · exact .inl rfl
  · exact .inr ⟨j, rfl, by rw [hp_get_left _ _ _ (hp_lt hj)]; exact hj, h0⟩
def outB (k : Int) (x : An) (t1 t2 t3 : Tag) : DBlk := .cells 50 [I .i64 k, I .i64 x.exc, LV 1 Bo x.bits t1, LV 1 (I .u16) x.words t2, LV 1 Sg x.texts t3]
theorem WfH.outB {H : Heap} (h : WfH H) {k : Int} {x : An} {t : Tag} (ht : okT t) : WfH (H ++ [Go.Proofs.Ytcpgmbpndpcmdaa.outB k x t t t]) := h.app fun b hb => by
  simp only [List.mem_singleton] at hb
  subst hb
  intro d hd
  simp only [List.mem_cons, List.not_mem_nil, or_false] at hd
  rcases hd with rfl | rfl | rfl | rfl | rfl <;> simp [inSc_okT ht]
/-- what a master turns into is in order -/
theorem KeepT.sc {t1 t2 t3 t3' : Tag} {m r : Mst} {H : Heap} (h : MTag t1 t2 t3 m.came.length H) (hq : KeepT t3 t3' m r) (l : List Int) : inSc H.length (LV 1 (I .u8) l t3') = true := by
  rcases hq with ⟨rfl, _⟩ | ⟨rfl, _⟩
  · simp
  · exact h.sc 1 (I .u8) l
theorem KeepT.wf {t1 t2 t3 t3' : Tag} {m r : Mst} {H : Heap} (h : MTag t1 t2 t3 m.came.length H) (hq : KeepT t3 t3' m r) : WfB H.length (r.B t1 t2 t3') := Mst.wf h.a h.b (hq.sc h)
/-- a unit's answer comes at once: a master's state, tick by tick -/
def goodS (u g wt tr : Int) (a : Rq) (r : List Int) (i : Int) : Mst := ⟨u, g, wt, tr, 2, i, i, 1, a, r⟩
def goodZ (u g wt tr : Int) (a : Rq) : Mst := ⟨u, g, wt, tr, 0, g, 0, 1, a, []⟩
theorem good_told (u g wt tr : Int) (a : Rq) (x : An) (i : Int) (hv : ansV a x = true) (ok : AnOk x) : toldV (goodS u g wt tr a (putI (u :: ansTextV a x)) i) = (x, true) := by
  obtain ⟨l1, l2⟩ := ansText_len a x hv
  have h := rdV_put ⟨u, ansTextV a x⟩ (by show 1 ≤ (ansTextV a x).length; omega) l2
  unfold toldV goodS
  simp only [h]
  rw [if_neg (by simp), read_text a x ok hv]
  rfl
theorem good_tick (u g wt tr : Int) (a : Rq) (x : An) (i : Int) (hv : ansV a x = true) (ok : AnOk x) (h0 : 0 ≤ i) (hi : i + 1 ≤ g) (hg : g ≤ 20) (hw : g ≤ 2 * wt - 1) :
    tickV (goodS u g wt tr a (putI (u :: ansTextV a x)) i) = if i + 1 = g then ([], 1, x, goodZ u g wt tr a) else ([], 0, anZ, goodS u g wt tr a (putI (u :: ansTextV a x)) (i + 1)) := by
  have hm : min (i + 1) 1048576 = i + 1 := by omega
  have hp : putI (u :: ansTextV a x) ≠ [] := by
    intro h
    have := congrArg List.length h
    rw [putI_length] at this
    simp at this
  have ht := good_told u g wt tr a x (i + 1) hv ok
  have e : (goodS u g wt tr a (putI (u :: ansTextV a x)) i).tock = goodS u g wt tr a (putI (u :: ansTextV a x)) (i + 1) := by
    unfold Mst.tock goodS
    simp only [hm]
  unfold tickV
  rw [e]
  rw [if_neg (by show ¬ (2 : Int) = 0; decide), if_neg (by show ¬ (2 : Int) = 1; decide)]
  unfold waitV
  have e1 : (goodS u g wt tr a (putI (u :: ansTextV a x)) (i + 1)).came = putI (u :: ansTextV a x) := rfl
  by_cases c : i + 1 = g
  · rw [if_pos c, if_pos ⟨by rw [e1]; exact hp, by show g ≤ i + 1; omega⟩, ht, if_pos rfl]
    unfold Mst.turn goodS goodZ
    rw [c]
  · rw [if_neg c, if_neg (fun h => by have := h.2; change g ≤ i + 1 at this; omega), if_neg (fun h => by have := h.2; change 2 * wt ≤ i + 1 at this; omega), if_neg (fun h => by have := h.1; rw [e1] at this; exact hp this)]
theorem shp_cfg {d : Nat} {e : List DV} (h : Shp Try.prog (d + 3) 23 e) : ∃ u g wt tr : Int, elOf (isAgT Try.prog 23) e = cfgE u g wt tr ∧ (0 ≤ u ∧ u < 256) ∧ (∀ x, x = g ∨ x = wt ∨ x = tr → -9223372036854775808 ≤ x ∧ x < 9223372036854775808) := by
  have h := shp_struct Try.underlying23 h
  simp only [List.map_cons, List.map_nil, ShpFs] at h
  obtain ⟨a, _, rfl, ha, b, _, rfl, hb, c, _, rfl, hc, d, _, rfl, hd, rfl⟩ := h
  obtain ⟨u, rfl, hu⟩ := shp_int (k := .u8) Try.underlying5 ha
  obtain ⟨g, rfl, hg⟩ := shp_int (k := .i64) Try.underlying3 hb
  obtain ⟨w, rfl, hw⟩ := shp_int (k := .i64) Try.underlying3 hc
  obtain ⟨t, rfl, ht⟩ := shp_int (k := .i64) Try.underlying3 hd
  refine ⟨u, g, w, t, by kernel_rfl, wf_u8 hu, fun x hx => ?_⟩
  rcases hx with rfl | rfl | rfl
  · exact wf_i64 hg
  · exact wf_i64 hw
  · exact wf_i64 ht
end Go.Proofs.Ytcpgmbpndpcmdaa

/- Masters: the law's awake. -/
namespace Go.Proofs.Ytcpgmbpndpcmdaa
open Go
theorem awake08 (n : Nat) (hn : n = 39998) : cP2 (n + 1) 5 false [] = some (Bo true) := by
  have h : (callG Try.prog ENV2 39999 5 [] [] 0).map (·.1) = some (.flat (.bool true)) := by kernel_rfl
  obtain ⟨⟨d, H'⟩, h, rfl⟩ := Option.map_eq_some_iff.1 h
  subst hn
  exact cP2_of (args' := []) (by simp) h (by simp)
end Go.Proofs.Ytcpgmbpndpcmdaa
