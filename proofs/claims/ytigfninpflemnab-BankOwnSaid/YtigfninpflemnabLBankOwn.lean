/- The law BankOwn: it answers true. -/
import Derived.Test.YtigfninpflemnabFLBankOwn
import Derived.Test.YtigfninpflemnabLBankTells
-- NEEDS: triunelaw15.BankOwn
namespace Go.Proofs.Ytigfninpflemnab
open Go
set_option linter.unusedSimpArgs false
set_option linter.unusedVariables false
set_option maxRecDepth 100000
theorem findP_at {l : List Pt} (h : PtsOk l) (i : Nat) (hi : i < l.length) : findP l l[i].kind l[i].at_ = i := by
  have := findI_first (isPt l[i].kind l[i].at_) l 0 i hi (by simp [isPt]) (fun j hj => by
    have ha := h.2.2 i j hi hj
    unfold isPt
    exact decide_eq_false fun hh => ha ⟨hh.1.symm, .inr hh.2.symm⟩)
  unfold findP
  rw [this]
  omega
theorem oneV_at {v : Vw} (hv : VwOk v) (i : Nat) (hi : i < v.pts.length) (q : Int) (h0 : 0 ≤ q) (h3 : q ≤ 3) : oneV v v.pts[i].kind (1000 * q + v.pts[i].at_) = (v.row q)[i]? := by
  have hm := (hv.pts.2.1 _ (List.getElem_mem hi)).2.2
  unfold oneV
  rw [if_neg (by omega), if_neg (by omega), show (1000 * q + v.pts[i].at_) % 1000 = v.pts[i].at_ by omega, show (1000 * q + v.pts[i].at_) / 1000 = q by omega, findP_at hv.pts i hi, if_neg (by omega)]
  rfl
theorem readD_one {v : Vw} {kind addr w : Int} (h : oneV v kind addr = some w) : readD v kind addr 1 = .tup [LV 1 (I .u16) [w] .sh, Bo true] := by
  unfold readD
  rw [if_neg (by omega)]
  have : (1 : Int).toNat = 1 := rfl
  rw [this]
  simp [gath, h]
theorem itmsD_own {l : List Pt} (h : PtsOk l) (i : Nat) (hi : i < l.length) (w : Int) (hw : ¬ 1 < w) (hk : l[i].kind = 0 ∨ l[i].kind = 2) : itmsD l l[i].kind l[i].at_ [w] = .tup [LV 2 itE [((i : Int), w)] .sh, Bo true] := by
  unfold itmsD
  rw [if_neg (by simp; omega)]
  simp [itms, findP_at h i hi, hw]
theorem itmsD_not {l : List Pt} (kind a : Int) (w : List Int) (h0 : kind ≠ 0) (h2 : kind ≠ 2) : itmsD l kind a w = .tup [LV 2 itE [] .sh, Bo false] := by
  unfold itmsD
  rw [if_pos (.inl ⟨h0, h2⟩)]
theorem itmsD_any (l : List Pt) (kind addr w : Int) : (∃ b, itmsD l kind addr [w] = .tup [LV 2 itE [] .sh, Bo b]) ∨ ∃ (k : Nat) (hk : k < l.length), itmsD l kind addr [w] = .tup [LV 2 itE [((k : Int), w)] .sh, Bo true] ∧ l[k].at_ = addr ∧ l[k].kind = kind := by
  unfold itmsD
  by_cases c1 : (kind ≠ 0 ∧ kind ≠ 2) ∨ [w] = []
  · rw [if_pos c1]; exact .inl ⟨false, rfl⟩
  · rw [if_neg c1]
    by_cases c2 : findP l kind addr = -1 ∨ (kind = 2 ∧ 1 < w)
    · exact .inl ⟨false, by simp only [itms, if_pos c2]⟩
    · have hr := findP_range l kind addr
      obtain ⟨k, hk⟩ : ∃ k : Nat, findP l kind addr = (k : Int) := ⟨(findP l kind addr).toNat, by omega⟩
      obtain ⟨hkl, hq⟩ := findI_get (isPt kind addr) l 0 k (by omega) (by unfold findP at hk; omega)
      unfold isPt at hq
      have hq := of_decide_eq_true hq
      refine .inr ⟨k, hkl, ?_, hq.2, hq.1⟩
      simp only [itms, if_neg c2]
      rw [hk]
      rfl
def ptC (p : Pt) : List DV := [I .i64 p.kind, I .i64 p.addr, I .i64 p.at_, I .i64 p.band, I .i64 p.safe]
theorem BankOwn_1 (n : Nat) (hn : 600 ≤ n) (v : Vw) (hv : VwOk v) (i : Nat) (hi : i < v.pts.length) (addr value : Int) (x7 : DV) (G : Heap) (b : Nat) (g0 : G[0]? = some (.cells 26 v.C)) (gb : G[b]? = some (.cells 48 (ptC v.pts[i]))) (K : Ex → KF) :
    s_triunelaw15_BankOwn_L1 n 0 K n (I .i64 addr) (I .u16 value) (.ptr 0 0) x7 (I .i64 i) (.ptr b 0) (I .i64 0) G = K (.exit 2) (s_triunelaw15_BankOwn_O1 (I .i64 addr) (I .u16 value) (.ptr 0 0) .any x7 (I .i64 i) (.ptr b 0)) G := by
  have hpl := hv.pts.1
  have hm := (hv.pts.2.1 _ (List.getElem_mem hi)).2.2
  have o1 := oneV_at hv i hi 1 (by omega) (by omega)
  have o2 := oneV_at hv i hi 2 (by omega) (by omega)
  have o3 := oneV_at hv i hi 3 (by omega) (by omega)
  have l1 : i < v.r0.length := by rw [hv.r0]; exact hi
  have l2 : i < v.r1.length := by rw [hv.r1]; exact hi
  have l3 : i < v.r2.length := by rw [hv.r2]; exact hi
  have o1 : oneV v v.pts[i].kind (1000 + v.pts[i].at_) = some v.r0[i] := by rw [show 1000 + v.pts[i].at_ = 1000 * 1 + v.pts[i].at_ by omega, o1]; exact List.getElem?_eq_getElem l1
  have o2 : oneV v v.pts[i].kind (2000 + v.pts[i].at_) = some v.r1[i] := by rw [show 2000 + v.pts[i].at_ = 1000 * 2 + v.pts[i].at_ by omega, o2]; exact List.getElem?_eq_getElem l2
  have o3 : oneV v v.pts[i].kind (3000 + v.pts[i].at_) = some v.r2[i] := by rw [show 3000 + v.pts[i].at_ = 1000 * 3 + v.pts[i].at_ by omega, o3]; exact List.getElem?_eq_getElem l3
  have k1 := bank_Read_c n v hv v.pts[i].kind (1000 + v.pts[i].at_) 1 (by omega) (by omega) (by omega)
  have k2 := bank_Read_c n v hv v.pts[i].kind (2000 + v.pts[i].at_) 1 (by omega) (by omega) (by omega)
  have k3 := bank_Read_c n v hv v.pts[i].kind (3000 + v.pts[i].at_) 1 (by omega) (by omega) (by omega)
  rw [readD_one o1] at k1
  rw [readD_one o2] at k2
  rw [readD_one o3] at k3
  unfold Vw.C at k1 k2 k3 g0
  unfold ptC at gb
  obtain ⟨m, hm4⟩ : ∃ m, n = m + 4 := ⟨n - 4, by omega⟩
  have hm2 : ∀ k, s_triunelaw15_BankOwn_L1 n 0 k n = s_triunelaw15_BankOwn_L1 n 0 k (m + 4) := fun k => by rw [← hm4]
  rw [hm2]
  simp -implicitDefEqProofs (disch := first | omega | (simp only [List.length_set, List.length_append, List.length_cons, List.length_nil, List.length_take, List.length_drop, List.length_map]; omega) | simp) [wrap_i64, wrap_u16_id, wrap_u8_id, tdiv_pos, tmod_pos, -getElem?_pos, -getElem?_neg, -List.length_eq_zero_iff, -List.getElem_cons_drop, s_triunelaw15_BankOwn_L1, s_triunelaw15_BankOwn_B1, g0, gb, k1, k2, k3, l1, l2, l3, idxArr_k]
theorem BankOwn_2 (n : Nat) (hn : 600 ≤ n) (v : Vw) (i : Nat) (p : Pt) (addr value w : Int) (x7 : DV) (G : Heap) (b : Nat) (g0 : G[0]? = some (.cells 26 v.C)) (gb : G[b]? = some (.cells 48 (ptC p))) (ys : List (Int × Int)) (bl : Bool) (hl : v.pts.length ≤ 48)
    (hy : ys = [] ∨ ∃ (k : Nat) (hk : k < v.pts.length), bl = true ∧ ys = [((k : Int), w)] ∧ v.pts[k].at_ = addr ∧ v.pts[k].kind = p.kind) (K : Ex → KF) :
    s_triunelaw15_BankOwn_L2 n 0 K n (I .i64 addr) (I .u16 value) (.ptr 0 0) x7 (I .i64 i) (.ptr b 0) (LV 2 itE ys .sh) (Bo bl) (I .i64 0) G = K (.exit 4) (s_triunelaw15_BankOwn_O2 (I .i64 addr) (I .u16 value) (.ptr 0 0) .any x7 (I .i64 i)) G := by
  obtain ⟨m, hm4⟩ : ∃ m, n = m + 4 := ⟨n - 4, by omega⟩
  have hm2 : ∀ k, s_triunelaw15_BankOwn_L2 n 0 k n = s_triunelaw15_BankOwn_L2 n 0 k (m + 4) := fun k => by rw [← hm4]
  rw [hm2]
  unfold Vw.C at g0
  unfold ptC at gb
  rcases hy with rfl | ⟨k, hk, rfl, rfl, h1, h2⟩
  · simp -implicitDefEqProofs (disch := first | omega | (simp only [List.length_set, List.length_append, List.length_cons, List.length_nil, List.length_take, List.length_drop, List.length_map]; omega) | simp) [wrap_i64, wrap_u16_id, wrap_u8_id, tdiv_pos, tmod_pos, -getElem?_pos, -getElem?_neg, -List.length_eq_zero_iff, -List.getElem_cons_drop, s_triunelaw15_BankOwn_L2, s_triunelaw15_BankOwn_B2]
  · simp -implicitDefEqProofs (disch := first | omega | (simp only [List.length_set, List.length_append, List.length_cons, List.length_nil, List.length_take, List.length_drop, List.length_map]; omega) | simp) [wrap_i64, wrap_u16_id, wrap_u8_id, tdiv_pos, tmod_pos, -getElem?_pos, -getElem?_neg, -List.length_eq_zero_iff, -List.getElem_cons_drop, s_triunelaw15_BankOwn_L2, s_triunelaw15_BankOwn_B2, g0, gb, itE_cells, ptE_cells, hk, h1, h2]
theorem BankOwn_0 (n : Nat) (hn : 600 ≤ n) (v : Vw) (hv : VwOk v) (addr value : Int) (ha0 : 0 ≤ addr) (ha1 : addr ≤ 65535) (hw0 : 0 ≤ value) (hw1 : value < 65536) : ∀ (m i : Nat) (H : Heap), v.pts.length < m + i → i ≤ v.pts.length → H[0]? = some (.cells 26 v.C) →
    ∃ H', ∀ K, s_triunelaw15_BankOwn_L0 n 0 K m (I .i64 addr) (I .u16 value) (.ptr 0 0) (Bo true) (I .i64 i) H = K (.exit 0) (s_triunelaw15_BankOwn_O0 .any (Bo true)) H' := by
  intro m
  induction m with
  | zero => intro i H h; omega
  | succ m ih =>
    intro i H hm hi hH
    have hpl := hv.pts.1
    by_cases h : i < v.pts.length
    · have hmay := hv.pts.2.1 _ (List.getElem_mem h)
      have hm3 := hmay.2.2
      have h0l := hp_lt hH
      have o0 := oneV_at hv i h 0 (by omega) (by omega)
      have l0 : i < v.voted.length := by rw [hv.voted]; exact h
      have o0 : oneV v v.pts[i].kind v.pts[i].at_ = some v.voted[i] := by rw [show v.pts[i].at_ = 1000 * 0 + v.pts[i].at_ by omega, o0]; exact List.getElem?_eq_getElem l0
      have k0 := bank_Read_c n v hv v.pts[i].kind v.pts[i].at_ 1 (by omega) (by omega) (by omega)
      rw [readD_one o0] at k0
      have g0 : (H ++ [.cells 48 (ptC v.pts[i])])[0]? = some (.cells 26 v.C) := by rw [hp_get_left _ _ _ h0l]; exact hH
      have gb : (H ++ [.cells 48 (ptC v.pts[i])])[H.length]? = some (.cells 48 (ptC v.pts[i])) := by simp
      have q1 := fun K => (s_triunelaw15_BankOwn_L1_eq n 0 K n (I .i64 addr) (I .u16 value) (.ptr 0 0) (Bo true) (I .i64 i) (.ptr H.length 0) (I .i64 0) (H ++ [.cells 48 (ptC v.pts[i])])).trans (BankOwn_1 n hn v hv i h addr value (Bo true) _ H.length g0 gb K)
      have ki := bank_Items_c n v.pts .sh .ti v.pts[i].kind v.pts[i].at_ [value % 2] (by omega) (by omega) (by omega) (by simp) (by simp; omega)
      have km := bank_Items_c n v.pts .sh .ti v.pts[i].kind addr [value % 2] (by omega) (by omega) (by omega) (by simp) (by simp; omega)
      have hany : ∃ ys bl, itmsD v.pts v.pts[i].kind addr [value % 2] = .tup [LV 2 itE ys .sh, Bo bl] ∧ (ys = [] ∨ ∃ (k : Nat) (hk : k < v.pts.length), bl = true ∧ ys = [((k : Int), value % 2)] ∧ v.pts[k].at_ = addr ∧ v.pts[k].kind = v.pts[i].kind) := by
        rcases itmsD_any v.pts v.pts[i].kind addr (value % 2) with ⟨b, e⟩ | ⟨k, hk, e, e1, e2⟩
        · exact ⟨[], b, e, .inl rfl⟩
        · exact ⟨_, true, e, .inr ⟨k, hk, rfl, rfl, e1, e2⟩⟩
      obtain ⟨ys, bl, hys, hy⟩ := hany
      rw [hys] at km
      have q2 := fun K => (s_triunelaw15_BankOwn_L2_eq n 0 K n (I .i64 addr) (I .u16 value) (.ptr 0 0) (Bo true) (I .i64 i) (.ptr H.length 0) (LV 2 itE ys .sh) (Bo bl) (I .i64 0) (H ++ [.cells 48 (ptC v.pts[i])])).trans (BankOwn_2 n hn v i v.pts[i] addr value (value % 2) (Bo true) _ H.length g0 gb ys bl (by omega) hy K)
      obtain ⟨H', q⟩ := ih (i + 1) (H ++ [.cells 48 (ptC v.pts[i])]) (by omega) (by omega) g0
      have hi2 : ((i + 1 : Nat) : Int) = (i : Int) + 1 := by omega
      rw [hi2] at q
      refine ⟨H', fun K => ?_⟩
      unfold s_triunelaw15_BankOwn_L0 s_triunelaw15_BankOwn_B0
      by_cases c0 : v.pts[i].kind = 0
      · rw [itmsD_own hv.pts i h (value % 2) (by omega) (.inl c0)] at ki
        have d0 : decide (v.pts[i].kind = 0) = true := by simp [c0]
        unfold Vw.C at hH k0
        unfold ptC at q q1 q2
        simp -implicitDefEqProofs (disch := first | omega | (simp only [List.length_set, List.length_append, List.length_cons, List.length_nil, List.length_take, List.length_drop, List.length_map]; omega) | simp) [wrap_i64, wrap_u16_id, wrap_u8_id, tdiv_pos, tmod_pos, -getElem?_pos, -getElem?_neg, -List.length_eq_zero_iff, -List.getElem_cons_drop, h, hH, ptE_cells, itE_cells, k0, l0, q1, ki, km, q2, q, d0, s_triunelaw15_BankOwn_O1, s_triunelaw15_BankOwn_O2]
      · have d0 : decide (v.pts[i].kind = 0) = false := by simp [c0]
        by_cases c2 : v.pts[i].kind = 2
        · rw [itmsD_own hv.pts i h (value % 2) (by omega) (.inr c2)] at ki
          have d2 : decide (v.pts[i].kind = 2) = true := by simp [c2]
          unfold Vw.C at hH k0
          unfold ptC at q q1 q2
          simp -implicitDefEqProofs (disch := first | omega | (simp only [List.length_set, List.length_append, List.length_cons, List.length_nil, List.length_take, List.length_drop, List.length_map]; omega) | simp) [wrap_i64, wrap_u16_id, wrap_u8_id, tdiv_pos, tmod_pos, -getElem?_pos, -getElem?_neg, -List.length_eq_zero_iff, -List.getElem_cons_drop, h, hH, ptE_cells, itE_cells, k0, l0, q1, ki, km, q2, q, d0, d2, s_triunelaw15_BankOwn_O1, s_triunelaw15_BankOwn_O2]
        · rw [itmsD_not _ _ _ c0 c2] at ki
          have d2 : decide (v.pts[i].kind = 2) = false := by simp [c2]
          unfold Vw.C at hH k0
          unfold ptC at q q1 q2
          simp -implicitDefEqProofs (disch := first | omega | (simp only [List.length_set, List.length_append, List.length_cons, List.length_nil, List.length_take, List.length_drop, List.length_map]; omega) | simp) [wrap_i64, wrap_u16_id, wrap_u8_id, tdiv_pos, tmod_pos, -getElem?_pos, -getElem?_neg, -List.length_eq_zero_iff, -List.getElem_cons_drop, h, hH, ptE_cells, itE_cells, k0, l0, q1, ki, km, q2, q, d0, d2, s_triunelaw15_BankOwn_O1, s_triunelaw15_BankOwn_O2]
    · have : i = v.pts.length := by omega
      subst this
      unfold Vw.C at hH
      exact ⟨H, fun K => by unfold s_triunelaw15_BankOwn_L0 s_triunelaw15_BankOwn_B0; simp -implicitDefEqProofs (disch := first | omega | (simp only [List.length_set, List.length_append, List.length_cons, List.length_nil, List.length_take, List.length_drop, List.length_map]; omega) | simp) [wrap_i64, wrap_u16_id, wrap_u8_id, tdiv_pos, tmod_pos, -getElem?_pos, -getElem?_neg, -List.length_eq_zero_iff, -List.getElem_cons_drop, hH]⟩
theorem BankOwn_run (n : Nat) (up : cP n 12 false [] = some (Bo true)) (hn : 9000 ≤ n) (v : Vw) (addr value : Int) (hl : v.pts.length ≤ 140737488355328) (hw0 : 0 ≤ value) (hw1 : value < 65536) :
    ∃ H', s_triunelaw15_BankOwn n [] 0 (.agg v.C) (I .i64 addr) (I .u16 value) = some (Bo true, H') := by
  obtain ⟨ok, hM, hM2⟩ := may15_c n v hl (by omega)
  cases ok with
  | false => exact ⟨_, by unfold Vw.C at hM ⊢; unfold s_triunelaw15_BankOwn; simp -implicitDefEqProofs (disch := first | omega | (simp only [List.length_set, List.length_append, List.length_cons, List.length_nil, List.length_take, List.length_drop, List.length_map]; omega) | simp) [wrap_i64, wrap_u16_id, wrap_u8_id, tdiv_pos, tmod_pos, -getElem?_pos, -getElem?_neg, -List.length_eq_zero_iff, -List.getElem_cons_drop, up, hM]; rfl⟩
  | true =>
    have hk := hM2 rfl
    by_cases c1 : addr < 0
    · exact ⟨_, by unfold Vw.C at hM ⊢; unfold s_triunelaw15_BankOwn; simp -implicitDefEqProofs (disch := first | omega | (simp only [List.length_set, List.length_append, List.length_cons, List.length_nil, List.length_take, List.length_drop, List.length_map]; omega) | simp) [wrap_i64, wrap_u16_id, wrap_u8_id, tdiv_pos, tmod_pos, -getElem?_pos, -getElem?_neg, -List.length_eq_zero_iff, -List.getElem_cons_drop, up, hM, c1]; rfl⟩
    by_cases c2 : 65535 < addr
    · exact ⟨_, by unfold Vw.C at hM ⊢; unfold s_triunelaw15_BankOwn; simp -implicitDefEqProofs (disch := first | omega | (simp only [List.length_set, List.length_append, List.length_cons, List.length_nil, List.length_take, List.length_drop, List.length_map]; omega) | simp) [wrap_i64, wrap_u16_id, wrap_u8_id, tdiv_pos, tmod_pos, -getElem?_pos, -getElem?_neg, -List.length_eq_zero_iff, -List.getElem_cons_drop, up, hM, c1, c2]; rfl⟩
    have hpl := hk.pts.1
    obtain ⟨H', q⟩ := BankOwn_0 n (by omega) v hk addr value (by omega) (by omega) hw0 hw1 n 0 [.cells 26 v.C] (by omega) (by omega) rfl
    have q' := fun K => (s_triunelaw15_BankOwn_L0_eq n 0 K n (I .i64 addr) (I .u16 value) (.ptr 0 0) (Bo true) (I .i64 0) [.cells 26 v.C]).trans (q K)
    unfold Vw.C at hM q' ⊢
    exact ⟨_, by unfold s_triunelaw15_BankOwn; simp -implicitDefEqProofs (disch := first | omega | (simp only [List.length_set, List.length_append, List.length_cons, List.length_nil, List.length_take, List.length_drop, List.length_map]; omega) | simp) [wrap_i64, wrap_u16_id, wrap_u8_id, tdiv_pos, tmod_pos, -getElem?_pos, -getElem?_neg, -List.length_eq_zero_iff, -List.getElem_cons_drop, up, hM, c1, c2, q', s_triunelaw15_BankOwn_O0]; rfl⟩
theorem BankOwn_all (e0 e1 e2 : List DV) (h0 : Shp Try.prog 8 26 e0) (h1 : Shp Try.prog 8 3 e1) (h2 : Shp Try.prog 8 45 e2) :
    ∃ H', callG Try.prog ENV 10000 4 [elOf (isAgT Try.prog 26) e0, elOf (isAgT Try.prog 3) e1, elOf (isAgT Try.prog 45) e2] [] 0 = some (.flat (.bool true), H') := by
  obtain ⟨v, hv, hvl⟩ := shp_view h0
  obtain ⟨a, rfl, _⟩ := shp_int (k := .i64) Try.underlying3 h1
  obtain ⟨w, rfl, hw⟩ := shp_int (k := .u16) Try.underlying45 h2
  have r1 : elOf (isAgT Try.prog 3) [.flat (.int .i64 a)] = I .i64 a := by kernel_rfl
  have r2 : elOf (isAgT Try.prog 45) [.flat (.int .u16 w)] = I .u16 w := by kernel_rfl
  obtain ⟨H', h⟩ := BankOwn_run 9999 awake15 (by omega) v a w hvl (wf_u16 hw).1 (wf_u16 hw).2
  rw [hv, r1, r2]
  exact ⟨H', (s_triunelaw15_BankOwn_eq 9999 [] 0 _ _ _).trans h⟩
end Go.Proofs.Ytigfninpflemnab
