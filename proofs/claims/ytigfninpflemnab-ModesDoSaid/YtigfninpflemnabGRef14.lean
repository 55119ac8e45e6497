/- The document's modes: what they answer is what the program's answer. -/
import Derived.Test.YtigfninpflemnabFRef14
import Derived.Test.YtigfninpflemnabEqMs
-- NEEDS: triuneref14.New; (*triuneref14.Modes).Round; (*triuneref14.Modes).Test; (*triuneref14.Modes).Reset; (*triuneref14.Modes).Fault; triuneref14.Mode; triuneref14.first; triuneref14.many
namespace Go.Proofs.Ytigfninpflemnab
open Go
set_option linter.unusedSimpArgs false
set_option linter.unusedVariables false
set_option maxRecDepth 100000
def Ms.R (m : Ms) : DBlk := .cells 75 [I .i64 m.strikes, Bo m.a.is, Bo m.b.is, Bo m.c.is, I .i64 m.a.cnt, I .i64 m.b.cnt, I .i64 m.c.cnt, I .i64 m.a.lat, I .i64 m.b.lat, I .i64 m.c.lat, I .i64 m.sp, I .i64 m.te, Bo m.safe]
theorem msR_old (n : Nat) (H : Heap) (m : Ms) : oldBlk n H m.R = some m.R := by
  unfold Ms.R
  simp
theorem rmany_c (n : Nat) (m : Ms) (hn : 6 ≤ n) : cP n 60 false [.agg m.C] = some (I .i64 (manyV m.a.is m.b.is m.c.is)) := by
  obtain ⟨n, rfl⟩ : ∃ m, n = m + 5 := ⟨n - 5, by omega⟩
  obtain ⟨st, ⟨a, ac, al⟩, ⟨b, bc, bl⟩, ⟨c, cc, cl⟩, sp, te, sf⟩ := m
  have q : ∀ K, loopG [1, 3, 4] [3] 16 (s_triuneref14_many_b0 (n + 4) 0) (n + 4) (s_triuneref14_many_I0 (.ptr 0 0) (I .i64 0) (I .i64 0)) [.cells 71 (Ms.C ⟨st, ⟨a, ac, al⟩, ⟨b, bc, bl⟩, ⟨c, cc, cl⟩, sp, te, sf⟩)] K = K (.exit 0) (s_triuneref14_many_O0 (I .i64 (manyV a b c))) [.cells 71 (Ms.C ⟨st, ⟨a, ac, al⟩, ⟨b, bc, bl⟩, ⟨c, cc, cl⟩, sp, te, sf⟩)] := by
    intro K
    rw [s_triuneref14_many_L0_eq]
    unfold Ms.C
    cases a <;> cases b <;> cases c <;> (simp -implicitDefEqProofs (disch := first | omega | (simp only [List.length_set, List.length_append, List.length_cons, List.length_nil, List.length_take, List.length_drop, List.length_map]; omega) | simp) [wrap_i64, wrap_u16_id, wrap_u8_id, tdiv_pos, tmod_pos, -getElem?_pos, -getElem?_neg, -List.length_eq_zero_iff, -List.getElem_cons_drop, s_triuneref14_many_L0, s_triuneref14_many_B0, idxArr_k]; first | done | rfl)
  unfold Ms.C at q ⊢
  exact cP_of (args' := [.agg (Ms.C ⟨st, ⟨a, ac, al⟩, ⟨b, bc, bl⟩, ⟨c, cc, cl⟩, sp, te, sf⟩)]) (by unfold Ms.C; simp [argEl_eq]) ((s_triuneref14_many_eq _ _ _ _).trans (by unfold s_triuneref14_many Ms.C; simp -implicitDefEqProofs (disch := first | omega | (simp only [List.length_set, List.length_append, List.length_cons, List.length_nil, List.length_take, List.length_drop, List.length_map]; omega) | simp) [wrap_i64, wrap_u16_id, wrap_u8_id, tdiv_pos, tmod_pos, -getElem?_pos, -getElem?_neg, -List.length_eq_zero_iff, -List.getElem_cons_drop, q, s_triuneref14_many_O0]; first | exact rfl | exact ⟨rfl, rfl⟩)) (by simp)
theorem rround_0 (n fl k v : Nat) (K : Ex → KF) (mm : Nat) (m : Ms) (b0 b1 b2 sp : Bool) (H : Heap) (hfl : fl ≤ k) (hkv : k ≠ v) (hv : H[v]? = some (.cells 60 [Bo b0, Bo b1, Bo b2])) (hk : H[k]? = some m.R) (h0 : 0 ≤ m.a.cnt) (h1 : m.a.cnt ≤ 1000000) (lat : LatOk m.a.lat) :
    s___triuneref14_Modes__Round_L0 n fl K (mm + 1) (.ptr k 0) (Bo sp) (.ptr v 0) (I .i64 0) H = s___triuneref14_Modes__Round_L0 n fl K mm (.ptr k 0) (Bo sp) (.ptr v 0) (I .i64 1) (H.set k ({ m with a := chR m.strikes b0 m.a } : Ms).R) := by
  have hkl := hp_lt hk
  have e := orI_1 lat
  obtain ⟨st, ⟨a, ac, al⟩, ⟨b, bc, bl⟩, ⟨c, cc, cl⟩, spl, te, sf⟩ := m
  have hset : H.set k (Ms.R ⟨st, ⟨a, ac, al⟩, ⟨b, bc, bl⟩, ⟨c, cc, cl⟩, spl, te, sf⟩) = H := hp_set_id hk
  unfold Ms.R at hk hset ⊢
  unfold LatOk at lat
  simp only at h0 h1 hk hset lat e ⊢
  have vk : v ≠ k := fun h => hkv h.symm
  rw [s___triuneref14_Modes__Round_L0]
  unfold s___triuneref14_Modes__Round_B0 chR moreV
  cases a with
  | true =>
    cases b0 with
    | true =>
      by_cases c2 : st ≤ ac + 1
      · simp only [if_true, if_pos c2, e]
        simp -implicitDefEqProofs (disch := first | omega | (simp only [List.length_set, List.length_append, List.length_cons, List.length_nil, List.length_take, List.length_drop, List.length_map]; omega) | simp) [wrap_i64, wrap_u16_id, wrap_u8_id, tdiv_pos, tmod_pos, -getElem?_pos, -getElem?_neg, -List.length_eq_zero_iff, -List.getElem_cons_drop, hk, hv, vk, c2, idxArr_k]
      · simp only [if_true, if_neg c2]
        simp -implicitDefEqProofs (disch := first | omega | (simp only [List.length_set, List.length_append, List.length_cons, List.length_nil, List.length_take, List.length_drop, List.length_map]; omega) | simp) [wrap_i64, wrap_u16_id, wrap_u8_id, tdiv_pos, tmod_pos, -getElem?_pos, -getElem?_neg, -List.length_eq_zero_iff, -List.getElem_cons_drop, hk, hv, vk, c2, idxArr_k]
    | false =>
      by_cases c2 : st ≤ 0
      · simp only [if_true, Bool.false_eq_true, if_false, if_pos c2, e]
        simp -implicitDefEqProofs (disch := first | omega | (simp only [List.length_set, List.length_append, List.length_cons, List.length_nil, List.length_take, List.length_drop, List.length_map]; omega) | simp) [wrap_i64, wrap_u16_id, wrap_u8_id, tdiv_pos, tmod_pos, -getElem?_pos, -getElem?_neg, -List.length_eq_zero_iff, -List.getElem_cons_drop, hk, hv, vk, c2, idxArr_k]
      · simp only [if_true, Bool.false_eq_true, if_false, if_neg c2]
        simp -implicitDefEqProofs (disch := first | omega | (simp only [List.length_set, List.length_append, List.length_cons, List.length_nil, List.length_take, List.length_drop, List.length_map]; omega) | simp) [wrap_i64, wrap_u16_id, wrap_u8_id, tdiv_pos, tmod_pos, -getElem?_pos, -getElem?_neg, -List.length_eq_zero_iff, -List.getElem_cons_drop, hk, hv, vk, c2, idxArr_k]
  | false =>
    simp only [Bool.false_eq_true, if_false]
    rw [hset]
    simp -implicitDefEqProofs (disch := first | omega | (simp only [List.length_set, List.length_append, List.length_cons, List.length_nil, List.length_take, List.length_drop, List.length_map]; omega) | simp) [wrap_i64, wrap_u16_id, wrap_u8_id, tdiv_pos, tmod_pos, -getElem?_pos, -getElem?_neg, -List.length_eq_zero_iff, -List.getElem_cons_drop, hk, hv, idxArr_k]
theorem rround_1 (n fl k v : Nat) (K : Ex → KF) (mm : Nat) (m : Ms) (b0 b1 b2 sp : Bool) (H : Heap) (hfl : fl ≤ k) (hkv : k ≠ v) (hv : H[v]? = some (.cells 60 [Bo b0, Bo b1, Bo b2])) (hk : H[k]? = some m.R) (h0 : 0 ≤ m.b.cnt) (h1 : m.b.cnt ≤ 1000000) (lat : LatOk m.b.lat) :
    s___triuneref14_Modes__Round_L0 n fl K (mm + 1) (.ptr k 0) (Bo sp) (.ptr v 0) (I .i64 1) H = s___triuneref14_Modes__Round_L0 n fl K mm (.ptr k 0) (Bo sp) (.ptr v 0) (I .i64 2) (H.set k ({ m with b := chR m.strikes b1 m.b } : Ms).R) := by
  have hkl := hp_lt hk
  have e := orI_1 lat
  obtain ⟨st, ⟨a, ac, al⟩, ⟨b, bc, bl⟩, ⟨c, cc, cl⟩, spl, te, sf⟩ := m
  have hset : H.set k (Ms.R ⟨st, ⟨a, ac, al⟩, ⟨b, bc, bl⟩, ⟨c, cc, cl⟩, spl, te, sf⟩) = H := hp_set_id hk
  unfold Ms.R at hk hset ⊢
  unfold LatOk at lat
  simp only at h0 h1 hk hset lat e ⊢
  have vk : v ≠ k := fun h => hkv h.symm
  rw [s___triuneref14_Modes__Round_L0]
  unfold s___triuneref14_Modes__Round_B0 chR moreV
  cases b with
  | true =>
    cases b1 with
    | true =>
      by_cases c2 : st ≤ bc + 1
      · simp only [if_true, if_pos c2, e]
        simp -implicitDefEqProofs (disch := first | omega | (simp only [List.length_set, List.length_append, List.length_cons, List.length_nil, List.length_take, List.length_drop, List.length_map]; omega) | simp) [wrap_i64, wrap_u16_id, wrap_u8_id, tdiv_pos, tmod_pos, -getElem?_pos, -getElem?_neg, -List.length_eq_zero_iff, -List.getElem_cons_drop, hk, hv, vk, c2, idxArr_k]
      · simp only [if_true, if_neg c2]
        simp -implicitDefEqProofs (disch := first | omega | (simp only [List.length_set, List.length_append, List.length_cons, List.length_nil, List.length_take, List.length_drop, List.length_map]; omega) | simp) [wrap_i64, wrap_u16_id, wrap_u8_id, tdiv_pos, tmod_pos, -getElem?_pos, -getElem?_neg, -List.length_eq_zero_iff, -List.getElem_cons_drop, hk, hv, vk, c2, idxArr_k]
    | false =>
      by_cases c2 : st ≤ 0
      · simp only [if_true, Bool.false_eq_true, if_false, if_pos c2, e]
        simp -implicitDefEqProofs (disch := first | omega | (simp only [List.length_set, List.length_append, List.length_cons, List.length_nil, List.length_take, List.length_drop, List.length_map]; omega) | simp) [wrap_i64, wrap_u16_id, wrap_u8_id, tdiv_pos, tmod_pos, -getElem?_pos, -getElem?_neg, -List.length_eq_zero_iff, -List.getElem_cons_drop, hk, hv, vk, c2, idxArr_k]
      · simp only [if_true, Bool.false_eq_true, if_false, if_neg c2]
        simp -implicitDefEqProofs (disch := first | omega | (simp only [List.length_set, List.length_append, List.length_cons, List.length_nil, List.length_take, List.length_drop, List.length_map]; omega) | simp) [wrap_i64, wrap_u16_id, wrap_u8_id, tdiv_pos, tmod_pos, -getElem?_pos, -getElem?_neg, -List.length_eq_zero_iff, -List.getElem_cons_drop, hk, hv, vk, c2, idxArr_k]
  | false =>
    simp only [Bool.false_eq_true, if_false]
    rw [hset]
    simp -implicitDefEqProofs (disch := first | omega | (simp only [List.length_set, List.length_append, List.length_cons, List.length_nil, List.length_take, List.length_drop, List.length_map]; omega) | simp) [wrap_i64, wrap_u16_id, wrap_u8_id, tdiv_pos, tmod_pos, -getElem?_pos, -getElem?_neg, -List.length_eq_zero_iff, -List.getElem_cons_drop, hk, hv, idxArr_k]
theorem rround_2 (n fl k v : Nat) (K : Ex → KF) (mm : Nat) (m : Ms) (b0 b1 b2 sp : Bool) (H : Heap) (hfl : fl ≤ k) (hkv : k ≠ v) (hv : H[v]? = some (.cells 60 [Bo b0, Bo b1, Bo b2])) (hk : H[k]? = some m.R) (h0 : 0 ≤ m.c.cnt) (h1 : m.c.cnt ≤ 1000000) (lat : LatOk m.c.lat) :
    s___triuneref14_Modes__Round_L0 n fl K (mm + 1) (.ptr k 0) (Bo sp) (.ptr v 0) (I .i64 2) H = s___triuneref14_Modes__Round_L0 n fl K mm (.ptr k 0) (Bo sp) (.ptr v 0) (I .i64 3) (H.set k ({ m with c := chR m.strikes b2 m.c } : Ms).R) := by
  have hkl := hp_lt hk
  have e := orI_1 lat
  obtain ⟨st, ⟨a, ac, al⟩, ⟨b, bc, bl⟩, ⟨c, cc, cl⟩, spl, te, sf⟩ := m
  have hset : H.set k (Ms.R ⟨st, ⟨a, ac, al⟩, ⟨b, bc, bl⟩, ⟨c, cc, cl⟩, spl, te, sf⟩) = H := hp_set_id hk
  unfold Ms.R at hk hset ⊢
  unfold LatOk at lat
  simp only at h0 h1 hk hset lat e ⊢
  have vk : v ≠ k := fun h => hkv h.symm
  rw [s___triuneref14_Modes__Round_L0]
  unfold s___triuneref14_Modes__Round_B0 chR moreV
  cases c with
  | true =>
    cases b2 with
    | true =>
      by_cases c2 : st ≤ cc + 1
      · simp only [if_true, if_pos c2, e]
        simp -implicitDefEqProofs (disch := first | omega | (simp only [List.length_set, List.length_append, List.length_cons, List.length_nil, List.length_take, List.length_drop, List.length_map]; omega) | simp) [wrap_i64, wrap_u16_id, wrap_u8_id, tdiv_pos, tmod_pos, -getElem?_pos, -getElem?_neg, -List.length_eq_zero_iff, -List.getElem_cons_drop, hk, hv, vk, c2, idxArr_k]
      · simp only [if_true, if_neg c2]
        simp -implicitDefEqProofs (disch := first | omega | (simp only [List.length_set, List.length_append, List.length_cons, List.length_nil, List.length_take, List.length_drop, List.length_map]; omega) | simp) [wrap_i64, wrap_u16_id, wrap_u8_id, tdiv_pos, tmod_pos, -getElem?_pos, -getElem?_neg, -List.length_eq_zero_iff, -List.getElem_cons_drop, hk, hv, vk, c2, idxArr_k]
    | false =>
      by_cases c2 : st ≤ 0
      · simp only [if_true, Bool.false_eq_true, if_false, if_pos c2, e]
        simp -implicitDefEqProofs (disch := first | omega | (simp only [List.length_set, List.length_append, List.length_cons, List.length_nil, List.length_take, List.length_drop, List.length_map]; omega) | simp) [wrap_i64, wrap_u16_id, wrap_u8_id, tdiv_pos, tmod_pos, -getElem?_pos, -getElem?_neg, -List.length_eq_zero_iff, -List.getElem_cons_drop, hk, hv, vk, c2, idxArr_k]
      · simp only [if_true, Bool.false_eq_true, if_false, if_neg c2]
        simp -implicitDefEqProofs (disch := first | omega | (simp only [List.length_set, List.length_append, List.length_cons, List.length_nil, List.length_take, List.length_drop, List.length_map]; omega) | simp) [wrap_i64, wrap_u16_id, wrap_u8_id, tdiv_pos, tmod_pos, -getElem?_pos, -getElem?_neg, -List.length_eq_zero_iff, -List.getElem_cons_drop, hk, hv, vk, c2, idxArr_k]
  | false =>
    simp only [Bool.false_eq_true, if_false]
    rw [hset]
    simp -implicitDefEqProofs (disch := first | omega | (simp only [List.length_set, List.length_append, List.length_cons, List.length_nil, List.length_take, List.length_drop, List.length_map]; omega) | simp) [wrap_i64, wrap_u16_id, wrap_u8_id, tdiv_pos, tmod_pos, -getElem?_pos, -getElem?_neg, -List.length_eq_zero_iff, -List.getElem_cons_drop, hk, hv, idxArr_k]
theorem rround_L (n fl k : Nat) (m : Ms) (b0 b1 b2 sp : Bool) (H : Heap) (hn : 4 ≤ n) (hfl : fl ≤ k) (hk : H[k]? = some m.R) (x : Int) (hx : x ≤ 1000000) (ok : MsOk m x) (lat : MsLat m) (K : Ex → KF) :
    loopG [0, 2, 4, 6] [0, 2] 110 (s___triuneref14_Modes__Round_b0 n fl) n (s___triuneref14_Modes__Round_I0 (.ptr k 0) (Bo sp) (.ptr H.length 0) (I .i64 0)) (H ++ [DBlk.cells 60 [Bo b0, Bo b1, Bo b2]]) K =
      K (.exit 0) (s___triuneref14_Modes__Round_O0 (.ptr k 0) (Bo sp)) ((H ++ [DBlk.cells 60 [Bo b0, Bo b1, Bo b2]]).set k (msR m b0 b1 b2).R) := by
  have hkl := hp_lt hk
  have hkv : k ≠ H.length := by omega
  rw [s___triuneref14_Modes__Round_L0_eq]
  obtain ⟨mm, hm⟩ : ∃ mm, n = mm + 4 := ⟨n - 4, by omega⟩
  have hm2 : ∀ k, s___triuneref14_Modes__Round_L0 n fl k n = s___triuneref14_Modes__Round_L0 n fl k (mm + 4) := fun k => by rw [← hm]
  rw [hm2]
  generalize hG : (H ++ [DBlk.cells 60 [Bo b0, Bo b1, Bo b2]] : Heap) = G
  have gv : G[H.length]? = some (.cells 60 [Bo b0, Bo b1, Bo b2]) := by rw [← hG]; simp
  have gk : G[k]? = some m.R := by rw [← hG, hp_get_left _ _ _ hkl]; exact hk
  have gkl := hp_lt gk
  have hvk : H.length ≠ k := fun h => hkv h.symm
  rw [rround_0 n fl k H.length K (mm + 3) m b0 b1 b2 sp G hfl hkv gv gk ok.a.1 (by have := ok.a.2; omega) lat.a]
  rw [rround_1 n fl k H.length K (mm + 2) { m with a := chR m.strikes b0 m.a } b0 b1 b2 sp _ hfl hkv (by rw [hp_set_ne _ _ _ _ hvk]; exact gv) (hp_set_get _ _ _ gkl) ok.b.1 (by have := ok.b.2; show m.b.cnt ≤ _; omega) lat.b]
  rw [rround_2 n fl k H.length K (mm + 1) { m with a := chR m.strikes b0 m.a, b := chR m.strikes b1 m.b } b0 b1 b2 sp _ hfl hkv (by rw [hp_set_ne _ _ _ _ hvk, hp_set_ne _ _ _ _ hvk]; exact gv) (hp_set_get _ _ _ (by simp; exact gkl)) ok.c.1 (by have := ok.c.2; show m.c.cnt ≤ _; omega) lat.c]
  rw [s___triuneref14_Modes__Round_L0]
  unfold s___triuneref14_Modes__Round_B0
  simp -implicitDefEqProofs (disch := first | omega | (simp only [List.length_set, List.length_append, List.length_cons, List.length_nil, List.length_take, List.length_drop, List.length_map]; omega) | simp) [wrap_i64, wrap_u16_id, wrap_u8_id, tdiv_pos, tmod_pos, -getElem?_pos, -getElem?_neg, -List.length_eq_zero_iff, -List.getElem_cons_drop]
  rfl
theorem rmodes_Round_c (n k fl : Nat) (H : Heap) (m : Ms) (b0 b1 b2 sp : Bool) (hn : 10 ≤ n) (hfl : fl ≤ k) (hk : H[k]? = some m.R) (hw : WfH H) (x : Int) (hx : x ≤ 1000000) (ok : MsOk m x) (lat : MsLat m) :
    cW n 27 [.ptr k 0, .agg [Bo b0, Bo b1, Bo b2], Bo sp] H fl = some (.tup [], H.set k (msRound m b0 b1 b2 sp).R) := by
  obtain ⟨n, rfl⟩ : ∃ m, n = m + 1 := ⟨n - 1, by omega⟩
  have hkl := hp_lt hk
  have q := fun K => rround_L n fl k m b0 b1 b2 sp H (by omega) hfl hk x hx ok lat K
  have hsp := ok.sp
  unfold msRound
  have e1 : (msR m b0 b1 b2).strikes = m.strikes := rfl
  have e2 : (msR m b0 b1 b2).sp = m.sp := rfl
  have e3 : (msR m b0 b1 b2).te = m.te := rfl
  have e4 : (msR m b0 b1 b2).safe = m.safe := rfl
  generalize msR m b0 b1 b2 = r at *
  have hmy := rmany_c n { r with sp := moreV sp m.sp } (by omega)
  have hR : ∀ sf : Bool, oldBlk H.length ((H ++ [DBlk.cells 60 [Bo b0, Bo b1, Bo b2]]).set k ({ r with sp := moreV sp m.sp, safe := sf } : Ms).R) ({ r with sp := moreV sp m.sp, safe := sf } : Ms).R = some ({ r with sp := moreV sp m.sp, safe := sf } : Ms).R := fun sf => msR_old _ _ _
  refine cW_of (r := .tup []) ((s___triuneref14_Modes__Round_eq _ _ _ _ _ _).trans ?_) (by simp) (cutH_set hw (k := k) hkl (by simp [hkl]) (fun j hj hjk => by rw [hp_set_ne _ _ _ _ hjk, hp_get_left _ _ _ hj]) (hR _))
  unfold Ms.R at hk q ⊢
  unfold Ms.C at hmy
  simp only [e1, e2, e3, e4] at hmy q ⊢
  unfold s___triuneref14_Modes__Round
  have hmr : manyV r.a.is r.b.is r.c.is < 2 ∨ ¬ manyV r.a.is r.b.is r.c.is < 2 := by omega
  cases sp with
  | true =>
    have hm1 : moreV true m.sp = m.sp + 1 := rfl
    simp only [hm1] at hmy ⊢
    by_cases c2 : m.strikes ≤ m.sp + 1
    · simp only [decide_eq_true c2, Bool.or_true, Bool.true_or]
      simp -implicitDefEqProofs (disch := first | omega | (simp only [List.length_set, List.length_append, List.length_cons, List.length_nil, List.length_take, List.length_drop, List.length_map]; omega) | simp) [wrap_i64, wrap_u16_id, wrap_u8_id, tdiv_pos, tmod_pos, -getElem?_pos, -getElem?_neg, -List.length_eq_zero_iff, -List.getElem_cons_drop, hk, hkl, q, s___triuneref14_Modes__Round_O0, c2]
    · simp only [decide_eq_false c2, Bool.or_false]
      rcases hmr with c3 | c3
      · simp only [decide_eq_true c3, Bool.or_true]
        simp -implicitDefEqProofs (disch := first | omega | (simp only [List.length_set, List.length_append, List.length_cons, List.length_nil, List.length_take, List.length_drop, List.length_map]; omega) | simp) [wrap_i64, wrap_u16_id, wrap_u8_id, tdiv_pos, tmod_pos, -getElem?_pos, -getElem?_neg, -List.length_eq_zero_iff, -List.getElem_cons_drop, hk, hkl, q, s___triuneref14_Modes__Round_O0, c2, hmy, c3]
      · simp only [decide_eq_false c3, Bool.or_false]
        simp -implicitDefEqProofs (disch := first | omega | (simp only [List.length_set, List.length_append, List.length_cons, List.length_nil, List.length_take, List.length_drop, List.length_map]; omega) | simp) [wrap_i64, wrap_u16_id, wrap_u8_id, tdiv_pos, tmod_pos, -getElem?_pos, -getElem?_neg, -List.length_eq_zero_iff, -List.getElem_cons_drop, hk, hkl, q, s___triuneref14_Modes__Round_O0, c2, hmy, c3]
  | false =>
    have hm1 : moreV false m.sp = 0 := rfl
    simp only [hm1] at hmy ⊢
    by_cases c2 : m.strikes ≤ 0
    · simp only [decide_eq_true c2, Bool.or_true, Bool.true_or]
      simp -implicitDefEqProofs (disch := first | omega | (simp only [List.length_set, List.length_append, List.length_cons, List.length_nil, List.length_take, List.length_drop, List.length_map]; omega) | simp) [wrap_i64, wrap_u16_id, wrap_u8_id, tdiv_pos, tmod_pos, -getElem?_pos, -getElem?_neg, -List.length_eq_zero_iff, -List.getElem_cons_drop, hk, hkl, q, s___triuneref14_Modes__Round_O0, c2]
    · simp only [decide_eq_false c2, Bool.or_false]
      rcases hmr with c3 | c3
      · simp only [decide_eq_true c3, Bool.or_true]
        simp -implicitDefEqProofs (disch := first | omega | (simp only [List.length_set, List.length_append, List.length_cons, List.length_nil, List.length_take, List.length_drop, List.length_map]; omega) | simp) [wrap_i64, wrap_u16_id, wrap_u8_id, tdiv_pos, tmod_pos, -getElem?_pos, -getElem?_neg, -List.length_eq_zero_iff, -List.getElem_cons_drop, hk, hkl, q, s___triuneref14_Modes__Round_O0, c2, hmy, c3]
      · simp only [decide_eq_false c3, Bool.or_false]
        simp -implicitDefEqProofs (disch := first | omega | (simp only [List.length_set, List.length_append, List.length_cons, List.length_nil, List.length_take, List.length_drop, List.length_map]; omega) | simp) [wrap_i64, wrap_u16_id, wrap_u8_id, tdiv_pos, tmod_pos, -getElem?_pos, -getElem?_neg, -List.length_eq_zero_iff, -List.getElem_cons_drop, hk, hkl, q, s___triuneref14_Modes__Round_O0, c2, hmy, c3]
theorem rmodes_first_c (n : Nat) (s : Int) (hn : 2 ≤ n) : cP n 59 false [] = some (.agg (ms0 s).C) := by
  obtain ⟨n, rfl⟩ : ∃ m, n = m + 1 := ⟨n - 1, by omega⟩
  exact cP_of (args' := []) (by rfl) ((s_triuneref14_first_eq _ _ _).trans (by unfold s_triuneref14_first; simp -implicitDefEqProofs (disch := first | omega | (simp only [List.length_set, List.length_append, List.length_cons, List.length_nil, List.length_take, List.length_drop, List.length_map]; omega) | simp) [wrap_i64, wrap_u16_id, wrap_u8_id, tdiv_pos, tmod_pos, -getElem?_pos, -getElem?_neg, -List.length_eq_zero_iff, -List.getElem_cons_drop]; first | exact rfl | exact ⟨rfl, rfl⟩)) (by unfold ms0 Ms.C; simp <;> rfl)
theorem rmodes_New_c (n fl : Nat) (H : Heap) (s : Int) (hn : 3 ≤ n) (hs : 1 ≤ s ∧ s ≤ 20) : cK n 25 [I .i64 s] H fl = some (.tup [.ptr H.length 0, I .i64 0], H ++ [(ms0 s).R]) := by
  obtain ⟨n, rfl⟩ : ∃ m, n = m + 1 := ⟨n - 1, by omega⟩
  have q := rmodes_first_c n s (by omega)
  unfold ms0 Ms.C at q
  unfold cK ms0 Ms.R
  have h1 : ¬ s < 1 := by omega
  have h2 : ¬ 20 < s := by omega
  exact (s_triuneref14_New_eq _ _ _ _).trans (by unfold s_triuneref14_New; simp -implicitDefEqProofs (disch := first | omega | (simp only [List.length_set, List.length_append, List.length_cons, List.length_nil, List.length_take, List.length_drop, List.length_map]; omega) | simp) [wrap_i64, wrap_u16_id, wrap_u8_id, tdiv_pos, tmod_pos, -getElem?_pos, -getElem?_neg, -List.length_eq_zero_iff, -List.getElem_cons_drop, q, h1, h2]; first | done | rfl)
theorem rmodes_New_no (n fl : Nat) (H : Heap) (s : Int) (hn : 3 ≤ n) (hs : ¬ (1 ≤ s ∧ s ≤ 20)) : cK n 25 [I .i64 s] H fl = some (.tup [.flat (.pointer none), I .i64 1], H) := by
  obtain ⟨n, rfl⟩ : ∃ m, n = m + 1 := ⟨n - 1, by omega⟩
  unfold cK
  by_cases h1 : s < 1
  · exact (s_triuneref14_New_eq _ _ _ _).trans (by unfold s_triuneref14_New; simp -implicitDefEqProofs (disch := first | omega | (simp only [List.length_set, List.length_append, List.length_cons, List.length_nil, List.length_take, List.length_drop, List.length_map]; omega) | simp) [wrap_i64, wrap_u16_id, wrap_u8_id, tdiv_pos, tmod_pos, -getElem?_pos, -getElem?_neg, -List.length_eq_zero_iff, -List.getElem_cons_drop, h1]; first | done | rfl)
  · have h2 : 20 < s := by omega
    exact (s_triuneref14_New_eq _ _ _ _).trans (by unfold s_triuneref14_New; simp -implicitDefEqProofs (disch := first | omega | (simp only [List.length_set, List.length_append, List.length_cons, List.length_nil, List.length_take, List.length_drop, List.length_map]; omega) | simp) [wrap_i64, wrap_u16_id, wrap_u8_id, tdiv_pos, tmod_pos, -getElem?_pos, -getElem?_neg, -List.length_eq_zero_iff, -List.getElem_cons_drop, h1, h2]; first | done | rfl)
theorem rmodes_Mode_c (n : Nat) (m : Ms) (hn : 8 ≤ n) : cP n 33 false [.agg m.C] = some (I .i64 (modeV m)) := by
  obtain ⟨n, rfl⟩ : ∃ m, n = m + 1 := ⟨n - 1, by omega⟩
  have q := rmany_c n m (by omega)
  have hr := manyV_r m.a.is m.b.is m.c.is
  unfold modeV
  unfold Ms.C at q ⊢
  by_cases c : m.safe = true
  · exact cP_of (args' := [.agg m.C]) (by unfold Ms.C; simp [argEl_eq]) ((s_triuneref14_Mode_eq _ _ _ _).trans (by unfold s_triuneref14_Mode Ms.C; simp -implicitDefEqProofs (disch := first | omega | (simp only [List.length_set, List.length_append, List.length_cons, List.length_nil, List.length_take, List.length_drop, List.length_map]; omega) | simp) [wrap_i64, wrap_u16_id, wrap_u8_id, tdiv_pos, tmod_pos, -getElem?_pos, -getElem?_neg, -List.length_eq_zero_iff, -List.getElem_cons_drop, c]; first | exact rfl | exact ⟨rfl, rfl⟩)) (by simp [c])
  · have c : m.safe = false := by simpa using c
    rw [c] at q
    by_cases h : manyV m.a.is m.b.is m.c.is < 2
    · have e : max (manyV m.a.is m.b.is m.c.is - 1) 0 = 0 := by omega
      exact cP_of (r := I .i64 0) (args' := [.agg m.C]) (by unfold Ms.C; simp [argEl_eq]) ((s_triuneref14_Mode_eq _ _ _ _).trans (by unfold s_triuneref14_Mode Ms.C; simp -implicitDefEqProofs (disch := first | omega | (simp only [List.length_set, List.length_append, List.length_cons, List.length_nil, List.length_take, List.length_drop, List.length_map]; omega) | simp) [wrap_i64, wrap_u16_id, wrap_u8_id, tdiv_pos, tmod_pos, -getElem?_pos, -getElem?_neg, -List.length_eq_zero_iff, -List.getElem_cons_drop, c, q, h]; first | exact rfl | exact ⟨rfl, rfl⟩)) (by simp [c, e])
    · have e : max (manyV m.a.is m.b.is m.c.is - 1) 0 = manyV m.a.is m.b.is m.c.is - 1 := by omega
      exact cP_of (r := I .i64 (manyV m.a.is m.b.is m.c.is - 1)) (args' := [.agg m.C]) (by unfold Ms.C; simp [argEl_eq]) ((s_triuneref14_Mode_eq _ _ _ _).trans (by unfold s_triuneref14_Mode Ms.C; simp -implicitDefEqProofs (disch := first | omega | (simp only [List.length_set, List.length_append, List.length_cons, List.length_nil, List.length_take, List.length_drop, List.length_map]; omega) | simp) [wrap_i64, wrap_u16_id, wrap_u8_id, tdiv_pos, tmod_pos, -getElem?_pos, -getElem?_neg, -List.length_eq_zero_iff, -List.getElem_cons_drop, c, q, h]; first | exact rfl | exact ⟨rfl, rfl⟩)) (by simp [c, e])
theorem rmodes_Fault_no (n k fl : Nat) (H : Heap) (c : Int) (hn : 3 ≤ n) (hw : WfH H) (hc : ¬ (0 ≤ c ∧ c < 3)) : cW n 30 [.ptr k 0, I .i64 c] H fl = some (I .i64 1, H) := by
  obtain ⟨n, rfl⟩ : ∃ m, n = m + 1 := ⟨n - 1, by omega⟩
  refine cW_of (H' := H) (r := I .i64 1) ((s___triuneref14_Modes__Fault_eq _ _ _ _ _).trans ?_) (by simp) (cutH_same hw fun j hj => rfl)
  unfold s___triuneref14_Modes__Fault
  by_cases h : c < 0
  · simp -implicitDefEqProofs (disch := first | omega | (simp only [List.length_set, List.length_append, List.length_cons, List.length_nil, List.length_take, List.length_drop, List.length_map]; omega) | simp) [wrap_i64, wrap_u16_id, wrap_u8_id, tdiv_pos, tmod_pos, -getElem?_pos, -getElem?_neg, -List.length_eq_zero_iff, -List.getElem_cons_drop, h]
  · have h2 : 2 < c := by omega
    simp -implicitDefEqProofs (disch := first | omega | (simp only [List.length_set, List.length_append, List.length_cons, List.length_nil, List.length_take, List.length_drop, List.length_map]; omega) | simp) [wrap_i64, wrap_u16_id, wrap_u8_id, tdiv_pos, tmod_pos, -getElem?_pos, -getElem?_neg, -List.length_eq_zero_iff, -List.getElem_cons_drop, h, h2]
theorem rmodes_Fault_c (n k fl : Nat) (H : Heap) (m : Ms) (c : Int) (hn : 3 ≤ n) (hfl : fl ≤ k) (hk : H[k]? = some m.R) (hw : WfH H) (lat : MsLat m) (hc : 0 ≤ c ∧ c < 3) : cW n 30 [.ptr k 0, I .i64 c] H fl = some (I .i64 0, H.set k (msFault m c).R) := by
  obtain ⟨n, rfl⟩ : ∃ m, n = m + 1 := ⟨n - 1, by omega⟩
  have hkl := hp_lt hk
  refine cW_of (H' := H.set k (msFault m c).R) (r := I .i64 0) ((s___triuneref14_Modes__Fault_eq _ _ _ _ _).trans ?_) (by simp) (cutH_set hw (k := k) hkl (hp_set_get _ _ _ hkl) (fun j hj hjk => hp_set_ne _ _ _ _ hjk) (msR_old _ _ _))
  have ea := orI_2 lat.a
  have eb := orI_2 lat.b
  have ec := orI_2 lat.c
  obtain ⟨la, lb, lc⟩ := lat
  unfold LatOk at la lb lc
  unfold s___triuneref14_Modes__Fault
  unfold Ms.R at hk
  rcases (by omega : c = 0 ∨ c = 1 ∨ c = 2) with rfl | rfl | rfl
  · unfold msFault Ms.R; simp only [ea]; simp -implicitDefEqProofs (disch := first | omega | (simp only [List.length_set, List.length_append, List.length_cons, List.length_nil, List.length_take, List.length_drop, List.length_map]; omega) | simp) [wrap_i64, wrap_u16_id, wrap_u8_id, tdiv_pos, tmod_pos, -getElem?_pos, -getElem?_neg, -List.length_eq_zero_iff, -List.getElem_cons_drop, hk, idxArr_k]
  · unfold msFault Ms.R; simp only [eb]; simp -implicitDefEqProofs (disch := first | omega | (simp only [List.length_set, List.length_append, List.length_cons, List.length_nil, List.length_take, List.length_drop, List.length_map]; omega) | simp) [wrap_i64, wrap_u16_id, wrap_u8_id, tdiv_pos, tmod_pos, -getElem?_pos, -getElem?_neg, -List.length_eq_zero_iff, -List.getElem_cons_drop, hk, idxArr_k]
  · unfold msFault Ms.R; simp only [ec]; simp -implicitDefEqProofs (disch := first | omega | (simp only [List.length_set, List.length_append, List.length_cons, List.length_nil, List.length_take, List.length_drop, List.length_map]; omega) | simp) [wrap_i64, wrap_u16_id, wrap_u8_id, tdiv_pos, tmod_pos, -getElem?_pos, -getElem?_neg, -List.length_eq_zero_iff, -List.getElem_cons_drop, hk, idxArr_k]
theorem rmodes_Test_no (n k fl : Nat) (H : Heap) (c : Int) (hn : 3 ≤ n) (hw : WfH H) (hc : ¬ (0 ≤ c ∧ c < 3)) : cW n 28 [.ptr k 0, I .i64 c] H fl = some (I .i64 1, H) := by
  obtain ⟨n, rfl⟩ : ∃ m, n = m + 1 := ⟨n - 1, by omega⟩
  refine cW_of (H' := H) (r := I .i64 1) ((s___triuneref14_Modes__Test_eq _ _ _ _ _).trans ?_) (by simp) (cutH_same hw fun j hj => rfl)
  unfold s___triuneref14_Modes__Test
  by_cases h : c < 0
  · simp -implicitDefEqProofs (disch := first | omega | (simp only [List.length_set, List.length_append, List.length_cons, List.length_nil, List.length_take, List.length_drop, List.length_map]; omega) | simp) [wrap_i64, wrap_u16_id, wrap_u8_id, tdiv_pos, tmod_pos, -getElem?_pos, -getElem?_neg, -List.length_eq_zero_iff, -List.getElem_cons_drop, h]
  · have h2 : 2 < c := by omega
    simp -implicitDefEqProofs (disch := first | omega | (simp only [List.length_set, List.length_append, List.length_cons, List.length_nil, List.length_take, List.length_drop, List.length_map]; omega) | simp) [wrap_i64, wrap_u16_id, wrap_u8_id, tdiv_pos, tmod_pos, -getElem?_pos, -getElem?_neg, -List.length_eq_zero_iff, -List.getElem_cons_drop, h, h2]
theorem manyV_3 (a b c : Bool) : manyV a b c < 3 ↔ (a && b && c) = false := by cases a <;> cases b <;> cases c <;> decide
theorem rmodes_Test_bad (n k fl : Nat) (H : Heap) (m : Ms) (c : Int) (hn : 8 ≤ n) (hk : H[k]? = some m.R) (hw : WfH H) (hc : 0 ≤ c ∧ c < 3) (hs : m.safe = true ∨ (m.a.is && m.b.is && m.c.is) = false) : cW n 28 [.ptr k 0, I .i64 c] H fl = some (I .i64 8, H) := by
  obtain ⟨n, rfl⟩ : ∃ m, n = m + 1 := ⟨n - 1, by omega⟩
  have q := rmany_c n m (by omega)
  unfold Ms.R at hk
  unfold Ms.C at q
  refine cW_of (H' := H) (r := I .i64 8) ((s___triuneref14_Modes__Test_eq _ _ _ _ _).trans ?_) (by simp) (cutH_same hw fun j hj => rfl)
  unfold s___triuneref14_Modes__Test
  by_cases h : m.safe = true
  · simp -implicitDefEqProofs (disch := first | omega | (simp only [List.length_set, List.length_append, List.length_cons, List.length_nil, List.length_take, List.length_drop, List.length_map]; omega) | simp) [wrap_i64, wrap_u16_id, wrap_u8_id, tdiv_pos, tmod_pos, -getElem?_pos, -getElem?_neg, -List.length_eq_zero_iff, -List.getElem_cons_drop, hk, h]
  · have h1 : m.safe = false := by simpa using h
    have h2 := (manyV_3 _ _ _).mpr (hs.resolve_left h)
    rw [h1] at q
    simp -implicitDefEqProofs (disch := first | omega | (simp only [List.length_set, List.length_append, List.length_cons, List.length_nil, List.length_take, List.length_drop, List.length_map]; omega) | simp) [wrap_i64, wrap_u16_id, wrap_u8_id, tdiv_pos, tmod_pos, -getElem?_pos, -getElem?_neg, -List.length_eq_zero_iff, -List.getElem_cons_drop, hk, h1, q, h2]
theorem rmodes_Test_c (n k fl : Nat) (H : Heap) (m : Ms) (c : Int) (hn : 8 ≤ n) (hfl : fl ≤ k) (hk : H[k]? = some m.R) (hw : WfH H) (hc : 0 ≤ c ∧ c < 3) (hs : m.safe = false) (hi : (m.a.is && m.b.is && m.c.is) = true) : cW n 28 [.ptr k 0, I .i64 c] H fl = some (I .i64 0, H.set k (msTest m c).R) := by
  obtain ⟨n, rfl⟩ : ∃ m, n = m + 1 := ⟨n - 1, by omega⟩
  have q := rmany_c n m (by omega)
  have hkl := hp_lt hk
  have h2 : ¬ manyV m.a.is m.b.is m.c.is < 3 := fun h => by
    have := (manyV_3 _ _ _).mp h
    rw [hi] at this
    cases this
  unfold Ms.C at q
  rw [hs] at q
  refine cW_of (H' := H.set k (msTest m c).R) (r := I .i64 0) ((s___triuneref14_Modes__Test_eq _ _ _ _ _).trans ?_) (by simp) (cutH_set hw (k := k) hkl (hp_set_get _ _ _ hkl) (fun j hj hjk => hp_set_ne _ _ _ _ hjk) (msR_old _ _ _))
  unfold s___triuneref14_Modes__Test
  unfold Ms.R at hk
  rcases (by omega : c = 0 ∨ c = 1 ∨ c = 2) with rfl | rfl | rfl
  · unfold msTest Ms.R; simp -implicitDefEqProofs (disch := first | omega | (simp only [List.length_set, List.length_append, List.length_cons, List.length_nil, List.length_take, List.length_drop, List.length_map]; omega) | simp) [wrap_i64, wrap_u16_id, wrap_u8_id, tdiv_pos, tmod_pos, -getElem?_pos, -getElem?_neg, -List.length_eq_zero_iff, -List.getElem_cons_drop, q, hk, hs, h2, idxArr_k]
  · unfold msTest Ms.R; simp -implicitDefEqProofs (disch := first | omega | (simp only [List.length_set, List.length_append, List.length_cons, List.length_nil, List.length_take, List.length_drop, List.length_map]; omega) | simp) [wrap_i64, wrap_u16_id, wrap_u8_id, tdiv_pos, tmod_pos, -getElem?_pos, -getElem?_neg, -List.length_eq_zero_iff, -List.getElem_cons_drop, q, hk, hs, h2, idxArr_k]
  · unfold msTest Ms.R; simp -implicitDefEqProofs (disch := first | omega | (simp only [List.length_set, List.length_append, List.length_cons, List.length_nil, List.length_take, List.length_drop, List.length_map]; omega) | simp) [wrap_i64, wrap_u16_id, wrap_u8_id, tdiv_pos, tmod_pos, -getElem?_pos, -getElem?_neg, -List.length_eq_zero_iff, -List.getElem_cons_drop, q, hk, hs, h2, idxArr_k]
theorem rreset_L (n fl : Nat) (k : Nat) (m : Ms) (f0 f1 f2 : Bool) (H : Heap) (hn : 4 ≤ n) (hk : H[k]? = some m.R) (K : Ex → KF) :
    loopG [0, 3, 5] [0, 4] 28 (s___triuneref14_Modes__Reset_b0 n fl) n (s___triuneref14_Modes__Reset_I0 (.ptr k 0) (.ptr H.length 0) (I .i64 0)) (H ++ [DBlk.cells 60 [Bo f0, Bo f1, Bo f2]]) K =
      if allF m f0 f1 f2 = true then K (.exit 0) (s___triuneref14_Modes__Reset_O0 (.ptr k 0) .any) (H ++ [DBlk.cells 60 [Bo f0, Bo f1, Bo f2]]) else K .ret (s___triuneref14_Modes__Reset_O0 (.ptr k 0) (I .i64 8)) (H ++ [DBlk.cells 60 [Bo f0, Bo f1, Bo f2]]) := by
  rw [s___triuneref14_Modes__Reset_L0_eq]
  have hkl := hp_lt hk
  obtain ⟨mm, hm⟩ : ∃ mm, n = mm + 4 := ⟨n - 4, by omega⟩
  have hm2 : ∀ k, s___triuneref14_Modes__Reset_L0 n fl k n = s___triuneref14_Modes__Reset_L0 n fl k (mm + 4) := fun k => by rw [← hm]
  rw [hm2]
  obtain ⟨st, ⟨a, ac, al⟩, ⟨b, bc, bl⟩, ⟨c, cc, cl⟩, spl, te, sf⟩ := m
  unfold Ms.R at hk
  unfold allF
  simp only at hk ⊢
  cases a <;> cases f0 <;> simp only [Bool.or_true, Bool.or_false, Bool.true_and, Bool.false_and, Bool.or_self, Bool.false_eq_true, if_false] <;> first | simp -implicitDefEqProofs (disch := first | omega | (simp only [List.length_set, List.length_append, List.length_cons, List.length_nil, List.length_take, List.length_drop, List.length_map]; omega) | simp) [wrap_i64, wrap_u16_id, wrap_u8_id, tdiv_pos, tmod_pos, -getElem?_pos, -getElem?_neg, -List.length_eq_zero_iff, -List.getElem_cons_drop, s___triuneref14_Modes__Reset_L0, s___triuneref14_Modes__Reset_B0, idxArr_k, hk, hkl]; done | (cases b <;> cases f1 <;> simp only [Bool.or_true, Bool.or_false, Bool.true_and, Bool.false_and, Bool.or_self, Bool.false_eq_true, if_false] <;> first | simp -implicitDefEqProofs (disch := first | omega | (simp only [List.length_set, List.length_append, List.length_cons, List.length_nil, List.length_take, List.length_drop, List.length_map]; omega) | simp) [wrap_i64, wrap_u16_id, wrap_u8_id, tdiv_pos, tmod_pos, -getElem?_pos, -getElem?_neg, -List.length_eq_zero_iff, -List.getElem_cons_drop, s___triuneref14_Modes__Reset_L0, s___triuneref14_Modes__Reset_B0, idxArr_k, hk, hkl]; done | (cases c <;> cases f2 <;> simp -implicitDefEqProofs (disch := first | omega | (simp only [List.length_set, List.length_append, List.length_cons, List.length_nil, List.length_take, List.length_drop, List.length_map]; omega) | simp) [wrap_i64, wrap_u16_id, wrap_u8_id, tdiv_pos, tmod_pos, -getElem?_pos, -getElem?_neg, -List.length_eq_zero_iff, -List.getElem_cons_drop, s___triuneref14_Modes__Reset_L0, s___triuneref14_Modes__Reset_B0, idxArr_k, hk, hkl]))
theorem rmodes_Reset_c (n k fl : Nat) (H : Heap) (m : Ms) (f0 f1 f2 : Bool) (hn : 10 ≤ n) (hfl : fl ≤ k) (hk : H[k]? = some m.R) (hw : WfH H) (hc : allF m f0 f1 f2 = true) : cW n 29 [.ptr k 0, .agg [Bo f0, Bo f1, Bo f2]] H fl = some (I .i64 0, H.set k (ms0 m.strikes).R) := by
  obtain ⟨n, rfl⟩ : ∃ m, n = m + 1 := ⟨n - 1, by omega⟩
  have qf := rmodes_first_c n m.strikes (by omega)
  have hkl := hp_lt hk
  have qL := fun K => rreset_L n fl k m f0 f1 f2 H (by omega) hk K
  simp only [hc, if_true] at qL
  refine cW_of (H' := (H ++ [DBlk.cells 60 [Bo f0, Bo f1, Bo f2]]).set k (ms0 m.strikes).R) (r := I .i64 0) ((s___triuneref14_Modes__Reset_eq _ _ _ _ _).trans ?_) (by simp) (cutH_set hw (k := k) hkl (hp_set_get _ _ _ (by simp; omega)) (fun j hj hjk => by rw [hp_set_ne _ _ _ _ hjk, hp_get_left _ _ _ hj]) (msR_old _ _ _))
  unfold s___triuneref14_Modes__Reset
  unfold Ms.R at hk
  unfold ms0 Ms.C at qf
  unfold ms0 Ms.R
  simp -implicitDefEqProofs (disch := first | omega | (simp only [List.length_set, List.length_append, List.length_cons, List.length_nil, List.length_take, List.length_drop, List.length_map]; omega) | simp) [wrap_i64, wrap_u16_id, wrap_u8_id, tdiv_pos, tmod_pos, -getElem?_pos, -getElem?_neg, -List.length_eq_zero_iff, -List.getElem_cons_drop, hk, hkl, qf, qL, s___triuneref14_Modes__Reset_O0]
theorem rmodes_Reset_no (n k fl : Nat) (H : Heap) (m : Ms) (f0 f1 f2 : Bool) (hn : 10 ≤ n) (hfl : fl ≤ k) (hk : H[k]? = some m.R) (hw : WfH H) (hc : allF m f0 f1 f2 = false) : cW n 29 [.ptr k 0, .agg [Bo f0, Bo f1, Bo f2]] H fl = some (I .i64 8, H) := by
  obtain ⟨n, rfl⟩ : ∃ m, n = m + 1 := ⟨n - 1, by omega⟩
  have hkl := hp_lt hk
  have qL := fun K => rreset_L n fl k m f0 f1 f2 H (by omega) hk K
  simp only [hc, Bool.false_eq_true, if_false] at qL
  refine cW_of (H' := H ++ [DBlk.cells 60 [Bo f0, Bo f1, Bo f2]]) (r := I .i64 8) ((s___triuneref14_Modes__Reset_eq _ _ _ _ _).trans ?_) (by simp) (cutH_same hw fun j hj => hp_get_left _ _ _ hj)
  unfold s___triuneref14_Modes__Reset
  simp -implicitDefEqProofs (disch := first | omega | (simp only [List.length_set, List.length_append, List.length_cons, List.length_nil, List.length_take, List.length_drop, List.length_map]; omega) | simp) [wrap_i64, wrap_u16_id, wrap_u8_id, tdiv_pos, tmod_pos, -getElem?_pos, -getElem?_neg, -List.length_eq_zero_iff, -List.getElem_cons_drop, qL, s___triuneref14_Modes__Reset_O0]
end Go.Proofs.Ytigfninpflemnab
