/- The program's modes: a whole round, the state, a new one, the mode. -/
import Derived.Test.YtigfninpflemnabGModesR
namespace Go.Proofs.Ytigfninpflemnab
open Go
set_option linter.unusedSimpArgs false
set_option linter.unusedVariables false
set_option maxRecDepth 100000
def vdC (b0 b1 b2 sp : Bool) : List DV := [Bo b0, Bo b1, Bo b2, Bo sp]
def msR (m : Ms) (b0 b1 b2 : Bool) : Ms := { m with a := chR m.strikes b0 m.a, b := chR m.strikes b1 m.b, c := chR m.strikes b2 m.c }
def msRound (m : Ms) (b0 b1 b2 sp : Bool) : Ms := { msR m b0 b1 b2 with sp := moreV sp m.sp, safe := m.safe || decide (m.strikes ≤ moreV sp m.sp) || decide (manyV (msR m b0 b1 b2).a.is (msR m b0 b1 b2).b.is (msR m b0 b1 b2).c.is < 2) }
structure MsOk (m : Ms) (x : Int) : Prop where
  a : 0 ≤ m.a.cnt ∧ m.a.cnt ≤ x
  b : 0 ≤ m.b.cnt ∧ m.b.cnt ≤ x
  c : 0 ≤ m.c.cnt ∧ m.c.cnt ≤ x
  sp : 0 ≤ m.sp ∧ m.sp ≤ x
theorem round_L (n fl k : Nat) (m : Ms) (b0 b1 b2 sp : Bool) (H : Heap) (hn : 4 ≤ n) (hfl : fl ≤ k) (hk : H[k]? = some m.B) (x : Int) (hx : x ≤ 1000000) (ok : MsOk m x) (K : Ex → KF) :
    loopG [0, 3, 4, 13, 14] [0, 3, 4] 98 (s___modes_Modes__Round_b0 n fl) n (s___modes_Modes__Round_I0 (.ptr k 0) (.ptr H.length 0) (.ptr k 1) (.agg [Bo m.a.is, Bo m.b.is, Bo m.c.is]) (I .i64 0)) (H ++ [DBlk.cells 62 (vdC b0 b1 b2 sp)]) K =
      K (.exit 0) (s___modes_Modes__Round_O0 (.ptr k 0) (.ptr H.length 0) (.ptr k 1)) ((H ++ [DBlk.cells 62 (vdC b0 b1 b2 sp)]).set k (msR m b0 b1 b2).B) := by
  have hkl := hp_lt hk
  have hkv : k ≠ H.length := by omega
  rw [s___modes_Modes__Round_L0_eq]
  obtain ⟨mm, hm⟩ : ∃ mm, n = mm + 4 := ⟨n - 4, by omega⟩
  have hm2 : ∀ k, s___modes_Modes__Round_L0 n fl k n = s___modes_Modes__Round_L0 n fl k (mm + 4) := fun k => by rw [← hm]
  rw [hm2]
  unfold vdC
  generalize hG : (H ++ [DBlk.cells 62 [Bo b0, Bo b1, Bo b2, Bo sp]] : Heap) = G
  have gv : G[H.length]? = some (.cells 62 [Bo b0, Bo b1, Bo b2, Bo sp]) := by rw [← hG]; simp
  have gk : G[k]? = some m.B := by rw [← hG, hp_get_left _ _ _ hkl]; exact hk
  have gkl := hp_lt gk
  have hvk : H.length ≠ k := fun h => hkv h.symm
  rw [round_0 n fl k H.length K (mm + 3) m b0 b1 b2 sp _ _ _ G (by omega) hfl hkv gv gk ok.a.1 (by have := ok.a.2; omega) rfl]
  rw [round_1 n fl k H.length K (mm + 2) { m with a := chR m.strikes b0 m.a } b0 b1 b2 sp _ _ _ _ (by omega) hfl hkv (by rw [hp_set_ne _ _ _ _ hvk]; exact gv) (hp_set_get _ _ _ gkl) ok.b.1 (by have := ok.b.2; show m.b.cnt ≤ _; omega) rfl]
  rw [round_2 n fl k H.length K (mm + 1) { m with a := chR m.strikes b0 m.a, b := chR m.strikes b1 m.b } b0 b1 b2 sp _ _ _ _ (by omega) hfl hkv (by rw [hp_set_ne _ _ _ _ hvk, hp_set_ne _ _ _ _ hvk]; exact gv) (hp_set_get _ _ _ (by simp; exact gkl)) ok.c.1 (by have := ok.c.2; show m.c.cnt ≤ _; omega) rfl]
  rw [s___modes_Modes__Round_L0]
  unfold s___modes_Modes__Round_B0
  simp -implicitDefEqProofs (disch := first | omega | (simp only [List.length_set, List.length_append, List.length_cons, List.length_nil, List.length_take, List.length_drop, List.length_map]; omega) | simp) [wrap_i64, wrap_u16_id, wrap_u8_id, tdiv_pos, tmod_pos, -getElem?_pos, -getElem?_neg, -List.length_eq_zero_iff, -List.getElem_cons_drop]
  rfl
theorem modes_Round_c (n k fl : Nat) (H : Heap) (m : Ms) (b0 b1 b2 sp : Bool) (hn : 10 ≤ n) (hfl : fl ≤ k) (hk : H[k]? = some m.B) (hw : WfH H) (x : Int) (hx : x ≤ 1000000) (ok : MsOk m x) :
    cW n 34 [.ptr k 0, .agg (vdC b0 b1 b2 sp)] H fl = some (.tup [], H.set k (msRound m b0 b1 b2 sp).B) := by
  obtain ⟨n, rfl⟩ : ∃ m, n = m + 1 := ⟨n - 1, by omega⟩
  have hkl := hp_lt hk
  have q := fun K => round_L n fl k m b0 b1 b2 sp H (by omega) hfl hk x hx ok K
  have hM := more_c n sp m.sp ok.sp.1 (by have := ok.sp.2; omega) (by omega)
  unfold msRound
  have e1 : (msR m b0 b1 b2).strikes = m.strikes := rfl
  have e2 : (msR m b0 b1 b2).sp = m.sp := rfl
  have e3 : (msR m b0 b1 b2).te = m.te := rfl
  have e4 : (msR m b0 b1 b2).safe = m.safe := rfl
  generalize msR m b0 b1 b2 = r at *
  have hmy := many_c n { r with sp := moreV sp m.sp } (by omega)
  have hR : ∀ sf : Bool, oldBlk H.length ((H ++ [DBlk.cells 62 (vdC b0 b1 b2 sp)]).set k ({ r with sp := moreV sp m.sp, safe := sf } : Ms).B) ({ r with sp := moreV sp m.sp, safe := sf } : Ms).B = some ({ r with sp := moreV sp m.sp, safe := sf } : Ms).B := by
    intro sf
    unfold Ms.B
    simp
  refine cW_of (r := .tup []) ((s___modes_Modes__Round_eq _ _ _ _ _).trans ?_) (by simp) (cutH_set hw (k := k) hkl (by simp [hkl]) (fun j hj hjk => by rw [hp_set_ne _ _ _ _ hjk, hp_get_left _ _ _ hj]) (hR _))
  unfold Ms.B at hk q ⊢
  unfold vdC at q ⊢
  unfold Ms.C at hmy
  simp only [e1, e2, e3, e4] at hmy q ⊢
  unfold s___modes_Modes__Round
  by_cases c1 : m.safe = true
  · simp only [c1, Bool.true_or] at hk q hmy ⊢
    simp -implicitDefEqProofs (disch := first | omega | (simp only [List.length_set, List.length_append, List.length_cons, List.length_nil, List.length_take, List.length_drop, List.length_map]; omega) | simp) [wrap_i64, wrap_u16_id, wrap_u8_id, tdiv_pos, tmod_pos, -getElem?_pos, -getElem?_neg, -List.length_eq_zero_iff, -List.getElem_cons_drop, hk, hkl, q, s___modes_Modes__Round_O0, hM]
  · have c1 : m.safe = false := by simpa using c1
    simp only [c1, Bool.false_or] at hk q hmy ⊢
    by_cases c2 : m.strikes ≤ moreV sp m.sp
    · simp -implicitDefEqProofs (disch := first | omega | (simp only [List.length_set, List.length_append, List.length_cons, List.length_nil, List.length_take, List.length_drop, List.length_map]; omega) | simp) [wrap_i64, wrap_u16_id, wrap_u8_id, tdiv_pos, tmod_pos, -getElem?_pos, -getElem?_neg, -List.length_eq_zero_iff, -List.getElem_cons_drop, hk, hkl, q, s___modes_Modes__Round_O0, hM, c2]
    · simp -implicitDefEqProofs (disch := first | omega | (simp only [List.length_set, List.length_append, List.length_cons, List.length_nil, List.length_take, List.length_drop, List.length_map]; omega) | simp) [wrap_i64, wrap_u16_id, wrap_u8_id, tdiv_pos, tmod_pos, -getElem?_pos, -getElem?_neg, -List.length_eq_zero_iff, -List.getElem_cons_drop, hk, hkl, q, s___modes_Modes__Round_O0, hM, c2, hmy]
end Go.Proofs.Ytigfninpflemnab
