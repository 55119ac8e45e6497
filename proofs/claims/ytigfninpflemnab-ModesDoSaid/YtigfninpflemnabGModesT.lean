/- The program's modes: a test, a reset, a fault. -/
import Derived.Test.YtigfninpflemnabFModesT
import Derived.Test.YtigfninpflemnabGModesN
import Derived.Test.YtigfninpflemnabEq2
-- NEEDS: (*modes.Modes).Test; (*modes.Modes).Reset; (*modes.Modes).Fault; modes.channel
namespace Go.Proofs.Ytigfninpflemnab
open Go
set_option linter.unusedSimpArgs false
set_option linter.unusedVariables false
set_option maxRecDepth 100000
theorem channel_c (n : Nat) (c : Int) (hn : 1 ≤ n) : cP n 79 false [I .i64 c] = some (Bo (decide (0 ≤ c ∧ c < 3))) := by
  obtain ⟨n, rfl⟩ : ∃ m, n = m + 1 := ⟨n - 1, by omega⟩
  by_cases c1 : 0 ≤ c
  · exact cP_of (args' := [I .i64 c]) (by simp [argEl_eq]) ((s_modes_channel_eq _ _ _ _).trans (by unfold s_modes_channel; simp -implicitDefEqProofs (disch := first | omega | (simp only [List.length_set, List.length_append, List.length_cons, List.length_nil, List.length_take, List.length_drop, List.length_map]; omega) | simp) [wrap_i64, wrap_u16_id, wrap_u8_id, tdiv_pos, tmod_pos, -getElem?_pos, -getElem?_neg, -List.length_eq_zero_iff, -List.getElem_cons_drop, c1]; first | exact rfl | exact ⟨rfl, rfl⟩)) (by simp [c1])
  · exact cP_of (args' := [I .i64 c]) (by simp [argEl_eq]) ((s_modes_channel_eq _ _ _ _).trans (by unfold s_modes_channel; simp -implicitDefEqProofs (disch := first | omega | (simp only [List.length_set, List.length_append, List.length_cons, List.length_nil, List.length_take, List.length_drop, List.length_map]; omega) | simp) [wrap_i64, wrap_u16_id, wrap_u8_id, tdiv_pos, tmod_pos, -getElem?_pos, -getElem?_neg, -List.length_eq_zero_iff, -List.getElem_cons_drop, c1]; first | exact rfl | exact ⟨rfl, rfl⟩)) (by simp [c1])
def msFault (m : Ms) (c : Int) : Ms := if c = 0 then { m with a := { m.a with lat := orI .i64 m.a.lat 2 } } else if c = 1 then { m with b := { m.b with lat := orI .i64 m.b.lat 2 } } else { m with c := { m.c with lat := orI .i64 m.c.lat 2 } }
def msTest (m : Ms) (c : Int) : Ms := if c = 0 then { m with a := ⟨false, 0, m.a.lat⟩, te := 0 } else if c = 1 then { m with b := ⟨false, 0, m.b.lat⟩, te := 1 } else { m with c := ⟨false, 0, m.c.lat⟩, te := 2 }
theorem msB_old (n : Nat) (H : Heap) (m : Ms) : oldBlk n H m.B = some m.B := by
  unfold Ms.B
  simp
theorem modes_Fault_no (n k fl : Nat) (H : Heap) (c : Int) (hn : 3 ≤ n) (hw : WfH H) (hc : ¬ (0 ≤ c ∧ c < 3)) : cW n 57 [.ptr k 0, I .i64 c] H fl = some (I .i64 1, H) := by
  obtain ⟨n, rfl⟩ : ∃ m, n = m + 1 := ⟨n - 1, by omega⟩
  have q := channel_c n c (by omega)
  rw [decide_eq_false hc] at q
  exact cW_of (H' := H) (r := I .i64 1) ((s___modes_Modes__Fault_eq _ _ _ _ _).trans (by unfold s___modes_Modes__Fault; simp -implicitDefEqProofs (disch := first | omega | (simp only [List.length_set, List.length_append, List.length_cons, List.length_nil, List.length_take, List.length_drop, List.length_map]; omega) | simp) [wrap_i64, wrap_u16_id, wrap_u8_id, tdiv_pos, tmod_pos, -getElem?_pos, -getElem?_neg, -List.length_eq_zero_iff, -List.getElem_cons_drop, q])) (by simp) (cutH_same hw fun j hj => rfl)
theorem modes_Fault_c (n k fl : Nat) (H : Heap) (m : Ms) (c : Int) (hn : 3 ≤ n) (hfl : fl ≤ k) (hk : H[k]? = some m.B) (hw : WfH H) (hc : 0 ≤ c ∧ c < 3) : cW n 57 [.ptr k 0, I .i64 c] H fl = some (I .i64 0, H.set k (msFault m c).B) := by
  obtain ⟨n, rfl⟩ : ∃ m, n = m + 1 := ⟨n - 1, by omega⟩
  have q := channel_c n c (by omega)
  have hkl := hp_lt hk
  rw [decide_eq_true hc] at q
  refine cW_of (H' := H.set k (msFault m c).B) (r := I .i64 0) ((s___modes_Modes__Fault_eq _ _ _ _ _).trans ?_) (by simp) (cutH_set hw (k := k) hkl (hp_set_get _ _ _ hkl) (fun j hj hjk => hp_set_ne _ _ _ _ hjk) (msB_old _ _ _))
  unfold s___modes_Modes__Fault
  unfold Ms.B at hk
  rcases (by omega : c = 0 ∨ c = 1 ∨ c = 2) with rfl | rfl | rfl
  · unfold msFault Ms.B; simp -implicitDefEqProofs (disch := first | omega | (simp only [List.length_set, List.length_append, List.length_cons, List.length_nil, List.length_take, List.length_drop, List.length_map]; omega) | simp) [wrap_i64, wrap_u16_id, wrap_u8_id, tdiv_pos, tmod_pos, -getElem?_pos, -getElem?_neg, -List.length_eq_zero_iff, -List.getElem_cons_drop, q, hk, idxArr_k]
  · unfold msFault Ms.B; simp -implicitDefEqProofs (disch := first | omega | (simp only [List.length_set, List.length_append, List.length_cons, List.length_nil, List.length_take, List.length_drop, List.length_map]; omega) | simp) [wrap_i64, wrap_u16_id, wrap_u8_id, tdiv_pos, tmod_pos, -getElem?_pos, -getElem?_neg, -List.length_eq_zero_iff, -List.getElem_cons_drop, q, hk, idxArr_k]
  · unfold msFault Ms.B; simp -implicitDefEqProofs (disch := first | omega | (simp only [List.length_set, List.length_append, List.length_cons, List.length_nil, List.length_take, List.length_drop, List.length_map]; omega) | simp) [wrap_i64, wrap_u16_id, wrap_u8_id, tdiv_pos, tmod_pos, -getElem?_pos, -getElem?_neg, -List.length_eq_zero_iff, -List.getElem_cons_drop, q, hk, idxArr_k]
theorem modes_Test_no (n k fl : Nat) (H : Heap) (c : Int) (hn : 3 ≤ n) (hw : WfH H) (hc : ¬ (0 ≤ c ∧ c < 3)) : cW n 56 [.ptr k 0, I .i64 c] H fl = some (I .i64 1, H) := by
  obtain ⟨n, rfl⟩ : ∃ m, n = m + 1 := ⟨n - 1, by omega⟩
  have q := channel_c n c (by omega)
  rw [decide_eq_false hc] at q
  exact cW_of (H' := H) (r := I .i64 1) ((s___modes_Modes__Test_eq _ _ _ _ _).trans (by unfold s___modes_Modes__Test; simp -implicitDefEqProofs (disch := first | omega | (simp only [List.length_set, List.length_append, List.length_cons, List.length_nil, List.length_take, List.length_drop, List.length_map]; omega) | simp) [wrap_i64, wrap_u16_id, wrap_u8_id, tdiv_pos, tmod_pos, -getElem?_pos, -getElem?_neg, -List.length_eq_zero_iff, -List.getElem_cons_drop, q])) (by simp) (cutH_same hw fun j hj => rfl)
theorem modes_Test_bad (n k fl : Nat) (H : Heap) (m : Ms) (c : Int) (hn : 3 ≤ n) (hk : H[k]? = some m.B) (hw : WfH H) (hc : 0 ≤ c ∧ c < 3) (hs : m.safe = true ∨ (m.a.is && m.b.is && m.c.is) = false) : cW n 56 [.ptr k 0, I .i64 c] H fl = some (I .i64 8, H) := by
  obtain ⟨n, rfl⟩ : ∃ m, n = m + 1 := ⟨n - 1, by omega⟩
  have q := channel_c n c (by omega)
  have qa := modes_all_c n (by omega)
  rw [decide_eq_true hc] at q
  unfold Ms.B at hk
  refine cW_of (H' := H) (r := I .i64 8) ((s___modes_Modes__Test_eq _ _ _ _ _).trans ?_) (by simp) (cutH_same hw fun j hj => rfl)
  unfold s___modes_Modes__Test
  by_cases h : m.safe = true
  · simp -implicitDefEqProofs (disch := first | omega | (simp only [List.length_set, List.length_append, List.length_cons, List.length_nil, List.length_take, List.length_drop, List.length_map]; omega) | simp) [wrap_i64, wrap_u16_id, wrap_u8_id, tdiv_pos, tmod_pos, -getElem?_pos, -getElem?_neg, -List.length_eq_zero_iff, -List.getElem_cons_drop, q, hk, h]
  · have h1 : m.safe = false := by simpa using h
    have h2 := hs.resolve_left h
    have h3 : (m.a.is == true && m.b.is == true && m.c.is == true) = false := by simpa using h2
    have hq := fun x y => neq_b3 m.a.is m.b.is m.c.is true true true x y
    simp only [h3, Bool.not_false] at hq
    simp -implicitDefEqProofs (disch := first | omega | (simp only [List.length_set, List.length_append, List.length_cons, List.length_nil, List.length_take, List.length_drop, List.length_map]; omega) | simp) [wrap_i64, wrap_u16_id, wrap_u8_id, tdiv_pos, tmod_pos, -getElem?_pos, -getElem?_neg, -List.length_eq_zero_iff, -List.getElem_cons_drop, q, hk, h1, qa, hq]
theorem modes_Test_c (n k fl : Nat) (H : Heap) (m : Ms) (c : Int) (hn : 3 ≤ n) (hfl : fl ≤ k) (hk : H[k]? = some m.B) (hw : WfH H) (hc : 0 ≤ c ∧ c < 3) (hs : m.safe = false) (hi : (m.a.is && m.b.is && m.c.is) = true) : cW n 56 [.ptr k 0, I .i64 c] H fl = some (I .i64 0, H.set k (msTest m c).B) := by
  obtain ⟨n, rfl⟩ : ∃ m, n = m + 1 := ⟨n - 1, by omega⟩
  have q := channel_c n c (by omega)
  have qa := modes_all_c n (by omega)
  have hkl := hp_lt hk
  rw [decide_eq_true hc] at q
  refine cW_of (H' := H.set k (msTest m c).B) (r := I .i64 0) ((s___modes_Modes__Test_eq _ _ _ _ _).trans ?_) (by simp) (cutH_set hw (k := k) hkl (hp_set_get _ _ _ hkl) (fun j hj hjk => hp_set_ne _ _ _ _ hjk) (msB_old _ _ _))
  have h3 : (m.a.is == true && m.b.is == true && m.c.is == true) = true := by simpa using hi
  have hq := fun x y => neq_b3 m.a.is m.b.is m.c.is true true true x y
  simp only [h3, Bool.not_true] at hq
  unfold s___modes_Modes__Test
  unfold Ms.B at hk
  rcases (by omega : c = 0 ∨ c = 1 ∨ c = 2) with rfl | rfl | rfl
  · unfold msTest Ms.B; simp -implicitDefEqProofs (disch := first | omega | (simp only [List.length_set, List.length_append, List.length_cons, List.length_nil, List.length_take, List.length_drop, List.length_map]; omega) | simp) [wrap_i64, wrap_u16_id, wrap_u8_id, tdiv_pos, tmod_pos, -getElem?_pos, -getElem?_neg, -List.length_eq_zero_iff, -List.getElem_cons_drop, q, hk, hs, qa, hq, idxArr_k]
  · unfold msTest Ms.B; simp -implicitDefEqProofs (disch := first | omega | (simp only [List.length_set, List.length_append, List.length_cons, List.length_nil, List.length_take, List.length_drop, List.length_map]; omega) | simp) [wrap_i64, wrap_u16_id, wrap_u8_id, tdiv_pos, tmod_pos, -getElem?_pos, -getElem?_neg, -List.length_eq_zero_iff, -List.getElem_cons_drop, q, hk, hs, qa, hq, idxArr_k]
  · unfold msTest Ms.B; simp -implicitDefEqProofs (disch := first | omega | (simp only [List.length_set, List.length_append, List.length_cons, List.length_nil, List.length_take, List.length_drop, List.length_map]; omega) | simp) [wrap_i64, wrap_u16_id, wrap_u8_id, tdiv_pos, tmod_pos, -getElem?_pos, -getElem?_neg, -List.length_eq_zero_iff, -List.getElem_cons_drop, q, hk, hs, qa, hq, idxArr_k]
def allF (m : Ms) (f0 f1 f2 : Bool) : Bool := (f0 || m.a.is) && (f1 || m.b.is) && (f2 || m.c.is)
theorem reset_L (n fl : Nat) (k : Nat) (m : Ms) (f0 f1 f2 : Bool) (H : Heap) (hn : 4 ≤ n) (hfl : fl ≤ H.length) (K : Ex → KF) :
    loopG [0, 3, 11, 12] [0, 3] 32 (s___modes_Modes__Reset_b0 n fl) n (s___modes_Modes__Reset_I0 (.ptr k 0) (.ptr H.length 0) (.agg [Bo m.a.is, Bo m.b.is, Bo m.c.is]) (I .i64 0)) (H ++ [DBlk.cells 60 [Bo f0, Bo f1, Bo f2]]) K =
      K (.exit 0) (s___modes_Modes__Reset_O0 (.ptr k 0) (.ptr H.length 0)) (H ++ [DBlk.cells 60 [Bo (f0 || m.a.is), Bo (f1 || m.b.is), Bo (f2 || m.c.is)]]) := by
  rw [s___modes_Modes__Reset_L0_eq]
  obtain ⟨mm, hm⟩ : ∃ mm, n = mm + 4 := ⟨n - 4, by omega⟩
  have hm2 : ∀ k, s___modes_Modes__Reset_L0 n fl k n = s___modes_Modes__Reset_L0 n fl k (mm + 4) := fun k => by rw [← hm]
  rw [hm2]
  cases f0 <;> cases f1 <;> cases f2 <;> simp -implicitDefEqProofs (disch := first | omega | (simp only [List.length_set, List.length_append, List.length_cons, List.length_nil, List.length_take, List.length_drop, List.length_map]; omega) | simp) [wrap_i64, wrap_u16_id, wrap_u8_id, tdiv_pos, tmod_pos, -getElem?_pos, -getElem?_neg, -List.length_eq_zero_iff, -List.getElem_cons_drop, s___modes_Modes__Reset_L0, s___modes_Modes__Reset_B0, idxV3_0, idxV3_1, idxV3_2, idxArr_k]
theorem modes_Reset_c (n k fl : Nat) (H : Heap) (m : Ms) (f0 f1 f2 : Bool) (hn : 10 ≤ n) (hfl : fl ≤ k) (hk : H[k]? = some m.B) (hw : WfH H) (hc : allF m f0 f1 f2 = true) : cW n 55 [.ptr k 0, .agg [Bo f0, Bo f1, Bo f2]] H fl = some (I .i64 0, H.set k (ms0 m.strikes).B) := by
  obtain ⟨n, rfl⟩ : ∃ m, n = m + 1 := ⟨n - 1, by omega⟩
  have qa := modes_all_c n (by omega)
  have qf := modes_first_c n m.strikes (by omega)
  have hkl := hp_lt hk
  have qL := fun K => reset_L n fl k m f0 f1 f2 H (by omega) (by omega) K
  have hq := fun x y => neq_b3 (f0 || m.a.is) (f1 || m.b.is) (f2 || m.c.is) true true true x y
  have h3 : ((f0 || m.a.is) == true && (f1 || m.b.is) == true && (f2 || m.c.is) == true) = true := by unfold allF at hc; simpa using hc
  simp only [h3, Bool.not_true] at hq
  refine cW_of (H' := (H ++ [DBlk.cells 60 [Bo (f0 || m.a.is), Bo (f1 || m.b.is), Bo (f2 || m.c.is)]]).set k (ms0 m.strikes).B) (r := I .i64 0) ((s___modes_Modes__Reset_eq _ _ _ _ _).trans ?_) (by simp) (cutH_set hw (k := k) hkl (hp_set_get _ _ _ (by simp; omega)) (fun j hj hjk => by rw [hp_set_ne _ _ _ _ hjk, hp_get_left _ _ _ hj]) (msB_old _ _ _))
  unfold s___modes_Modes__Reset
  unfold Ms.B at hk
  unfold ms0 Ms.C at qf
  unfold ms0 Ms.B
  simp -implicitDefEqProofs (disch := first | omega | (simp only [List.length_set, List.length_append, List.length_cons, List.length_nil, List.length_take, List.length_drop, List.length_map]; omega) | simp) [wrap_i64, wrap_u16_id, wrap_u8_id, tdiv_pos, tmod_pos, -getElem?_pos, -getElem?_neg, -List.length_eq_zero_iff, -List.getElem_cons_drop, hk, hkl, qa, qf, qL, hq, s___modes_Modes__Reset_O0]
theorem modes_Reset_no (n k fl : Nat) (H : Heap) (m : Ms) (f0 f1 f2 : Bool) (hn : 10 ≤ n) (hfl : fl ≤ k) (hk : H[k]? = some m.B) (hw : WfH H) (hc : allF m f0 f1 f2 = false) : cW n 55 [.ptr k 0, .agg [Bo f0, Bo f1, Bo f2]] H fl = some (I .i64 8, H) := by
  obtain ⟨n, rfl⟩ : ∃ m, n = m + 1 := ⟨n - 1, by omega⟩
  have qa := modes_all_c n (by omega)
  have hkl := hp_lt hk
  have qL := fun K => reset_L n fl k m f0 f1 f2 H (by omega) (by omega) K
  have hq := fun x y => neq_b3 (f0 || m.a.is) (f1 || m.b.is) (f2 || m.c.is) true true true x y
  have h3 : ((f0 || m.a.is) == true && (f1 || m.b.is) == true && (f2 || m.c.is) == true) = false := by
    unfold allF at hc
    rw [← hc]
    cases (f0 || m.a.is) <;> cases (f1 || m.b.is) <;> cases (f2 || m.c.is) <;> rfl
  simp only [h3, Bool.not_false] at hq
  refine cW_of (H' := H ++ [DBlk.cells 60 [Bo (f0 || m.a.is), Bo (f1 || m.b.is), Bo (f2 || m.c.is)]]) (r := I .i64 8) ((s___modes_Modes__Reset_eq _ _ _ _ _).trans ?_) (by simp) (cutH_same hw fun j hj => hp_get_left _ _ _ hj)
  unfold s___modes_Modes__Reset
  unfold Ms.B at hk
  simp -implicitDefEqProofs (disch := first | omega | (simp only [List.length_set, List.length_append, List.length_cons, List.length_nil, List.length_take, List.length_drop, List.length_map]; omega) | simp) [wrap_i64, wrap_u16_id, wrap_u8_id, tdiv_pos, tmod_pos, -getElem?_pos, -getElem?_neg, -List.length_eq_zero_iff, -List.getElem_cons_drop, hk, hkl, qa, qL, hq, s___modes_Modes__Reset_O0]
end Go.Proofs.Ytigfninpflemnab
