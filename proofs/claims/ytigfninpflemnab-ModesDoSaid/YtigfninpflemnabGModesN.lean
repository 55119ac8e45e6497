/- The program's modes: the state, a new one, the mode. -/
import Derived.Test.YtigfninpflemnabFModesN
import Derived.Test.YtigfninpflemnabGModesS
-- NEEDS: modes.New; modes.Mode; (*modes.Modes).State; modes.first; modes.all
namespace Go.Proofs.Ytigfninpflemnab
open Go
set_option linter.unusedSimpArgs false
set_option linter.unusedVariables false
set_option maxRecDepth 100000
theorem modes_State_c (n k : Nat) (H : Heap) (m : Ms) (hn : 1 ≤ n) (hk : H[k]? = some m.B) : cO n 31 [.ptr k 0] H = some (.agg m.C) := by
  obtain ⟨n, rfl⟩ : ∃ m, n = m + 1 := ⟨n - 1, by omega⟩
  have hkl := hp_lt hk
  unfold Ms.B at hk
  unfold Ms.C
  exact cO_of (r := .agg [Bo m.a.is, Bo m.b.is, Bo m.c.is, I .i64 m.a.cnt, I .i64 m.b.cnt, I .i64 m.c.cnt, I .i64 m.a.lat, I .i64 m.b.lat, I .i64 m.c.lat, I .i64 m.sp, I .i64 m.te, Bo m.safe]) (H' := H ++ [DBlk.cells 72 [Bo m.a.is, Bo m.b.is, Bo m.c.is, I .i64 m.a.cnt, I .i64 m.b.cnt, I .i64 m.c.cnt, I .i64 m.a.lat, I .i64 m.b.lat, I .i64 m.c.lat, I .i64 m.sp, I .i64 m.te, Bo m.safe]]) ((s___modes_Modes__State_eq _ _ _ _).trans (by unfold s___modes_Modes__State; simp -implicitDefEqProofs (disch := first | omega | (simp only [List.length_set, List.length_append, List.length_cons, List.length_nil, List.length_take, List.length_drop, List.length_map]; omega) | simp) [wrap_i64, wrap_u16_id, wrap_u8_id, tdiv_pos, tmod_pos, -getElem?_pos, -getElem?_neg, -List.length_eq_zero_iff, -List.getElem_cons_drop, hk]; first | done | exact rfl | exact ⟨rfl, rfl⟩)) (by simp)
def ms0 (s : Int) : Ms := ⟨s, ⟨true, 0, 0⟩, ⟨true, 0, 0⟩, ⟨true, 0, 0⟩, 0, -1, false⟩
theorem modes_all_c (n : Nat) (hn : 1 ≤ n) : cP n 78 false [] = some (.agg [Bo true, Bo true, Bo true]) := by
  obtain ⟨n, rfl⟩ : ∃ m, n = m + 1 := ⟨n - 1, by omega⟩
  exact cP_of (args' := []) (by rfl) ((s_modes_all_eq _ _ _).trans (by unfold s_modes_all; simp -implicitDefEqProofs (disch := first | omega | (simp only [List.length_set, List.length_append, List.length_cons, List.length_nil, List.length_take, List.length_drop, List.length_map]; omega) | simp) [wrap_i64, wrap_u16_id, wrap_u8_id, tdiv_pos, tmod_pos, -getElem?_pos, -getElem?_neg, -List.length_eq_zero_iff, -List.getElem_cons_drop]; first | exact rfl | exact ⟨rfl, rfl⟩)) (by simp <;> rfl)
theorem modes_first_c (n : Nat) (s : Int) (hn : 2 ≤ n) : cP n 58 false [] = some (.agg (ms0 s).C) := by
  obtain ⟨n, rfl⟩ : ∃ m, n = m + 1 := ⟨n - 1, by omega⟩
  have q := modes_all_c n (by omega)
  exact cP_of (args' := []) (by rfl) ((s_modes_first_eq _ _ _).trans (by unfold s_modes_first; simp -implicitDefEqProofs (disch := first | omega | (simp only [List.length_set, List.length_append, List.length_cons, List.length_nil, List.length_take, List.length_drop, List.length_map]; omega) | simp) [wrap_i64, wrap_u16_id, wrap_u8_id, tdiv_pos, tmod_pos, -getElem?_pos, -getElem?_neg, -List.length_eq_zero_iff, -List.getElem_cons_drop, q]; first | exact rfl | exact ⟨rfl, rfl⟩)) (by unfold ms0 Ms.C; simp <;> rfl)
theorem modes_New_c (n fl : Nat) (H : Heap) (s : Int) (hn : 3 ≤ n) (hs : 1 ≤ s ∧ s ≤ 20) : cK n 24 [I .i64 s] H fl = some (.tup [.ptr H.length 0, I .i64 0], H ++ [(ms0 s).B]) := by
  obtain ⟨n, rfl⟩ : ∃ m, n = m + 1 := ⟨n - 1, by omega⟩
  have q := modes_first_c n s (by omega)
  unfold ms0 Ms.C at q
  unfold cK ms0 Ms.B
  have h1 : ¬ s < 1 := by omega
  have h2 : ¬ 20 < s := by omega
  exact (s_modes_New_eq _ _ _ _).trans (by unfold s_modes_New; simp -implicitDefEqProofs (disch := first | omega | (simp only [List.length_set, List.length_append, List.length_cons, List.length_nil, List.length_take, List.length_drop, List.length_map]; omega) | simp) [wrap_i64, wrap_u16_id, wrap_u8_id, tdiv_pos, tmod_pos, -getElem?_pos, -getElem?_neg, -List.length_eq_zero_iff, -List.getElem_cons_drop, q, h1, h2]; first | done | rfl)
theorem modes_New_no (n fl : Nat) (H : Heap) (s : Int) (hn : 3 ≤ n) (hs : ¬ (1 ≤ s ∧ s ≤ 20)) : cK n 24 [I .i64 s] H fl = some (.tup [.flat (.pointer none), I .i64 1], H) := by
  obtain ⟨n, rfl⟩ : ∃ m, n = m + 1 := ⟨n - 1, by omega⟩
  unfold cK
  by_cases h1 : s < 1
  · exact (s_modes_New_eq _ _ _ _).trans (by unfold s_modes_New; simp -implicitDefEqProofs (disch := first | omega | (simp only [List.length_set, List.length_append, List.length_cons, List.length_nil, List.length_take, List.length_drop, List.length_map]; omega) | simp) [wrap_i64, wrap_u16_id, wrap_u8_id, tdiv_pos, tmod_pos, -getElem?_pos, -getElem?_neg, -List.length_eq_zero_iff, -List.getElem_cons_drop, h1]; first | done | rfl)
  · have h2 : 20 < s := by omega
    exact (s_modes_New_eq _ _ _ _).trans (by unfold s_modes_New; simp -implicitDefEqProofs (disch := first | omega | (simp only [List.length_set, List.length_append, List.length_cons, List.length_nil, List.length_take, List.length_drop, List.length_map]; omega) | simp) [wrap_i64, wrap_u16_id, wrap_u8_id, tdiv_pos, tmod_pos, -getElem?_pos, -getElem?_neg, -List.length_eq_zero_iff, -List.getElem_cons_drop, h1, h2]; first | done | rfl)
def modeV (m : Ms) : Int := if m.safe = true then 0 else max (manyV m.a.is m.b.is m.c.is - 1) 0
theorem manyV_r (a b c : Bool) : 0 ≤ manyV a b c ∧ manyV a b c ≤ 3 := by cases a <;> cases b <;> cases c <;> decide
theorem modes_Mode_c (n : Nat) (m : Ms) (hn : 8 ≤ n) : cP n 32 false [.agg m.C] = some (I .i64 (modeV m)) := by
  obtain ⟨n, rfl⟩ : ∃ m, n = m + 1 := ⟨n - 1, by omega⟩
  have q := many_c n m (by omega)
  have hr := manyV_r m.a.is m.b.is m.c.is
  unfold modeV
  unfold Ms.C at q ⊢
  by_cases c : m.safe = true
  · exact cP_of (args' := [.agg m.C]) (by unfold Ms.C; simp [argEl_eq]) ((s_modes_Mode_eq _ _ _ _).trans (by unfold s_modes_Mode Ms.C; simp -implicitDefEqProofs (disch := first | omega | (simp only [List.length_set, List.length_append, List.length_cons, List.length_nil, List.length_take, List.length_drop, List.length_map]; omega) | simp) [wrap_i64, wrap_u16_id, wrap_u8_id, tdiv_pos, tmod_pos, -getElem?_pos, -getElem?_neg, -List.length_eq_zero_iff, -List.getElem_cons_drop, maxI, c]; first | exact rfl | exact ⟨rfl, rfl⟩)) (by simp [c])
  · have c : m.safe = false := by simpa using c
    rw [c] at q
    exact cP_of (args' := [.agg m.C]) (by unfold Ms.C; simp [argEl_eq]) ((s_modes_Mode_eq _ _ _ _).trans (by unfold s_modes_Mode Ms.C; simp -implicitDefEqProofs (disch := first | omega | (simp only [List.length_set, List.length_append, List.length_cons, List.length_nil, List.length_take, List.length_drop, List.length_map]; omega) | simp) [wrap_i64, wrap_u16_id, wrap_u8_id, tdiv_pos, tmod_pos, -getElem?_pos, -getElem?_neg, -List.length_eq_zero_iff, -List.getElem_cons_drop, maxI, c, q]; first | exact rfl | exact ⟨rfl, rfl⟩)) (by simp [c])
end Go.Proofs.Ytigfninpflemnab
