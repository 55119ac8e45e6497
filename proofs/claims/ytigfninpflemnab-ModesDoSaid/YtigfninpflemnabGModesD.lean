/- An act done, in the program. -/
import Derived.Test.YtigfninpflemnabFModesD
import Derived.Test.YtigfninpflemnabGModesT
-- NEEDS: triunelaw14.do
namespace Go.Proofs.Ytigfninpflemnab
open Go
set_option linter.unusedSimpArgs false
set_option linter.unusedVariables false
set_option maxRecDepth 100000
structure Act where
  do_ : Int
  ch : Int
  b0 : Bool
  b1 : Bool
  b2 : Bool
  sp : Bool
  f0 : Bool
  f1 : Bool
  f2 : Bool
def acE (x : Act) : DV := .agg [I .i64 x.do_, I .i64 x.ch, Bo x.b0, Bo x.b1, Bo x.b2, Bo x.sp, Bo x.f0, Bo x.f1, Bo x.f2]
def doV (m : Ms) (x : Act) : Int × Ms :=
  if x.do_ = 0 then (0, msRound m x.b0 x.b1 x.b2 x.sp)
  else if x.do_ = 1 then (if ¬ (0 ≤ x.ch ∧ x.ch < 3) then (1, m) else if m.safe = true ∨ (m.a.is && m.b.is && m.c.is) = false then (8, m) else (0, msTest m x.ch))
  else if x.do_ = 2 then (if allF m x.f0 x.f1 x.f2 = true then (0, ms0 m.strikes) else (8, m))
  else (if ¬ (0 ≤ x.ch ∧ x.ch < 3) then (1, m) else (0, msFault m x.ch))
theorem act_wf (n : Nat) (x : Act) : WfB n (.cells 64 [I .i64 x.do_, I .i64 x.ch, Bo x.b0, Bo x.b1, Bo x.b2, Bo x.sp, Bo x.f0, Bo x.f1, Bo x.f2]) := by
  intro d hd
  simp at hd
  rcases hd with rfl | rfl | rfl | rfl | rfl | rfl | rfl | rfl | rfl <;> rfl
theorem do_c (n k fl : Nat) (H : Heap) (m : Ms) (x : Act) (hn : 12 ≤ n) (hfl : fl ≤ k) (hk : H[k]? = some m.B) (hw : WfH H) (y : Int) (hy : y ≤ 1000000) (ok : MsOk m y) :
    cW n 26 [.ptr k 0, acE x] H fl = some (I .i64 (doV m x).1, H.set k (doV m x).2.B) := by
  obtain ⟨n, rfl⟩ : ∃ m, n = m + 1 := ⟨n - 1, by omega⟩
  have hkl := hp_lt hk
  have hw1 : WfH (H ++ [DBlk.cells 64 [I .i64 x.do_, I .i64 x.ch, Bo x.b0, Bo x.b1, Bo x.b2, Bo x.sp, Bo x.f0, Bo x.f1, Bo x.f2]]) := hw.app (by intro b hb; simp at hb; subst hb; exact act_wf _ _)
  have hk1 : (H ++ [DBlk.cells 64 [I .i64 x.do_, I .i64 x.ch, Bo x.b0, Bo x.b1, Bo x.b2, Bo x.sp, Bo x.f0, Bo x.f1, Bo x.f2]])[k]? = some m.B := by rw [hp_get_left _ _ _ hkl]; exact hk
  have hkl1 := hp_lt hk1
  have go : ∀ e m', doV m x = (e, m') → s_triunelaw14_do n H fl (.ptr k 0) (acE x) = some (I .i64 e, (H ++ [DBlk.cells 64 [I .i64 x.do_, I .i64 x.ch, Bo x.b0, Bo x.b1, Bo x.b2, Bo x.sp, Bo x.f0, Bo x.f1, Bo x.f2]]).set k m'.B) → cW (n + 1) 26 [.ptr k 0, acE x] H fl = some (I .i64 (doV m x).1, H.set k (doV m x).2.B) := by
    intro e m' h1 h2
    rw [h1]
    exact cW_of ((s_triunelaw14_do_eq _ _ _ _ _).trans h2) (by simp) (cutH_set hw (k := k) hkl (hp_set_get _ _ _ hkl1) (fun j hj hjk => by rw [hp_set_ne _ _ _ _ hjk, hp_get_left _ _ _ hj]) (msB_old _ _ _))
  have go2 : ∀ e, doV m x = (e, m) → s_triunelaw14_do n H fl (.ptr k 0) (acE x) = some (I .i64 e, H ++ [DBlk.cells 64 [I .i64 x.do_, I .i64 x.ch, Bo x.b0, Bo x.b1, Bo x.b2, Bo x.sp, Bo x.f0, Bo x.f1, Bo x.f2]]) → cW (n + 1) 26 [.ptr k 0, acE x] H fl = some (I .i64 (doV m x).1, H.set k (doV m x).2.B) := by
    intro e h1 h2
    exact go e m h1 (by rw [hp_set_id hk1]; exact h2)
  obtain ⟨d, c, b0, b1, b2, sp, f0, f1, f2⟩ := x
  simp only at hw1 hk1 hkl1 go go2
  by_cases c0 : d = 0
  · have hR := modes_Round_c n k fl _ m b0 b1 b2 sp (by omega) hfl hk1 hw1 y hy ok
    refine go 0 _ (by unfold doV; rw [if_pos c0]) ?_
    subst c0
    unfold vdC at hR
    unfold s_triunelaw14_do acE
    simp -implicitDefEqProofs (disch := first | omega | (simp only [List.length_set, List.length_append, List.length_cons, List.length_nil, List.length_take, List.length_drop, List.length_map]; omega) | simp) [wrap_i64, wrap_u16_id, wrap_u8_id, tdiv_pos, tmod_pos, -getElem?_pos, -getElem?_neg, -List.length_eq_zero_iff, -List.getElem_cons_drop, hR, hkl]
  by_cases c1 : d = 1
  · subst c1
    by_cases h : 0 ≤ c ∧ c < 3
    · by_cases hs : m.safe = true ∨ (m.a.is && m.b.is && m.c.is) = false
      · have hT := modes_Test_bad n k fl _ m c (by omega) hk1 hw1 h hs
        refine go2 8 (by unfold doV; rw [if_neg (by simp), if_pos rfl, if_neg (by simpa using h), if_pos hs]) ?_
        unfold s_triunelaw14_do acE
        simp -implicitDefEqProofs (disch := first | omega | (simp only [List.length_set, List.length_append, List.length_cons, List.length_nil, List.length_take, List.length_drop, List.length_map]; omega) | simp) [wrap_i64, wrap_u16_id, wrap_u8_id, tdiv_pos, tmod_pos, -getElem?_pos, -getElem?_neg, -List.length_eq_zero_iff, -List.getElem_cons_drop, hT, hkl]
      · have h1 : m.safe = false := by
          cases hh : m.safe with
          | false => rfl
          | true => exact absurd (.inl hh) hs
        have h2 : (m.a.is && m.b.is && m.c.is) = true := by
          cases hh : (m.a.is && m.b.is && m.c.is) with
          | true => rfl
          | false => exact absurd (.inr hh) hs
        have hT := modes_Test_c n k fl _ m c (by omega) hfl hk1 hw1 h h1 h2
        refine go 0 _ (by unfold doV; rw [if_neg (by simp), if_pos rfl, if_neg (by simpa using h), if_neg hs]) ?_
        unfold s_triunelaw14_do acE
        simp -implicitDefEqProofs (disch := first | omega | (simp only [List.length_set, List.length_append, List.length_cons, List.length_nil, List.length_take, List.length_drop, List.length_map]; omega) | simp) [wrap_i64, wrap_u16_id, wrap_u8_id, tdiv_pos, tmod_pos, -getElem?_pos, -getElem?_neg, -List.length_eq_zero_iff, -List.getElem_cons_drop, hT, hkl]
    · have hT := modes_Test_no n k fl _ c (by omega) hw1 h
      refine go2 1 (by unfold doV; rw [if_neg (by simp), if_pos rfl, if_pos h]) ?_
      unfold s_triunelaw14_do acE
      simp -implicitDefEqProofs (disch := first | omega | (simp only [List.length_set, List.length_append, List.length_cons, List.length_nil, List.length_take, List.length_drop, List.length_map]; omega) | simp) [wrap_i64, wrap_u16_id, wrap_u8_id, tdiv_pos, tmod_pos, -getElem?_pos, -getElem?_neg, -List.length_eq_zero_iff, -List.getElem_cons_drop, hT, hkl]
  by_cases c2 : d = 2
  · subst c2
    cases h : allF m f0 f1 f2 with
    | true =>
      have hR := modes_Reset_c n k fl _ m f0 f1 f2 (by omega) hfl hk1 hw1 h
      refine go 0 _ (by unfold doV; rw [if_neg (by simp), if_neg (by simp), if_pos rfl, if_pos h]) ?_
      unfold s_triunelaw14_do acE
      simp -implicitDefEqProofs (disch := first | omega | (simp only [List.length_set, List.length_append, List.length_cons, List.length_nil, List.length_take, List.length_drop, List.length_map]; omega) | simp) [wrap_i64, wrap_u16_id, wrap_u8_id, tdiv_pos, tmod_pos, -getElem?_pos, -getElem?_neg, -List.length_eq_zero_iff, -List.getElem_cons_drop, hR, hkl]
    | false =>
      have hR := modes_Reset_no n k fl _ m f0 f1 f2 (by omega) hfl hk1 hw1 h
      refine go2 8 (by unfold doV; rw [if_neg (by simp), if_neg (by simp), if_pos rfl, if_neg (by simp [h])]) ?_
      unfold s_triunelaw14_do acE
      simp -implicitDefEqProofs (disch := first | omega | (simp only [List.length_set, List.length_append, List.length_cons, List.length_nil, List.length_take, List.length_drop, List.length_map]; omega) | simp) [wrap_i64, wrap_u16_id, wrap_u8_id, tdiv_pos, tmod_pos, -getElem?_pos, -getElem?_neg, -List.length_eq_zero_iff, -List.getElem_cons_drop, hR, hkl]
  by_cases h : 0 ≤ c ∧ c < 3
  · have hF := modes_Fault_c n k fl _ m c (by omega) hfl hk1 hw1 h
    refine go 0 _ (by unfold doV; rw [if_neg c0, if_neg c1, if_neg c2, if_neg (by simpa using h)]) ?_
    unfold s_triunelaw14_do acE
    simp -implicitDefEqProofs (disch := first | omega | (simp only [List.length_set, List.length_append, List.length_cons, List.length_nil, List.length_take, List.length_drop, List.length_map]; omega) | simp) [wrap_i64, wrap_u16_id, wrap_u8_id, tdiv_pos, tmod_pos, -getElem?_pos, -getElem?_neg, -List.length_eq_zero_iff, -List.getElem_cons_drop, c0, c1, c2, hF, hkl]
  · have hF := modes_Fault_no n k fl _ c (by omega) hw1 h
    refine go2 1 (by unfold doV; rw [if_neg c0, if_neg c1, if_neg c2, if_pos h]) ?_
    unfold s_triunelaw14_do acE
    simp -implicitDefEqProofs (disch := first | omega | (simp only [List.length_set, List.length_append, List.length_cons, List.length_nil, List.length_take, List.length_drop, List.length_map]; omega) | simp) [wrap_i64, wrap_u16_id, wrap_u8_id, tdiv_pos, tmod_pos, -getElem?_pos, -getElem?_neg, -List.length_eq_zero_iff, -List.getElem_cons_drop, c0, c1, c2, hF, hkl]
end Go.Proofs.Ytigfninpflemnab
