/- A round's verdict counts, in the program. -/
import Derived.Test.YtigfninpflemnabFModesR
import Derived.Test.YtigfninpflemnabHp
import Derived.Test.YtigfninpflemnabGPtsMay
-- NEEDS: (*modes.Modes).Round; (triune/modes.State).many; modes.more
namespace Go.Proofs.Ytigfninpflemnab
open Go
set_option linter.unusedSimpArgs false
set_option linter.unusedVariables false
set_option maxRecDepth 100000
structure Ch where
  is : Bool
  cnt : Int
  lat : Int
structure Ms where
  strikes : Int
  a : Ch
  b : Ch
  c : Ch
  sp : Int
  te : Int
  safe : Bool
def Ms.C (m : Ms) : List DV := [Bo m.a.is, Bo m.b.is, Bo m.c.is, I .i64 m.a.cnt, I .i64 m.b.cnt, I .i64 m.c.cnt, I .i64 m.a.lat, I .i64 m.b.lat, I .i64 m.c.lat, I .i64 m.sp, I .i64 m.te, Bo m.safe]
def Ms.B (m : Ms) : DBlk := .cells 118 [I .i64 m.strikes, Bo m.a.is, Bo m.b.is, Bo m.c.is, I .i64 m.a.cnt, I .i64 m.b.cnt, I .i64 m.c.cnt, I .i64 m.a.lat, I .i64 m.b.lat, I .i64 m.c.lat, I .i64 m.sp, I .i64 m.te, Bo m.safe]
def moreV (is : Bool) (n : Int) : Int := if is = true then n + 1 else 0
def chR (s : Int) (bad : Bool) (h : Ch) : Ch := if h.is = true then (if s ≤ moreV bad h.cnt then ⟨false, moreV bad h.cnt, orI .i64 h.lat 1⟩ else ⟨true, moreV bad h.cnt, h.lat⟩) else h
def b2i (b : Bool) : Int := if b = true then 1 else 0
def manyV (a b c : Bool) : Int := b2i a + b2i b + b2i c
theorem more_c (n : Nat) (b : Bool) (x : Int) (h0 : 0 ≤ x) (h1 : x ≤ 1000000) (hn : 1 ≤ n) : cP n 62 false [Bo b, I .i64 x] = some (I .i64 (moreV b x)) := by
  obtain ⟨n, rfl⟩ : ∃ m, n = m + 1 := ⟨n - 1, by omega⟩
  cases b
  · exact cP_of (args' := [Bo false, I .i64 x]) (by simp [argEl_eq]) ((s_modes_more_eq _ _ _ _ _).trans (by unfold s_modes_more; simp -implicitDefEqProofs (disch := first | omega | (simp only [List.length_set, List.length_append, List.length_cons, List.length_nil, List.length_take, List.length_drop, List.length_map]; omega) | simp) [wrap_i64, wrap_u16_id, wrap_u8_id, tdiv_pos, tmod_pos, -getElem?_pos, -getElem?_neg, -List.length_eq_zero_iff, -List.getElem_cons_drop]; first | exact rfl | exact ⟨rfl, rfl⟩)) (by simp [moreV])
  · exact cP_of (args' := [Bo true, I .i64 x]) (by simp [argEl_eq]) ((s_modes_more_eq _ _ _ _ _).trans (by unfold s_modes_more; simp -implicitDefEqProofs (disch := first | omega | (simp only [List.length_set, List.length_append, List.length_cons, List.length_nil, List.length_take, List.length_drop, List.length_map]; omega) | simp) [wrap_i64, wrap_u16_id, wrap_u8_id, tdiv_pos, tmod_pos, -getElem?_pos, -getElem?_neg, -List.length_eq_zero_iff, -List.getElem_cons_drop]; first | exact rfl | exact ⟨rfl, rfl⟩)) (by simp [moreV])
theorem idxV3 (a b c : DV) (i : Nat) (hi : i < 3) : idxV false 1 3 (.agg [a, b, c]) (I .i64 i) = some ([a, b, c].getD i .any) := by
  rcases (by omega : i = 0 ∨ i = 1 ∨ i = 2) with rfl | rfl | rfl <;> rfl
theorem idxV3_0 (a b c : DV) : idxV false 1 3 (.agg [a, b, c]) (I .i64 0) = some a := rfl
theorem idxV3_1 (a b c : DV) : idxV false 1 3 (.agg [a, b, c]) (I .i64 1) = some b := rfl
theorem idxV3_2 (a b c : DV) : idxV false 1 3 (.agg [a, b, c]) (I .i64 2) = some c := rfl
theorem many_c (n : Nat) (m : Ms) (hn : 6 ≤ n) : cP n 61 false [.agg m.C] = some (I .i64 (manyV m.a.is m.b.is m.c.is)) := by
  obtain ⟨n, rfl⟩ : ∃ m, n = m + 5 := ⟨n - 5, by omega⟩
  obtain ⟨st, ⟨a, ac, al⟩, ⟨b, bc, bl⟩, ⟨c, cc, cl⟩, sp, te, sf⟩ := m
  have q : ∀ K, loopG [3, 7, 8] [3] 16 (s__modes_State__many_b0 (n + 4) 0) (n + 4) (s__modes_State__many_I0 (I .i64 0) (.agg [Bo a, Bo b, Bo c]) (I .i64 0)) [.cells 72 (Ms.C ⟨st, ⟨a, ac, al⟩, ⟨b, bc, bl⟩, ⟨c, cc, cl⟩, sp, te, sf⟩)] K = K (.exit 0) (s__modes_State__many_O0 (I .i64 (manyV a b c))) [.cells 72 (Ms.C ⟨st, ⟨a, ac, al⟩, ⟨b, bc, bl⟩, ⟨c, cc, cl⟩, sp, te, sf⟩)] := by
    intro K
    rw [s__modes_State__many_L0_eq]
    cases a <;> cases b <;> cases c <;> (simp -implicitDefEqProofs (disch := first | omega | (simp only [List.length_set, List.length_append, List.length_cons, List.length_nil, List.length_take, List.length_drop, List.length_map]; omega) | simp) [wrap_i64, wrap_u16_id, wrap_u8_id, tdiv_pos, tmod_pos, -getElem?_pos, -getElem?_neg, -List.length_eq_zero_iff, -List.getElem_cons_drop, s__modes_State__many_L0, s__modes_State__many_B0, idxV3_0, idxV3_1, idxV3_2]; first | done | rfl)
  unfold Ms.C at q ⊢
  exact cP_of (args' := [.agg (Ms.C ⟨st, ⟨a, ac, al⟩, ⟨b, bc, bl⟩, ⟨c, cc, cl⟩, sp, te, sf⟩)]) (by unfold Ms.C; simp [argEl_eq]) ((s__modes_State__many_eq _ _ _ _).trans (by unfold s__modes_State__many Ms.C; simp -implicitDefEqProofs (disch := first | omega | (simp only [List.length_set, List.length_append, List.length_cons, List.length_nil, List.length_take, List.length_drop, List.length_map]; omega) | simp) [wrap_i64, wrap_u16_id, wrap_u8_id, tdiv_pos, tmod_pos, -getElem?_pos, -getElem?_neg, -List.length_eq_zero_iff, -List.getElem_cons_drop, q, s__modes_State__many_O0]; first | exact rfl | exact ⟨rfl, rfl⟩)) (by simp)
theorem hp_set_id {H : Heap} {k : Nat} {b : DBlk} (h : H[k]? = some b) : H.set k b = H := by
  apply List.ext_getElem?
  intro j
  rw [List.getElem?_set]
  split
  · rename_i e; subst e
    rw [if_pos (hp_lt h), h]
  · rfl
theorem round_0 (n fl k v : Nat) (K : Ex → KF) (mm : Nat) (m : Ms) (b0 b1 b2 sp : Bool) (a0 a1 a2 : DV) (H : Heap) (hn : 1 ≤ n) (hfl : fl ≤ k) (hkv : k ≠ v) (hv : H[v]? = some (.cells 62 [Bo b0, Bo b1, Bo b2, Bo sp])) (hk : H[k]? = some m.B) (h0 : 0 ≤ m.a.cnt) (h1 : m.a.cnt ≤ 1000000) (hin : a0 = Bo m.a.is) :
    s___modes_Modes__Round_L0 n fl K (mm + 1) (.ptr k 0) (.ptr v 0) (.ptr k 1) (.agg [a0, a1, a2]) (I .i64 0) H = s___modes_Modes__Round_L0 n fl K mm (.ptr k 0) (.ptr v 0) (.ptr k 1) (.agg [a0, a1, a2]) (I .i64 1) (H.set k ({ m with a := chR m.strikes b0 m.a } : Ms).B) := by
  subst hin
  have hM := fun b => more_c n b m.a.cnt h0 h1 hn
  have hkl := hp_lt hk
  obtain ⟨st, ⟨a, ac, al⟩, ⟨b, bc, bl⟩, ⟨c, cc, cl⟩, spl, te, sf⟩ := m
  have hset : H.set k (Ms.B ⟨st, ⟨a, ac, al⟩, ⟨b, bc, bl⟩, ⟨c, cc, cl⟩, spl, te, sf⟩) = H := hp_set_id hk
  unfold Ms.B at hk hset ⊢
  simp only at hM hk hset ⊢
  rw [s___modes_Modes__Round_L0]
  unfold s___modes_Modes__Round_B0 chR
  by_cases c1 : a = true
  · subst c1
    by_cases c2 : st ≤ moreV b0 ac
    · simp only [if_true, if_pos c2]
      simp -implicitDefEqProofs (disch := first | omega | (simp only [List.length_set, List.length_append, List.length_cons, List.length_nil, List.length_take, List.length_drop, List.length_map]; omega) | simp) [wrap_i64, wrap_u16_id, wrap_u8_id, tdiv_pos, tmod_pos, -getElem?_pos, -getElem?_neg, -List.length_eq_zero_iff, -List.getElem_cons_drop, hk, hv, hM, c2, idxV3_0, idxV3_1, idxV3_2, idxArr_k]
    · simp only [if_true, if_neg c2]
      simp -implicitDefEqProofs (disch := first | omega | (simp only [List.length_set, List.length_append, List.length_cons, List.length_nil, List.length_take, List.length_drop, List.length_map]; omega) | simp) [wrap_i64, wrap_u16_id, wrap_u8_id, tdiv_pos, tmod_pos, -getElem?_pos, -getElem?_neg, -List.length_eq_zero_iff, -List.getElem_cons_drop, hk, hv, hM, c2, idxV3_0, idxV3_1, idxV3_2, idxArr_k]
  · have c1' : a = false := by simpa using c1
    subst c1'
    simp only [Bool.false_eq_true, if_false]
    rw [hset]
    simp -implicitDefEqProofs (disch := first | omega | (simp only [List.length_set, List.length_append, List.length_cons, List.length_nil, List.length_take, List.length_drop, List.length_map]; omega) | simp) [wrap_i64, wrap_u16_id, wrap_u8_id, tdiv_pos, tmod_pos, -getElem?_pos, -getElem?_neg, -List.length_eq_zero_iff, -List.getElem_cons_drop, hk, hv, hM, idxV3_0, idxV3_1, idxV3_2, idxArr_k]
theorem round_1 (n fl k v : Nat) (K : Ex → KF) (mm : Nat) (m : Ms) (b0 b1 b2 sp : Bool) (a0 a1 a2 : DV) (H : Heap) (hn : 1 ≤ n) (hfl : fl ≤ k) (hkv : k ≠ v) (hv : H[v]? = some (.cells 62 [Bo b0, Bo b1, Bo b2, Bo sp])) (hk : H[k]? = some m.B) (h0 : 0 ≤ m.b.cnt) (h1 : m.b.cnt ≤ 1000000) (hin : a1 = Bo m.b.is) :
    s___modes_Modes__Round_L0 n fl K (mm + 1) (.ptr k 0) (.ptr v 0) (.ptr k 1) (.agg [a0, a1, a2]) (I .i64 1) H = s___modes_Modes__Round_L0 n fl K mm (.ptr k 0) (.ptr v 0) (.ptr k 1) (.agg [a0, a1, a2]) (I .i64 2) (H.set k ({ m with b := chR m.strikes b1 m.b } : Ms).B) := by
  subst hin
  have hM := fun b => more_c n b m.b.cnt h0 h1 hn
  have hkl := hp_lt hk
  obtain ⟨st, ⟨a, ac, al⟩, ⟨b, bc, bl⟩, ⟨c, cc, cl⟩, spl, te, sf⟩ := m
  have hset : H.set k (Ms.B ⟨st, ⟨a, ac, al⟩, ⟨b, bc, bl⟩, ⟨c, cc, cl⟩, spl, te, sf⟩) = H := hp_set_id hk
  unfold Ms.B at hk hset ⊢
  simp only at hM hk hset ⊢
  rw [s___modes_Modes__Round_L0]
  unfold s___modes_Modes__Round_B0 chR
  by_cases c1 : b = true
  · subst c1
    by_cases c2 : st ≤ moreV b1 bc
    · simp only [if_true, if_pos c2]
      simp -implicitDefEqProofs (disch := first | omega | (simp only [List.length_set, List.length_append, List.length_cons, List.length_nil, List.length_take, List.length_drop, List.length_map]; omega) | simp) [wrap_i64, wrap_u16_id, wrap_u8_id, tdiv_pos, tmod_pos, -getElem?_pos, -getElem?_neg, -List.length_eq_zero_iff, -List.getElem_cons_drop, hk, hv, hM, c2, idxV3_0, idxV3_1, idxV3_2, idxArr_k]
    · simp only [if_true, if_neg c2]
      simp -implicitDefEqProofs (disch := first | omega | (simp only [List.length_set, List.length_append, List.length_cons, List.length_nil, List.length_take, List.length_drop, List.length_map]; omega) | simp) [wrap_i64, wrap_u16_id, wrap_u8_id, tdiv_pos, tmod_pos, -getElem?_pos, -getElem?_neg, -List.length_eq_zero_iff, -List.getElem_cons_drop, hk, hv, hM, c2, idxV3_0, idxV3_1, idxV3_2, idxArr_k]
  · have c1' : b = false := by simpa using c1
    subst c1'
    simp only [Bool.false_eq_true, if_false]
    rw [hset]
    simp -implicitDefEqProofs (disch := first | omega | (simp only [List.length_set, List.length_append, List.length_cons, List.length_nil, List.length_take, List.length_drop, List.length_map]; omega) | simp) [wrap_i64, wrap_u16_id, wrap_u8_id, tdiv_pos, tmod_pos, -getElem?_pos, -getElem?_neg, -List.length_eq_zero_iff, -List.getElem_cons_drop, hk, hv, hM, idxV3_0, idxV3_1, idxV3_2, idxArr_k]
theorem round_2 (n fl k v : Nat) (K : Ex → KF) (mm : Nat) (m : Ms) (b0 b1 b2 sp : Bool) (a0 a1 a2 : DV) (H : Heap) (hn : 1 ≤ n) (hfl : fl ≤ k) (hkv : k ≠ v) (hv : H[v]? = some (.cells 62 [Bo b0, Bo b1, Bo b2, Bo sp])) (hk : H[k]? = some m.B) (h0 : 0 ≤ m.c.cnt) (h1 : m.c.cnt ≤ 1000000) (hin : a2 = Bo m.c.is) :
    s___modes_Modes__Round_L0 n fl K (mm + 1) (.ptr k 0) (.ptr v 0) (.ptr k 1) (.agg [a0, a1, a2]) (I .i64 2) H = s___modes_Modes__Round_L0 n fl K mm (.ptr k 0) (.ptr v 0) (.ptr k 1) (.agg [a0, a1, a2]) (I .i64 3) (H.set k ({ m with c := chR m.strikes b2 m.c } : Ms).B) := by
  subst hin
  have hM := fun b => more_c n b m.c.cnt h0 h1 hn
  have hkl := hp_lt hk
  obtain ⟨st, ⟨a, ac, al⟩, ⟨b, bc, bl⟩, ⟨c, cc, cl⟩, spl, te, sf⟩ := m
  have hset : H.set k (Ms.B ⟨st, ⟨a, ac, al⟩, ⟨b, bc, bl⟩, ⟨c, cc, cl⟩, spl, te, sf⟩) = H := hp_set_id hk
  unfold Ms.B at hk hset ⊢
  simp only at hM hk hset ⊢
  rw [s___modes_Modes__Round_L0]
  unfold s___modes_Modes__Round_B0 chR
  by_cases c1 : c = true
  · subst c1
    by_cases c2 : st ≤ moreV b2 cc
    · simp only [if_true, if_pos c2]
      simp -implicitDefEqProofs (disch := first | omega | (simp only [List.length_set, List.length_append, List.length_cons, List.length_nil, List.length_take, List.length_drop, List.length_map]; omega) | simp) [wrap_i64, wrap_u16_id, wrap_u8_id, tdiv_pos, tmod_pos, -getElem?_pos, -getElem?_neg, -List.length_eq_zero_iff, -List.getElem_cons_drop, hk, hv, hM, c2, idxV3_0, idxV3_1, idxV3_2, idxArr_k]
    · simp only [if_true, if_neg c2]
      simp -implicitDefEqProofs (disch := first | omega | (simp only [List.length_set, List.length_append, List.length_cons, List.length_nil, List.length_take, List.length_drop, List.length_map]; omega) | simp) [wrap_i64, wrap_u16_id, wrap_u8_id, tdiv_pos, tmod_pos, -getElem?_pos, -getElem?_neg, -List.length_eq_zero_iff, -List.getElem_cons_drop, hk, hv, hM, c2, idxV3_0, idxV3_1, idxV3_2, idxArr_k]
  · have c1' : c = false := by simpa using c1
    subst c1'
    simp only [Bool.false_eq_true, if_false]
    rw [hset]
    simp -implicitDefEqProofs (disch := first | omega | (simp only [List.length_set, List.length_append, List.length_cons, List.length_nil, List.length_take, List.length_drop, List.length_map]; omega) | simp) [wrap_i64, wrap_u16_id, wrap_u8_id, tdiv_pos, tmod_pos, -getElem?_pos, -getElem?_neg, -List.length_eq_zero_iff, -List.getElem_cons_drop, hk, hv, hM, idxV3_0, idxV3_1, idxV3_2, idxArr_k]
end Go.Proofs.Ytigfninpflemnab
