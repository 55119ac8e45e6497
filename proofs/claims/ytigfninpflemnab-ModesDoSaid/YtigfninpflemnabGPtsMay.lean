/- Points that may be in a configuration: the reference's answer. -/
import Derived.Test.YtigfninpflemnabFPtsMay
import Derived.Test.YtigfninpflemnabGPoint
-- NEEDS: triuneref09.in; triuneref09.may; triuneref09.Check; triunelaw10.May
namespace Go.Proofs.Ytigfninpflemnab
open Go
set_option linter.unusedSimpArgs false
set_option linter.unusedVariables false
theorem idxArr_k (len sz k off : Nat) (i : Int) (h : 0 ≤ i ∧ i < len) : idxArr len sz (.ptr k off) (I .i64 i) = some (.ptr k (off + i.toNat * sz)) := by
  show (if 0 ≤ i ∧ i < (len : Int) then some (DV.ptr k (off + i.toNat * sz)) else none) = _
  rw [if_pos h]
theorem ref09_in_c (n : Nat) (a b c : Int) (hn : 1 ≤ n) : cP n 85 false [I .i64 a, I .i64 b, I .i64 c] = some (Bo (decide (b ≤ a ∧ a ≤ c))) := by
  obtain ⟨n, rfl⟩ : ∃ m, n = m + 1 := ⟨n - 1, by omega⟩
  by_cases c1 : b ≤ a
  · by_cases c2 : a ≤ c
    · exact cP_of (args' := [I .i64 a, I .i64 b, I .i64 c]) (by simp [argEl_eq]) ((s_triuneref09_in_eq _ _ _ _ _ _).trans (by unfold s_triuneref09_in; simp -implicitDefEqProofs (disch := first | omega | (simp only [List.length_set, List.length_append, List.length_cons, List.length_nil, List.length_take, List.length_drop, List.length_map]; omega) | simp) [wrap_i64, wrap_u16_id, wrap_u8_id, tdiv_pos, tmod_pos, -getElem?_pos, -getElem?_neg, -List.length_eq_zero_iff, -List.getElem_cons_drop, c1, c2]; first | exact rfl | exact ⟨rfl, rfl⟩)) (by simp [c1, c2])
    · exact cP_of (args' := [I .i64 a, I .i64 b, I .i64 c]) (by simp [argEl_eq]) ((s_triuneref09_in_eq _ _ _ _ _ _).trans (by unfold s_triuneref09_in; simp -implicitDefEqProofs (disch := first | omega | (simp only [List.length_set, List.length_append, List.length_cons, List.length_nil, List.length_take, List.length_drop, List.length_map]; omega) | simp) [wrap_i64, wrap_u16_id, wrap_u8_id, tdiv_pos, tmod_pos, -getElem?_pos, -getElem?_neg, -List.length_eq_zero_iff, -List.getElem_cons_drop, c1, c2]; first | exact rfl | exact ⟨rfl, rfl⟩)) (by simp [c1, c2])
  · exact cP_of (args' := [I .i64 a, I .i64 b, I .i64 c]) (by simp [argEl_eq]) ((s_triuneref09_in_eq _ _ _ _ _ _).trans (by unfold s_triuneref09_in; simp -implicitDefEqProofs (disch := first | omega | (simp only [List.length_set, List.length_append, List.length_cons, List.length_nil, List.length_take, List.length_drop, List.length_map]; omega) | simp) [wrap_i64, wrap_u16_id, wrap_u8_id, tdiv_pos, tmod_pos, -getElem?_pos, -getElem?_neg, -List.length_eq_zero_iff, -List.getElem_cons_drop, c1]; first | exact rfl | exact ⟨rfl, rfl⟩)) (by simp [c1])
def PtMay (p : Pt) : Prop := (0 ≤ p.kind ∧ p.kind ≤ 3) ∧ (0 ≤ p.addr ∧ p.addr ≤ 65535) ∧ (0 ≤ p.at_ ∧ p.at_ ≤ 899)
theorem ref09_may_c (n : Nat) (p : Pt) (hn : 2 ≤ n) : ∃ b, cP n 86 false [ptE p] = some (Bo b) ∧ (b = true → PtMay p) := by
  obtain ⟨n, rfl⟩ : ∃ m, n = m + 1 := ⟨n - 1, by omega⟩
  have q := fun a b c => ref09_in_c n a b c (by omega)
  obtain ⟨kind, addr, at_, band, safe⟩ := p
  by_cases c1 : 0 ≤ kind ∧ kind ≤ 3
  · by_cases c2 : 0 ≤ addr ∧ addr ≤ 65535
    · by_cases c3 : 0 ≤ at_ ∧ at_ ≤ 899
      · by_cases c4 : kind ≤ 1
        · by_cases c5 : 0 ≤ band ∧ band ≤ 65535
          · exact ⟨decide (0 ≤ safe ∧ safe ≤ 65535), cP_of (args' := [ptE ⟨kind, addr, at_, band, safe⟩]) (by simp [argEl_eq, ptE]) ((s_triuneref09_may_eq _ _ _ _).trans (by unfold s_triuneref09_may ptE; simp -implicitDefEqProofs (disch := first | omega | (simp only [List.length_set, List.length_append, List.length_cons, List.length_nil, List.length_take, List.length_drop, List.length_map]; omega) | simp) [wrap_i64, wrap_u16_id, wrap_u8_id, tdiv_pos, tmod_pos, -getElem?_pos, -getElem?_neg, -List.length_eq_zero_iff, -List.getElem_cons_drop, q, c1, c2, c3, c4, c5]; first | exact rfl | exact ⟨rfl, rfl⟩)) (by simp), fun _ => ⟨c1, c2, c3⟩⟩
          · exact ⟨false, cP_of (args' := [ptE ⟨kind, addr, at_, band, safe⟩]) (by simp [argEl_eq, ptE]) ((s_triuneref09_may_eq _ _ _ _).trans (by unfold s_triuneref09_may ptE; simp -implicitDefEqProofs (disch := first | omega | (simp only [List.length_set, List.length_append, List.length_cons, List.length_nil, List.length_take, List.length_drop, List.length_map]; omega) | simp) [wrap_i64, wrap_u16_id, wrap_u8_id, tdiv_pos, tmod_pos, -getElem?_pos, -getElem?_neg, -List.length_eq_zero_iff, -List.getElem_cons_drop, q, c1, c2, c3, c4, c5]; first | exact rfl | exact ⟨rfl, rfl⟩)) (by simp), fun h => by cases h⟩
        · by_cases c5 : band = 0
          · exact ⟨decide (0 ≤ safe ∧ safe ≤ 1), cP_of (args' := [ptE ⟨kind, addr, at_, band, safe⟩]) (by simp [argEl_eq, ptE]) ((s_triuneref09_may_eq _ _ _ _).trans (by unfold s_triuneref09_may ptE; simp -implicitDefEqProofs (disch := first | omega | (simp only [List.length_set, List.length_append, List.length_cons, List.length_nil, List.length_take, List.length_drop, List.length_map]; omega) | simp) [wrap_i64, wrap_u16_id, wrap_u8_id, tdiv_pos, tmod_pos, -getElem?_pos, -getElem?_neg, -List.length_eq_zero_iff, -List.getElem_cons_drop, q, c1, c2, c3, c4, c5]; first | exact rfl | exact ⟨rfl, rfl⟩)) (by simp), fun _ => ⟨c1, c2, c3⟩⟩
          · exact ⟨false, cP_of (args' := [ptE ⟨kind, addr, at_, band, safe⟩]) (by simp [argEl_eq, ptE]) ((s_triuneref09_may_eq _ _ _ _).trans (by unfold s_triuneref09_may ptE; simp -implicitDefEqProofs (disch := first | omega | (simp only [List.length_set, List.length_append, List.length_cons, List.length_nil, List.length_take, List.length_drop, List.length_map]; omega) | simp) [wrap_i64, wrap_u16_id, wrap_u8_id, tdiv_pos, tmod_pos, -getElem?_pos, -getElem?_neg, -List.length_eq_zero_iff, -List.getElem_cons_drop, q, c1, c2, c3, c4, c5]; first | exact rfl | exact ⟨rfl, rfl⟩)) (by simp), fun h => by cases h⟩
      · exact ⟨false, cP_of (args' := [ptE ⟨kind, addr, at_, band, safe⟩]) (by simp [argEl_eq, ptE]) ((s_triuneref09_may_eq _ _ _ _).trans (by unfold s_triuneref09_may ptE; simp -implicitDefEqProofs (disch := first | omega | (simp only [List.length_set, List.length_append, List.length_cons, List.length_nil, List.length_take, List.length_drop, List.length_map]; omega) | simp) [wrap_i64, wrap_u16_id, wrap_u8_id, tdiv_pos, tmod_pos, -getElem?_pos, -getElem?_neg, -List.length_eq_zero_iff, -List.getElem_cons_drop, q, c1, c2, c3]; first | exact rfl | exact ⟨rfl, rfl⟩)) (by simp), fun h => by cases h⟩
    · exact ⟨false, cP_of (args' := [ptE ⟨kind, addr, at_, band, safe⟩]) (by simp [argEl_eq, ptE]) ((s_triuneref09_may_eq _ _ _ _).trans (by unfold s_triuneref09_may ptE; simp -implicitDefEqProofs (disch := first | omega | (simp only [List.length_set, List.length_append, List.length_cons, List.length_nil, List.length_take, List.length_drop, List.length_map]; omega) | simp) [wrap_i64, wrap_u16_id, wrap_u8_id, tdiv_pos, tmod_pos, -getElem?_pos, -getElem?_neg, -List.length_eq_zero_iff, -List.getElem_cons_drop, q, c1, c2]; first | exact rfl | exact ⟨rfl, rfl⟩)) (by simp), fun h => by cases h⟩
  · exact ⟨false, cP_of (args' := [ptE ⟨kind, addr, at_, band, safe⟩]) (by simp [argEl_eq, ptE]) ((s_triuneref09_may_eq _ _ _ _).trans (by unfold s_triuneref09_may ptE; simp -implicitDefEqProofs (disch := first | omega | (simp only [List.length_set, List.length_append, List.length_cons, List.length_nil, List.length_take, List.length_drop, List.length_map]; omega) | simp) [wrap_i64, wrap_u16_id, wrap_u8_id, tdiv_pos, tmod_pos, -getElem?_pos, -getElem?_neg, -List.length_eq_zero_iff, -List.getElem_cons_drop, q, c1]; first | exact rfl | exact ⟨rfl, rfl⟩)) (by simp), fun h => by cases h⟩
def Apart (p q : Pt) : Prop := ¬ (p.kind = q.kind ∧ (p.addr = q.addr ∨ p.at_ = q.at_))
def PtsOk (l : List Pt) : Prop := (1 ≤ l.length ∧ l.length ≤ 48) ∧ (∀ p ∈ l, PtMay p) ∧ (∀ i k (hi : i < l.length) (hk : k < i), Apart l[i] l[k])
def cfgC (l : List Pt) : List DV := [I .u8 1, I .u8 1, I .u8 1, I .i64 1, I .i64 1, I .i64 1, I .i64 1, I .i64 1, I .i64 1, I .u16 0, LV 5 ptE l .sh]
theorem chk_L0 (n fl : Nat) (hn : 1 ≤ n) (a : Nat) (l : List Pt) : ∀ (m i : Nat) (H : Heap), 3 < m + i → i ≤ 3 → H[a]? = some (.cells 143 (cfgC l)) →
    ∀ K, s_triuneref09_Check_L0 n fl K m (.ptr a 0) (I .i64 i) H = K (.exit 0) (s_triuneref09_Check_O0 (.ptr a 0) .any) H := by
  intro m
  induction m with
  | zero => intro i H h; omega
  | succ m ih =>
    intro i H hm hi hc K
    unfold s_triuneref09_Check_L0 s_triuneref09_Check_B0
    have q := fun a b c => ref09_in_c n a b c hn
    unfold cfgC at hc ih
    by_cases h : i < 3
    · rcases (by omega : i = 0 ∨ i = 1 ∨ i = 2) with rfl | rfl | rfl
      · have ih' : s_triuneref09_Check_L0 n fl K m (.ptr a 0) (I .i64 1) H = _ := ih 1 H (by omega) (by omega) hc K
        simp -implicitDefEqProofs (disch := first | omega | (simp only [List.length_set, List.length_append, List.length_cons, List.length_nil, List.length_take, List.length_drop, List.length_map]; omega) | simp) [wrap_i64, wrap_u16_id, wrap_u8_id, tdiv_pos, tmod_pos, -getElem?_pos, -getElem?_neg, -List.length_eq_zero_iff, -List.getElem_cons_drop, hc, q, ih', idxArr_k]
      · have ih' : s_triuneref09_Check_L0 n fl K m (.ptr a 0) (I .i64 2) H = _ := ih 2 H (by omega) (by omega) hc K
        simp -implicitDefEqProofs (disch := first | omega | (simp only [List.length_set, List.length_append, List.length_cons, List.length_nil, List.length_take, List.length_drop, List.length_map]; omega) | simp) [wrap_i64, wrap_u16_id, wrap_u8_id, tdiv_pos, tmod_pos, -getElem?_pos, -getElem?_neg, -List.length_eq_zero_iff, -List.getElem_cons_drop, hc, q, ih', idxArr_k]
      · have ih' : s_triuneref09_Check_L0 n fl K m (.ptr a 0) (I .i64 3) H = _ := ih 3 H (by omega) (by omega) hc K
        simp -implicitDefEqProofs (disch := first | omega | (simp only [List.length_set, List.length_append, List.length_cons, List.length_nil, List.length_take, List.length_drop, List.length_map]; omega) | simp) [wrap_i64, wrap_u16_id, wrap_u8_id, tdiv_pos, tmod_pos, -getElem?_pos, -getElem?_neg, -List.length_eq_zero_iff, -List.getElem_cons_drop, hc, q, ih', idxArr_k]
    · have : i = 3 := by omega
      subst this
      simp -implicitDefEqProofs (disch := first | omega | (simp only [List.length_set, List.length_append, List.length_cons, List.length_nil, List.length_take, List.length_drop, List.length_map]; omega) | simp) [wrap_i64, wrap_u16_id, wrap_u8_id, tdiv_pos, tmod_pos, -getElem?_pos, -getElem?_neg, -List.length_eq_zero_iff, -List.getElem_cons_drop]
theorem chk_L1 (n fl : Nat) (hn : 3 ≤ n) (a : Nat) (l : List Pt) (hl : l.length ≤ 48) : ∀ (m i : Nat) (H : Heap), l.length < m + i → i ≤ l.length → H[a]? = some (.cells 143 (cfgC l)) → (∀ p ∈ l.take i, PtMay p) →
    (∀ K, s_triuneref09_Check_L1 n fl K m (.ptr a 0) (I .i64 i) H = K .ret (s_triuneref09_Check_O1 (.ptr a 0) (I .i64 1)) H) ∨
    ((∀ K, s_triuneref09_Check_L1 n fl K m (.ptr a 0) (I .i64 i) H = K (.exit 2) (s_triuneref09_Check_O1 (.ptr a 0) .any) H) ∧ ∀ p ∈ l, PtMay p) := by
  intro m
  induction m with
  | zero => intro i H h; omega
  | succ m ih =>
    intro i H hm hi hc hp
    unfold cfgC at hc ih
    by_cases h : i < l.length
    · obtain ⟨b, hb, hb2⟩ := ref09_may_c n l[i] (by omega)
      cases b with
      | false => exact .inl fun K => by unfold s_triuneref09_Check_L1 s_triuneref09_Check_B1; unfold ptE at hb; simp -implicitDefEqProofs (disch := first | omega | (simp only [List.length_set, List.length_append, List.length_cons, List.length_nil, List.length_take, List.length_drop, List.length_map]; omega) | simp) [wrap_i64, wrap_u16_id, wrap_u8_id, tdiv_pos, tmod_pos, -getElem?_pos, -getElem?_neg, -List.length_eq_zero_iff, -List.getElem_cons_drop, h, hc, ptE_cells, hb]
      | true =>
        have hi2 : ((i + 1 : Nat) : Int) = (i : Int) + 1 := by omega
        have hp2 : ∀ p ∈ l.take (i + 1), PtMay p := by
          intro p hp3
          rw [List.take_succ_eq_append_getElem h] at hp3
          rcases List.mem_append.mp hp3 with h3 | h3
          · exact hp p h3
          · simp at h3; rw [h3]; exact hb2 rfl
        have ih' := ih (i + 1) H (by omega) (by omega) hc hp2
        rw [hi2] at ih'
        unfold ptE at hb
        rcases ih' with q | ⟨q, q2⟩
        · exact .inl fun K => by unfold s_triuneref09_Check_L1 s_triuneref09_Check_B1; simp -implicitDefEqProofs (disch := first | omega | (simp only [List.length_set, List.length_append, List.length_cons, List.length_nil, List.length_take, List.length_drop, List.length_map]; omega) | simp) [wrap_i64, wrap_u16_id, wrap_u8_id, tdiv_pos, tmod_pos, -getElem?_pos, -getElem?_neg, -List.length_eq_zero_iff, -List.getElem_cons_drop, h, hc, ptE_cells, hb, q]
        · exact .inr ⟨fun K => by unfold s_triuneref09_Check_L1 s_triuneref09_Check_B1; simp -implicitDefEqProofs (disch := first | omega | (simp only [List.length_set, List.length_append, List.length_cons, List.length_nil, List.length_take, List.length_drop, List.length_map]; omega) | simp) [wrap_i64, wrap_u16_id, wrap_u8_id, tdiv_pos, tmod_pos, -getElem?_pos, -getElem?_neg, -List.length_eq_zero_iff, -List.getElem_cons_drop, h, hc, ptE_cells, hb, q], q2⟩
    · have : i = l.length := by omega
      subst this
      rw [List.take_length] at hp
      exact .inr ⟨fun K => by unfold s_triuneref09_Check_L1 s_triuneref09_Check_B1; simp -implicitDefEqProofs (disch := first | omega | (simp only [List.length_set, List.length_append, List.length_cons, List.length_nil, List.length_take, List.length_drop, List.length_map]; omega) | simp) [wrap_i64, wrap_u16_id, wrap_u8_id, tdiv_pos, tmod_pos, -getElem?_pos, -getElem?_neg, -List.length_eq_zero_iff, -List.getElem_cons_drop, hc], hp⟩
theorem chk_L3 (n fl : Nat) (hn : 3 ≤ n) (a : Nat) (l : List Pt) (hl : l.length ≤ 48) (i : Nat) (hi : i < l.length) : ∀ (m k : Nat) (H : Heap), i < m + k → k ≤ i → H[a]? = some (.cells 143 (cfgC l)) → fl ≤ H.length → (∀ j (hj : j < k) (hjl : j < l.length), Apart l[i] l[j]) →
    (∃ H', ∀ K, s_triuneref09_Check_L3 n fl K m (.ptr a 0) (I .i64 i) (I .i64 k) H = K .ret (s_triuneref09_Check_O3 (.ptr a 0) (I .i64 9) (I .i64 i)) H') ∨
    (∃ H', (∀ K, s_triuneref09_Check_L3 n fl K m (.ptr a 0) (I .i64 i) (I .i64 k) H = K (.exit 6) (s_triuneref09_Check_O3 (.ptr a 0) .any (I .i64 i)) H') ∧ H'[a]? = some (.cells 143 (cfgC l)) ∧ fl ≤ H'.length ∧ ∀ j (hj : j < i) (hjl : j < l.length), Apart l[i] l[j]) := by
  intro m
  induction m with
  | zero => intro k H h; omega
  | succ m ih =>
    intro k H hm hk hc hfl hp
    have hal := hp_lt hc
    by_cases h : k < i
    · have hkl : k < l.length := by omega
      by_cases c : Apart l[i] l[k]
      · have ih' := ih (k + 1) (H ++ [.cells 48 [I .i64 l[i].kind, I .i64 l[i].addr, I .i64 l[i].at_, I .i64 l[i].band, I .i64 l[i].safe], .cells 48 [I .i64 l[k].kind, I .i64 l[k].addr, I .i64 l[k].at_, I .i64 l[k].band, I .i64 l[k].safe]]) (by omega) (by omega) (by rw [hp_get_left _ _ _ hal]; exact hc) (by simp; omega) (by
          intro j hj hjl
          rcases Nat.lt_succ_iff_lt_or_eq.mp hj with h3 | rfl
          · exact hp j h3 hjl
          · exact c)
        have hi2 : ((k + 1 : Nat) : Int) = (k : Int) + 1 := by omega
        rw [hi2] at ih'
        unfold cfgC at hc ih'
        unfold Apart at c
        by_cases c1 : l[i].kind = l[k].kind
        · have c2 : ¬ l[i].addr = l[k].addr := fun e => c ⟨c1, .inl e⟩
          have c3 : ¬ l[i].at_ = l[k].at_ := fun e => c ⟨c1, .inr e⟩
          rw [c1] at ih'
          rcases ih' with ⟨H', q⟩ | ⟨H', q, q2⟩
          · exact .inl ⟨H', fun K => by unfold s_triuneref09_Check_L3 s_triuneref09_Check_B3; simp -implicitDefEqProofs (disch := first | omega | (simp only [List.length_set, List.length_append, List.length_cons, List.length_nil, List.length_take, List.length_drop, List.length_map]; omega) | simp) [wrap_i64, wrap_u16_id, wrap_u8_id, tdiv_pos, tmod_pos, -getElem?_pos, -getElem?_neg, -List.length_eq_zero_iff, -List.getElem_cons_drop, h, hkl, hi, hc, ptE_cells, c1, c2, c3, q]⟩
          · exact .inr ⟨H', fun K => by unfold s_triuneref09_Check_L3 s_triuneref09_Check_B3; simp -implicitDefEqProofs (disch := first | omega | (simp only [List.length_set, List.length_append, List.length_cons, List.length_nil, List.length_take, List.length_drop, List.length_map]; omega) | simp) [wrap_i64, wrap_u16_id, wrap_u8_id, tdiv_pos, tmod_pos, -getElem?_pos, -getElem?_neg, -List.length_eq_zero_iff, -List.getElem_cons_drop, h, hkl, hi, hc, ptE_cells, c1, c2, c3, q], q2⟩
        · rcases ih' with ⟨H', q⟩ | ⟨H', q, q2⟩
          · exact .inl ⟨H', fun K => by unfold s_triuneref09_Check_L3 s_triuneref09_Check_B3; simp -implicitDefEqProofs (disch := first | omega | (simp only [List.length_set, List.length_append, List.length_cons, List.length_nil, List.length_take, List.length_drop, List.length_map]; omega) | simp) [wrap_i64, wrap_u16_id, wrap_u8_id, tdiv_pos, tmod_pos, -getElem?_pos, -getElem?_neg, -List.length_eq_zero_iff, -List.getElem_cons_drop, h, hkl, hi, hc, ptE_cells, c1, q]⟩
          · exact .inr ⟨H', fun K => by unfold s_triuneref09_Check_L3 s_triuneref09_Check_B3; simp -implicitDefEqProofs (disch := first | omega | (simp only [List.length_set, List.length_append, List.length_cons, List.length_nil, List.length_take, List.length_drop, List.length_map]; omega) | simp) [wrap_i64, wrap_u16_id, wrap_u8_id, tdiv_pos, tmod_pos, -getElem?_pos, -getElem?_neg, -List.length_eq_zero_iff, -List.getElem_cons_drop, h, hkl, hi, hc, ptE_cells, c1, q], q2⟩
      · have c1 : l[i].kind = l[k].kind := Classical.byContradiction fun e => c fun h => e h.1
        unfold cfgC at hc
        by_cases c2 : l[i].addr = l[k].addr
        · exact .inl ⟨_, fun K => by unfold s_triuneref09_Check_L3 s_triuneref09_Check_B3; simp -implicitDefEqProofs (disch := first | omega | (simp only [List.length_set, List.length_append, List.length_cons, List.length_nil, List.length_take, List.length_drop, List.length_map]; omega) | simp) [wrap_i64, wrap_u16_id, wrap_u8_id, tdiv_pos, tmod_pos, -getElem?_pos, -getElem?_neg, -List.length_eq_zero_iff, -List.getElem_cons_drop, h, hkl, hi, hc, ptE_cells, c1, c2]; rfl⟩
        · have c3 : l[i].at_ = l[k].at_ := Classical.byContradiction fun e => c fun h => h.2.elim c2 e
          exact .inl ⟨_, fun K => by unfold s_triuneref09_Check_L3 s_triuneref09_Check_B3; simp -implicitDefEqProofs (disch := first | omega | (simp only [List.length_set, List.length_append, List.length_cons, List.length_nil, List.length_take, List.length_drop, List.length_map]; omega) | simp) [wrap_i64, wrap_u16_id, wrap_u8_id, tdiv_pos, tmod_pos, -getElem?_pos, -getElem?_neg, -List.length_eq_zero_iff, -List.getElem_cons_drop, h, hkl, hi, hc, ptE_cells, c1, c2, c3]; rfl⟩
    · have : k = i := by omega
      subst this
      exact .inr ⟨H, fun K => by unfold s_triuneref09_Check_L3 s_triuneref09_Check_B3; simp -implicitDefEqProofs (disch := first | omega | (simp only [List.length_set, List.length_append, List.length_cons, List.length_nil, List.length_take, List.length_drop, List.length_map]; omega) | simp) [wrap_i64, wrap_u16_id, wrap_u8_id, tdiv_pos, tmod_pos, -getElem?_pos, -getElem?_neg, -List.length_eq_zero_iff, -List.getElem_cons_drop], hc, hfl, hp⟩
theorem chk_L2 (n fl : Nat) (hn : 60 ≤ n) (a : Nat) (l : List Pt) (hl : l.length ≤ 48) : ∀ (m i : Nat) (H : Heap), l.length < m + i → i ≤ l.length → H[a]? = some (.cells 143 (cfgC l)) → fl ≤ H.length → (∀ j k (hj : j < i) (hk : k < j) (h : j < l.length), Apart l[j] l[k]) →
    (∃ H', ∀ K, s_triuneref09_Check_L2 n fl K m (.ptr a 0) (I .i64 i) H = K .ret (s_triuneref09_Check_O2 (I .i64 9)) H') ∨
    (∃ H', (∀ K, s_triuneref09_Check_L2 n fl K m (.ptr a 0) (I .i64 i) H = K (.exit 4) (s_triuneref09_Check_O2 .any) H') ∧ ∀ j k (hj : j < l.length) (hk : k < j), Apart l[j] l[k]) := by
  intro m
  induction m with
  | zero => intro i H h; omega
  | succ m ih =>
    intro i H hm hi hc hfl hp
    by_cases h : i < l.length
    · have h3 := chk_L3 n fl (by omega) a l hl i h n 0 H (by omega) (by omega) hc hfl (by intro j hj; omega)
      have hi2 : ((i + 1 : Nat) : Int) = (i : Int) + 1 := by omega
      rcases h3 with ⟨H1, q⟩ | ⟨H1, q, q2, q3, q4⟩
      · have q' := fun K => (s_triuneref09_Check_L3_eq n fl K n (.ptr a 0) (I .i64 i) (I .i64 0) H).trans (q K)
        unfold cfgC at hc
        exact .inl ⟨_, fun K => by unfold s_triuneref09_Check_L2 s_triuneref09_Check_B2; simp -implicitDefEqProofs (disch := first | omega | (simp only [List.length_set, List.length_append, List.length_cons, List.length_nil, List.length_take, List.length_drop, List.length_map]; omega) | simp) [wrap_i64, wrap_u16_id, wrap_u8_id, tdiv_pos, tmod_pos, -getElem?_pos, -getElem?_neg, -List.length_eq_zero_iff, -List.getElem_cons_drop, h, hc, q', s_triuneref09_Check_O3]; rfl⟩
      · have q' := fun K => (s_triuneref09_Check_L3_eq n fl K n (.ptr a 0) (I .i64 i) (I .i64 0) H).trans (q K)
        have ih' := ih (i + 1) H1 (by omega) (by omega) q2 q3 (by
          intro j k hj hk hjl
          rcases Nat.lt_succ_iff_lt_or_eq.mp hj with h3 | rfl
          · exact hp j k h3 hk hjl
          · exact q4 k hk (by omega))
        rw [hi2] at ih'
        unfold cfgC at hc
        rcases ih' with ⟨H', u⟩ | ⟨H', u, u2⟩
        · exact .inl ⟨H', fun K => by unfold s_triuneref09_Check_L2 s_triuneref09_Check_B2; simp -implicitDefEqProofs (disch := first | omega | (simp only [List.length_set, List.length_append, List.length_cons, List.length_nil, List.length_take, List.length_drop, List.length_map]; omega) | simp) [wrap_i64, wrap_u16_id, wrap_u8_id, tdiv_pos, tmod_pos, -getElem?_pos, -getElem?_neg, -List.length_eq_zero_iff, -List.getElem_cons_drop, h, hc, q', u, s_triuneref09_Check_O3]⟩
        · exact .inr ⟨H', fun K => by unfold s_triuneref09_Check_L2 s_triuneref09_Check_B2; simp -implicitDefEqProofs (disch := first | omega | (simp only [List.length_set, List.length_append, List.length_cons, List.length_nil, List.length_take, List.length_drop, List.length_map]; omega) | simp) [wrap_i64, wrap_u16_id, wrap_u8_id, tdiv_pos, tmod_pos, -getElem?_pos, -getElem?_neg, -List.length_eq_zero_iff, -List.getElem_cons_drop, h, hc, q', u, s_triuneref09_Check_O3], u2⟩
    · have : i = l.length := by omega
      subst this
      unfold cfgC at hc
      exact .inr ⟨H, fun K => by unfold s_triuneref09_Check_L2 s_triuneref09_Check_B2; simp -implicitDefEqProofs (disch := first | omega | (simp only [List.length_set, List.length_append, List.length_cons, List.length_nil, List.length_take, List.length_drop, List.length_map]; omega) | simp) [wrap_i64, wrap_u16_id, wrap_u8_id, tdiv_pos, tmod_pos, -getElem?_pos, -getElem?_neg, -List.length_eq_zero_iff, -List.getElem_cons_drop, hc], fun j k hj hk => hp j k hj hk hj⟩
theorem Check_c (n : Nat) (l : List Pt) (hl : l.length ≤ 48) (hn : 100 ≤ n) : ∃ e, cP n 75 false [.agg (cfgC l)] = some (I .i64 e) ∧ (e = 0 → PtsOk l) := by
  obtain ⟨n, rfl⟩ : ∃ m, n = m + 1 := ⟨n - 1, by omega⟩
  have q := fun a b c => ref09_in_c n a b c (by omega)
  by_cases c0 : l.length = 0
  · exact ⟨4, cP_of (args' := [.agg (cfgC l)]) (by unfold cfgC; simp [argEl_eq]) ((s_triuneref09_Check_eq _ _ _ _).trans (by unfold s_triuneref09_Check cfgC; simp -implicitDefEqProofs (disch := first | omega | (simp only [List.length_set, List.length_append, List.length_cons, List.length_nil, List.length_take, List.length_drop, List.length_map]; omega) | simp) [wrap_i64, wrap_u16_id, wrap_u8_id, tdiv_pos, tmod_pos, -getElem?_pos, -getElem?_neg, -List.length_eq_zero_iff, -List.getElem_cons_drop, q, c0]; first | exact rfl | exact ⟨rfl, rfl⟩)) (by simp), fun h => by omega⟩
  · have g0 := fun K => (s_triuneref09_Check_L0_eq n 0 K n (.ptr 0 0) (I .i64 0) [.cells 143 (cfgC l)]).trans (chk_L0 n 0 (by omega) 0 l n 0 [.cells 143 (cfgC l)] (by omega) (by omega) rfl K)
    have hq1 : (1 : Int) ≤ l.length ∧ (l.length : Int) ≤ 48 := by omega
    rcases chk_L1 n 0 (by omega) 0 l hl n 0 [.cells 143 (cfgC l)] (by omega) (by omega) rfl (by intro p hp; simp at hp) with u | ⟨u, u2⟩
    · have g1 := fun K => (s_triuneref09_Check_L1_eq n 0 K n (.ptr 0 0) (I .i64 0) [.cells 143 (cfgC l)]).trans (u K)
      unfold cfgC at g0 g1
      exact ⟨1, cP_of (args' := [.agg (cfgC l)]) (by unfold cfgC; simp [argEl_eq]) ((s_triuneref09_Check_eq _ _ _ _).trans (by unfold s_triuneref09_Check cfgC; simp -implicitDefEqProofs (disch := first | omega | (simp only [List.length_set, List.length_append, List.length_cons, List.length_nil, List.length_take, List.length_drop, List.length_map]; omega) | simp) [wrap_i64, wrap_u16_id, wrap_u8_id, tdiv_pos, tmod_pos, -getElem?_pos, -getElem?_neg, -List.length_eq_zero_iff, -List.getElem_cons_drop, q, hq1, g0, g1, s_triuneref09_Check_O0, s_triuneref09_Check_O1]; first | exact rfl | exact ⟨rfl, rfl⟩)) (by simp), fun h => by omega⟩
    · have g1 := fun K => (s_triuneref09_Check_L1_eq n 0 K n (.ptr 0 0) (I .i64 0) [.cells 143 (cfgC l)]).trans (u K)
      rcases chk_L2 n 0 (by omega) 0 l hl n 0 [.cells 143 (cfgC l)] (by omega) (by omega) rfl (by omega) (by intro j k hj; omega) with ⟨H', v⟩ | ⟨H', v, v2⟩
      · have g2 := fun K => (s_triuneref09_Check_L2_eq n 0 K n (.ptr 0 0) (I .i64 0) [.cells 143 (cfgC l)]).trans (v K)
        unfold cfgC at g0 g1 g2
        exact ⟨9, cP_of (args' := [.agg (cfgC l)]) (by unfold cfgC; simp [argEl_eq]) ((s_triuneref09_Check_eq _ _ _ _).trans (by unfold s_triuneref09_Check cfgC; simp -implicitDefEqProofs (disch := first | omega | (simp only [List.length_set, List.length_append, List.length_cons, List.length_nil, List.length_take, List.length_drop, List.length_map]; omega) | simp) [wrap_i64, wrap_u16_id, wrap_u8_id, tdiv_pos, tmod_pos, -getElem?_pos, -getElem?_neg, -List.length_eq_zero_iff, -List.getElem_cons_drop, q, hq1, g0, g1, g2, s_triuneref09_Check_O0, s_triuneref09_Check_O1, s_triuneref09_Check_O2]; first | exact rfl | exact ⟨rfl, rfl⟩)) (by simp), fun h => by omega⟩
      · have g2 := fun K => (s_triuneref09_Check_L2_eq n 0 K n (.ptr 0 0) (I .i64 0) [.cells 143 (cfgC l)]).trans (v K)
        unfold cfgC at g0 g1 g2
        exact ⟨0, cP_of (args' := [.agg (cfgC l)]) (by unfold cfgC; simp [argEl_eq]) ((s_triuneref09_Check_eq _ _ _ _).trans (by unfold s_triuneref09_Check cfgC; simp -implicitDefEqProofs (disch := first | omega | (simp only [List.length_set, List.length_append, List.length_cons, List.length_nil, List.length_take, List.length_drop, List.length_map]; omega) | simp) [wrap_i64, wrap_u16_id, wrap_u8_id, tdiv_pos, tmod_pos, -getElem?_pos, -getElem?_neg, -List.length_eq_zero_iff, -List.getElem_cons_drop, q, hq1, g0, g1, g2, s_triuneref09_Check_O0, s_triuneref09_Check_O1, s_triuneref09_Check_O2]; first | exact rfl | exact ⟨rfl, rfl⟩)) (by simp), fun _ => ⟨by omega, u2, fun i k hi hk => v2 i k hi hk⟩⟩
theorem May_c (n : Nat) (l : List Pt) (t : Tag) (hl : l.length ≤ 140737488355328) (hn : 101 ≤ n) : ∃ b, cP n 50 false [LV 5 ptE l t] = some (Bo b) ∧ (b = true → PtsOk l) := by
  obtain ⟨n, rfl⟩ : ∃ m, n = m + 1 := ⟨n - 1, by omega⟩
  by_cases c : l.length ≤ 48
  · obtain ⟨e, q, q2⟩ := Check_c n l c (by omega)
    unfold cfgC at q
    by_cases he : e = 0
    · exact ⟨true, cP_of (args' := [LV 5 ptE l .sh]) (by simp [argEl_eq]) ((s_triunelaw10_May_eq _ _ _ _).trans (by unfold s_triunelaw10_May; simp -implicitDefEqProofs (disch := first | omega | (simp only [List.length_set, List.length_append, List.length_cons, List.length_nil, List.length_take, List.length_drop, List.length_map]; omega) | simp) [wrap_i64, wrap_u16_id, wrap_u8_id, tdiv_pos, tmod_pos, -getElem?_pos, -getElem?_neg, -List.length_eq_zero_iff, -List.getElem_cons_drop, c, q, he]; first | exact rfl | exact ⟨rfl, rfl⟩)) (by simp), fun _ => q2 he⟩
    · exact ⟨false, cP_of (args' := [LV 5 ptE l .sh]) (by simp [argEl_eq]) ((s_triunelaw10_May_eq _ _ _ _).trans (by unfold s_triunelaw10_May; simp -implicitDefEqProofs (disch := first | omega | (simp only [List.length_set, List.length_append, List.length_cons, List.length_nil, List.length_take, List.length_drop, List.length_map]; omega) | simp) [wrap_i64, wrap_u16_id, wrap_u8_id, tdiv_pos, tmod_pos, -getElem?_pos, -getElem?_neg, -List.length_eq_zero_iff, -List.getElem_cons_drop, c, q, he]; first | exact rfl | exact ⟨rfl, rfl⟩)) (by simp), fun h => by cases h⟩
  · exact ⟨false, cP_of (args' := [LV 5 ptE l .sh]) (by simp [argEl_eq]) ((s_triunelaw10_May_eq _ _ _ _).trans (by unfold s_triunelaw10_May; simp -implicitDefEqProofs (disch := first | omega | (simp only [List.length_set, List.length_append, List.length_cons, List.length_nil, List.length_take, List.length_drop, List.length_map]; omega) | simp) [wrap_i64, wrap_u16_id, wrap_u8_id, tdiv_pos, tmod_pos, -getElem?_pos, -getElem?_neg, -List.length_eq_zero_iff, -List.getElem_cons_drop, c]; first | exact rfl | exact ⟨rfl, rfl⟩)) (by simp), fun h => by cases h⟩
end Go.Proofs.Ytigfninpflemnab
