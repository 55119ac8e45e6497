/- Items: the program's answer, and the reference's. -/
import Derived.Test.YtigfninpflemnabFBankI
import Derived.Test.YtigfninpflemnabGBankV
import Derived.Test.YtigfninpflemnabEq
-- NEEDS: bank.Items; triuneref15.Items; triuneref15.Same; triunelaw15.own; bank.Order; triuneref15.Order
namespace Go.Proofs.Ytigfninpflemnab
open Go
set_option linter.unusedSimpArgs false
set_option linter.unusedVariables false
def itE (p : Int × Int) : DV := .agg [I .i64 p.1, I .u16 p.2]
theorem itE_cells (p : Int × Int) : (itE p).cells = [I .i64 p.1, I .u16 p.2] := rfl
theorem buildL_it (a b : Int) : buildL true 2 1 (.agg [.flat (.int .i64 0), .flat (.int .u16 0)]) [(0, .agg [.flat (.int .i64 a), .flat (.int .u16 b)])] = some (LV 2 itE [(a, b)] .ti) := rfl
def itms (f : Int → Int) (coil : Prop) [Decidable coil] : List Int → Int → Option (List (Int × Int))
  | [], _ => some []
  | v :: l, a => if f a = -1 ∨ (coil ∧ 1 < v) then none else (itms f coil l (a + 1)).map ((f a, v) :: ·)
def itmsD (l : List Pt) (kind addr : Int) (vals : List Int) : DV :=
  if (kind ≠ 0 ∧ kind ≠ 2) ∨ vals = [] then .tup [LV 2 itE [] .sh, Bo false] else match itms (findP l kind) (kind = 2) vals addr with
    | none => .tup [LV 2 itE [] .sh, Bo false]
    | some ys => .tup [LV 2 itE ys .sh, Bo true]
theorem bank_Items_L (n fl : Nat) (l : List Pt) (tp tv : Tag) (kind addr : Int) (vals : List Int) (hn : l.length + 10 ≤ n) (hl : l.length ≤ 100000) (h0 : 0 ≤ addr) (h1 : addr ≤ 500000) (hc : vals.length ≤ 65536) : ∀ (m i : Nat) (xs : List (Int × Int)) (t : Tag) (H : Heap), vals.length < m + i → i ≤ vals.length → xs.length = i → TgOk t 50 2 fl i H → fl ≤ H.length →
    match itms (findP l kind) (kind = 2) (vals.drop i) (addr + i) with
    | none => ∃ x H', ∀ K, s_bank_Items_L0 n fl K m (LV 5 ptE l tp) (I .i64 kind) (I .i64 addr) (LV 1 (I .u16) vals tv) (LV 2 itE xs t) (I .i64 vals.length) (I .i64 i) H = K .ret (s_bank_Items_O0 (.list 0 [] .ti) (Bo false) x) H'
    | some ys => ∃ t' H', ∀ K, s_bank_Items_L0 n fl K m (LV 5 ptE l tp) (I .i64 kind) (I .i64 addr) (LV 1 (I .u16) vals tv) (LV 2 itE xs t) (I .i64 vals.length) (I .i64 i) H = K (.exit 0) (s_bank_Items_O0 .any .any (LV 2 itE (xs ++ ys) t')) H' := by
  intro m
  induction m with
  | zero => intro i xs t H h; omega
  | succ m ih =>
    intro i xs t H hm hi hx ht hfl
    by_cases h : i < vals.length
    · have hd : vals.drop i = vals[i] :: vals.drop (i + 1) := List.drop_eq_getElem_cons h
      rw [hd, itms]
      have hF := bank_find_c n l tp kind (addr + i) (by omega) (by omega)
      have hr := findP_range l kind (addr + i)
      by_cases c1 : findP l kind (addr + i) = -1
      · rw [if_pos (.inl c1)]
        rw [c1] at hF
        exact ⟨_, _, fun K => by unfold s_bank_Items_L0 s_bank_Items_B0; simp -implicitDefEqProofs (disch := first | omega | (simp only [List.length_set, List.length_append, List.length_cons, List.length_nil, List.length_take, List.length_drop, List.length_map]; omega) | simp) [wrap_i64, wrap_u16_id, wrap_u8_id, tdiv_pos, tmod_pos, -getElem?_pos, -getElem?_neg, -List.length_eq_zero_iff, -List.getElem_cons_drop, h, hF]; rfl⟩
      · obtain ⟨k, hk⟩ : ∃ k : Nat, findP l kind (addr + i) = (k : Int) := ⟨(findP l kind (addr + i)).toNat, by omega⟩
        by_cases c2 : kind = 2 ∧ 1 < vals[i]
        · rw [if_pos (.inr c2)]
          rw [hk] at hF
          obtain ⟨c3, c4⟩ := c2
          have c3' : decide (kind = 2) = true := by simp [c3]
          exact ⟨_, _, fun K => by unfold s_bank_Items_L0 s_bank_Items_B0; simp -implicitDefEqProofs (disch := first | omega | (simp only [List.length_set, List.length_append, List.length_cons, List.length_nil, List.length_take, List.length_drop, List.length_map]; omega) | simp) [wrap_i64, wrap_u16_id, wrap_u8_id, tdiv_pos, tmod_pos, -getElem?_pos, -getElem?_neg, -List.length_eq_zero_iff, -List.getElem_cons_drop, h, hF, c3', c4]; rfl⟩
        · rw [if_neg (by omega)]
          rw [hk] at hF ⊢
          obtain ⟨t2, H2, hap, ht2, hl2, hj2, hw2, hx2⟩ := appG_all (e := 50) (ag := true) (sz := 2) (by_ := 16) (n0 := fl) (enc := itE) (xs := xs) (ys := [((k : Int), vals[i])]) (t := t) (t' := .ti) (H := H) (fl := fl) (by omega) hfl (by rw [hx]; exact ht) rfl (by simp; omega) (by simp; omega)
          have hb1 := buildL_it (k : Int) vals[i]
          have ih' := ih (i + 1) (xs ++ [((k : Int), vals[i])]) t2 H2 (by omega) (by omega) (by simp [hx]) (by simpa [hx] using ht2) (by omega)
          have hi2 : ((i + 1 : Nat) : Int) = (i : Int) + 1 := by omega
          have hi3 : addr + ((i + 1 : Nat) : Int) = addr + i + 1 := by omega
          rw [hi3, hi2] at ih'
          cases hg : itms (findP l kind) (kind = 2) (vals.drop (i + 1)) (addr + i + 1) with
          | none =>
            rw [hg] at ih'
            obtain ⟨x, H', q⟩ := ih'
            refine ⟨x, H', fun K => ?_⟩
            unfold s_bank_Items_L0 s_bank_Items_B0
            by_cases c3 : kind = 2
            · have c3' : decide (kind = 2) = true := by simp [c3]
              have c4 : ¬ 1 < vals[i] := fun h => c2 ⟨c3, h⟩
              simp -implicitDefEqProofs (disch := first | omega | (simp only [List.length_set, List.length_append, List.length_cons, List.length_nil, List.length_take, List.length_drop, List.length_map]; omega) | simp) [wrap_i64, wrap_u16_id, wrap_u8_id, tdiv_pos, tmod_pos, -getElem?_pos, -getElem?_neg, -List.length_eq_zero_iff, -List.getElem_cons_drop, h, hF, c3', c4, hb1, hap, q]
            · have c3' : decide (kind = 2) = false := by simp [c3]
              simp -implicitDefEqProofs (disch := first | omega | (simp only [List.length_set, List.length_append, List.length_cons, List.length_nil, List.length_take, List.length_drop, List.length_map]; omega) | simp) [wrap_i64, wrap_u16_id, wrap_u8_id, tdiv_pos, tmod_pos, -getElem?_pos, -getElem?_neg, -List.length_eq_zero_iff, -List.getElem_cons_drop, h, hF, c3', hb1, hap, q]
          | some ys =>
            rw [hg] at ih'
            obtain ⟨t', H', q⟩ := ih'
            rw [List.append_assoc] at q
            refine ⟨t', H', fun K => ?_⟩
            unfold s_bank_Items_L0 s_bank_Items_B0
            by_cases c3 : kind = 2
            · have c3' : decide (kind = 2) = true := by simp [c3]
              have c4 : ¬ 1 < vals[i] := fun h => c2 ⟨c3, h⟩
              simp -implicitDefEqProofs (disch := first | omega | (simp only [List.length_set, List.length_append, List.length_cons, List.length_nil, List.length_take, List.length_drop, List.length_map]; omega) | simp) [wrap_i64, wrap_u16_id, wrap_u8_id, tdiv_pos, tmod_pos, -getElem?_pos, -getElem?_neg, -List.length_eq_zero_iff, -List.getElem_cons_drop, h, hF, c3', c4, hb1, hap, q]
            · have c3' : decide (kind = 2) = false := by simp [c3]
              simp -implicitDefEqProofs (disch := first | omega | (simp only [List.length_set, List.length_append, List.length_cons, List.length_nil, List.length_take, List.length_drop, List.length_map]; omega) | simp) [wrap_i64, wrap_u16_id, wrap_u8_id, tdiv_pos, tmod_pos, -getElem?_pos, -getElem?_neg, -List.length_eq_zero_iff, -List.getElem_cons_drop, h, hF, c3', hb1, hap, q]
    · have : i = vals.length := by omega
      subst this
      rw [List.drop_length, itms]
      exact ⟨t, H, fun K => by unfold s_bank_Items_L0 s_bank_Items_B0; simp -implicitDefEqProofs (disch := first | omega | (simp only [List.length_set, List.length_append, List.length_cons, List.length_nil, List.length_take, List.length_drop, List.length_map]; omega) | simp) [wrap_i64, wrap_u16_id, wrap_u8_id, tdiv_pos, tmod_pos, -getElem?_pos, -getElem?_neg, -List.length_eq_zero_iff, -List.getElem_cons_drop]⟩
theorem bank_Items_c (n : Nat) (l : List Pt) (tp tv : Tag) (kind addr : Int) (vals : List Int) (hl : l.length ≤ 100000) (h0 : 0 ≤ addr) (h1 : addr ≤ 500000) (hc : vals.length ≤ 65536) (hn : l.length + vals.length + 20 ≤ n) : cP n 17 false [LV 5 ptE l tp, I .i64 kind, I .i64 addr, LV 1 (I .u16) vals tv] = some (itmsD l kind addr vals) := by
  obtain ⟨n, rfl⟩ : ∃ m, n = m + 1 := ⟨n - 1, by omega⟩
  have go : ∀ r r' H', s_bank_Items n [] 0 (LV 5 ptE l .sh) (I .i64 kind) (I .i64 addr) (LV 1 (I .u16) vals .sh) = some (r, H') → outD false H' r = some r' → itmsD l kind addr vals = r' → cP (n + 1) 17 false [LV 5 ptE l tp, I .i64 kind, I .i64 addr, LV 1 (I .u16) vals tv] = some (itmsD l kind addr vals) := by
    intro r r' H' h h2 h3
    rw [h3]
    exact cP_of (args' := [LV 5 ptE l .sh, I .i64 kind, I .i64 addr, LV 1 (I .u16) vals .sh]) (by simp [argEl_eq]) ((s_bank_Items_eq _ _ _ _ _ _ _).trans h) h2
  by_cases c1 : (kind ≠ 0 ∧ kind ≠ 2) ∨ vals = []
  · refine go (.tup [.list 0 [] .ti, Bo false]) (.tup [LV 2 itE [] .sh, Bo false]) [] ?_ (by simp <;> rfl) (by unfold itmsD; rw [if_pos c1])
    unfold s_bank_Items
    by_cases c2 : kind ≠ 0 ∧ kind ≠ 2
    · obtain ⟨c2, c3⟩ := c2
      have d1 : decide (kind = 0) = false := by simp [c2]
      have d2 : decide (kind = 2) = false := by simp [c3]
      simp -implicitDefEqProofs (disch := first | omega | (simp only [List.length_set, List.length_append, List.length_cons, List.length_nil, List.length_take, List.length_drop, List.length_map]; omega) | simp) [wrap_i64, wrap_u16_id, wrap_u8_id, tdiv_pos, tmod_pos, -getElem?_pos, -getElem?_neg, -List.length_eq_zero_iff, -List.getElem_cons_drop, c2, c3, d1, d2]
    · have c4 : vals = [] := c1.resolve_left c2
      have c5 : vals.length = 0 := by rw [c4]; rfl
      by_cases c6 : kind = 0
      · simp -implicitDefEqProofs (disch := first | omega | (simp only [List.length_set, List.length_append, List.length_cons, List.length_nil, List.length_take, List.length_drop, List.length_map]; omega) | simp) [wrap_i64, wrap_u16_id, wrap_u8_id, tdiv_pos, tmod_pos, -getElem?_pos, -getElem?_neg, -List.length_eq_zero_iff, -List.getElem_cons_drop, c6, c5]
      · have c7 : kind = 2 := Classical.byContradiction fun h => c2 ⟨c6, h⟩
        simp -implicitDefEqProofs (disch := first | omega | (simp only [List.length_set, List.length_append, List.length_cons, List.length_nil, List.length_take, List.length_drop, List.length_map]; omega) | simp) [wrap_i64, wrap_u16_id, wrap_u8_id, tdiv_pos, tmod_pos, -getElem?_pos, -getElem?_neg, -List.length_eq_zero_iff, -List.getElem_cons_drop, c7, c5]
  · have c2 : ¬ (kind ≠ 0 ∧ kind ≠ 2) := fun h => c1 (.inl h)
    have c3 : ¬ vals = [] := fun h => c1 (.inr h)
    have c5 : ¬ vals.length = 0 := fun h => c3 (List.length_eq_zero_iff.mp h)
    have hL := bank_Items_L n 0 l .sh .sh kind addr vals (by omega) hl h0 h1 hc n 0 [] .ti [] (by omega) (by omega) rfl (.inl rfl) (by simp)
    have e1 : addr + ((0 : Nat) : Int) = addr := by omega
    rw [e1, List.drop_zero] at hL
    cases hg : itms (findP l kind) (kind = 2) vals addr with
    | none =>
      rw [hg] at hL
      obtain ⟨x, H', q⟩ := hL
      have q' : ∀ K, loopG [0, 1, 2, 3, 10, 25, 26] [8, 9, 10] 59 (s_bank_Items_b0 n 0) n (s_bank_Items_I0 (LV 5 ptE l .sh) (I .i64 kind) (I .i64 addr) (LV 1 (I .u16) vals .sh) (.list 0 [] .ti) (I .i64 vals.length) (I .i64 0)) [] K = _ := fun K => (s_bank_Items_L0_eq _ _ _ _ _ _ _ _ _ _ _ _).trans (q K)
      refine go (.tup [.list 0 [] .ti, Bo false]) (.tup [LV 2 itE [] .sh, Bo false]) H' ?_ (by simp <;> rfl) (by unfold itmsD; rw [if_neg c1, hg])
      unfold s_bank_Items
      by_cases c6 : kind = 0
      · subst c6
        simp -implicitDefEqProofs (disch := first | omega | (simp only [List.length_set, List.length_append, List.length_cons, List.length_nil, List.length_take, List.length_drop, List.length_map]; omega) | simp) [wrap_i64, wrap_u16_id, wrap_u8_id, tdiv_pos, tmod_pos, -getElem?_pos, -getElem?_neg, -List.length_eq_zero_iff, -List.getElem_cons_drop, c5, q', s_bank_Items_O0]
      · have c7 : kind = 2 := Classical.byContradiction fun h => c2 ⟨c6, h⟩
        subst c7
        simp -implicitDefEqProofs (disch := first | omega | (simp only [List.length_set, List.length_append, List.length_cons, List.length_nil, List.length_take, List.length_drop, List.length_map]; omega) | simp) [wrap_i64, wrap_u16_id, wrap_u8_id, tdiv_pos, tmod_pos, -getElem?_pos, -getElem?_neg, -List.length_eq_zero_iff, -List.getElem_cons_drop, c5, q', s_bank_Items_O0]
    | some ys =>
      rw [hg] at hL
      obtain ⟨t', H', q⟩ := hL
      have q' : ∀ K, loopG [0, 1, 2, 3, 10, 25, 26] [8, 9, 10] 59 (s_bank_Items_b0 n 0) n (s_bank_Items_I0 (LV 5 ptE l .sh) (I .i64 kind) (I .i64 addr) (LV 1 (I .u16) vals .sh) (.list 0 [] .ti) (I .i64 vals.length) (I .i64 0)) [] K = _ := fun K => (s_bank_Items_L0_eq _ _ _ _ _ _ _ _ _ _ _ _).trans (q K)
      refine go (.tup [LV 2 itE ys t', Bo true]) (.tup [LV 2 itE ys .sh, Bo true]) H' ?_ (by simp) (by unfold itmsD; rw [if_neg c1, hg])
      unfold s_bank_Items
      by_cases c6 : kind = 0
      · subst c6
        simp -implicitDefEqProofs (disch := first | omega | (simp only [List.length_set, List.length_append, List.length_cons, List.length_nil, List.length_take, List.length_drop, List.length_map]; omega) | simp) [wrap_i64, wrap_u16_id, wrap_u8_id, tdiv_pos, tmod_pos, -getElem?_pos, -getElem?_neg, -List.length_eq_zero_iff, -List.getElem_cons_drop, c5, q', s_bank_Items_O0]
      · have c7 : kind = 2 := Classical.byContradiction fun h => c2 ⟨c6, h⟩
        subst c7
        simp -implicitDefEqProofs (disch := first | omega | (simp only [List.length_set, List.length_append, List.length_cons, List.length_nil, List.length_take, List.length_drop, List.length_map]; omega) | simp) [wrap_i64, wrap_u16_id, wrap_u8_id, tdiv_pos, tmod_pos, -getElem?_pos, -getElem?_neg, -List.length_eq_zero_iff, -List.getElem_cons_drop, c5, q', s_bank_Items_O0]
theorem triuneref15_Items_L (n fl : Nat) (l : List Pt) (tp tv : Tag) (kind addr : Int) (vals : List Int) (hn : l.length + 10 ≤ n) (hl : l.length ≤ 100000) (h0 : 0 ≤ addr) (h1 : addr ≤ 500000) (hc : vals.length ≤ 65536) : ∀ (m i : Nat) (xs : List (Int × Int)) (t : Tag) (H : Heap), vals.length < m + i → i ≤ vals.length → xs.length = i → TgOk t 116 2 fl i H → fl ≤ H.length →
    match itms (findP l kind) (kind = 2) (vals.drop i) (addr + i) with
    | none => ∃ x H', ∀ K, s_triuneref15_Items_L0 n fl K m (LV 5 ptE l tp) (I .i64 kind) (I .i64 addr) (LV 1 (I .u16) vals tv) (LV 2 itE xs t) (I .i64 i) H = K .ret (s_triuneref15_Items_O0 (.list 0 [] .ti) (Bo false) x) H'
    | some ys => ∃ t' H', ∀ K, s_triuneref15_Items_L0 n fl K m (LV 5 ptE l tp) (I .i64 kind) (I .i64 addr) (LV 1 (I .u16) vals tv) (LV 2 itE xs t) (I .i64 i) H = K (.exit 0) (s_triuneref15_Items_O0 .any .any (LV 2 itE (xs ++ ys) t')) H' := by
  intro m
  induction m with
  | zero => intro i xs t H h; omega
  | succ m ih =>
    intro i xs t H hm hi hx ht hfl
    by_cases h : i < vals.length
    · have hd : vals.drop i = vals[i] :: vals.drop (i + 1) := List.drop_eq_getElem_cons h
      rw [hd, itms]
      have hF := ref15_find_c n l tp kind (addr + i) (by omega) (by omega)
      have hr := findP_range l kind (addr + i)
      by_cases c1 : findP l kind (addr + i) = -1
      · rw [if_pos (.inl c1)]
        rw [c1] at hF
        exact ⟨_, _, fun K => by unfold s_triuneref15_Items_L0 s_triuneref15_Items_B0; simp -implicitDefEqProofs (disch := first | omega | (simp only [List.length_set, List.length_append, List.length_cons, List.length_nil, List.length_take, List.length_drop, List.length_map]; omega) | simp) [wrap_i64, wrap_u16_id, wrap_u8_id, tdiv_pos, tmod_pos, -getElem?_pos, -getElem?_neg, -List.length_eq_zero_iff, -List.getElem_cons_drop, h, hF]; rfl⟩
      · obtain ⟨k, hk⟩ : ∃ k : Nat, findP l kind (addr + i) = (k : Int) := ⟨(findP l kind (addr + i)).toNat, by omega⟩
        by_cases c2 : kind = 2 ∧ 1 < vals[i]
        · rw [if_pos (.inr c2)]
          rw [hk] at hF
          obtain ⟨c3, c4⟩ := c2
          have c3' : decide (kind = 2) = true := by simp [c3]
          exact ⟨_, _, fun K => by unfold s_triuneref15_Items_L0 s_triuneref15_Items_B0; simp -implicitDefEqProofs (disch := first | omega | (simp only [List.length_set, List.length_append, List.length_cons, List.length_nil, List.length_take, List.length_drop, List.length_map]; omega) | simp) [wrap_i64, wrap_u16_id, wrap_u8_id, tdiv_pos, tmod_pos, -getElem?_pos, -getElem?_neg, -List.length_eq_zero_iff, -List.getElem_cons_drop, h, hF, c3', c4]; rfl⟩
        · rw [if_neg (by omega)]
          rw [hk] at hF ⊢
          obtain ⟨t2, H2, hap, ht2, hl2, hj2, hw2, hx2⟩ := appG_all (e := 116) (ag := true) (sz := 2) (by_ := 16) (n0 := fl) (enc := itE) (xs := xs) (ys := [((k : Int), vals[i])]) (t := t) (t' := .ti) (H := H) (fl := fl) (by omega) hfl (by rw [hx]; exact ht) rfl (by simp; omega) (by simp; omega)
          have hb1 := buildL_it (k : Int) vals[i]
          have ih' := ih (i + 1) (xs ++ [((k : Int), vals[i])]) t2 H2 (by omega) (by omega) (by simp [hx]) (by simpa [hx] using ht2) (by omega)
          have hi2 : ((i + 1 : Nat) : Int) = (i : Int) + 1 := by omega
          have hi3 : addr + ((i + 1 : Nat) : Int) = addr + i + 1 := by omega
          rw [hi3, hi2] at ih'
          cases hg : itms (findP l kind) (kind = 2) (vals.drop (i + 1)) (addr + i + 1) with
          | none =>
            rw [hg] at ih'
            obtain ⟨x, H', q⟩ := ih'
            refine ⟨x, H', fun K => ?_⟩
            unfold s_triuneref15_Items_L0 s_triuneref15_Items_B0
            by_cases c3 : kind = 2
            · have c3' : decide (kind = 2) = true := by simp [c3]
              have c4 : ¬ 1 < vals[i] := fun h => c2 ⟨c3, h⟩
              simp -implicitDefEqProofs (disch := first | omega | (simp only [List.length_set, List.length_append, List.length_cons, List.length_nil, List.length_take, List.length_drop, List.length_map]; omega) | simp) [wrap_i64, wrap_u16_id, wrap_u8_id, tdiv_pos, tmod_pos, -getElem?_pos, -getElem?_neg, -List.length_eq_zero_iff, -List.getElem_cons_drop, h, hF, c3', c4, hb1, hap, q]
            · have c3' : decide (kind = 2) = false := by simp [c3]
              simp -implicitDefEqProofs (disch := first | omega | (simp only [List.length_set, List.length_append, List.length_cons, List.length_nil, List.length_take, List.length_drop, List.length_map]; omega) | simp) [wrap_i64, wrap_u16_id, wrap_u8_id, tdiv_pos, tmod_pos, -getElem?_pos, -getElem?_neg, -List.length_eq_zero_iff, -List.getElem_cons_drop, h, hF, c3', hb1, hap, q]
          | some ys =>
            rw [hg] at ih'
            obtain ⟨t', H', q⟩ := ih'
            rw [List.append_assoc] at q
            refine ⟨t', H', fun K => ?_⟩
            unfold s_triuneref15_Items_L0 s_triuneref15_Items_B0
            by_cases c3 : kind = 2
            · have c3' : decide (kind = 2) = true := by simp [c3]
              have c4 : ¬ 1 < vals[i] := fun h => c2 ⟨c3, h⟩
              simp -implicitDefEqProofs (disch := first | omega | (simp only [List.length_set, List.length_append, List.length_cons, List.length_nil, List.length_take, List.length_drop, List.length_map]; omega) | simp) [wrap_i64, wrap_u16_id, wrap_u8_id, tdiv_pos, tmod_pos, -getElem?_pos, -getElem?_neg, -List.length_eq_zero_iff, -List.getElem_cons_drop, h, hF, c3', c4, hb1, hap, q]
            · have c3' : decide (kind = 2) = false := by simp [c3]
              simp -implicitDefEqProofs (disch := first | omega | (simp only [List.length_set, List.length_append, List.length_cons, List.length_nil, List.length_take, List.length_drop, List.length_map]; omega) | simp) [wrap_i64, wrap_u16_id, wrap_u8_id, tdiv_pos, tmod_pos, -getElem?_pos, -getElem?_neg, -List.length_eq_zero_iff, -List.getElem_cons_drop, h, hF, c3', hb1, hap, q]
    · have : i = vals.length := by omega
      subst this
      rw [List.drop_length, itms]
      exact ⟨t, H, fun K => by unfold s_triuneref15_Items_L0 s_triuneref15_Items_B0; simp -implicitDefEqProofs (disch := first | omega | (simp only [List.length_set, List.length_append, List.length_cons, List.length_nil, List.length_take, List.length_drop, List.length_map]; omega) | simp) [wrap_i64, wrap_u16_id, wrap_u8_id, tdiv_pos, tmod_pos, -getElem?_pos, -getElem?_neg, -List.length_eq_zero_iff, -List.getElem_cons_drop]⟩
theorem triuneref15_Items_c (n : Nat) (l : List Pt) (tp tv : Tag) (kind addr : Int) (vals : List Int) (hl : l.length ≤ 100000) (h0 : 0 ≤ addr) (h1 : addr ≤ 500000) (hc : vals.length ≤ 65536) (hn : l.length + vals.length + 20 ≤ n) : cP n 18 false [LV 5 ptE l tp, I .i64 kind, I .i64 addr, LV 1 (I .u16) vals tv] = some (itmsD l kind addr vals) := by
  obtain ⟨n, rfl⟩ : ∃ m, n = m + 1 := ⟨n - 1, by omega⟩
  have go : ∀ r r' H', s_triuneref15_Items n [] 0 (LV 5 ptE l .sh) (I .i64 kind) (I .i64 addr) (LV 1 (I .u16) vals .sh) = some (r, H') → outD false H' r = some r' → itmsD l kind addr vals = r' → cP (n + 1) 18 false [LV 5 ptE l tp, I .i64 kind, I .i64 addr, LV 1 (I .u16) vals tv] = some (itmsD l kind addr vals) := by
    intro r r' H' h h2 h3
    rw [h3]
    exact cP_of (args' := [LV 5 ptE l .sh, I .i64 kind, I .i64 addr, LV 1 (I .u16) vals .sh]) (by simp [argEl_eq]) ((s_triuneref15_Items_eq _ _ _ _ _ _ _).trans h) h2
  by_cases c1 : (kind ≠ 0 ∧ kind ≠ 2) ∨ vals = []
  · refine go (.tup [.list 0 [] .ti, Bo false]) (.tup [LV 2 itE [] .sh, Bo false]) [] ?_ (by simp <;> rfl) (by unfold itmsD; rw [if_pos c1])
    unfold s_triuneref15_Items
    by_cases c2 : kind ≠ 0 ∧ kind ≠ 2
    · obtain ⟨c2, c3⟩ := c2
      have d1 : decide (kind = 0) = false := by simp [c2]
      have d2 : decide (kind = 2) = false := by simp [c3]
      simp -implicitDefEqProofs (disch := first | omega | (simp only [List.length_set, List.length_append, List.length_cons, List.length_nil, List.length_take, List.length_drop, List.length_map]; omega) | simp) [wrap_i64, wrap_u16_id, wrap_u8_id, tdiv_pos, tmod_pos, -getElem?_pos, -getElem?_neg, -List.length_eq_zero_iff, -List.getElem_cons_drop, c2, c3, d1, d2]
    · have c4 : vals = [] := c1.resolve_left c2
      have c5 : vals.length = 0 := by rw [c4]; rfl
      by_cases c6 : kind = 0
      · simp -implicitDefEqProofs (disch := first | omega | (simp only [List.length_set, List.length_append, List.length_cons, List.length_nil, List.length_take, List.length_drop, List.length_map]; omega) | simp) [wrap_i64, wrap_u16_id, wrap_u8_id, tdiv_pos, tmod_pos, -getElem?_pos, -getElem?_neg, -List.length_eq_zero_iff, -List.getElem_cons_drop, c6, c5]
      · have c7 : kind = 2 := Classical.byContradiction fun h => c2 ⟨c6, h⟩
        simp -implicitDefEqProofs (disch := first | omega | (simp only [List.length_set, List.length_append, List.length_cons, List.length_nil, List.length_take, List.length_drop, List.length_map]; omega) | simp) [wrap_i64, wrap_u16_id, wrap_u8_id, tdiv_pos, tmod_pos, -getElem?_pos, -getElem?_neg, -List.length_eq_zero_iff, -List.getElem_cons_drop, c7, c5]
  · have c2 : ¬ (kind ≠ 0 ∧ kind ≠ 2) := fun h => c1 (.inl h)
    have c3 : ¬ vals = [] := fun h => c1 (.inr h)
    have c5 : ¬ vals.length = 0 := fun h => c3 (List.length_eq_zero_iff.mp h)
    have hL := triuneref15_Items_L n 0 l .sh .sh kind addr vals (by omega) hl h0 h1 hc n 0 [] .ti [] (by omega) (by omega) rfl (.inl rfl) (by simp)
    have e1 : addr + ((0 : Nat) : Int) = addr := by omega
    rw [e1, List.drop_zero] at hL
    cases hg : itms (findP l kind) (kind = 2) vals addr with
    | none =>
      rw [hg] at hL
      obtain ⟨x, H', q⟩ := hL
      have q' : ∀ K, loopG [0, 1, 2, 3, 10, 11] [8, 9, 10] 59 (s_triuneref15_Items_b0 n 0) n (s_triuneref15_Items_I0 (LV 5 ptE l .sh) (I .i64 kind) (I .i64 addr) (LV 1 (I .u16) vals .sh) (.list 0 [] .ti) (I .i64 0)) [] K = _ := fun K => (s_triuneref15_Items_L0_eq _ _ _ _ _ _ _ _ _ _ _).trans (q K)
      refine go (.tup [.list 0 [] .ti, Bo false]) (.tup [LV 2 itE [] .sh, Bo false]) H' ?_ (by simp <;> rfl) (by unfold itmsD; rw [if_neg c1, hg])
      unfold s_triuneref15_Items
      by_cases c6 : kind = 0
      · subst c6
        simp -implicitDefEqProofs (disch := first | omega | (simp only [List.length_set, List.length_append, List.length_cons, List.length_nil, List.length_take, List.length_drop, List.length_map]; omega) | simp) [wrap_i64, wrap_u16_id, wrap_u8_id, tdiv_pos, tmod_pos, -getElem?_pos, -getElem?_neg, -List.length_eq_zero_iff, -List.getElem_cons_drop, c5, q', s_triuneref15_Items_O0]
      · have c7 : kind = 2 := Classical.byContradiction fun h => c2 ⟨c6, h⟩
        subst c7
        simp -implicitDefEqProofs (disch := first | omega | (simp only [List.length_set, List.length_append, List.length_cons, List.length_nil, List.length_take, List.length_drop, List.length_map]; omega) | simp) [wrap_i64, wrap_u16_id, wrap_u8_id, tdiv_pos, tmod_pos, -getElem?_pos, -getElem?_neg, -List.length_eq_zero_iff, -List.getElem_cons_drop, c5, q', s_triuneref15_Items_O0]
    | some ys =>
      rw [hg] at hL
      obtain ⟨t', H', q⟩ := hL
      have q' : ∀ K, loopG [0, 1, 2, 3, 10, 11] [8, 9, 10] 59 (s_triuneref15_Items_b0 n 0) n (s_triuneref15_Items_I0 (LV 5 ptE l .sh) (I .i64 kind) (I .i64 addr) (LV 1 (I .u16) vals .sh) (.list 0 [] .ti) (I .i64 0)) [] K = _ := fun K => (s_triuneref15_Items_L0_eq _ _ _ _ _ _ _ _ _ _ _).trans (q K)
      refine go (.tup [LV 2 itE ys t', Bo true]) (.tup [LV 2 itE ys .sh, Bo true]) H' ?_ (by simp) (by unfold itmsD; rw [if_neg c1, hg])
      unfold s_triuneref15_Items
      by_cases c6 : kind = 0
      · subst c6
        simp -implicitDefEqProofs (disch := first | omega | (simp only [List.length_set, List.length_append, List.length_cons, List.length_nil, List.length_take, List.length_drop, List.length_map]; omega) | simp) [wrap_i64, wrap_u16_id, wrap_u8_id, tdiv_pos, tmod_pos, -getElem?_pos, -getElem?_neg, -List.length_eq_zero_iff, -List.getElem_cons_drop, c5, q', s_triuneref15_Items_O0]
      · have c7 : kind = 2 := Classical.byContradiction fun h => c2 ⟨c6, h⟩
        subst c7
        simp -implicitDefEqProofs (disch := first | omega | (simp only [List.length_set, List.length_append, List.length_cons, List.length_nil, List.length_take, List.length_drop, List.length_map]; omega) | simp) [wrap_i64, wrap_u16_id, wrap_u8_id, tdiv_pos, tmod_pos, -getElem?_pos, -getElem?_neg, -List.length_eq_zero_iff, -List.getElem_cons_drop, c5, q', s_triuneref15_Items_O0]
theorem neq_it (a b : Int) (x y : Operand) : binD Try.prog .neq 116 x y (.agg [I .i64 a, I .u16 b]) (.agg [I .i64 a, I .u16 b]) = some (Bo false) := by
  have h := binD_neq_agg (P := Try.prog) (t := 116) (x := x) (y := y) (us := [I .i64 a, I .u16 b]) (ws := [I .i64 a, I .u16 b]) (va := [.int .i64 a, .int .u16 b]) (vb := [.int .i64 a, .int .u16 b]) (r := true) rfl rfl (by kernel_rfl) (by
    refine (pr_equalIn_struct 9999 _ _ _ (by kernel_rfl) (by kernel_rfl)).trans ?_
    have h1 : pureRun Try.prog (Op.equalIn 9999 3 (.int .i64 a) (.int .i64 a)) = some true := by rw [pr_equalIn_int 9998 _ _ .i64 _ _ Try.underlying3]; simp
    have h2 : pureRun Try.prog (Op.equalIn 9999 45 (.int .u16 b) (.int .u16 b)) = some true := by rw [pr_equalIn_int 9998 _ _ .u16 _ _ Try.underlying45]; simp
    simp only [Program.fieldsOf, Try.underlying116]
    refine Eq.trans (pr_eqFields_cons (a := .int .i64 a) (b := .int .i64 a) (r := true) ?_ ?_ ?_ ?_) ?_
    · decide
    · exact pr_part_int Try.underlying3 rfl
    · exact pr_part_int Try.underlying3 rfl
    · exact h1
    rw [if_pos rfl]
    refine Eq.trans (pr_eqFields_cons (a := .int .u16 b) (b := .int .u16 b) (r := true) ?_ ?_ ?_ ?_) ?_
    · decide
    · exact pr_part_int Try.underlying45 rfl
    · exact pr_part_int Try.underlying45 rfl
    · exact h2
    rw [if_pos rfl]
    rfl)
  exact h
theorem same15_L (n fl : Nat) (l : List (Int × Int)) (t1 t2 : Tag) (hl : l.length ≤ 200000) : ∀ (m i : Nat) (H : Heap), l.length < m + i → i ≤ l.length →
    ∀ K, s_triuneref15_Same_L0 n fl K m (LV 2 itE l t1) (LV 2 itE l t2) (I .i64 i) H = K (.exit 0) (s_triuneref15_Same_O0 .any) H := by
  intro m
  induction m with
  | zero => intro i H h; omega
  | succ m ih =>
    intro i H hm hi K
    unfold s_triuneref15_Same_L0 s_triuneref15_Same_B0
    by_cases h : i < l.length
    · have ih' := ih (i + 1) H (by omega) (by omega) K
      have hi2 : ((i + 1 : Nat) : Int) = (i : Int) + 1 := by omega
      rw [hi2] at ih'
      have hq := neq_it l[i].1 l[i].2
      simp -implicitDefEqProofs (disch := first | omega | (simp only [List.length_set, List.length_append, List.length_cons, List.length_nil, List.length_take, List.length_drop, List.length_map]; omega) | simp) [wrap_i64, wrap_u16_id, wrap_u8_id, tdiv_pos, tmod_pos, -getElem?_pos, -getElem?_neg, -List.length_eq_zero_iff, -List.getElem_cons_drop, h, itE_cells, hq, ih']
    · have : i = l.length := by omega
      subst this
      simp -implicitDefEqProofs (disch := first | omega | (simp only [List.length_set, List.length_append, List.length_cons, List.length_nil, List.length_take, List.length_drop, List.length_map]; omega) | simp) [wrap_i64, wrap_u16_id, wrap_u8_id, tdiv_pos, tmod_pos, -getElem?_pos, -getElem?_neg, -List.length_eq_zero_iff, -List.getElem_cons_drop]
theorem same15_c (n : Nat) (l : List (Int × Int)) (t1 t2 : Tag) (hl : l.length ≤ 200000) (hn : l.length + 2 ≤ n) : cP n 19 false [LV 2 itE l t1, LV 2 itE l t2] = some (Bo true) := by
  obtain ⟨n, rfl⟩ : ∃ m, n = m + 1 := ⟨n - 1, by omega⟩
  have q : ∀ K, loopG [0, 1, 5] [4] 26 (s_triuneref15_Same_b0 n 0) n (s_triuneref15_Same_I0 (LV 2 itE l .sh) (LV 2 itE l .sh) (I .i64 0)) [] K = _ := fun K => (s_triuneref15_Same_L0_eq _ _ _ _ _ _ _ _).trans (same15_L n 0 l .sh .sh hl n 0 [] (by omega) (by omega) K)
  exact cP_of (args' := [LV 2 itE l .sh, LV 2 itE l .sh]) (by simp [argEl_eq]) ((s_triuneref15_Same_eq _ _ _ _ _).trans (by unfold s_triuneref15_Same; simp -implicitDefEqProofs (disch := first | omega | (simp only [List.length_set, List.length_append, List.length_cons, List.length_nil, List.length_take, List.length_drop, List.length_map]; omega) | simp) [wrap_i64, wrap_u16_id, wrap_u8_id, tdiv_pos, tmod_pos, -getElem?_pos, -getElem?_neg, -List.length_eq_zero_iff, -List.getElem_cons_drop, q, s_triuneref15_Same_O0]; first | exact rfl | exact ⟨rfl, rfl⟩)) (by simp)
theorem own15_L (n fl n0 : Nat) (hn0 : fl ≤ n0) (l : List (Int × Int)) (tl : Tag) (hl : l.length ≤ 200000) : ∀ (m i : Nat) (t : Tag) (H : Heap), l.length < m + i → i ≤ l.length → TgOk t 116 2 n0 i H → n0 ≤ H.length →
    ∃ t' H', ∀ K, s_triunelaw15_own_L0 n fl K m (LV 2 itE l tl) (LV 2 itE (l.take i) t) (I .i64 i) H = K (.exit 0) (s_triunelaw15_own_O0 (LV 2 itE l t')) H' := by
  intro m
  induction m with
  | zero => intro i t H h; omega
  | succ m ih =>
    intro i t H hm hi ht hfl
    by_cases h : i < l.length
    · have hb1 := buildL_it l[i].1 l[i].2
      have he : (l[i].1, l[i].2) = l[i] := rfl
      rw [he] at hb1
      obtain ⟨t3, H3, ha, ht3, hl3, hj3, hw3, _⟩ := appG_fr (e := 116) (ag := true) (sz := 2) (by_ := 16) (n0 := n0) (enc := itE) (xs := l.take i) (ys := [l[i]]) (t := t) (t' := .ti) (H := H) (fl := fl) hn0 hfl (by simpa [Nat.min_eq_left hi] using ht) (by simp) rfl (by simp; omega) (by simp; omega)
      have htk : l.take i ++ [l[i]] = l.take (i + 1) := by rw [List.take_succ_eq_append_getElem h]
      rw [htk] at ha ht3
      have hlen : (l.take (i + 1)).length = i + 1 := by simp; omega
      rw [hlen] at ht3
      obtain ⟨t', H', q⟩ := ih (i + 1) t3 H3 (by omega) (by omega) ht3 (by omega)
      have hi2 : ((i + 1 : Nat) : Int) = (i : Int) + 1 := by omega
      rw [hi2] at q
      exact ⟨t', H', fun K => by unfold s_triunelaw15_own_L0 s_triunelaw15_own_B0; simp -implicitDefEqProofs (disch := first | omega | (simp only [List.length_set, List.length_append, List.length_cons, List.length_nil, List.length_take, List.length_drop, List.length_map]; omega) | simp) [wrap_i64, wrap_u16_id, wrap_u8_id, tdiv_pos, tmod_pos, -getElem?_pos, -getElem?_neg, -List.length_eq_zero_iff, -List.getElem_cons_drop, h, itE_cells, hb1, ha, q]⟩
    · have : i = l.length := by omega
      subst this
      rw [List.take_length]
      exact ⟨t, H, fun K => by unfold s_triunelaw15_own_L0 s_triunelaw15_own_B0; simp -implicitDefEqProofs (disch := first | omega | (simp only [List.length_set, List.length_append, List.length_cons, List.length_nil, List.length_take, List.length_drop, List.length_map]; omega) | simp) [wrap_i64, wrap_u16_id, wrap_u8_id, tdiv_pos, tmod_pos, -getElem?_pos, -getElem?_neg, -List.length_eq_zero_iff, -List.getElem_cons_drop]⟩
theorem own15_c (n : Nat) (l : List (Int × Int)) (t : Tag) (hl : l.length ≤ 200000) (hn : l.length + 2 ≤ n) : cP n 20 false [LV 2 itE l t] = some (LV 2 itE l .sh) := by
  obtain ⟨n, rfl⟩ : ∃ m, n = m + 1 := ⟨n - 1, by omega⟩
  obtain ⟨t', H', e⟩ := own15_L n 0 0 (by omega) l .sh hl n 0 .ti [] (by omega) (by omega) (.inl rfl) (by simp)
  have q : ∀ K, loopG [0, 3, 4] [3] 19 (s_triunelaw15_own_b0 n 0) n (s_triunelaw15_own_I0 (LV 2 itE l .sh) (.list 0 [] .ti) (I .i64 0)) [] K = _ := fun K => (s_triunelaw15_own_L0_eq _ _ _ _ _ _ _ _).trans (e K)
  exact cP_of (args' := [LV 2 itE l .sh]) (by simp [argEl_eq]) ((s_triunelaw15_own_eq _ _ _ _).trans (by unfold s_triunelaw15_own; simp -implicitDefEqProofs (disch := first | omega | (simp only [List.length_set, List.length_append, List.length_cons, List.length_nil, List.length_take, List.length_drop, List.length_map]; omega) | simp) [wrap_i64, wrap_u16_id, wrap_u8_id, tdiv_pos, tmod_pos, -getElem?_pos, -getElem?_neg, -List.length_eq_zero_iff, -List.getElem_cons_drop, q, s_triunelaw15_own_O0]; first | exact rfl | exact ⟨rfl, rfl⟩)) (by simp)
/-- a command, and its channel -/
def ordV (key kind addr : Int) (vals : List Int) : Int × Int :=
  if kind ≠ 0 ∨ addr ≠ 9500 then (0, -1) else match vals with
    | [w] => if w = key then (1, -1) else if 21504 ≤ w ∧ w < 21507 then (2, w - 21504) else (3, -1)
    | _ => (0, -1)
theorem Order_c (n : Nat) (key kind addr : Int) (vals : List Int) (t : Tag) (hv : ∀ w ∈ vals, 0 ≤ w ∧ w < 65536) (hl : vals.length ≤ 100000) (hn : 3 ≤ n) :
    cP n 21 false [I .u16 key, I .i64 kind, I .i64 addr, LV 1 (I .u16) vals t] = some (.tup [I .i64 (ordV key kind addr vals).1, I .i64 (ordV key kind addr vals).2]) ∧
    cP n 22 false [I .u16 key, I .i64 kind, I .i64 addr, LV 1 (I .u16) vals t] = some (.tup [I .i64 (ordV key kind addr vals).1, I .i64 (ordV key kind addr vals).2]) := by
  obtain ⟨n, rfl⟩ : ∃ m, n = m + 1 := ⟨n - 1, by omega⟩
  have go : ∀ p : Int × Int, ordV key kind addr vals = p → (∃ H', s_bank_Order n [] 0 (I .u16 key) (I .i64 kind) (I .i64 addr) (LV 1 (I .u16) vals .sh) = some (.tup [I .i64 p.1, I .i64 p.2], H')) → (∃ H', s_triuneref15_Order n [] 0 (I .u16 key) (I .i64 kind) (I .i64 addr) (LV 1 (I .u16) vals .sh) = some (.tup [I .i64 p.1, I .i64 p.2], H')) →
      cP (n + 1) 21 false [I .u16 key, I .i64 kind, I .i64 addr, LV 1 (I .u16) vals t] = some (.tup [I .i64 (ordV key kind addr vals).1, I .i64 (ordV key kind addr vals).2]) ∧
      cP (n + 1) 22 false [I .u16 key, I .i64 kind, I .i64 addr, LV 1 (I .u16) vals t] = some (.tup [I .i64 (ordV key kind addr vals).1, I .i64 (ordV key kind addr vals).2]) := by
    intro p hp ⟨H1, h1⟩ ⟨H2, h2⟩
    rw [hp]
    exact ⟨cP_of (args' := [I .u16 key, I .i64 kind, I .i64 addr, LV 1 (I .u16) vals .sh]) (by simp [argEl_eq]) ((s_bank_Order_eq _ _ _ _ _ _ _).trans h1) (by simp),
      cP_of (args' := [I .u16 key, I .i64 kind, I .i64 addr, LV 1 (I .u16) vals .sh]) (by simp [argEl_eq]) ((s_triuneref15_Order_eq _ _ _ _ _ _ _).trans h2) (by simp)⟩
  by_cases c1 : kind ≠ 0
  · refine go (0, -1) (by unfold ordV; rw [if_pos (.inl c1)]) ⟨[], ?_⟩ ⟨[], ?_⟩
    · unfold s_bank_Order; simp -implicitDefEqProofs (disch := first | omega | (simp only [List.length_set, List.length_append, List.length_cons, List.length_nil, List.length_take, List.length_drop, List.length_map]; omega) | simp) [wrap_i64, wrap_u16_id, wrap_u8_id, tdiv_pos, tmod_pos, -getElem?_pos, -getElem?_neg, -List.length_eq_zero_iff, -List.getElem_cons_drop, c1]
    · unfold s_triuneref15_Order; simp -implicitDefEqProofs (disch := first | omega | (simp only [List.length_set, List.length_append, List.length_cons, List.length_nil, List.length_take, List.length_drop, List.length_map]; omega) | simp) [wrap_i64, wrap_u16_id, wrap_u8_id, tdiv_pos, tmod_pos, -getElem?_pos, -getElem?_neg, -List.length_eq_zero_iff, -List.getElem_cons_drop, c1]
  have c1' : kind = 0 := Classical.byContradiction c1
  by_cases c2 : addr ≠ 9500
  · refine go (0, -1) (by unfold ordV; rw [if_pos (.inr c2)]) ⟨[], ?_⟩ ⟨[], ?_⟩
    · unfold s_bank_Order; simp -implicitDefEqProofs (disch := first | omega | (simp only [List.length_set, List.length_append, List.length_cons, List.length_nil, List.length_take, List.length_drop, List.length_map]; omega) | simp) [wrap_i64, wrap_u16_id, wrap_u8_id, tdiv_pos, tmod_pos, -getElem?_pos, -getElem?_neg, -List.length_eq_zero_iff, -List.getElem_cons_drop, c1', c2]
    · unfold s_triuneref15_Order; simp -implicitDefEqProofs (disch := first | omega | (simp only [List.length_set, List.length_append, List.length_cons, List.length_nil, List.length_take, List.length_drop, List.length_map]; omega) | simp) [wrap_i64, wrap_u16_id, wrap_u8_id, tdiv_pos, tmod_pos, -getElem?_pos, -getElem?_neg, -List.length_eq_zero_iff, -List.getElem_cons_drop, c1', c2]
  have c2' : addr = 9500 := Classical.byContradiction c2
  by_cases c3 : vals.length = 1
  · obtain ⟨w, rfl⟩ := List.length_eq_one_iff.mp c3
    have hw := hv w (by simp)
    by_cases c4 : w = key
    · refine go (1, -1) (by unfold ordV; rw [if_neg (by omega)]; simp [c4]) ⟨[], ?_⟩ ⟨[], ?_⟩
      · unfold s_bank_Order; simp -implicitDefEqProofs (disch := first | omega | (simp only [List.length_set, List.length_append, List.length_cons, List.length_nil, List.length_take, List.length_drop, List.length_map]; omega) | simp) [wrap_i64, wrap_u16_id, wrap_u8_id, tdiv_pos, tmod_pos, -getElem?_pos, -getElem?_neg, -List.length_eq_zero_iff, -List.getElem_cons_drop, c1', c2', c4]
      · unfold s_triuneref15_Order; simp -implicitDefEqProofs (disch := first | omega | (simp only [List.length_set, List.length_append, List.length_cons, List.length_nil, List.length_take, List.length_drop, List.length_map]; omega) | simp) [wrap_i64, wrap_u16_id, wrap_u8_id, tdiv_pos, tmod_pos, -getElem?_pos, -getElem?_neg, -List.length_eq_zero_iff, -List.getElem_cons_drop, c1', c2', c4]
    · by_cases c5 : 21504 ≤ w ∧ w < 21507
      · have c6 := c5.1
        have c7 := c5.2
        have c8 : w ≤ 21506 := by omega
        refine go (2, w - 21504) (by unfold ordV; rw [if_neg (by omega)]; simp [c4, c5]) ⟨[], ?_⟩ ⟨[], ?_⟩
        · unfold s_bank_Order; simp -implicitDefEqProofs (disch := first | omega | (simp only [List.length_set, List.length_append, List.length_cons, List.length_nil, List.length_take, List.length_drop, List.length_map]; omega) | simp) [wrap_i64, wrap_u16_id, wrap_u8_id, tdiv_pos, tmod_pos, -getElem?_pos, -getElem?_neg, -List.length_eq_zero_iff, -List.getElem_cons_drop, c1', c2', c4, c6, c7]
        · unfold s_triuneref15_Order; simp -implicitDefEqProofs (disch := first | omega | (simp only [List.length_set, List.length_append, List.length_cons, List.length_nil, List.length_take, List.length_drop, List.length_map]; omega) | simp) [wrap_i64, wrap_u16_id, wrap_u8_id, tdiv_pos, tmod_pos, -getElem?_pos, -getElem?_neg, -List.length_eq_zero_iff, -List.getElem_cons_drop, c1', c2', c4, c6, c8]
      · refine go (3, -1) (by unfold ordV; rw [if_neg (by omega)]; simp only; rw [if_neg c4, if_neg c5]) ⟨[], ?_⟩ ⟨[], ?_⟩
        · unfold s_bank_Order
          by_cases c6 : 21504 ≤ w
          · have c7 : ¬ w < 21507 := by omega
            simp -implicitDefEqProofs (disch := first | omega | (simp only [List.length_set, List.length_append, List.length_cons, List.length_nil, List.length_take, List.length_drop, List.length_map]; omega) | simp) [wrap_i64, wrap_u16_id, wrap_u8_id, tdiv_pos, tmod_pos, -getElem?_pos, -getElem?_neg, -List.length_eq_zero_iff, -List.getElem_cons_drop, c1', c2', c4, c6, c7]
          · simp -implicitDefEqProofs (disch := first | omega | (simp only [List.length_set, List.length_append, List.length_cons, List.length_nil, List.length_take, List.length_drop, List.length_map]; omega) | simp) [wrap_i64, wrap_u16_id, wrap_u8_id, tdiv_pos, tmod_pos, -getElem?_pos, -getElem?_neg, -List.length_eq_zero_iff, -List.getElem_cons_drop, c1', c2', c4, c6]
        · unfold s_triuneref15_Order
          by_cases c6 : 21504 ≤ w
          · have c7 : ¬ w ≤ 21506 := by omega
            simp -implicitDefEqProofs (disch := first | omega | (simp only [List.length_set, List.length_append, List.length_cons, List.length_nil, List.length_take, List.length_drop, List.length_map]; omega) | simp) [wrap_i64, wrap_u16_id, wrap_u8_id, tdiv_pos, tmod_pos, -getElem?_pos, -getElem?_neg, -List.length_eq_zero_iff, -List.getElem_cons_drop, c1', c2', c4, c6, c7]
          · simp -implicitDefEqProofs (disch := first | omega | (simp only [List.length_set, List.length_append, List.length_cons, List.length_nil, List.length_take, List.length_drop, List.length_map]; omega) | simp) [wrap_i64, wrap_u16_id, wrap_u8_id, tdiv_pos, tmod_pos, -getElem?_pos, -getElem?_neg, -List.length_eq_zero_iff, -List.getElem_cons_drop, c1', c2', c4, c6]
  · have hO : ordV key kind addr vals = (0, -1) := by
      unfold ordV
      rw [if_neg (by omega)]
      match vals, c3 with
      | [], _ => rfl
      | [w], h => exact absurd rfl h
      | _ :: _ :: _, _ => rfl
    refine go (0, -1) hO ⟨[], ?_⟩ ⟨[], ?_⟩
    · unfold s_bank_Order; simp -implicitDefEqProofs (disch := first | omega | (simp only [List.length_set, List.length_append, List.length_cons, List.length_nil, List.length_take, List.length_drop, List.length_map]; omega) | simp) [wrap_i64, wrap_u16_id, wrap_u8_id, tdiv_pos, tmod_pos, -getElem?_pos, -getElem?_neg, -List.length_eq_zero_iff, -List.getElem_cons_drop, c1', c2', c3]
    · unfold s_triuneref15_Order; simp -implicitDefEqProofs (disch := first | omega | (simp only [List.length_set, List.length_append, List.length_cons, List.length_nil, List.length_take, List.length_drop, List.length_map]; omega) | simp) [wrap_i64, wrap_u16_id, wrap_u8_id, tdiv_pos, tmod_pos, -getElem?_pos, -getElem?_neg, -List.length_eq_zero_iff, -List.getElem_cons_drop, c1', c2', c3]
end Go.Proofs.Ytigfninpflemnab
