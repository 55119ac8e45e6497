/- What is read: the program's answer, and the reference's. -/
import Derived.Test.YtigfninpflemnabFBankR
import Derived.Test.YtigfninpflemnabGBankO
-- NEEDS: bank.Read; triuneref15.Read
namespace Go.Proofs.Ytigfninpflemnab
open Go
set_option linter.unusedSimpArgs false
set_option linter.unusedVariables false
def gath (g : Int → Option Int) : Nat → Int → Option (List Int)
  | 0, _ => some []
  | m + 1, i => match g i with
    | none => none
    | some w => (gath g m (i + 1)).map (w :: ·)
def readD (v : Vw) (kind addr count : Int) : DV :=
  if count < 1 ∨ 65536 < count then .tup [LV 1 (I .u16) [] .sh, Bo false] else match gath (oneV v kind) count.toNat addr with
    | none => .tup [LV 1 (I .u16) [] .sh, Bo false]
    | some l => .tup [LV 1 (I .u16) l .sh, Bo true]
theorem bank_Read_L (n fl a : Nat) (hn : 200 ≤ n) (v : Vw) (hv : VwOk v) (kind addr : Int) (c : Nat) (h0 : 0 ≤ addr) (h1 : addr ≤ 500000) (hc : c ≤ 65536) : ∀ (m i : Nat) (xs : List Int) (t : Tag) (H : Heap), c < m + i → i ≤ c → xs.length = i → H[a]? = some (.cells 26 v.C) → TgOk t 45 1 fl i H → fl ≤ H.length →
    match gath (oneV v kind) (c - i) (addr + i) with
    | none => ∃ x H', ∀ K, s_bank_Read_L0 n fl K m (I .i64 kind) (I .i64 addr) (.ptr a 0) (LV 1 (I .u16) xs t) (I .i64 c) (I .i64 i) H = K .ret (s_bank_Read_O0 (.list 0 [] .ti) (Bo false) x) H'
    | some ys => ∃ t' H', ∀ K, s_bank_Read_L0 n fl K m (I .i64 kind) (I .i64 addr) (.ptr a 0) (LV 1 (I .u16) xs t) (I .i64 c) (I .i64 i) H = K (.exit 0) (s_bank_Read_O0 .any .any (LV 1 (I .u16) (xs ++ ys) t')) H' := by
  intro m
  induction m with
  | zero => intro i xs t H h; omega
  | succ m ih =>
    intro i xs t H hm hi hx ha ht hfl
    by_cases h : i < c
    · have hci : c - i = (c - (i + 1)) + 1 := by omega
      rw [hci, gath]
      have hO := View_one_c n v hv kind (addr + i) (by omega) (by omega) (by omega)
      cases ho : oneV v kind (addr + i) with
      | none =>
        rw [ho] at hO
        unfold oneD at hO
        unfold Vw.C at hO ha
        exact ⟨_, _, fun K => by unfold s_bank_Read_L0 s_bank_Read_B0; simp -implicitDefEqProofs (disch := first | omega | (simp only [List.length_set, List.length_append, List.length_cons, List.length_nil, List.length_take, List.length_drop, List.length_map]; omega) | simp) [wrap_i64, wrap_u16_id, wrap_u8_id, tdiv_pos, tmod_pos, -getElem?_pos, -getElem?_neg, -List.length_eq_zero_iff, -List.getElem_cons_drop, h, ha, hO]; rfl⟩
      | some w =>
        rw [ho] at hO
        unfold oneD at hO
        simp only [Option.getD_some, Option.isSome_some] at hO
        obtain ⟨t2, H2, hap, ht2, hl2, hj2, hw2, hx2⟩ := appG_all (e := 45) (ag := false) (sz := 1) (by_ := 2) (n0 := fl) (enc := I .u16) (xs := xs) (ys := [w]) (t := t) (t' := .ti) (H := H) (fl := fl) (by omega) hfl (by rw [hx]; exact ht) rfl (by simp; omega) (by simp; omega)
        have hla : a < H.length := hp_lt ha
        have ha2 := hx2.2 a _ ha (by intro e s n h; cases h)
        have ih' := ih (i + 1) (xs ++ [w]) t2 H2 (by omega) (by omega) (by simp [hx]) ha2 (by simpa [hx] using ht2) (by omega)
        have hi2 : ((i + 1 : Nat) : Int) = (i : Int) + 1 := by omega
        have hi3 : addr + ((i + 1 : Nat) : Int) = addr + i + 1 := by omega
        rw [hi3, hi2] at ih'
        unfold Vw.C at hO ha
        cases hg : gath (oneV v kind) (c - (i + 1)) (addr + i + 1) with
        | none =>
          rw [hg] at ih'
          obtain ⟨x, H', q⟩ := ih'
          exact ⟨x, H', fun K => by unfold s_bank_Read_L0 s_bank_Read_B0; simp -implicitDefEqProofs (disch := first | omega | (simp only [List.length_set, List.length_append, List.length_cons, List.length_nil, List.length_take, List.length_drop, List.length_map]; omega) | simp) [wrap_i64, wrap_u16_id, wrap_u8_id, tdiv_pos, tmod_pos, -getElem?_pos, -getElem?_neg, -List.length_eq_zero_iff, -List.getElem_cons_drop, h, ha, hO, hap, q]⟩
        | some ys =>
          rw [hg] at ih'
          obtain ⟨t', H', q⟩ := ih'
          rw [List.append_assoc] at q
          exact ⟨t', H', fun K => by unfold s_bank_Read_L0 s_bank_Read_B0; simp -implicitDefEqProofs (disch := first | omega | (simp only [List.length_set, List.length_append, List.length_cons, List.length_nil, List.length_take, List.length_drop, List.length_map]; omega) | simp) [wrap_i64, wrap_u16_id, wrap_u8_id, tdiv_pos, tmod_pos, -getElem?_pos, -getElem?_neg, -List.length_eq_zero_iff, -List.getElem_cons_drop, h, ha, hO, hap, q]⟩
    · have : i = c := by omega
      subst this
      rw [Nat.sub_self, gath]
      exact ⟨t, H, fun K => by unfold s_bank_Read_L0 s_bank_Read_B0; simp -implicitDefEqProofs (disch := first | omega | (simp only [List.length_set, List.length_append, List.length_cons, List.length_nil, List.length_take, List.length_drop, List.length_map]; omega) | simp) [wrap_i64, wrap_u16_id, wrap_u8_id, tdiv_pos, tmod_pos, -getElem?_pos, -getElem?_neg, -List.length_eq_zero_iff, -List.getElem_cons_drop]⟩
theorem bank_Read_c (n : Nat) (v : Vw) (hv : VwOk v) (kind addr count : Int) (h0 : 0 ≤ addr) (h1 : addr ≤ 500000) (hn : 300 + count.toNat ≤ n) : cP n 14 false [.agg v.C, I .i64 kind, I .i64 addr, I .i64 count] = some (readD v kind addr count) := by
  obtain ⟨n, rfl⟩ : ∃ m, n = m + 1 := ⟨n - 1, by omega⟩
  unfold readD
  by_cases c1 : count < 1 ∨ 65536 < count
  · rw [if_pos c1]
    unfold Vw.C
    rcases c1 with c1 | c1
    · exact cP_of (args' := [.agg v.C, I .i64 kind, I .i64 addr, I .i64 count]) (by unfold Vw.C; simp [argEl_eq]) ((s_bank_Read_eq _ _ _ _ _ _ _).trans (by unfold s_bank_Read Vw.C; simp -implicitDefEqProofs (disch := first | omega | (simp only [List.length_set, List.length_append, List.length_cons, List.length_nil, List.length_take, List.length_drop, List.length_map]; omega) | simp) [wrap_i64, wrap_u16_id, wrap_u8_id, tdiv_pos, tmod_pos, -getElem?_pos, -getElem?_neg, -List.length_eq_zero_iff, -List.getElem_cons_drop, c1]; first | exact rfl | exact ⟨rfl, rfl⟩)) (by simp <;> rfl)
    · have c2 : ¬ count < 1 := by omega
      exact cP_of (args' := [.agg v.C, I .i64 kind, I .i64 addr, I .i64 count]) (by unfold Vw.C; simp [argEl_eq]) ((s_bank_Read_eq _ _ _ _ _ _ _).trans (by unfold s_bank_Read Vw.C; simp -implicitDefEqProofs (disch := first | omega | (simp only [List.length_set, List.length_append, List.length_cons, List.length_nil, List.length_take, List.length_drop, List.length_map]; omega) | simp) [wrap_i64, wrap_u16_id, wrap_u8_id, tdiv_pos, tmod_pos, -getElem?_pos, -getElem?_neg, -List.length_eq_zero_iff, -List.getElem_cons_drop, c1, c2]; first | exact rfl | exact ⟨rfl, rfl⟩)) (by simp <;> rfl)
  · rw [if_neg c1]
    obtain ⟨c, rfl⟩ : ∃ c : Nat, count = (c : Int) := ⟨count.toNat, by omega⟩
    have hc1 : ¬ (c : Int) < 1 := by omega
    have hc2 : ¬ (65536 : Int) < c := by omega
    have hL := bank_Read_L n 0 0 (by omega) v hv kind addr c h0 h1 (by omega) n 0 [] .ti [.cells 26 v.C] (by omega) (by omega) rfl rfl (.inl rfl) (by simp)
    have e1 : addr + ((0 : Nat) : Int) = addr := by omega
    rw [e1, Nat.sub_zero] at hL
    rw [Int.toNat_natCast]
    cases hg : gath (oneV v kind) c addr with
    | none =>
      rw [hg] at hL
      obtain ⟨x, H', q⟩ := hL
      have q' : ∀ K, loopG [1, 2, 4, 10, 20, 21] [8, 9, 10] 41 (s_bank_Read_b0 n 0) n (s_bank_Read_I0 (I .i64 kind) (I .i64 addr) (.ptr 0 0) (.list 0 [] .ti) (I .i64 c) (I .i64 0)) [.cells 26 v.C] K = _ := fun K => (s_bank_Read_L0_eq _ _ _ _ _ _ _ _ _ _ _).trans (q K)
      unfold Vw.C at q' ⊢
      exact cP_of (args' := [.agg v.C, I .i64 kind, I .i64 addr, I .i64 c]) (by unfold Vw.C; simp [argEl_eq]) ((s_bank_Read_eq _ _ _ _ _ _ _).trans (by unfold s_bank_Read Vw.C; simp -implicitDefEqProofs (disch := first | omega | (simp only [List.length_set, List.length_append, List.length_cons, List.length_nil, List.length_take, List.length_drop, List.length_map]; omega) | simp) [wrap_i64, wrap_u16_id, wrap_u8_id, tdiv_pos, tmod_pos, -getElem?_pos, -getElem?_neg, -List.length_eq_zero_iff, -List.getElem_cons_drop, hc1, hc2, q', s_bank_Read_O0]; first | exact rfl | exact ⟨rfl, rfl⟩)) (by simp <;> rfl)
    | some ys =>
      rw [hg] at hL
      obtain ⟨t', H', q⟩ := hL
      have q' : ∀ K, loopG [1, 2, 4, 10, 20, 21] [8, 9, 10] 41 (s_bank_Read_b0 n 0) n (s_bank_Read_I0 (I .i64 kind) (I .i64 addr) (.ptr 0 0) (.list 0 [] .ti) (I .i64 c) (I .i64 0)) [.cells 26 v.C] K = _ := fun K => (s_bank_Read_L0_eq _ _ _ _ _ _ _ _ _ _ _).trans (q K)
      unfold Vw.C at q' ⊢
      exact cP_of (args' := [.agg v.C, I .i64 kind, I .i64 addr, I .i64 c]) (by unfold Vw.C; simp [argEl_eq]) ((s_bank_Read_eq _ _ _ _ _ _ _).trans (by unfold s_bank_Read Vw.C; simp -implicitDefEqProofs (disch := first | omega | (simp only [List.length_set, List.length_append, List.length_cons, List.length_nil, List.length_take, List.length_drop, List.length_map]; omega) | simp) [wrap_i64, wrap_u16_id, wrap_u8_id, tdiv_pos, tmod_pos, -getElem?_pos, -getElem?_neg, -List.length_eq_zero_iff, -List.getElem_cons_drop, hc1, hc2, q', s_bank_Read_O0]; first | exact rfl | exact ⟨rfl, rfl⟩)) (by simp <;> rfl)
theorem ref15_Read_L (n fl a : Nat) (hn : 200 ≤ n) (v : Vw) (hv : VwOk v) (kind addr : Int) (c : Nat) (h0 : 0 ≤ addr) (h1 : addr ≤ 500000) (hc : c ≤ 65536) : ∀ (m i : Nat) (xs : List Int) (t : Tag) (H : Heap), c < m + i → i ≤ c → xs.length = i → H[a]? = some (.cells 33 v.C) → TgOk t 45 1 fl i H → fl ≤ H.length →
    match gath (oneV v kind) (c - i) (addr + i) with
    | none => ∃ x H', ∀ K, s_triuneref15_Read_L0 n fl K m (I .i64 kind) (I .i64 addr) (I .i64 c) (.ptr a 0) (LV 1 (I .u16) xs t) (I .i64 i) H = K .ret (s_triuneref15_Read_O0 (.list 0 [] .ti) (Bo false) x) H'
    | some ys => ∃ t' H', ∀ K, s_triuneref15_Read_L0 n fl K m (I .i64 kind) (I .i64 addr) (I .i64 c) (.ptr a 0) (LV 1 (I .u16) xs t) (I .i64 i) H = K (.exit 0) (s_triuneref15_Read_O0 .any .any (LV 1 (I .u16) (xs ++ ys) t')) H' := by
  intro m
  induction m with
  | zero => intro i xs t H h; omega
  | succ m ih =>
    intro i xs t H hm hi hx ha ht hfl
    by_cases h : i < c
    · have hci : c - i = (c - (i + 1)) + 1 := by omega
      rw [hci, gath]
      have hO := ref15_one_c n v hv kind (addr + i) (by omega) (by omega) (by omega)
      cases ho : oneV v kind (addr + i) with
      | none =>
        rw [ho] at hO
        unfold oneD at hO
        unfold Vw.C at hO ha
        exact ⟨_, _, fun K => by unfold s_triuneref15_Read_L0 s_triuneref15_Read_B0; simp -implicitDefEqProofs (disch := first | omega | (simp only [List.length_set, List.length_append, List.length_cons, List.length_nil, List.length_take, List.length_drop, List.length_map]; omega) | simp) [wrap_i64, wrap_u16_id, wrap_u8_id, tdiv_pos, tmod_pos, -getElem?_pos, -getElem?_neg, -List.length_eq_zero_iff, -List.getElem_cons_drop, h, ha, hO]; rfl⟩
      | some w =>
        rw [ho] at hO
        unfold oneD at hO
        simp only [Option.getD_some, Option.isSome_some] at hO
        obtain ⟨t2, H2, hap, ht2, hl2, hj2, hw2, hx2⟩ := appG_all (e := 45) (ag := false) (sz := 1) (by_ := 2) (n0 := fl) (enc := I .u16) (xs := xs) (ys := [w]) (t := t) (t' := .ti) (H := H) (fl := fl) (by omega) hfl (by rw [hx]; exact ht) rfl (by simp; omega) (by simp; omega)
        have hla : a < H.length := hp_lt ha
        have ha2 := hx2.2 a _ ha (by intro e s n h; cases h)
        have ih' := ih (i + 1) (xs ++ [w]) t2 H2 (by omega) (by omega) (by simp [hx]) ha2 (by simpa [hx] using ht2) (by omega)
        have hi2 : ((i + 1 : Nat) : Int) = (i : Int) + 1 := by omega
        have hi3 : addr + ((i + 1 : Nat) : Int) = addr + i + 1 := by omega
        rw [hi3, hi2] at ih'
        unfold Vw.C at hO ha
        cases hg : gath (oneV v kind) (c - (i + 1)) (addr + i + 1) with
        | none =>
          rw [hg] at ih'
          obtain ⟨x, H', q⟩ := ih'
          exact ⟨x, H', fun K => by unfold s_triuneref15_Read_L0 s_triuneref15_Read_B0; simp -implicitDefEqProofs (disch := first | omega | (simp only [List.length_set, List.length_append, List.length_cons, List.length_nil, List.length_take, List.length_drop, List.length_map]; omega) | simp) [wrap_i64, wrap_u16_id, wrap_u8_id, tdiv_pos, tmod_pos, -getElem?_pos, -getElem?_neg, -List.length_eq_zero_iff, -List.getElem_cons_drop, h, ha, hO, hap, q]⟩
        | some ys =>
          rw [hg] at ih'
          obtain ⟨t', H', q⟩ := ih'
          rw [List.append_assoc] at q
          exact ⟨t', H', fun K => by unfold s_triuneref15_Read_L0 s_triuneref15_Read_B0; simp -implicitDefEqProofs (disch := first | omega | (simp only [List.length_set, List.length_append, List.length_cons, List.length_nil, List.length_take, List.length_drop, List.length_map]; omega) | simp) [wrap_i64, wrap_u16_id, wrap_u8_id, tdiv_pos, tmod_pos, -getElem?_pos, -getElem?_neg, -List.length_eq_zero_iff, -List.getElem_cons_drop, h, ha, hO, hap, q]⟩
    · have : i = c := by omega
      subst this
      rw [Nat.sub_self, gath]
      exact ⟨t, H, fun K => by unfold s_triuneref15_Read_L0 s_triuneref15_Read_B0; simp -implicitDefEqProofs (disch := first | omega | (simp only [List.length_set, List.length_append, List.length_cons, List.length_nil, List.length_take, List.length_drop, List.length_map]; omega) | simp) [wrap_i64, wrap_u16_id, wrap_u8_id, tdiv_pos, tmod_pos, -getElem?_pos, -getElem?_neg, -List.length_eq_zero_iff, -List.getElem_cons_drop]⟩
theorem ref15_Read_c (n : Nat) (v : Vw) (hv : VwOk v) (kind addr count : Int) (h0 : 0 ≤ addr) (h1 : addr ≤ 500000) (hn : 300 + count.toNat ≤ n) : cP n 15 false [.agg v.C, I .i64 kind, I .i64 addr, I .i64 count] = some (readD v kind addr count) := by
  obtain ⟨n, rfl⟩ : ∃ m, n = m + 1 := ⟨n - 1, by omega⟩
  unfold readD
  by_cases c1 : count < 1 ∨ 65536 < count
  · rw [if_pos c1]
    unfold Vw.C
    rcases c1 with c1 | c1
    · exact cP_of (args' := [.agg v.C, I .i64 kind, I .i64 addr, I .i64 count]) (by unfold Vw.C; simp [argEl_eq]) ((s_triuneref15_Read_eq _ _ _ _ _ _ _).trans (by unfold s_triuneref15_Read Vw.C; simp -implicitDefEqProofs (disch := first | omega | (simp only [List.length_set, List.length_append, List.length_cons, List.length_nil, List.length_take, List.length_drop, List.length_map]; omega) | simp) [wrap_i64, wrap_u16_id, wrap_u8_id, tdiv_pos, tmod_pos, -getElem?_pos, -getElem?_neg, -List.length_eq_zero_iff, -List.getElem_cons_drop, c1]; first | exact rfl | exact ⟨rfl, rfl⟩)) (by simp <;> rfl)
    · have c2 : ¬ count < 1 := by omega
      exact cP_of (args' := [.agg v.C, I .i64 kind, I .i64 addr, I .i64 count]) (by unfold Vw.C; simp [argEl_eq]) ((s_triuneref15_Read_eq _ _ _ _ _ _ _).trans (by unfold s_triuneref15_Read Vw.C; simp -implicitDefEqProofs (disch := first | omega | (simp only [List.length_set, List.length_append, List.length_cons, List.length_nil, List.length_take, List.length_drop, List.length_map]; omega) | simp) [wrap_i64, wrap_u16_id, wrap_u8_id, tdiv_pos, tmod_pos, -getElem?_pos, -getElem?_neg, -List.length_eq_zero_iff, -List.getElem_cons_drop, c1, c2]; first | exact rfl | exact ⟨rfl, rfl⟩)) (by simp <;> rfl)
  · rw [if_neg c1]
    obtain ⟨c, rfl⟩ : ∃ c : Nat, count = (c : Int) := ⟨count.toNat, by omega⟩
    have hc1 : ¬ (c : Int) < 1 := by omega
    have hc2 : ¬ (65536 : Int) < c := by omega
    have hL := ref15_Read_L n 0 0 (by omega) v hv kind addr c h0 h1 (by omega) n 0 [] .ti [.cells 33 v.C] (by omega) (by omega) rfl rfl (.inl rfl) (by simp)
    have e1 : addr + ((0 : Nat) : Int) = addr := by omega
    rw [e1, Nat.sub_zero] at hL
    rw [Int.toNat_natCast]
    cases hg : gath (oneV v kind) c addr with
    | none =>
      rw [hg] at hL
      obtain ⟨x, H', q⟩ := hL
      have q' : ∀ K, loopG [1, 2, 3, 4, 10, 11] [8, 9, 10] 41 (s_triuneref15_Read_b0 n 0) n (s_triuneref15_Read_I0 (I .i64 kind) (I .i64 addr) (I .i64 c) (.ptr 0 0) (.list 0 [] .ti) (I .i64 0)) [.cells 33 v.C] K = _ := fun K => (s_triuneref15_Read_L0_eq _ _ _ _ _ _ _ _ _ _ _).trans (q K)
      unfold Vw.C at q' ⊢
      exact cP_of (args' := [.agg v.C, I .i64 kind, I .i64 addr, I .i64 c]) (by unfold Vw.C; simp [argEl_eq]) ((s_triuneref15_Read_eq _ _ _ _ _ _ _).trans (by unfold s_triuneref15_Read Vw.C; simp -implicitDefEqProofs (disch := first | omega | (simp only [List.length_set, List.length_append, List.length_cons, List.length_nil, List.length_take, List.length_drop, List.length_map]; omega) | simp) [wrap_i64, wrap_u16_id, wrap_u8_id, tdiv_pos, tmod_pos, -getElem?_pos, -getElem?_neg, -List.length_eq_zero_iff, -List.getElem_cons_drop, hc1, hc2, q', s_triuneref15_Read_O0]; first | exact rfl | exact ⟨rfl, rfl⟩)) (by simp <;> rfl)
    | some ys =>
      rw [hg] at hL
      obtain ⟨t', H', q⟩ := hL
      have q' : ∀ K, loopG [1, 2, 3, 4, 10, 11] [8, 9, 10] 41 (s_triuneref15_Read_b0 n 0) n (s_triuneref15_Read_I0 (I .i64 kind) (I .i64 addr) (I .i64 c) (.ptr 0 0) (.list 0 [] .ti) (I .i64 0)) [.cells 33 v.C] K = _ := fun K => (s_triuneref15_Read_L0_eq _ _ _ _ _ _ _ _ _ _ _).trans (q K)
      unfold Vw.C at q' ⊢
      exact cP_of (args' := [.agg v.C, I .i64 kind, I .i64 addr, I .i64 c]) (by unfold Vw.C; simp [argEl_eq]) ((s_triuneref15_Read_eq _ _ _ _ _ _ _).trans (by unfold s_triuneref15_Read Vw.C; simp -implicitDefEqProofs (disch := first | omega | (simp only [List.length_set, List.length_append, List.length_cons, List.length_nil, List.length_take, List.length_drop, List.length_map]; omega) | simp) [wrap_i64, wrap_u16_id, wrap_u8_id, tdiv_pos, tmod_pos, -getElem?_pos, -getElem?_neg, -List.length_eq_zero_iff, -List.getElem_cons_drop, hc1, hc2, q', s_triuneref15_Read_O0]; first | exact rfl | exact ⟨rfl, rfl⟩)) (by simp <;> rfl)
end Go.Proofs.Ytigfninpflemnab
