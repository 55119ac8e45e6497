/- The law BankTells: it answers true. -/
import Derived.Test.YtigfninpflemnabFLBankTells
import Derived.Test.YtigfninpflemnabGBankR
import Derived.Test.YtigfninpflemnabGBankI
import Derived.Test.YtigfninpflemnabGSame02
import Derived.Test.YtigfninpflemnabShp
-- NEEDS: triunelaw15.may; triunelaw15.BankTells
namespace Go.Proofs.Ytigfninpflemnab
open Go
set_option linter.unusedSimpArgs false
set_option linter.unusedVariables false
theorem may15_c (n : Nat) (v : Vw) (hl : v.pts.length ≤ 140737488355328) (hn : 120 ≤ n) : ∃ b, cP n 13 false [.agg v.C] = some (Bo b) ∧ (b = true → VwOk v) := by
  obtain ⟨n, rfl⟩ : ∃ m, n = m + 1 := ⟨n - 1, by omega⟩
  obtain ⟨ok, hM, hM2⟩ := May_c n v.pts .sh hl (by omega)
  have go : ∀ b, s_triunelaw15_may n [] 0 (.agg v.C) = some (Bo b, [.cells 26 v.C]) → (b = true → VwOk v) → ∃ b, cP (n + 1) 13 false [.agg v.C] = some (Bo b) ∧ (b = true → VwOk v) := by
    intro b h h2
    exact ⟨b, cP_of (args' := [.agg v.C]) (by unfold Vw.C; simp [argEl_eq]) ((s_triunelaw15_may_eq _ _ _ _).trans h) (by simp), h2⟩
  unfold Vw.C at go ⊢
  cases ok with
  | false =>
    refine go false ?_ (fun h => by cases h)
    unfold s_triunelaw15_may; simp -implicitDefEqProofs (disch := first | omega | (simp only [List.length_set, List.length_append, List.length_cons, List.length_nil, List.length_take, List.length_drop, List.length_map]; omega) | simp) [wrap_i64, wrap_u16_id, wrap_u8_id, tdiv_pos, tmod_pos, -getElem?_pos, -getElem?_neg, -List.length_eq_zero_iff, -List.getElem_cons_drop, hM]
  | true =>
    by_cases c1 : v.voted.length = v.pts.length
    · by_cases c2 : v.r0.length = v.pts.length
      · by_cases c3 : v.r1.length = v.pts.length
        · by_cases c4 : v.r2.length = v.pts.length
          · by_cases c5 : v.diag.length ≤ 100
            · refine go true ?_ (fun _ => ⟨hM2 rfl, c1, c2, c3, c4, c5⟩)
              unfold s_triunelaw15_may; simp -implicitDefEqProofs (disch := first | omega | (simp only [List.length_set, List.length_append, List.length_cons, List.length_nil, List.length_take, List.length_drop, List.length_map]; omega) | simp) [wrap_i64, wrap_u16_id, wrap_u8_id, tdiv_pos, tmod_pos, -getElem?_pos, -getElem?_neg, -List.length_eq_zero_iff, -List.getElem_cons_drop, hM, c1, c2, c3, c4, c5, idxArr_k]; omega
            · refine go false ?_ (fun h => by cases h)
              unfold s_triunelaw15_may; simp -implicitDefEqProofs (disch := first | omega | (simp only [List.length_set, List.length_append, List.length_cons, List.length_nil, List.length_take, List.length_drop, List.length_map]; omega) | simp) [wrap_i64, wrap_u16_id, wrap_u8_id, tdiv_pos, tmod_pos, -getElem?_pos, -getElem?_neg, -List.length_eq_zero_iff, -List.getElem_cons_drop, hM, c1, c2, c3, c4, c5, idxArr_k]; omega
          · refine go false ?_ (fun h => by cases h)
            unfold s_triunelaw15_may; simp -implicitDefEqProofs (disch := first | omega | (simp only [List.length_set, List.length_append, List.length_cons, List.length_nil, List.length_take, List.length_drop, List.length_map]; omega) | simp) [wrap_i64, wrap_u16_id, wrap_u8_id, tdiv_pos, tmod_pos, -getElem?_pos, -getElem?_neg, -List.length_eq_zero_iff, -List.getElem_cons_drop, hM, c1, c2, c3, c4, idxArr_k]
        · refine go false ?_ (fun h => by cases h)
          unfold s_triunelaw15_may; simp -implicitDefEqProofs (disch := first | omega | (simp only [List.length_set, List.length_append, List.length_cons, List.length_nil, List.length_take, List.length_drop, List.length_map]; omega) | simp) [wrap_i64, wrap_u16_id, wrap_u8_id, tdiv_pos, tmod_pos, -getElem?_pos, -getElem?_neg, -List.length_eq_zero_iff, -List.getElem_cons_drop, hM, c1, c2, c3, idxArr_k]
      · refine go false ?_ (fun h => by cases h)
        unfold s_triunelaw15_may; simp -implicitDefEqProofs (disch := first | omega | (simp only [List.length_set, List.length_append, List.length_cons, List.length_nil, List.length_take, List.length_drop, List.length_map]; omega) | simp) [wrap_i64, wrap_u16_id, wrap_u8_id, tdiv_pos, tmod_pos, -getElem?_pos, -getElem?_neg, -List.length_eq_zero_iff, -List.getElem_cons_drop, hM, c1, c2, idxArr_k]
    · refine go false ?_ (fun h => by cases h)
      unfold s_triunelaw15_may; simp -implicitDefEqProofs (disch := first | omega | (simp only [List.length_set, List.length_append, List.length_cons, List.length_nil, List.length_take, List.length_drop, List.length_map]; omega) | simp) [wrap_i64, wrap_u16_id, wrap_u8_id, tdiv_pos, tmod_pos, -getElem?_pos, -getElem?_neg, -List.length_eq_zero_iff, -List.getElem_cons_drop, hM, c1, idxArr_k]
theorem awake15 : cP 9999 12 false [] = some (Bo true) := by kernel_rfl
theorem gath_len (g : Int → Option Int) : ∀ (m : Nat) (a : Int) (l : List Int), gath g m a = some l → l.length = m
  | 0, _, l, h => by unfold gath at h; cases h; rfl
  | m + 1, a, l, h => by
    unfold gath at h
    split at h
    · cases h
    · cases hg : gath g m (a + 1) with
      | none => rw [hg] at h; cases h
      | some ys => rw [hg] at h; cases h; simp [gath_len g m (a + 1) ys hg]
theorem itms_len (f : Int → Int) (c : Prop) [Decidable c] : ∀ (l : List Int) (a : Int) (ys : List (Int × Int)), itms f c l a = some ys → ys.length = l.length
  | [], _, ys, h => by unfold itms at h; cases h; rfl
  | v :: l, a, ys, h => by
    unfold itms at h
    split at h
    · cases h
    · cases hg : itms f c l (a + 1) with
      | none => rw [hg] at h; cases h
      | some zs => rw [hg] at h; cases h; simp [itms_len f c l (a + 1) zs hg]
theorem BankTells_run (n : Nat) (up : cP n 12 false [] = some (Bo true)) (hn : 9000 ≤ n) (v : Vw) (n0 n1 n2 n3 : Int) (vals : List Int) (hl : v.pts.length ≤ 140737488355328) (hv : ∀ w ∈ vals, 0 ≤ w ∧ w < 65536) :
    ∃ H', s_triunelaw15_BankTells n [] 0 (.agg v.C) (.agg [I .i64 n0, I .i64 n1, I .i64 n2, I .i64 n3]) (LV 1 (I .u16) vals .sh) = some (Bo true, H') := by
  obtain ⟨ok, hM, hM2⟩ := may15_c n v hl (by omega)
  unfold Vw.C at hM ⊢
  cases ok with
  | false => exact ⟨_, by unfold s_triunelaw15_BankTells; simp -implicitDefEqProofs (disch := first | omega | (simp only [List.length_set, List.length_append, List.length_cons, List.length_nil, List.length_take, List.length_drop, List.length_map]; omega) | simp) [wrap_i64, wrap_u16_id, wrap_u8_id, tdiv_pos, tmod_pos, -getElem?_pos, -getElem?_neg, -List.length_eq_zero_iff, -List.getElem_cons_drop, up, hM]; rfl⟩
  | true =>
    have hk := hM2 rfl
    by_cases c1 : n0 < 0
    · exact ⟨_, by unfold s_triunelaw15_BankTells; simp -implicitDefEqProofs (disch := first | omega | (simp only [List.length_set, List.length_append, List.length_cons, List.length_nil, List.length_take, List.length_drop, List.length_map]; omega) | simp) [wrap_i64, wrap_u16_id, wrap_u8_id, tdiv_pos, tmod_pos, -getElem?_pos, -getElem?_neg, -List.length_eq_zero_iff, -List.getElem_cons_drop, up, hM, c1]; rfl⟩
    by_cases c2 : 3 < n0
    · exact ⟨_, by unfold s_triunelaw15_BankTells; simp -implicitDefEqProofs (disch := first | omega | (simp only [List.length_set, List.length_append, List.length_cons, List.length_nil, List.length_take, List.length_drop, List.length_map]; omega) | simp) [wrap_i64, wrap_u16_id, wrap_u8_id, tdiv_pos, tmod_pos, -getElem?_pos, -getElem?_neg, -List.length_eq_zero_iff, -List.getElem_cons_drop, up, hM, c1, c2]; rfl⟩
    by_cases c3 : n1 < 0
    · exact ⟨_, by unfold s_triunelaw15_BankTells; simp -implicitDefEqProofs (disch := first | omega | (simp only [List.length_set, List.length_append, List.length_cons, List.length_nil, List.length_take, List.length_drop, List.length_map]; omega) | simp) [wrap_i64, wrap_u16_id, wrap_u8_id, tdiv_pos, tmod_pos, -getElem?_pos, -getElem?_neg, -List.length_eq_zero_iff, -List.getElem_cons_drop, up, hM, c1, c2, c3]; rfl⟩
    by_cases c4 : 65535 < n1
    · exact ⟨_, by unfold s_triunelaw15_BankTells; simp -implicitDefEqProofs (disch := first | omega | (simp only [List.length_set, List.length_append, List.length_cons, List.length_nil, List.length_take, List.length_drop, List.length_map]; omega) | simp) [wrap_i64, wrap_u16_id, wrap_u8_id, tdiv_pos, tmod_pos, -getElem?_pos, -getElem?_neg, -List.length_eq_zero_iff, -List.getElem_cons_drop, up, hM, c1, c2, c3, c4]; rfl⟩
    by_cases c5 : 2000 < n2
    · exact ⟨_, by unfold s_triunelaw15_BankTells; simp -implicitDefEqProofs (disch := first | omega | (simp only [List.length_set, List.length_append, List.length_cons, List.length_nil, List.length_take, List.length_drop, List.length_map]; omega) | simp) [wrap_i64, wrap_u16_id, wrap_u8_id, tdiv_pos, tmod_pos, -getElem?_pos, -getElem?_neg, -List.length_eq_zero_iff, -List.getElem_cons_drop, up, hM, c1, c2, c3, c4, c5]; rfl⟩
    by_cases c6 : 200 < vals.length
    · exact ⟨_, by unfold s_triunelaw15_BankTells; simp -implicitDefEqProofs (disch := first | omega | (simp only [List.length_set, List.length_append, List.length_cons, List.length_nil, List.length_take, List.length_drop, List.length_map]; omega) | simp) [wrap_i64, wrap_u16_id, wrap_u8_id, tdiv_pos, tmod_pos, -getElem?_pos, -getElem?_neg, -List.length_eq_zero_iff, -List.getElem_cons_drop, up, hM, c1, c2, c3, c4, c5, c6]; rfl⟩
    have hpl := hk.pts.1
    have k1 := bank_Read_c n v hk n0 n1 n2 (by omega) (by omega) (by omega)
    have k2 := ref15_Read_c n v hk n0 n1 n2 (by omega) (by omega) (by omega)
    have k3 := bank_Items_c n v.pts .sh .sh n0 n1 vals (by omega) (by omega) (by omega) (by omega) (by omega)
    have k4 := triuneref15_Items_c n v.pts .sh .sh n0 n1 vals (by omega) (by omega) (by omega) (by omega) (by omega)
    have k5 := fun key => (Order_c n key n0 n1 vals .sh hv (by omega) (by omega)).1
    have k6 := fun key => (Order_c n key n0 n1 vals .sh hv (by omega) (by omega)).2
    have hR : ∃ (l : List Int) (b : Bool), readD v n0 n1 n2 = .tup [LV 1 (I .u16) l .sh, Bo b] ∧ l.length ≤ 2000 := by
      unfold readD
      split
      · exact ⟨[], false, rfl, by simp⟩
      · split
        · exact ⟨[], false, rfl, by simp⟩
        · rename_i ys hg
          exact ⟨ys, true, rfl, by rw [gath_len _ _ _ _ hg]; omega⟩
    have hI : ∃ (l : List (Int × Int)) (b : Bool), itmsD v.pts n0 n1 vals = .tup [LV 2 itE l .sh, Bo b] ∧ l.length ≤ 2000 := by
      unfold itmsD
      split
      · exact ⟨[], false, rfl, by simp⟩
      · split
        · exact ⟨[], false, rfl, by simp⟩
        · rename_i ys hg
          exact ⟨ys, true, rfl, by rw [itms_len _ _ _ _ _ hg]; omega⟩
    obtain ⟨l, b, hR, hRl⟩ := hR
    obtain ⟨il, ib, hI, hIl⟩ := hI
    rw [hR] at k1 k2
    rw [hI] at k3 k4
    have s1 := ref02_Same_c n l l .sh .sh (by omega) (by omega)
    simp only [decide_true] at s1
    have s2 := own15_c n il .sh (by omega) (by omega)
    have s3 := same15_c n il .sh .sh (by omega) (by omega)
    unfold Vw.C at k1 k2
    exact ⟨_, by unfold s_triunelaw15_BankTells; simp -implicitDefEqProofs (disch := first | omega | (simp only [List.length_set, List.length_append, List.length_cons, List.length_nil, List.length_take, List.length_drop, List.length_map]; omega) | simp) [wrap_i64, wrap_u16_id, wrap_u8_id, tdiv_pos, tmod_pos, -getElem?_pos, -getElem?_neg, -List.length_eq_zero_iff, -List.getElem_cons_drop, up, hM, c1, c2, c3, c4, c5, c6, k1, k2, k3, k4, k5, k6, s1, s2, s3]; rfl⟩
theorem shp_pt {d : Nat} {e : List DV} (h : Shp Try.prog (d + 2) 48 e) : ∃ p : Pt, elOf (isAgT Try.prog 48) e = ptE p ∧ True := by
  have h := shp_struct Try.underlying48 h
  simp only [List.map_cons, List.map_nil, ShpFs] at h
  obtain ⟨a, _, rfl, ha, b, _, rfl, hb, c, _, rfl, hc, d, _, rfl, hd, f, _, rfl, hf, rfl⟩ := h
  obtain ⟨a, rfl, _⟩ := shp_int (k := .i64) Try.underlying3 ha
  obtain ⟨b, rfl, _⟩ := shp_int (k := .i64) Try.underlying3 hb
  obtain ⟨c, rfl, _⟩ := shp_int (k := .i64) Try.underlying3 hc
  obtain ⟨d, rfl, _⟩ := shp_int (k := .i64) Try.underlying3 hd
  obtain ⟨f, rfl, _⟩ := shp_int (k := .i64) Try.underlying3 hf
  exact ⟨⟨a, b, c, d, f⟩, by kernel_rfl, trivial⟩
theorem shp_row {e : List DV} (h : Shp Try.prog 6 23 e) : ∃ l : List Int, e = [LV 1 (I .u16) l .sh] ∧ True := by
  obtain ⟨l, rfl, _, _⟩ := shp_ints (k := .u16) Try.underlying23 Try.underlying45 (by kernel_rfl) h
  exact ⟨l, rfl, trivial⟩
theorem shp_view {e : List DV} (h : Shp Try.prog 8 26 e) : ∃ v : Vw, elOf (isAgT Try.prog 26) e = .agg v.C ∧ v.pts.length ≤ 140737488355328 := by
  have h := shp_struct Try.underlying26 h
  simp only [List.map_cons, List.map_nil, ShpFs] at h
  obtain ⟨a, _, rfl, ha, b, _, rfl, hb, c, _, rfl, hc, d, _, rfl, hd, rfl⟩ := h
  obtain ⟨pts, rfl, hpl, _⟩ := shp_slice (e := 48) ptE (fun _ => True) (sz := 5) Try.underlying22 (by kernel_rfl) (fun x hx => shp_pt (d := 4) hx) ha
  obtain ⟨vo, rfl, _⟩ := shp_ints (k := .u16) Try.underlying23 Try.underlying45 (by kernel_rfl) hb
  obtain ⟨rw_, hr, rfl, _⟩ := shp_array (e := 23) (fun l : List Int => [LV 1 (I .u16) l .sh]) (fun _ => True) Try.underlying24 (fun x hx => shp_row hx) hc
  obtain ⟨di, rfl, _⟩ := shp_ints (k := .u16) Try.underlying23 Try.underlying45 (by kernel_rfl) hd
  match rw_, hr with
  | [r0, r1, r2], _ =>
    refine ⟨⟨pts, vo, r0, r1, r2, di⟩, by kernel_rfl, ?_⟩
    have hb : Try.prog.bytesOf 48 = 40 := by kernel_rfl
    rw [hb] at hpl
    simp only [reachBytes] at hpl
    show pts.length ≤ _
    omega
theorem shp_i1 {d : Nat} {e : List DV} (h : Shp Try.prog (d + 1) 3 e) : ∃ n : Int, e = [I .i64 n] ∧ True := by
  obtain ⟨n, rfl, _⟩ := shp_int (k := .i64) Try.underlying3 h
  exact ⟨n, rfl, trivial⟩
theorem BankTells_all (e0 e1 e2 : List DV) (h0 : Shp Try.prog 8 26 e0) (h1 : Shp Try.prog 8 27 e1) (h2 : Shp Try.prog 8 23 e2) :
    ∃ H', callG Try.prog ENV 10000 3 [elOf (isAgT Try.prog 26) e0, elOf (isAgT Try.prog 27) e1, elOf (isAgT Try.prog 23) e2] [] 0 = some (.flat (.bool true), H') := by
  obtain ⟨v, hv, hvl⟩ := shp_view h0
  obtain ⟨ns, hn, rfl, _⟩ := shp_array (e := 3) (fun n : Int => [I .i64 n]) (fun _ => True) Try.underlying27 (fun x hx => shp_i1 hx) h1
  obtain ⟨vals, rfl, _, hw⟩ := shp_ints (k := .u16) Try.underlying23 Try.underlying45 (by kernel_rfl) h2
  match ns, hn with
  | [n0, n1, n2, n3], _ =>
    have r1 : elOf (isAgT Try.prog 27) (List.map (fun n : Int => [I .i64 n]) [n0, n1, n2, n3]).flatten = .agg [I .i64 n0, I .i64 n1, I .i64 n2, I .i64 n3] := by kernel_rfl
    have r2 : elOf (isAgT Try.prog 23) [LV 1 (I .u16) vals .sh] = LV 1 (I .u16) vals .sh := by kernel_rfl
    obtain ⟨H', h⟩ := BankTells_run 9999 awake15 (by omega) v n0 n1 n2 n3 vals hvl (fun w h => wf_u16 (hw w h))
    rw [hv, r1, r2]
    exact ⟨H', (s_triunelaw15_BankTells_eq 9999 [] 0 _ _ _).trans h⟩
end Go.Proofs.Ytigfninpflemnab
