/- The law VoteTells, with the median's contract as a premise. -/
import Derived.Test.YtjkofefcoeejbaaFLVoteTells
import Derived.Test.YtjkofefcoeejbaaKV5
-- NEEDS: triunelaw12.VoteTells
namespace Go.Proofs.Ytjkofefcoeejbaa
open Go
set_option linter.unusedSimpArgs false
set_option linter.unusedVariables false
set_option maxRecDepth 100000
theorem buildL_pt (k ad at_ band safe : Int) : buildL true 5 1 (.agg [I .i64 0, I .i64 0, I .i64 0, I .i64 0, I .i64 0]) [(0, .agg [I .i64 k, I .i64 ad, I .i64 at_, I .i64 band, I .i64 safe])] = some (LV 5 ptE [⟨k, ad, at_, band, safe⟩] .ti) := by kernel_rfl
theorem VoteTells_run (n : Nat) (up : cP n 35 false [] = some (Bo true)) (hM : MedC) (hn : 2000 ≤ n) (p : Pt) (l : List Int) (hw : Words l) (a b : Int) (ha : 0 ≤ a ∧ a < 65536) (hb : 0 ≤ b ∧ b < 65536) :
    ∃ H', s_triunelaw12_VoteTells n [] 0 (ptE p) (LV 1 (I .u16) l .sh) (.agg [I .u16 a, I .u16 b]) = some (Bo true, H') := by
  obtain ⟨B, m1, m2⟩ := May_c n [p] .ti (by simp) (by omega)
  obtain ⟨k, ad, at_, band, safe⟩ := p
  have v := buildL_pt k ad at_ band safe
  cases B with
  | false => exact ⟨_, by unfold s_triunelaw12_VoteTells ptE; simp -implicitDefEqProofs (disch := first | omega | (simp only [List.length_set, List.length_append, List.length_cons, List.length_nil, List.length_take, List.length_drop, List.length_map]; omega) | simp) [wrap_i64, wrap_u16_id, wrap_u8_id, tdiv_pos, tmod_pos, -getElem?_pos, -getElem?_neg, -List.length_eq_zero_iff, -List.getElem_cons_drop, up, v, m1]; first | rfl | exact ⟨rfl, rfl⟩⟩
  | true =>
    by_cases hl : 100 < l.length
    · exact ⟨_, by unfold s_triunelaw12_VoteTells ptE; simp -implicitDefEqProofs (disch := first | omega | (simp only [List.length_set, List.length_append, List.length_cons, List.length_nil, List.length_take, List.length_drop, List.length_map]; omega) | simp) [wrap_i64, wrap_u16_id, wrap_u8_id, tdiv_pos, tmod_pos, -getElem?_pos, -getElem?_neg, -List.length_eq_zero_iff, -List.getElem_cons_drop, up, v, m1, hl]; first | rfl | exact ⟨rfl, rfl⟩⟩
    · have hk := ((m2 rfl).2.1 _ (List.mem_cons_self ..)).1.1
      have k1 := hM n l .sh (by omega) hw (by omega)
      have k2 := ref12_Median_c n (by omega) l hw (by omega) .sh
      have k3 := Majority_c n l hw .sh (by omega) (by omega)
      have k4 := ref12_Majority_c n l hw .sh (by omega) (by omega)
      have k5 := Vote_c n (by omega) ⟨k, ad, at_, band, safe⟩ l hw (by omega) .sh hk (hM (n - 1) l .sh (by omega) hw (by omega))
      have k6 := ref12_Vote_c n (by omega) ⟨k, ad, at_, band, safe⟩ l hw (by omega) .sh
      have k7 := Apart_c n (by omega) ⟨k, ad, at_, band, safe⟩ a b ha hb
      have k8 := ref12_Apart_c n (by omega) ⟨k, ad, at_, band, safe⟩ a b ha hb
      generalize voteV ⟨k, ad, at_, band, safe⟩ l = x at *
      generalize medV l = y at *
      generalize majV l = z at *
      generalize apartV (Pt.band ⟨k, ad, at_, band, safe⟩) a b = w at *
      obtain ⟨x1, x2⟩ := x
      obtain ⟨y1, y2⟩ := y
      obtain ⟨z1, z2⟩ := z
      simp only at k1 k2 k3 k4 k5 k6
      unfold ptE at *
      refine ⟨_, by unfold s_triunelaw12_VoteTells; simp -implicitDefEqProofs (disch := first | omega | (simp only [List.length_set, List.length_append, List.length_cons, List.length_nil, List.length_take, List.length_drop, List.length_map]; omega) | simp) [wrap_i64, wrap_u16_id, wrap_u8_id, tdiv_pos, tmod_pos, -getElem?_pos, -getElem?_neg, -List.length_eq_zero_iff, -List.getElem_cons_drop, -Bool.not_and, -Bool.not_or, -wantF_n, wantF_sy, wantF_sn, gO_some, gO_loadG, gO_lenD, gO_notD, gO_eqK1, gO_neK1, gO_ltK1, gO_leK1, gO_gtK1, gO_geK1, gO_max1, gO_addK1, gO_mulK1, gO_addK2, gO_ltK2, gO_leK2, gO_max2, gO_cvK, gO_idx, gO_pick, gO_pick2, gO_cP1, gO_cP1b, gO_cP2, gO_cP2a, gO_eqB, pick_t, pick_t2, pick_f, pick_f2, gd_gd, wantF_gt, wantF_gf, gO_pkf, gO_pkt, gO_pktn, gO_eqK2, gO_neK2, gO_gtK2, gO_geK2, gO_subK1, gO_subK2, gO_min1, gO_min2, gO_remK1, gO_cP3, up, v, m1, hl, k1, k2, k3, k4, k5, k6, k7, k8]; first | rfl | exact ⟨rfl, rfl⟩⟩
theorem VoteTells_all (e0 e1 e2 : List DV) (h0 : Shp Try.prog 8 65 e0) (h1 : Shp Try.prog 8 22 e1) (h2 : Shp Try.prog 8 66 e2) :
    ∃ H', callG Try.prog ENV 4000 9 [elOf (isAgT Try.prog 65) e0, elOf (isAgT Try.prog 22) e1, elOf (isAgT Try.prog 66) e2] [] 0 = some (.flat (.bool true), H') := by
  obtain ⟨p, r0⟩ := vshp_pt h0
  obtain ⟨l, rfl, _, hw⟩ := shp_ints (k := .u16) Try.underlying22 Try.underlying24 (by kernel_rfl) h1
  obtain ⟨a, b, r2, ha, hb⟩ := vshp_w2 h2
  have r1 : elOf (isAgT Try.prog 22) [LV 1 (I .u16) l .sh] = LV 1 (I .u16) l .sh := by kernel_rfl
  obtain ⟨H', h⟩ := VoteTells_run 3999 awake12 medC (by omega) p l (fun w h => vwf_u16 (hw w h)) a b ha hb
  rw [r0, r1, r2]
  exact ⟨H', (s_triunelaw12_VoteTells_eq 3999 [] 0 _ _ _).trans h⟩
end Go.Proofs.Ytjkofefcoeejbaa
