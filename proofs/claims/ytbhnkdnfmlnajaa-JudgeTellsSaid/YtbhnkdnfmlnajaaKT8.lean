/- Texts of mine, laid together: GRef13c, GRef13d, GRef13e, FSame02, GSame02, GAw13. -/
import Derived.Test.YtbhnkdnfmlnajaaKT7
/- The document's judge: which are bad, point by point. -/
namespace Go.Proofs.Ytbhnkdnfmlnajaa
open Go
set_option linter.unusedSimpArgs false
set_option linter.unusedVariables false
set_option maxRecDepth 100000
theorem rr_step (n fl : Nat) (hn : 1100 ≤ n) (L : List Q) (hL : L.length ≤ 100) (tl : Tag) (r : Int) (i0 i1 i2 : Bool) {H : Heap} {k k0 k1 k2 : Nat} (hA : RA H k L.length k0 k1 k2 (L.map Q.x0) (L.map Q.x1) (L.map Q.x2)) (i : Nat) (h : i < L.length) (hq : QOk L[i]) (ki kb : Nat) (e1 : TypeId) (y0 y1 y2 s : Bool) (hi : H[ki]? = some (.cells e1 [Bo i0, Bo i1, Bo i2])) (hb : H[kb]? = some (.cells 52 [Bo y0, Bo y1, Bo y2])) (hne : ki ≠ kb) (hfl : fl ≤ kb) (x8 : DV) (mn : Int) (hmn : mn = (i0.toNat : Int) + i1.toNat + i2.toNat) (q : Nat) (K : Ex → KF) :
    s_triuneref13_Round_L1 n fl K (q + 1) (LV 5 ptE (L.map Q.p) tl) (.ptr k 0) (I .i64 r) (.ptr ki 0) x8 (.ptr kb 0) (Bo s) (I .i64 mn) (I .i64 i) H = s_triuneref13_Round_L1 n fl K q (LV 5 ptE (L.map Q.p) tl) (.ptr k 0) (I .i64 r) (.ptr ki 0) x8 (.ptr kb 0) (Bo (s || (decide (mn = 2) && splitV L[i].p (L[i].vl r i0 i1 i2)))) (I .i64 mn) (I .i64 (i + 1)) (H.set kb (.cells 52 [Bo (y0 || (i0 && !(i0 && fr L[i].x0 r)) || (oddV L[i].p (L[i].vl r i0 i1 i2)).1), Bo (y1 || (i1 && !(i1 && fr L[i].x1 r)) || (oddV L[i].p (L[i].vl r i0 i1 i2)).2.1), Bo (y2 || (i2 && !(i2 && fr L[i].x2 r)) || (oddV L[i].p (L[i].vl r i0 i1 i2)).2.2)])) := by
  obtain ⟨n, rfl⟩ : ∃ n', n = n' + 4 := ⟨n - 4, by omega⟩
  obtain ⟨ta, tb, hta, htb, hF⟩ := ref11_Fresh_c (n + 4) (by omega) hA i h L[i].x0 L[i].x1 L[i].x2 (by simp [h]) (by simp [h]) (by simp [h]) r i0 i1 i2
  obtain ⟨hk, w0, w1, w2⟩ := hq
  have hall : (i0 && fr L[i].x0 r) = true → (i1 && fr L[i].x1 r) = true → (i2 && fr L[i].x2 r) = true → mn = 3 := by
    intro h0 h1 h2
    simp only [Bool.and_eq_true] at h0 h1 h2
    rw [hmn, h0.1, h1.1, h2.1]
    rfl
  unfold Q.vl
  have hL2 := fun K b0 b1 b2 vs => (s_triuneref13_Round_L2_eq (n + 4) fl K (n + 4) (LV 5 ptE (L.map Q.p) tl) (.ptr k 0) (I .i64 r) (.ptr ki 0) x8 (.ptr kb 0) (Bo s) (I .i64 mn) (I .i64 i) (LV 1 (I .u16) vs ta) (LV 1 (I .i64) (vals b0 b1 b2 0 1 2) tb) (I .i64 0) H).trans (rr_L2 n fl n (LV 5 ptE (L.map Q.p) tl) (.ptr k 0) (I .i64 r) x8 (Bo s) (I .i64 mn) (I .i64 i) (LV 1 (I .u16) vs ta) H ki kb e1 i0 i1 i2 y0 y1 y2 b0 b1 b2 hi hb hne hfl tb K)
  have cb := hp_lt hb
  have hlt : (i : Int) < (L.length : Int) := by omega
  generalize (i0 && fr L[i].x0 r) = b0 at *
  generalize (i1 && fr L[i].x1 r) = b1 at *
  generalize (i2 && fr L[i].x2 r) = b2 at *
  have hL2' := fun K vs => hL2 K b0 b1 b2 vs
  clear hL2
  generalize vals b0 b1 b2 0 1 2 = ws at *
  generalize (i0 && !b0) = m0 at *
  generalize (i1 && !b1) = m1 at *
  generalize (i2 && !b2) = m2 at *
  have hlp : i < (L.map Q.p).length := by simpa using h
  have hpi : (L.map Q.p)[i] = L[i].p := by simp
  generalize hv0 : L[i].x0.v = a at *
  generalize hv1 : L[i].x1.v = b at *
  generalize hv2 : L[i].x2.v = c at *
  generalize hpp : L[i].p = p at *
  have ap01 := ref12_Apart_c (n + 4) (by omega) p a b w0 w1
  have ap02 := ref12_Apart_c (n + 4) (by omega) p a c w0 w2
  have ap12 := ref12_Apart_c (n + 4) (by omega) p b c w1 w2
  cases b0 <;> cases b1 <;> cases b2
  · rw [show vals false false false a b c = [] from rfl] at hF ⊢
    have ho : oddV p [] = (false, false, false) := rfl
    have hs : splitV p [] = false := rfl
    rw [ho, hs]
    obtain ⟨pk, ad, at_, band, safe⟩ := p
    unfold ptE at ap01 ap02 ap12
    simp only at ap01 ap02 ap12 ⊢
    rw [s_triuneref13_Round_L1, s_triuneref13_Round_B1]
    by_cases h3 : mn = 3
    · subst h3
      simp -implicitDefEqProofs (disch := first | omega | (simp only [List.length_set, List.length_append, List.length_cons, List.length_nil, List.length_take, List.length_drop, List.length_map]; omega) | simp) [wrap_i64, wrap_u16_id, wrap_u8_id, tdiv_pos, tmod_pos, -getElem?_pos, -getElem?_neg, -List.length_eq_zero_iff, -List.getElem_cons_drop, -Bool.not_and, -Bool.not_or, -wantF_n, wantF_sy, wantF_sn, gO_some, gO_loadG, gO_lenD, gO_notD, gO_eqK1, gO_neK1, gO_ltK1, gO_leK1, gO_gtK1, gO_geK1, gO_max1, gO_addK1, gO_mulK1, gO_addK2, gO_ltK2, gO_leK2, gO_max2, gO_cvK, gO_idx, gO_pick, gO_pick2, gO_cP1, gO_cP1b, gO_cP2, gO_cP2a, gO_eqB, pick_t, pick_t2, pick_f, pick_f2, gd_gd, wantF_gt, wantF_gf, gO_pkf, gO_pkt, gO_pktn, gO_eqK2, gO_neK2, gO_gtK2, gO_geK2, gO_subK1, gO_subK2, gO_min1, gO_min2, gO_remK1, gO_cP3, gO_nilD, gO_fieldD, gO_idxArr1, gO_idxArr2, gO_idx2, gO_extD, h, hlt, hi, hF, hL2', s_triuneref13_Round_O2, hpp, ptE_cells, Bool.or_false]
    · by_cases h2 : mn = 2
      · subst h2
        simp -implicitDefEqProofs (disch := first | omega | (simp only [List.length_set, List.length_append, List.length_cons, List.length_nil, List.length_take, List.length_drop, List.length_map]; omega) | simp) [wrap_i64, wrap_u16_id, wrap_u8_id, tdiv_pos, tmod_pos, -getElem?_pos, -getElem?_neg, -List.length_eq_zero_iff, -List.getElem_cons_drop, -Bool.not_and, -Bool.not_or, -wantF_n, wantF_sy, wantF_sn, gO_some, gO_loadG, gO_lenD, gO_notD, gO_eqK1, gO_neK1, gO_ltK1, gO_leK1, gO_gtK1, gO_geK1, gO_max1, gO_addK1, gO_mulK1, gO_addK2, gO_ltK2, gO_leK2, gO_max2, gO_cvK, gO_idx, gO_pick, gO_pick2, gO_cP1, gO_cP1b, gO_cP2, gO_cP2a, gO_eqB, pick_t, pick_t2, pick_f, pick_f2, gd_gd, wantF_gt, wantF_gf, gO_pkf, gO_pkt, gO_pktn, gO_eqK2, gO_neK2, gO_gtK2, gO_geK2, gO_subK1, gO_subK2, gO_min1, gO_min2, gO_remK1, gO_cP3, gO_nilD, gO_fieldD, gO_idxArr1, gO_idxArr2, gO_idx2, gO_extD, h, hlt, hi, hF, hL2', s_triuneref13_Round_O2, hpp, ptE_cells, ap01, ap02, ap12, Bool.or_false]
      · simp -implicitDefEqProofs (disch := first | omega | (simp only [List.length_set, List.length_append, List.length_cons, List.length_nil, List.length_take, List.length_drop, List.length_map]; omega) | simp) [wrap_i64, wrap_u16_id, wrap_u8_id, tdiv_pos, tmod_pos, -getElem?_pos, -getElem?_neg, -List.length_eq_zero_iff, -List.getElem_cons_drop, -Bool.not_and, -Bool.not_or, -wantF_n, wantF_sy, wantF_sn, gO_some, gO_loadG, gO_lenD, gO_notD, gO_eqK1, gO_neK1, gO_ltK1, gO_leK1, gO_gtK1, gO_geK1, gO_max1, gO_addK1, gO_mulK1, gO_addK2, gO_ltK2, gO_leK2, gO_max2, gO_cvK, gO_idx, gO_pick, gO_pick2, gO_cP1, gO_cP1b, gO_cP2, gO_cP2a, gO_eqB, pick_t, pick_t2, pick_f, pick_f2, gd_gd, wantF_gt, wantF_gf, gO_pkf, gO_pkt, gO_pktn, gO_eqK2, gO_neK2, gO_gtK2, gO_geK2, gO_subK1, gO_subK2, gO_min1, gO_min2, gO_remK1, gO_cP3, gO_nilD, gO_fieldD, gO_idxArr1, gO_idxArr2, gO_idx2, gO_extD, h, hlt, hi, hF, hL2', s_triuneref13_Round_O2, hpp, ptE_cells, h2, h3, Bool.or_false]
  · rw [show vals false false true a b c = [c] from rfl] at hF ⊢
    have ho : oddV p [c] = (false, false, false) := rfl
    have hs : splitV p [c] = false := rfl
    rw [ho, hs]
    obtain ⟨pk, ad, at_, band, safe⟩ := p
    unfold ptE at ap01 ap02 ap12
    simp only at ap01 ap02 ap12 ⊢
    rw [s_triuneref13_Round_L1, s_triuneref13_Round_B1]
    by_cases h3 : mn = 3
    · subst h3
      simp -implicitDefEqProofs (disch := first | omega | (simp only [List.length_set, List.length_append, List.length_cons, List.length_nil, List.length_take, List.length_drop, List.length_map]; omega) | simp) [wrap_i64, wrap_u16_id, wrap_u8_id, tdiv_pos, tmod_pos, -getElem?_pos, -getElem?_neg, -List.length_eq_zero_iff, -List.getElem_cons_drop, -Bool.not_and, -Bool.not_or, -wantF_n, wantF_sy, wantF_sn, gO_some, gO_loadG, gO_lenD, gO_notD, gO_eqK1, gO_neK1, gO_ltK1, gO_leK1, gO_gtK1, gO_geK1, gO_max1, gO_addK1, gO_mulK1, gO_addK2, gO_ltK2, gO_leK2, gO_max2, gO_cvK, gO_idx, gO_pick, gO_pick2, gO_cP1, gO_cP1b, gO_cP2, gO_cP2a, gO_eqB, pick_t, pick_t2, pick_f, pick_f2, gd_gd, wantF_gt, wantF_gf, gO_pkf, gO_pkt, gO_pktn, gO_eqK2, gO_neK2, gO_gtK2, gO_geK2, gO_subK1, gO_subK2, gO_min1, gO_min2, gO_remK1, gO_cP3, gO_nilD, gO_fieldD, gO_idxArr1, gO_idxArr2, gO_idx2, gO_extD, h, hlt, hi, hF, hL2', s_triuneref13_Round_O2, hpp, ptE_cells, Bool.or_false]
    · by_cases h2 : mn = 2
      · subst h2
        simp -implicitDefEqProofs (disch := first | omega | (simp only [List.length_set, List.length_append, List.length_cons, List.length_nil, List.length_take, List.length_drop, List.length_map]; omega) | simp) [wrap_i64, wrap_u16_id, wrap_u8_id, tdiv_pos, tmod_pos, -getElem?_pos, -getElem?_neg, -List.length_eq_zero_iff, -List.getElem_cons_drop, -Bool.not_and, -Bool.not_or, -wantF_n, wantF_sy, wantF_sn, gO_some, gO_loadG, gO_lenD, gO_notD, gO_eqK1, gO_neK1, gO_ltK1, gO_leK1, gO_gtK1, gO_geK1, gO_max1, gO_addK1, gO_mulK1, gO_addK2, gO_ltK2, gO_leK2, gO_max2, gO_cvK, gO_idx, gO_pick, gO_pick2, gO_cP1, gO_cP1b, gO_cP2, gO_cP2a, gO_eqB, pick_t, pick_t2, pick_f, pick_f2, gd_gd, wantF_gt, wantF_gf, gO_pkf, gO_pkt, gO_pktn, gO_eqK2, gO_neK2, gO_gtK2, gO_geK2, gO_subK1, gO_subK2, gO_min1, gO_min2, gO_remK1, gO_cP3, gO_nilD, gO_fieldD, gO_idxArr1, gO_idxArr2, gO_idx2, gO_extD, h, hlt, hi, hF, hL2', s_triuneref13_Round_O2, hpp, ptE_cells, ap01, ap02, ap12, Bool.or_false]
      · simp -implicitDefEqProofs (disch := first | omega | (simp only [List.length_set, List.length_append, List.length_cons, List.length_nil, List.length_take, List.length_drop, List.length_map]; omega) | simp) [wrap_i64, wrap_u16_id, wrap_u8_id, tdiv_pos, tmod_pos, -getElem?_pos, -getElem?_neg, -List.length_eq_zero_iff, -List.getElem_cons_drop, -Bool.not_and, -Bool.not_or, -wantF_n, wantF_sy, wantF_sn, gO_some, gO_loadG, gO_lenD, gO_notD, gO_eqK1, gO_neK1, gO_ltK1, gO_leK1, gO_gtK1, gO_geK1, gO_max1, gO_addK1, gO_mulK1, gO_addK2, gO_ltK2, gO_leK2, gO_max2, gO_cvK, gO_idx, gO_pick, gO_pick2, gO_cP1, gO_cP1b, gO_cP2, gO_cP2a, gO_eqB, pick_t, pick_t2, pick_f, pick_f2, gd_gd, wantF_gt, wantF_gf, gO_pkf, gO_pkt, gO_pktn, gO_eqK2, gO_neK2, gO_gtK2, gO_geK2, gO_subK1, gO_subK2, gO_min1, gO_min2, gO_remK1, gO_cP3, gO_nilD, gO_fieldD, gO_idxArr1, gO_idxArr2, gO_idx2, gO_extD, h, hlt, hi, hF, hL2', s_triuneref13_Round_O2, hpp, ptE_cells, h2, h3, Bool.or_false]
  · rw [show vals false true false a b c = [b] from rfl] at hF ⊢
    have ho : oddV p [b] = (false, false, false) := rfl
    have hs : splitV p [b] = false := rfl
    rw [ho, hs]
    obtain ⟨pk, ad, at_, band, safe⟩ := p
    unfold ptE at ap01 ap02 ap12
    simp only at ap01 ap02 ap12 ⊢
    rw [s_triuneref13_Round_L1, s_triuneref13_Round_B1]
    by_cases h3 : mn = 3
    · subst h3
      simp -implicitDefEqProofs (disch := first | omega | (simp only [List.length_set, List.length_append, List.length_cons, List.length_nil, List.length_take, List.length_drop, List.length_map]; omega) | simp) [wrap_i64, wrap_u16_id, wrap_u8_id, tdiv_pos, tmod_pos, -getElem?_pos, -getElem?_neg, -List.length_eq_zero_iff, -List.getElem_cons_drop, -Bool.not_and, -Bool.not_or, -wantF_n, wantF_sy, wantF_sn, gO_some, gO_loadG, gO_lenD, gO_notD, gO_eqK1, gO_neK1, gO_ltK1, gO_leK1, gO_gtK1, gO_geK1, gO_max1, gO_addK1, gO_mulK1, gO_addK2, gO_ltK2, gO_leK2, gO_max2, gO_cvK, gO_idx, gO_pick, gO_pick2, gO_cP1, gO_cP1b, gO_cP2, gO_cP2a, gO_eqB, pick_t, pick_t2, pick_f, pick_f2, gd_gd, wantF_gt, wantF_gf, gO_pkf, gO_pkt, gO_pktn, gO_eqK2, gO_neK2, gO_gtK2, gO_geK2, gO_subK1, gO_subK2, gO_min1, gO_min2, gO_remK1, gO_cP3, gO_nilD, gO_fieldD, gO_idxArr1, gO_idxArr2, gO_idx2, gO_extD, h, hlt, hi, hF, hL2', s_triuneref13_Round_O2, hpp, ptE_cells, Bool.or_false]
    · by_cases h2 : mn = 2
      · subst h2
        simp -implicitDefEqProofs (disch := first | omega | (simp only [List.length_set, List.length_append, List.length_cons, List.length_nil, List.length_take, List.length_drop, List.length_map]; omega) | simp) [wrap_i64, wrap_u16_id, wrap_u8_id, tdiv_pos, tmod_pos, -getElem?_pos, -getElem?_neg, -List.length_eq_zero_iff, -List.getElem_cons_drop, -Bool.not_and, -Bool.not_or, -wantF_n, wantF_sy, wantF_sn, gO_some, gO_loadG, gO_lenD, gO_notD, gO_eqK1, gO_neK1, gO_ltK1, gO_leK1, gO_gtK1, gO_geK1, gO_max1, gO_addK1, gO_mulK1, gO_addK2, gO_ltK2, gO_leK2, gO_max2, gO_cvK, gO_idx, gO_pick, gO_pick2, gO_cP1, gO_cP1b, gO_cP2, gO_cP2a, gO_eqB, pick_t, pick_t2, pick_f, pick_f2, gd_gd, wantF_gt, wantF_gf, gO_pkf, gO_pkt, gO_pktn, gO_eqK2, gO_neK2, gO_gtK2, gO_geK2, gO_subK1, gO_subK2, gO_min1, gO_min2, gO_remK1, gO_cP3, gO_nilD, gO_fieldD, gO_idxArr1, gO_idxArr2, gO_idx2, gO_extD, h, hlt, hi, hF, hL2', s_triuneref13_Round_O2, hpp, ptE_cells, ap01, ap02, ap12, Bool.or_false]
      · simp -implicitDefEqProofs (disch := first | omega | (simp only [List.length_set, List.length_append, List.length_cons, List.length_nil, List.length_take, List.length_drop, List.length_map]; omega) | simp) [wrap_i64, wrap_u16_id, wrap_u8_id, tdiv_pos, tmod_pos, -getElem?_pos, -getElem?_neg, -List.length_eq_zero_iff, -List.getElem_cons_drop, -Bool.not_and, -Bool.not_or, -wantF_n, wantF_sy, wantF_sn, gO_some, gO_loadG, gO_lenD, gO_notD, gO_eqK1, gO_neK1, gO_ltK1, gO_leK1, gO_gtK1, gO_geK1, gO_max1, gO_addK1, gO_mulK1, gO_addK2, gO_ltK2, gO_leK2, gO_max2, gO_cvK, gO_idx, gO_pick, gO_pick2, gO_cP1, gO_cP1b, gO_cP2, gO_cP2a, gO_eqB, pick_t, pick_t2, pick_f, pick_f2, gd_gd, wantF_gt, wantF_gf, gO_pkf, gO_pkt, gO_pktn, gO_eqK2, gO_neK2, gO_gtK2, gO_geK2, gO_subK1, gO_subK2, gO_min1, gO_min2, gO_remK1, gO_cP3, gO_nilD, gO_fieldD, gO_idxArr1, gO_idxArr2, gO_idx2, gO_extD, h, hlt, hi, hF, hL2', s_triuneref13_Round_O2, hpp, ptE_cells, h2, h3, Bool.or_false]
  · rw [show vals false true true a b c = [b, c] from rfl] at hF ⊢
    have ho : oddV p [b, c] = (false, false, false) := rfl
    have hs : splitV p [b, c] = apartV p.band b c := rfl
    rw [ho, hs]
    obtain ⟨pk, ad, at_, band, safe⟩ := p
    unfold ptE at ap01 ap02 ap12
    simp only at ap01 ap02 ap12 ⊢
    rw [s_triuneref13_Round_L1, s_triuneref13_Round_B1]
    by_cases h3 : mn = 3
    · subst h3
      simp -implicitDefEqProofs (disch := first | omega | (simp only [List.length_set, List.length_append, List.length_cons, List.length_nil, List.length_take, List.length_drop, List.length_map]; omega) | simp) [wrap_i64, wrap_u16_id, wrap_u8_id, tdiv_pos, tmod_pos, -getElem?_pos, -getElem?_neg, -List.length_eq_zero_iff, -List.getElem_cons_drop, -Bool.not_and, -Bool.not_or, -wantF_n, wantF_sy, wantF_sn, gO_some, gO_loadG, gO_lenD, gO_notD, gO_eqK1, gO_neK1, gO_ltK1, gO_leK1, gO_gtK1, gO_geK1, gO_max1, gO_addK1, gO_mulK1, gO_addK2, gO_ltK2, gO_leK2, gO_max2, gO_cvK, gO_idx, gO_pick, gO_pick2, gO_cP1, gO_cP1b, gO_cP2, gO_cP2a, gO_eqB, pick_t, pick_t2, pick_f, pick_f2, gd_gd, wantF_gt, wantF_gf, gO_pkf, gO_pkt, gO_pktn, gO_eqK2, gO_neK2, gO_gtK2, gO_geK2, gO_subK1, gO_subK2, gO_min1, gO_min2, gO_remK1, gO_cP3, gO_nilD, gO_fieldD, gO_idxArr1, gO_idxArr2, gO_idx2, gO_extD, h, hlt, hi, hF, hL2', s_triuneref13_Round_O2, hpp, ptE_cells, Bool.or_false]
    · by_cases h2 : mn = 2
      · subst h2
        simp -implicitDefEqProofs (disch := first | omega | (simp only [List.length_set, List.length_append, List.length_cons, List.length_nil, List.length_take, List.length_drop, List.length_map]; omega) | simp) [wrap_i64, wrap_u16_id, wrap_u8_id, tdiv_pos, tmod_pos, -getElem?_pos, -getElem?_neg, -List.length_eq_zero_iff, -List.getElem_cons_drop, -Bool.not_and, -Bool.not_or, -wantF_n, wantF_sy, wantF_sn, gO_some, gO_loadG, gO_lenD, gO_notD, gO_eqK1, gO_neK1, gO_ltK1, gO_leK1, gO_gtK1, gO_geK1, gO_max1, gO_addK1, gO_mulK1, gO_addK2, gO_ltK2, gO_leK2, gO_max2, gO_cvK, gO_idx, gO_pick, gO_pick2, gO_cP1, gO_cP1b, gO_cP2, gO_cP2a, gO_eqB, pick_t, pick_t2, pick_f, pick_f2, gd_gd, wantF_gt, wantF_gf, gO_pkf, gO_pkt, gO_pktn, gO_eqK2, gO_neK2, gO_gtK2, gO_geK2, gO_subK1, gO_subK2, gO_min1, gO_min2, gO_remK1, gO_cP3, gO_nilD, gO_fieldD, gO_idxArr1, gO_idxArr2, gO_idx2, gO_extD, h, hlt, hi, hF, hL2', s_triuneref13_Round_O2, hpp, ptE_cells, ap01, ap02, ap12, Bool.or_false]
      · simp -implicitDefEqProofs (disch := first | omega | (simp only [List.length_set, List.length_append, List.length_cons, List.length_nil, List.length_take, List.length_drop, List.length_map]; omega) | simp) [wrap_i64, wrap_u16_id, wrap_u8_id, tdiv_pos, tmod_pos, -getElem?_pos, -getElem?_neg, -List.length_eq_zero_iff, -List.getElem_cons_drop, -Bool.not_and, -Bool.not_or, -wantF_n, wantF_sy, wantF_sn, gO_some, gO_loadG, gO_lenD, gO_notD, gO_eqK1, gO_neK1, gO_ltK1, gO_leK1, gO_gtK1, gO_geK1, gO_max1, gO_addK1, gO_mulK1, gO_addK2, gO_ltK2, gO_leK2, gO_max2, gO_cvK, gO_idx, gO_pick, gO_pick2, gO_cP1, gO_cP1b, gO_cP2, gO_cP2a, gO_eqB, pick_t, pick_t2, pick_f, pick_f2, gd_gd, wantF_gt, wantF_gf, gO_pkf, gO_pkt, gO_pktn, gO_eqK2, gO_neK2, gO_gtK2, gO_geK2, gO_subK1, gO_subK2, gO_min1, gO_min2, gO_remK1, gO_cP3, gO_nilD, gO_fieldD, gO_idxArr1, gO_idxArr2, gO_idx2, gO_extD, h, hlt, hi, hF, hL2', s_triuneref13_Round_O2, hpp, ptE_cells, h2, h3, Bool.or_false]
  · rw [show vals true false false a b c = [a] from rfl] at hF ⊢
    have ho : oddV p [a] = (false, false, false) := rfl
    have hs : splitV p [a] = false := rfl
    rw [ho, hs]
    obtain ⟨pk, ad, at_, band, safe⟩ := p
    unfold ptE at ap01 ap02 ap12
    simp only at ap01 ap02 ap12 ⊢
    rw [s_triuneref13_Round_L1, s_triuneref13_Round_B1]
    by_cases h3 : mn = 3
    · subst h3
      simp -implicitDefEqProofs (disch := first | omega | (simp only [List.length_set, List.length_append, List.length_cons, List.length_nil, List.length_take, List.length_drop, List.length_map]; omega) | simp) [wrap_i64, wrap_u16_id, wrap_u8_id, tdiv_pos, tmod_pos, -getElem?_pos, -getElem?_neg, -List.length_eq_zero_iff, -List.getElem_cons_drop, -Bool.not_and, -Bool.not_or, -wantF_n, wantF_sy, wantF_sn, gO_some, gO_loadG, gO_lenD, gO_notD, gO_eqK1, gO_neK1, gO_ltK1, gO_leK1, gO_gtK1, gO_geK1, gO_max1, gO_addK1, gO_mulK1, gO_addK2, gO_ltK2, gO_leK2, gO_max2, gO_cvK, gO_idx, gO_pick, gO_pick2, gO_cP1, gO_cP1b, gO_cP2, gO_cP2a, gO_eqB, pick_t, pick_t2, pick_f, pick_f2, gd_gd, wantF_gt, wantF_gf, gO_pkf, gO_pkt, gO_pktn, gO_eqK2, gO_neK2, gO_gtK2, gO_geK2, gO_subK1, gO_subK2, gO_min1, gO_min2, gO_remK1, gO_cP3, gO_nilD, gO_fieldD, gO_idxArr1, gO_idxArr2, gO_idx2, gO_extD, h, hlt, hi, hF, hL2', s_triuneref13_Round_O2, hpp, ptE_cells, Bool.or_false]
    · by_cases h2 : mn = 2
      · subst h2
        simp -implicitDefEqProofs (disch := first | omega | (simp only [List.length_set, List.length_append, List.length_cons, List.length_nil, List.length_take, List.length_drop, List.length_map]; omega) | simp) [wrap_i64, wrap_u16_id, wrap_u8_id, tdiv_pos, tmod_pos, -getElem?_pos, -getElem?_neg, -List.length_eq_zero_iff, -List.getElem_cons_drop, -Bool.not_and, -Bool.not_or, -wantF_n, wantF_sy, wantF_sn, gO_some, gO_loadG, gO_lenD, gO_notD, gO_eqK1, gO_neK1, gO_ltK1, gO_leK1, gO_gtK1, gO_geK1, gO_max1, gO_addK1, gO_mulK1, gO_addK2, gO_ltK2, gO_leK2, gO_max2, gO_cvK, gO_idx, gO_pick, gO_pick2, gO_cP1, gO_cP1b, gO_cP2, gO_cP2a, gO_eqB, pick_t, pick_t2, pick_f, pick_f2, gd_gd, wantF_gt, wantF_gf, gO_pkf, gO_pkt, gO_pktn, gO_eqK2, gO_neK2, gO_gtK2, gO_geK2, gO_subK1, gO_subK2, gO_min1, gO_min2, gO_remK1, gO_cP3, gO_nilD, gO_fieldD, gO_idxArr1, gO_idxArr2, gO_idx2, gO_extD, h, hlt, hi, hF, hL2', s_triuneref13_Round_O2, hpp, ptE_cells, ap01, ap02, ap12, Bool.or_false]
      · simp -implicitDefEqProofs (disch := first | omega | (simp only [List.length_set, List.length_append, List.length_cons, List.length_nil, List.length_take, List.length_drop, List.length_map]; omega) | simp) [wrap_i64, wrap_u16_id, wrap_u8_id, tdiv_pos, tmod_pos, -getElem?_pos, -getElem?_neg, -List.length_eq_zero_iff, -List.getElem_cons_drop, -Bool.not_and, -Bool.not_or, -wantF_n, wantF_sy, wantF_sn, gO_some, gO_loadG, gO_lenD, gO_notD, gO_eqK1, gO_neK1, gO_ltK1, gO_leK1, gO_gtK1, gO_geK1, gO_max1, gO_addK1, gO_mulK1, gO_addK2, gO_ltK2, gO_leK2, gO_max2, gO_cvK, gO_idx, gO_pick, gO_pick2, gO_cP1, gO_cP1b, gO_cP2, gO_cP2a, gO_eqB, pick_t, pick_t2, pick_f, pick_f2, gd_gd, wantF_gt, wantF_gf, gO_pkf, gO_pkt, gO_pktn, gO_eqK2, gO_neK2, gO_gtK2, gO_geK2, gO_subK1, gO_subK2, gO_min1, gO_min2, gO_remK1, gO_cP3, gO_nilD, gO_fieldD, gO_idxArr1, gO_idxArr2, gO_idx2, gO_extD, h, hlt, hi, hF, hL2', s_triuneref13_Round_O2, hpp, ptE_cells, h2, h3, Bool.or_false]
  · rw [show vals true false true a b c = [a, c] from rfl] at hF ⊢
    have ho : oddV p [a, c] = (false, false, false) := rfl
    have hs : splitV p [a, c] = apartV p.band a c := rfl
    rw [ho, hs]
    obtain ⟨pk, ad, at_, band, safe⟩ := p
    unfold ptE at ap01 ap02 ap12
    simp only at ap01 ap02 ap12 ⊢
    rw [s_triuneref13_Round_L1, s_triuneref13_Round_B1]
    by_cases h3 : mn = 3
    · subst h3
      simp -implicitDefEqProofs (disch := first | omega | (simp only [List.length_set, List.length_append, List.length_cons, List.length_nil, List.length_take, List.length_drop, List.length_map]; omega) | simp) [wrap_i64, wrap_u16_id, wrap_u8_id, tdiv_pos, tmod_pos, -getElem?_pos, -getElem?_neg, -List.length_eq_zero_iff, -List.getElem_cons_drop, -Bool.not_and, -Bool.not_or, -wantF_n, wantF_sy, wantF_sn, gO_some, gO_loadG, gO_lenD, gO_notD, gO_eqK1, gO_neK1, gO_ltK1, gO_leK1, gO_gtK1, gO_geK1, gO_max1, gO_addK1, gO_mulK1, gO_addK2, gO_ltK2, gO_leK2, gO_max2, gO_cvK, gO_idx, gO_pick, gO_pick2, gO_cP1, gO_cP1b, gO_cP2, gO_cP2a, gO_eqB, pick_t, pick_t2, pick_f, pick_f2, gd_gd, wantF_gt, wantF_gf, gO_pkf, gO_pkt, gO_pktn, gO_eqK2, gO_neK2, gO_gtK2, gO_geK2, gO_subK1, gO_subK2, gO_min1, gO_min2, gO_remK1, gO_cP3, gO_nilD, gO_fieldD, gO_idxArr1, gO_idxArr2, gO_idx2, gO_extD, h, hlt, hi, hF, hL2', s_triuneref13_Round_O2, hpp, ptE_cells, Bool.or_false]
    · by_cases h2 : mn = 2
      · subst h2
        simp -implicitDefEqProofs (disch := first | omega | (simp only [List.length_set, List.length_append, List.length_cons, List.length_nil, List.length_take, List.length_drop, List.length_map]; omega) | simp) [wrap_i64, wrap_u16_id, wrap_u8_id, tdiv_pos, tmod_pos, -getElem?_pos, -getElem?_neg, -List.length_eq_zero_iff, -List.getElem_cons_drop, -Bool.not_and, -Bool.not_or, -wantF_n, wantF_sy, wantF_sn, gO_some, gO_loadG, gO_lenD, gO_notD, gO_eqK1, gO_neK1, gO_ltK1, gO_leK1, gO_gtK1, gO_geK1, gO_max1, gO_addK1, gO_mulK1, gO_addK2, gO_ltK2, gO_leK2, gO_max2, gO_cvK, gO_idx, gO_pick, gO_pick2, gO_cP1, gO_cP1b, gO_cP2, gO_cP2a, gO_eqB, pick_t, pick_t2, pick_f, pick_f2, gd_gd, wantF_gt, wantF_gf, gO_pkf, gO_pkt, gO_pktn, gO_eqK2, gO_neK2, gO_gtK2, gO_geK2, gO_subK1, gO_subK2, gO_min1, gO_min2, gO_remK1, gO_cP3, gO_nilD, gO_fieldD, gO_idxArr1, gO_idxArr2, gO_idx2, gO_extD, h, hlt, hi, hF, hL2', s_triuneref13_Round_O2, hpp, ptE_cells, ap01, ap02, ap12, Bool.or_false]
      · simp -implicitDefEqProofs (disch := first | omega | (simp only [List.length_set, List.length_append, List.length_cons, List.length_nil, List.length_take, List.length_drop, List.length_map]; omega) | simp) [wrap_i64, wrap_u16_id, wrap_u8_id, tdiv_pos, tmod_pos, -getElem?_pos, -getElem?_neg, -List.length_eq_zero_iff, -List.getElem_cons_drop, -Bool.not_and, -Bool.not_or, -wantF_n, wantF_sy, wantF_sn, gO_some, gO_loadG, gO_lenD, gO_notD, gO_eqK1, gO_neK1, gO_ltK1, gO_leK1, gO_gtK1, gO_geK1, gO_max1, gO_addK1, gO_mulK1, gO_addK2, gO_ltK2, gO_leK2, gO_max2, gO_cvK, gO_idx, gO_pick, gO_pick2, gO_cP1, gO_cP1b, gO_cP2, gO_cP2a, gO_eqB, pick_t, pick_t2, pick_f, pick_f2, gd_gd, wantF_gt, wantF_gf, gO_pkf, gO_pkt, gO_pktn, gO_eqK2, gO_neK2, gO_gtK2, gO_geK2, gO_subK1, gO_subK2, gO_min1, gO_min2, gO_remK1, gO_cP3, gO_nilD, gO_fieldD, gO_idxArr1, gO_idxArr2, gO_idx2, gO_extD, h, hlt, hi, hF, hL2', s_triuneref13_Round_O2, hpp, ptE_cells, h2, h3, Bool.or_false]
  · rw [show vals true true false a b c = [a, b] from rfl] at hF ⊢
    have ho : oddV p [a, b] = (false, false, false) := rfl
    have hs : splitV p [a, b] = apartV p.band a b := rfl
    rw [ho, hs]
    obtain ⟨pk, ad, at_, band, safe⟩ := p
    unfold ptE at ap01 ap02 ap12
    simp only at ap01 ap02 ap12 ⊢
    rw [s_triuneref13_Round_L1, s_triuneref13_Round_B1]
    by_cases h3 : mn = 3
    · subst h3
      simp -implicitDefEqProofs (disch := first | omega | (simp only [List.length_set, List.length_append, List.length_cons, List.length_nil, List.length_take, List.length_drop, List.length_map]; omega) | simp) [wrap_i64, wrap_u16_id, wrap_u8_id, tdiv_pos, tmod_pos, -getElem?_pos, -getElem?_neg, -List.length_eq_zero_iff, -List.getElem_cons_drop, -Bool.not_and, -Bool.not_or, -wantF_n, wantF_sy, wantF_sn, gO_some, gO_loadG, gO_lenD, gO_notD, gO_eqK1, gO_neK1, gO_ltK1, gO_leK1, gO_gtK1, gO_geK1, gO_max1, gO_addK1, gO_mulK1, gO_addK2, gO_ltK2, gO_leK2, gO_max2, gO_cvK, gO_idx, gO_pick, gO_pick2, gO_cP1, gO_cP1b, gO_cP2, gO_cP2a, gO_eqB, pick_t, pick_t2, pick_f, pick_f2, gd_gd, wantF_gt, wantF_gf, gO_pkf, gO_pkt, gO_pktn, gO_eqK2, gO_neK2, gO_gtK2, gO_geK2, gO_subK1, gO_subK2, gO_min1, gO_min2, gO_remK1, gO_cP3, gO_nilD, gO_fieldD, gO_idxArr1, gO_idxArr2, gO_idx2, gO_extD, h, hlt, hi, hF, hL2', s_triuneref13_Round_O2, hpp, ptE_cells, Bool.or_false]
    · by_cases h2 : mn = 2
      · subst h2
        simp -implicitDefEqProofs (disch := first | omega | (simp only [List.length_set, List.length_append, List.length_cons, List.length_nil, List.length_take, List.length_drop, List.length_map]; omega) | simp) [wrap_i64, wrap_u16_id, wrap_u8_id, tdiv_pos, tmod_pos, -getElem?_pos, -getElem?_neg, -List.length_eq_zero_iff, -List.getElem_cons_drop, -Bool.not_and, -Bool.not_or, -wantF_n, wantF_sy, wantF_sn, gO_some, gO_loadG, gO_lenD, gO_notD, gO_eqK1, gO_neK1, gO_ltK1, gO_leK1, gO_gtK1, gO_geK1, gO_max1, gO_addK1, gO_mulK1, gO_addK2, gO_ltK2, gO_leK2, gO_max2, gO_cvK, gO_idx, gO_pick, gO_pick2, gO_cP1, gO_cP1b, gO_cP2, gO_cP2a, gO_eqB, pick_t, pick_t2, pick_f, pick_f2, gd_gd, wantF_gt, wantF_gf, gO_pkf, gO_pkt, gO_pktn, gO_eqK2, gO_neK2, gO_gtK2, gO_geK2, gO_subK1, gO_subK2, gO_min1, gO_min2, gO_remK1, gO_cP3, gO_nilD, gO_fieldD, gO_idxArr1, gO_idxArr2, gO_idx2, gO_extD, h, hlt, hi, hF, hL2', s_triuneref13_Round_O2, hpp, ptE_cells, ap01, ap02, ap12, Bool.or_false]
      · simp -implicitDefEqProofs (disch := first | omega | (simp only [List.length_set, List.length_append, List.length_cons, List.length_nil, List.length_take, List.length_drop, List.length_map]; omega) | simp) [wrap_i64, wrap_u16_id, wrap_u8_id, tdiv_pos, tmod_pos, -getElem?_pos, -getElem?_neg, -List.length_eq_zero_iff, -List.getElem_cons_drop, -Bool.not_and, -Bool.not_or, -wantF_n, wantF_sy, wantF_sn, gO_some, gO_loadG, gO_lenD, gO_notD, gO_eqK1, gO_neK1, gO_ltK1, gO_leK1, gO_gtK1, gO_geK1, gO_max1, gO_addK1, gO_mulK1, gO_addK2, gO_ltK2, gO_leK2, gO_max2, gO_cvK, gO_idx, gO_pick, gO_pick2, gO_cP1, gO_cP1b, gO_cP2, gO_cP2a, gO_eqB, pick_t, pick_t2, pick_f, pick_f2, gd_gd, wantF_gt, wantF_gf, gO_pkf, gO_pkt, gO_pktn, gO_eqK2, gO_neK2, gO_gtK2, gO_geK2, gO_subK1, gO_subK2, gO_min1, gO_min2, gO_remK1, gO_cP3, gO_nilD, gO_fieldD, gO_idxArr1, gO_idxArr2, gO_idx2, gO_extD, h, hlt, hi, hF, hL2', s_triuneref13_Round_O2, hpp, ptE_cells, h2, h3, Bool.or_false]
  · rw [show vals true true true a b c = [a, b, c] from rfl] at hF ⊢
    obtain rfl := hall rfl rfl rfl
    have w3 : Words [a, b, c] := by intro x hx; simp at hx; omega
    have hV := ref12_Vote_c (n + 4) (by omega) p [a, b, c] w3 (by simp) ta
    have hr := voteV_word p [a, b, c] w3
    have ho : oddV p [a, b, c] = (apartV p.band a (voteV p [a, b, c]).1, apartV p.band b (voteV p [a, b, c]).1, apartV p.band c (voteV p [a, b, c]).1) := rfl
    have hs : splitV p [a, b, c] = false := rfl
    rw [ho, hs]
    have hL4 := fun K => (s_triuneref13_Round_L4_eq (n + 4) fl K (n + 4) (LV 5 ptE (L.map Q.p) tl) (.ptr k 0) (I .i64 r) (.ptr ki 0) x8 (.ptr kb 0) (Bo s) (I .i64 3) (I .i64 i) (LV 1 (I .u16) [a, b, c] ta) (I .u16 (voteV p [a, b, c]).1) (I .i64 0) (H.set kb (.cells 52 [Bo (y0 || m0), Bo (y1 || m1), Bo (y2 || m2)]))).trans (rr_L4 (n + 4) fl n (by omega) (L.map Q.p) tl i hlp (.ptr k 0) (I .i64 r) (.ptr ki 0) x8 (Bo s) (I .i64 3) _ kb (y0 || m0) (y1 || m1) (y2 || m2) (hp_set_get _ _ _ cb) hfl a b c (voteV p [a, b, c]).1 w0 w1 w2 hr ta K)
    rw [hpi] at hL4
    generalize voteV p [a, b, c] = w at *
    obtain ⟨w1', w2'⟩ := w
    simp only at hV hL4 hr ⊢
    obtain ⟨pk, ad, at_, band, safe⟩ := p
    unfold ptE at hV
    simp only at hV hL4 ⊢
    rw [s_triuneref13_Round_L1, s_triuneref13_Round_B1]
    simp -implicitDefEqProofs (disch := first | omega | (simp only [List.length_set, List.length_append, List.length_cons, List.length_nil, List.length_take, List.length_drop, List.length_map]; omega) | simp) [wrap_i64, wrap_u16_id, wrap_u8_id, tdiv_pos, tmod_pos, -getElem?_pos, -getElem?_neg, -List.length_eq_zero_iff, -List.getElem_cons_drop, -Bool.not_and, -Bool.not_or, -wantF_n, wantF_sy, wantF_sn, gO_some, gO_loadG, gO_lenD, gO_notD, gO_eqK1, gO_neK1, gO_ltK1, gO_leK1, gO_gtK1, gO_geK1, gO_max1, gO_addK1, gO_mulK1, gO_addK2, gO_ltK2, gO_leK2, gO_max2, gO_cvK, gO_idx, gO_pick, gO_pick2, gO_cP1, gO_cP1b, gO_cP2, gO_cP2a, gO_eqB, pick_t, pick_t2, pick_f, pick_f2, gd_gd, wantF_gt, wantF_gf, gO_pkf, gO_pkt, gO_pktn, gO_eqK2, gO_neK2, gO_gtK2, gO_geK2, gO_subK1, gO_subK2, gO_min1, gO_min2, gO_remK1, gO_cP3, gO_nilD, gO_fieldD, gO_idxArr1, gO_idxArr2, gO_idx2, gO_extD, h, hlt, hi, hF, hL2', s_triuneref13_Round_O2, hpp, ptE_cells, hV, hL4, s_triuneref13_Round_O4, List.set_set]
def badB (L : List Q) (r : Int) (i0 i1 i2 : Bool) : DBlk := .cells 52 [Bo (L.any (Q.bad0 r i0 i1 i2)), Bo (L.any (Q.bad1 r i0 i1 i2)), Bo (L.any (Q.bad2 r i0 i1 i2))]
theorem rr_L1 (n fl : Nat) (hn : 1100 ≤ n) (L : List Q) (hL : L.length ≤ 100) (hq : ∀ q ∈ L, QOk q) (tl : Tag) (r : Int) (i0 i1 i2 : Bool) {H : Heap} {k k0 k1 k2 : Nat} (hA : RA H k L.length k0 k1 k2 (L.map Q.x0) (L.map Q.x1) (L.map Q.x2)) (ki kb : Nat) (e1 : TypeId) (hi : H[ki]? = some (.cells e1 [Bo i0, Bo i1, Bo i2])) (hne : ki ≠ kb) (hkb : kb < H.length) (hd : k ≠ kb ∧ k0 ≠ kb ∧ k1 ≠ kb ∧ k2 ≠ kb) (hfl : fl ≤ kb) (x8 : DV) (mn : Int) (hmn : mn = (i0.toNat : Int) + i1.toNat + i2.toNat) (K : Ex → KF) : ∀ (q i : Nat), L.length < q + i → i ≤ L.length →
    s_triuneref13_Round_L1 n fl K q (LV 5 ptE (L.map Q.p) tl) (.ptr k 0) (I .i64 r) (.ptr ki 0) x8 (.ptr kb 0) (Bo ((L.take i).any (Q.spl r i0 i1 i2))) (I .i64 mn) (I .i64 i) (H.set kb (badB (L.take i) r i0 i1 i2)) = K (.exit 2) (s_triuneref13_Round_O1 x8 (.ptr kb 0) (Bo (L.any (Q.spl r i0 i1 i2)))) (H.set kb (badB L r i0 i1 i2)) := by
  intro q
  induction q with
  | zero => intro i h; omega
  | succ q ih =>
    intro i hq' hil
    by_cases h : i < L.length
    · have st := rr_step n fl hn L hL tl r i0 i1 i2 (hA.oth kb (badB (L.take i) r i0 i1 i2) hd) i h (hq _ (List.getElem_mem h)) ki kb e1 _ _ _ ((L.take i).any (Q.spl r i0 i1 i2)) (by rw [hp_set_ne _ _ _ _ hne]; exact hi) (hp_set_get _ _ _ hkb) hne hfl x8 mn hmn q K
      refine st.trans ?_
      have ih' := ih (i + 1) (by omega) (by omega)
      have hi2 : ((i + 1 : Nat) : Int) = (i : Int) + 1 := by omega
      rw [hi2] at ih'
      refine Eq.trans ?_ ih'
      rw [List.set_set]
      unfold badB
      rw [take_any _ _ _ h, take_any _ _ _ h, take_any _ _ _ h, take_any _ _ _ h, Bool.or_assoc, Bool.or_assoc, Bool.or_assoc, hmn]
      rfl
    · have hi' : i = L.length := by omega
      subst hi'
      rw [s_triuneref13_Round_L1, s_triuneref13_Round_B1, List.take_length]
      simp -implicitDefEqProofs (disch := first | omega | (simp only [List.length_set, List.length_append, List.length_cons, List.length_nil, List.length_take, List.length_drop, List.length_map]; omega) | simp) [wrap_i64, wrap_u16_id, wrap_u8_id, tdiv_pos, tmod_pos, -getElem?_pos, -getElem?_neg, -List.length_eq_zero_iff, -List.getElem_cons_drop]
theorem ref13_Round_c (n : Nat) (hn : 1400 ≤ n) (L : List Q) (hL : L.length ≤ 100) (hq : ∀ q ∈ L, QOk q) (tl : Tag) (r : Int) (i0 i1 i2 : Bool) {H : Heap} {k k0 k1 k2 : Nat} (hA : RA H k L.length k0 k1 k2 (L.map Q.x0) (L.map Q.x1) (L.map Q.x2)) :
    cO n 47 [LV 5 ptE (L.map Q.p) tl, .ptr k 0, I .i64 r, .agg [Bo i0, Bo i1, Bo i2]] H = some (.tup [.agg [Bo (L.any (Q.bad0 r i0 i1 i2)), Bo (L.any (Q.bad1 r i0 i1 i2)), Bo (L.any (Q.bad2 r i0 i1 i2))], Bo (L.any (Q.spl r i0 i1 i2))]) := by
  obtain ⟨n, rfl⟩ : ∃ m, n = m + 5 := ⟨n - 5, by omega⟩
  have ck := hp_lt hA.b
  have c0 := hp_lt hA.r0
  have c1 := hp_lt hA.r1
  have c2 := hp_lt hA.r2
  have r1 := fun K => rr_L1 (n + 4) H.length (by omega) L hL hq tl r i0 i1 i2 (H := H ++ [DBlk.cells 52 [Bo i0, Bo i1, Bo i2], DBlk.cells 52 [Bo false, Bo false, Bo false], DBlk.cells 52 [Bo false, Bo false, Bo false]]) (hA.app _) H.length (H.length + 2) 52 (hp_get_0 _ _ _ _ rfl) (by omega) (by simp) ⟨by omega, by omega, by omega, by omega⟩ (by omega) (.ptr (H.length + 1) 0) _ rfl K (n + 4) 0 (by omega) (by omega)
  rw [List.take_zero, hp_set_2 _ _ _ _ _ _ _ rfl, hp_set_2 _ _ _ _ _ _ _ rfl] at r1
  unfold badB at r1
  simp only [List.any_nil, Int.natCast_zero] at r1
  have l1 := fun K => (s_triuneref13_Round_L1_eq (n + 4) H.length K (n + 4) (LV 5 ptE (L.map Q.p) tl) (.ptr k 0) (I .i64 r) (.ptr H.length 0) (.ptr (H.length + 1) 0) (.ptr (H.length + 2) 0) (Bo false) (I .i64 ((i0.toNat : Int) + i1.toNat + i2.toNat)) (I .i64 0) (H ++ [DBlk.cells 52 [Bo i0, Bo i1, Bo i2], DBlk.cells 52 [Bo false, Bo false, Bo false], DBlk.cells 52 [Bo false, Bo false, Bo false]])).trans (r1 K)
  clear r1
  have l0 : ∀ K, s_triuneref13_Round_L0 (n + 4) H.length K (n + 4) (LV 5 ptE (L.map Q.p) tl) (.ptr k 0) (I .i64 r) (.ptr H.length 0) (.ptr (H.length + 1) 0) (.ptr (H.length + 2) 0) (Bo false) (I .i64 0) (I .i64 0) (H ++ [.cells 52 [Bo i0, Bo i1, Bo i2], .cells 52 [Bo false, Bo false, Bo false], .cells 52 [Bo false, Bo false, Bo false]]) = K (.exit 0) (s_triuneref13_Round_O0 (LV 5 ptE (L.map Q.p) tl) (.ptr k 0) (I .i64 r) (.ptr H.length 0) (.ptr (H.length + 1) 0) (.ptr (H.length + 2) 0) (Bo false) (I .i64 ((i0.toNat : Int) + i1.toNat + i2.toNat))) (H ++ [.cells 52 [Bo i0, Bo i1, Bo i2], .cells 52 [Bo false, Bo false, Bo false], .cells 52 [Bo false, Bo false, Bo false]]) := by
    intro K
    cases i0 <;> cases i1 <;> cases i2 <;> simp -implicitDefEqProofs (disch := first | omega | (simp only [List.length_set, List.length_append, List.length_cons, List.length_nil, List.length_take, List.length_drop, List.length_map]; omega) | simp) [wrap_i64, wrap_u16_id, wrap_u8_id, tdiv_pos, tmod_pos, -getElem?_pos, -getElem?_neg, -List.length_eq_zero_iff, -List.getElem_cons_drop, s_triuneref13_Round_L0, s_triuneref13_Round_B0, idxArr_k]
  have lq0 := fun K => (s_triuneref13_Round_L0_eq (n + 4) H.length K (n + 4) (LV 5 ptE (L.map Q.p) tl) (.ptr k 0) (I .i64 r) (.ptr H.length 0) (.ptr (H.length + 1) 0) (.ptr (H.length + 2) 0) (Bo false) (I .i64 0) (I .i64 0) (H ++ [.cells 52 [Bo i0, Bo i1, Bo i2], .cells 52 [Bo false, Bo false, Bo false], .cells 52 [Bo false, Bo false, Bo false]])).trans (l0 K)
  generalize (i0.toNat : Int) + i1.toNat + i2.toNat = mn at *
  generalize L.any (Q.bad0 r i0 i1 i2) = z0 at *
  generalize L.any (Q.bad1 r i0 i1 i2) = z1 at *
  generalize L.any (Q.bad2 r i0 i1 i2) = z2 at *
  generalize L.any (Q.spl r i0 i1 i2) = z3 at *
  exact cO_of (r := .tup [.agg [Bo z0, Bo z1, Bo z2], Bo z3]) (H' := H ++ [.cells 52 [Bo i0, Bo i1, Bo i2], .cells 52 [Bo z0, Bo z1, Bo z2], .cells 52 [Bo z0, Bo z1, Bo z2]]) ((s_triuneref13_Round_eq _ _ _ _ _ _ _).trans (by unfold s_triuneref13_Round; simp -implicitDefEqProofs (disch := first | omega | (simp only [List.length_set, List.length_append, List.length_cons, List.length_nil, List.length_take, List.length_drop, List.length_map]; omega) | simp) [wrap_i64, wrap_u16_id, wrap_u8_id, tdiv_pos, tmod_pos, -getElem?_pos, -getElem?_neg, -List.length_eq_zero_iff, -List.getElem_cons_drop, -List.set_append_right, lq0, s_triuneref13_Round_O0, l1, s_triuneref13_Round_O1] <;> first | rfl | exact ⟨rfl, rfl⟩)) (by simp)
end Go.Proofs.Ytbhnkdnfmlnajaa

/- The document's judge: who was fine. -/
namespace Go.Proofs.Ytbhnkdnfmlnajaa
open Go
set_option linter.unusedSimpArgs false
set_option linter.unusedVariables false
set_option maxRecDepth 100000
theorem hp_set_self {H : Heap} {k : Nat} {b : DBlk} (h : H[k]? = some b) : H.set k b = H := by
  apply List.ext_getElem?
  intro j
  rw [List.getElem?_set]
  split
  · rename_i e
    subst e
    rw [h]
    have := hp_lt h
    simp [this]
  · rfl
theorem rf_step0 (n fl : Nat) (hn : 1100 ≤ n) (ps : List Pt) (tl : Tag) (r : Int) {G : Heap} {k m k0 k1 k2 : Nat} {s0 s1 s2 : List Sm} (hA : RA G k m k0 k1 k2 s0 s1 s2) (i : Nat) (h : i < ps.length) (hm : ps.length = m) (hm1 : m ≤ 100) (q : Q) (hq : QOk q) (hp : ps[i] = q.p) (h0 : s0[i]? = some q.x0) (h1 : s1[i]? = some q.x1) (h2 : s2[i]? = some q.x2) (ko ka : Nat) (y0 y1 y2 : Bool) (ho : G[ko]? = some (.cells 52 [Bo y0, Bo y1, Bo y2])) (ha : G[ka]? = some (.cells 52 [Bo true, Bo true, Bo true])) (hfl : fl ≤ ko) (x6 : DV) (w : Nat) (K : Ex → KF) :
    s_triuneref13_Fine_L1 n fl K (w + 1) (LV 5 ptE ps tl) (.ptr k 0) (I .i64 r) x6 (.ptr ko 0) (.ptr ka 0) (I .i64 0) (I .i64 i) G = s_triuneref13_Fine_L1 n fl K w (LV 5 ptE ps tl) (.ptr k 0) (I .i64 r) x6 (.ptr ko 0) (.ptr ka 0) (I .i64 0) (I .i64 (i + 1)) (G.set ko (.cells 52 [Bo (y0 && q.fin0 r), Bo y1, Bo y2]) ++ [.cells 177 [I .u16 q.x0.v, I .i64 q.x0.r, Bo q.x0.is]]) := by
  have co := hp_lt ho
  have ca := hp_lt ha
  have hsame := hp_set_self ho
  have hlt : (i : Int) < (ps.length : Int) := by omega
  have g := fun X => ref11_Get_c n (by omega) (hA.app X) 0 (by omega) i (by omega) q.x0 h0
  have z : ((0 : Nat) : Int) = 0 := rfl
  rw [z] at g
  obtain ⟨ta, tb, hta, htb, hF⟩ := ref11_Fresh_c n (by omega) (hA.app [.cells 177 [I .u16 q.x0.v, I .i64 q.x0.r, Bo q.x0.is]]) i (by omega) q.x0 q.x1 q.x2 h0 h1 h2 r true true true
  obtain ⟨hk, w0, w1, w2⟩ := hq
  have f0 : fr q.x0 r = (q.x0.is && decide (q.x0.r = r)) := rfl
  have f1 : fr q.x1 r = (q.x1.is && decide (q.x1.r = r)) := rfl
  have f2 : fr q.x2 r = (q.x2.is && decide (q.x2.r = r)) := rfl
  unfold Q.fin0 Q.vl
  simp only [Bool.true_and, Bool.not_not] at hF ⊢
  obtain ⟨p, ⟨a, ra, ia⟩, ⟨b, rb, ib⟩, ⟨c, rc, ic⟩⟩ := q
  simp only at *
  have ap01 := ref12_Apart_c n (by omega) p a b w0 w1
  have ap02 := ref12_Apart_c n (by omega) p a c w0 w2
  have ap12 := ref12_Apart_c n (by omega) p b c w1 w2
  rw [s_triuneref13_Fine_L1, s_triuneref13_Fine_B1]
  cases ia with
  | false =>
    have hf : fr ⟨a, ra, false⟩ r = false := by unfold fr; rfl
    rw [hf, Bool.false_and, Bool.and_false]
    simp -implicitDefEqProofs (disch := first | omega | (simp only [List.length_set, List.length_append, List.length_cons, List.length_nil, List.length_take, List.length_drop, List.length_map]; omega) | simp) [wrap_i64, wrap_u16_id, wrap_u8_id, tdiv_pos, tmod_pos, -getElem?_pos, -getElem?_neg, -List.length_eq_zero_iff, -List.getElem_cons_drop, -List.set_append_right, h, hlt, ho, g, idxArr_k]
  | true =>
    by_cases hr : ra = r
    · have hf : fr ⟨a, ra, true⟩ r = true := by unfold fr; simp [hr]
      rw [hf] at hF ⊢
      rw [Bool.true_and]
      generalize fr ⟨b, rb, ib⟩ r = b1 at *
      generalize fr ⟨c, rc, ic⟩ r = b2 at *
      clear f0 f1 f2
      subst hr
      cases b1 <;> cases b2
      · rw [show vals true false false a b c = [a] from rfl] at hF ⊢
        have e1 : (oddV p [a]).1 = false := rfl
        have e2 : splitV p [a] = false := rfl
        rw [e1, e2]
        simp -implicitDefEqProofs (disch := first | omega | (simp only [List.length_set, List.length_append, List.length_cons, List.length_nil, List.length_take, List.length_drop, List.length_map]; omega) | simp) [wrap_i64, wrap_u16_id, wrap_u8_id, tdiv_pos, tmod_pos, -getElem?_pos, -getElem?_neg, -List.length_eq_zero_iff, -List.getElem_cons_drop, -Bool.not_and, -Bool.not_or, -wantF_n, wantF_sy, wantF_sn, gO_some, gO_loadG, gO_lenD, gO_notD, gO_eqK1, gO_neK1, gO_ltK1, gO_leK1, gO_gtK1, gO_geK1, gO_max1, gO_addK1, gO_mulK1, gO_addK2, gO_ltK2, gO_leK2, gO_max2, gO_cvK, gO_idx, gO_pick, gO_pick2, gO_cP1, gO_cP1b, gO_cP2, gO_cP2a, gO_eqB, pick_t, pick_t2, pick_f, pick_f2, gd_gd, wantF_gt, wantF_gf, gO_pkf, gO_pkt, gO_pktn, gO_eqK2, gO_neK2, gO_gtK2, gO_geK2, gO_subK1, gO_subK2, gO_min1, gO_min2, gO_remK1, gO_cP3, gO_nilD, gO_fieldD, gO_idxArr1, gO_idxArr2, gO_idx2, gO_extD, -List.set_append_right, h, hlt, ho, ha, g, hF, hp, idxArr_k, Bool.true_and, Bool.and_true, Bool.not_false, hsame]
      · rw [show vals true false true a b c = [a, c] from rfl] at hF ⊢
        have e1 : (oddV p [a, c]).1 = false := rfl
        have e2 : splitV p [a, c] = apartV p.band a c := rfl
        rw [e1, e2]
        obtain ⟨pk, ad, at_, band, safe⟩ := p
        unfold ptE at ap01 ap02 ap12
        simp only at ap01 ap02 ap12 ⊢
        generalize apartV band a c = z at *
        simp -implicitDefEqProofs (disch := first | omega | (simp only [List.length_set, List.length_append, List.length_cons, List.length_nil, List.length_take, List.length_drop, List.length_map]; omega) | simp) [wrap_i64, wrap_u16_id, wrap_u8_id, tdiv_pos, tmod_pos, -getElem?_pos, -getElem?_neg, -List.length_eq_zero_iff, -List.getElem_cons_drop, -Bool.not_and, -Bool.not_or, -wantF_n, wantF_sy, wantF_sn, gO_some, gO_loadG, gO_lenD, gO_notD, gO_eqK1, gO_neK1, gO_ltK1, gO_leK1, gO_gtK1, gO_geK1, gO_max1, gO_addK1, gO_mulK1, gO_addK2, gO_ltK2, gO_leK2, gO_max2, gO_cvK, gO_idx, gO_pick, gO_pick2, gO_cP1, gO_cP1b, gO_cP2, gO_cP2a, gO_eqB, pick_t, pick_t2, pick_f, pick_f2, gd_gd, wantF_gt, wantF_gf, gO_pkf, gO_pkt, gO_pktn, gO_eqK2, gO_neK2, gO_gtK2, gO_geK2, gO_subK1, gO_subK2, gO_min1, gO_min2, gO_remK1, gO_cP3, gO_nilD, gO_fieldD, gO_idxArr1, gO_idxArr2, gO_idx2, gO_extD, -List.set_append_right, h, hlt, ho, ha, g, hF, hp, ptE_cells, ap02, idxArr_k, Bool.true_and, Bool.not_false]
      · rw [show vals true true false a b c = [a, b] from rfl] at hF ⊢
        have e1 : (oddV p [a, b]).1 = false := rfl
        have e2 : splitV p [a, b] = apartV p.band a b := rfl
        rw [e1, e2]
        obtain ⟨pk, ad, at_, band, safe⟩ := p
        unfold ptE at ap01 ap02 ap12
        simp only at ap01 ap02 ap12 ⊢
        generalize apartV band a b = z at *
        simp -implicitDefEqProofs (disch := first | omega | (simp only [List.length_set, List.length_append, List.length_cons, List.length_nil, List.length_take, List.length_drop, List.length_map]; omega) | simp) [wrap_i64, wrap_u16_id, wrap_u8_id, tdiv_pos, tmod_pos, -getElem?_pos, -getElem?_neg, -List.length_eq_zero_iff, -List.getElem_cons_drop, -Bool.not_and, -Bool.not_or, -wantF_n, wantF_sy, wantF_sn, gO_some, gO_loadG, gO_lenD, gO_notD, gO_eqK1, gO_neK1, gO_ltK1, gO_leK1, gO_gtK1, gO_geK1, gO_max1, gO_addK1, gO_mulK1, gO_addK2, gO_ltK2, gO_leK2, gO_max2, gO_cvK, gO_idx, gO_pick, gO_pick2, gO_cP1, gO_cP1b, gO_cP2, gO_cP2a, gO_eqB, pick_t, pick_t2, pick_f, pick_f2, gd_gd, wantF_gt, wantF_gf, gO_pkf, gO_pkt, gO_pktn, gO_eqK2, gO_neK2, gO_gtK2, gO_geK2, gO_subK1, gO_subK2, gO_min1, gO_min2, gO_remK1, gO_cP3, gO_nilD, gO_fieldD, gO_idxArr1, gO_idxArr2, gO_idx2, gO_extD, -List.set_append_right, h, hlt, ho, ha, g, hF, hp, ptE_cells, ap01, idxArr_k, Bool.true_and, Bool.not_false]
      · rw [show vals true true true a b c = [a, b, c] from rfl] at hF ⊢
        have w3 : Words [a, b, c] := by intro x hx; simp at hx; omega
        have hV := ref12_Vote_c n (by omega) p [a, b, c] w3 (by simp) ta
        have hv := voteV_word p [a, b, c] w3
        have ap := ref12_Apart_c n (by omega) p a (voteV p [a, b, c]).1 w0 hv
        have e1 : (oddV p [a, b, c]).1 = apartV p.band a (voteV p [a, b, c]).1 := rfl
        have e2 : splitV p [a, b, c] = false := rfl
        rw [e1, e2]
        generalize voteV p [a, b, c] = v at *
        obtain ⟨v1, v2⟩ := v
        obtain ⟨pk, ad, at_, band, safe⟩ := p
        unfold ptE at hV ap
        simp only at hV ap ⊢
        generalize apartV band a v1 = z at *
        simp -implicitDefEqProofs (disch := first | omega | (simp only [List.length_set, List.length_append, List.length_cons, List.length_nil, List.length_take, List.length_drop, List.length_map]; omega) | simp) [wrap_i64, wrap_u16_id, wrap_u8_id, tdiv_pos, tmod_pos, -getElem?_pos, -getElem?_neg, -List.length_eq_zero_iff, -List.getElem_cons_drop, -Bool.not_and, -Bool.not_or, -wantF_n, wantF_sy, wantF_sn, gO_some, gO_loadG, gO_lenD, gO_notD, gO_eqK1, gO_neK1, gO_ltK1, gO_leK1, gO_gtK1, gO_geK1, gO_max1, gO_addK1, gO_mulK1, gO_addK2, gO_ltK2, gO_leK2, gO_max2, gO_cvK, gO_idx, gO_pick, gO_pick2, gO_cP1, gO_cP1b, gO_cP2, gO_cP2a, gO_eqB, pick_t, pick_t2, pick_f, pick_f2, gd_gd, wantF_gt, wantF_gf, gO_pkf, gO_pkt, gO_pktn, gO_eqK2, gO_neK2, gO_gtK2, gO_geK2, gO_subK1, gO_subK2, gO_min1, gO_min2, gO_remK1, gO_cP3, gO_nilD, gO_fieldD, gO_idxArr1, gO_idxArr2, gO_idx2, gO_extD, -List.set_append_right, h, hlt, ho, ha, g, hF, hp, ptE_cells, hV, ap, idxArr_k, Bool.and_true, Bool.not_false]
    · have hf : fr ⟨a, ra, true⟩ r = false := by unfold fr; simp [hr]
      rw [hf, Bool.false_and, Bool.and_false]
      simp -implicitDefEqProofs (disch := first | omega | (simp only [List.length_set, List.length_append, List.length_cons, List.length_nil, List.length_take, List.length_drop, List.length_map]; omega) | simp) [wrap_i64, wrap_u16_id, wrap_u8_id, tdiv_pos, tmod_pos, -getElem?_pos, -getElem?_neg, -List.length_eq_zero_iff, -List.getElem_cons_drop, -List.set_append_right, h, hlt, ho, g, hr, idxArr_k]
theorem rf_step1 (n fl : Nat) (hn : 1100 ≤ n) (ps : List Pt) (tl : Tag) (r : Int) {G : Heap} {k m k0 k1 k2 : Nat} {s0 s1 s2 : List Sm} (hA : RA G k m k0 k1 k2 s0 s1 s2) (i : Nat) (h : i < ps.length) (hm : ps.length = m) (hm1 : m ≤ 100) (q : Q) (hq : QOk q) (hp : ps[i] = q.p) (h0 : s0[i]? = some q.x0) (h1 : s1[i]? = some q.x1) (h2 : s2[i]? = some q.x2) (ko ka : Nat) (y0 y1 y2 : Bool) (ho : G[ko]? = some (.cells 52 [Bo y0, Bo y1, Bo y2])) (ha : G[ka]? = some (.cells 52 [Bo true, Bo true, Bo true])) (hfl : fl ≤ ko) (x6 : DV) (w : Nat) (K : Ex → KF) :
    s_triuneref13_Fine_L1 n fl K (w + 1) (LV 5 ptE ps tl) (.ptr k 0) (I .i64 r) x6 (.ptr ko 0) (.ptr ka 0) (I .i64 1) (I .i64 i) G = s_triuneref13_Fine_L1 n fl K w (LV 5 ptE ps tl) (.ptr k 0) (I .i64 r) x6 (.ptr ko 0) (.ptr ka 0) (I .i64 1) (I .i64 (i + 1)) (G.set ko (.cells 52 [Bo y0, Bo (y1 && q.fin1 r), Bo y2]) ++ [.cells 177 [I .u16 q.x1.v, I .i64 q.x1.r, Bo q.x1.is]]) := by
  have co := hp_lt ho
  have ca := hp_lt ha
  have hsame := hp_set_self ho
  have hlt : (i : Int) < (ps.length : Int) := by omega
  have g := fun X => ref11_Get_c n (by omega) (hA.app X) 1 (by omega) i (by omega) q.x1 h1
  have z : ((1 : Nat) : Int) = 1 := rfl
  rw [z] at g
  obtain ⟨ta, tb, hta, htb, hF⟩ := ref11_Fresh_c n (by omega) (hA.app [.cells 177 [I .u16 q.x1.v, I .i64 q.x1.r, Bo q.x1.is]]) i (by omega) q.x0 q.x1 q.x2 h0 h1 h2 r true true true
  obtain ⟨hk, w0, w1, w2⟩ := hq
  have f0 : fr q.x0 r = (q.x0.is && decide (q.x0.r = r)) := rfl
  have f1 : fr q.x1 r = (q.x1.is && decide (q.x1.r = r)) := rfl
  have f2 : fr q.x2 r = (q.x2.is && decide (q.x2.r = r)) := rfl
  unfold Q.fin1 Q.vl
  simp only [Bool.true_and, Bool.not_not] at hF ⊢
  obtain ⟨p, ⟨a, ra, ia⟩, ⟨b, rb, ib⟩, ⟨c, rc, ic⟩⟩ := q
  simp only at *
  have ap01 := ref12_Apart_c n (by omega) p a b w0 w1
  have ap02 := ref12_Apart_c n (by omega) p a c w0 w2
  have ap12 := ref12_Apart_c n (by omega) p b c w1 w2
  rw [s_triuneref13_Fine_L1, s_triuneref13_Fine_B1]
  cases ib with
  | false =>
    have hf : fr ⟨b, rb, false⟩ r = false := by unfold fr; rfl
    rw [hf, Bool.false_and, Bool.and_false]
    simp -implicitDefEqProofs (disch := first | omega | (simp only [List.length_set, List.length_append, List.length_cons, List.length_nil, List.length_take, List.length_drop, List.length_map]; omega) | simp) [wrap_i64, wrap_u16_id, wrap_u8_id, tdiv_pos, tmod_pos, -getElem?_pos, -getElem?_neg, -List.length_eq_zero_iff, -List.getElem_cons_drop, -List.set_append_right, h, hlt, ho, g, idxArr_k]
  | true =>
    by_cases hr : rb = r
    · have hf : fr ⟨b, rb, true⟩ r = true := by unfold fr; simp [hr]
      rw [hf] at hF ⊢
      rw [Bool.true_and]
      generalize fr ⟨a, ra, ia⟩ r = b0 at *
      generalize fr ⟨c, rc, ic⟩ r = b2 at *
      clear f0 f1 f2
      subst hr
      cases b0 <;> cases b2
      · rw [show vals false true false a b c = [b] from rfl] at hF ⊢
        have e1 : (oddV p [b]).2.1 = false := rfl
        have e2 : splitV p [b] = false := rfl
        rw [e1, e2]
        simp -implicitDefEqProofs (disch := first | omega | (simp only [List.length_set, List.length_append, List.length_cons, List.length_nil, List.length_take, List.length_drop, List.length_map]; omega) | simp) [wrap_i64, wrap_u16_id, wrap_u8_id, tdiv_pos, tmod_pos, -getElem?_pos, -getElem?_neg, -List.length_eq_zero_iff, -List.getElem_cons_drop, -Bool.not_and, -Bool.not_or, -wantF_n, wantF_sy, wantF_sn, gO_some, gO_loadG, gO_lenD, gO_notD, gO_eqK1, gO_neK1, gO_ltK1, gO_leK1, gO_gtK1, gO_geK1, gO_max1, gO_addK1, gO_mulK1, gO_addK2, gO_ltK2, gO_leK2, gO_max2, gO_cvK, gO_idx, gO_pick, gO_pick2, gO_cP1, gO_cP1b, gO_cP2, gO_cP2a, gO_eqB, pick_t, pick_t2, pick_f, pick_f2, gd_gd, wantF_gt, wantF_gf, gO_pkf, gO_pkt, gO_pktn, gO_eqK2, gO_neK2, gO_gtK2, gO_geK2, gO_subK1, gO_subK2, gO_min1, gO_min2, gO_remK1, gO_cP3, gO_nilD, gO_fieldD, gO_idxArr1, gO_idxArr2, gO_idx2, gO_extD, -List.set_append_right, h, hlt, ho, ha, g, hF, hp, idxArr_k, Bool.true_and, Bool.and_true, Bool.not_false, hsame]
      · rw [show vals false true true a b c = [b, c] from rfl] at hF ⊢
        have e1 : (oddV p [b, c]).2.1 = false := rfl
        have e2 : splitV p [b, c] = apartV p.band b c := rfl
        rw [e1, e2]
        obtain ⟨pk, ad, at_, band, safe⟩ := p
        unfold ptE at ap01 ap02 ap12
        simp only at ap01 ap02 ap12 ⊢
        generalize apartV band b c = z at *
        simp -implicitDefEqProofs (disch := first | omega | (simp only [List.length_set, List.length_append, List.length_cons, List.length_nil, List.length_take, List.length_drop, List.length_map]; omega) | simp) [wrap_i64, wrap_u16_id, wrap_u8_id, tdiv_pos, tmod_pos, -getElem?_pos, -getElem?_neg, -List.length_eq_zero_iff, -List.getElem_cons_drop, -Bool.not_and, -Bool.not_or, -wantF_n, wantF_sy, wantF_sn, gO_some, gO_loadG, gO_lenD, gO_notD, gO_eqK1, gO_neK1, gO_ltK1, gO_leK1, gO_gtK1, gO_geK1, gO_max1, gO_addK1, gO_mulK1, gO_addK2, gO_ltK2, gO_leK2, gO_max2, gO_cvK, gO_idx, gO_pick, gO_pick2, gO_cP1, gO_cP1b, gO_cP2, gO_cP2a, gO_eqB, pick_t, pick_t2, pick_f, pick_f2, gd_gd, wantF_gt, wantF_gf, gO_pkf, gO_pkt, gO_pktn, gO_eqK2, gO_neK2, gO_gtK2, gO_geK2, gO_subK1, gO_subK2, gO_min1, gO_min2, gO_remK1, gO_cP3, gO_nilD, gO_fieldD, gO_idxArr1, gO_idxArr2, gO_idx2, gO_extD, -List.set_append_right, h, hlt, ho, ha, g, hF, hp, ptE_cells, ap12, idxArr_k, Bool.true_and, Bool.not_false]
      · rw [show vals true true false a b c = [a, b] from rfl] at hF ⊢
        have e1 : (oddV p [a, b]).2.1 = false := rfl
        have e2 : splitV p [a, b] = apartV p.band a b := rfl
        rw [e1, e2]
        obtain ⟨pk, ad, at_, band, safe⟩ := p
        unfold ptE at ap01 ap02 ap12
        simp only at ap01 ap02 ap12 ⊢
        generalize apartV band a b = z at *
        simp -implicitDefEqProofs (disch := first | omega | (simp only [List.length_set, List.length_append, List.length_cons, List.length_nil, List.length_take, List.length_drop, List.length_map]; omega) | simp) [wrap_i64, wrap_u16_id, wrap_u8_id, tdiv_pos, tmod_pos, -getElem?_pos, -getElem?_neg, -List.length_eq_zero_iff, -List.getElem_cons_drop, -Bool.not_and, -Bool.not_or, -wantF_n, wantF_sy, wantF_sn, gO_some, gO_loadG, gO_lenD, gO_notD, gO_eqK1, gO_neK1, gO_ltK1, gO_leK1, gO_gtK1, gO_geK1, gO_max1, gO_addK1, gO_mulK1, gO_addK2, gO_ltK2, gO_leK2, gO_max2, gO_cvK, gO_idx, gO_pick, gO_pick2, gO_cP1, gO_cP1b, gO_cP2, gO_cP2a, gO_eqB, pick_t, pick_t2, pick_f, pick_f2, gd_gd, wantF_gt, wantF_gf, gO_pkf, gO_pkt, gO_pktn, gO_eqK2, gO_neK2, gO_gtK2, gO_geK2, gO_subK1, gO_subK2, gO_min1, gO_min2, gO_remK1, gO_cP3, gO_nilD, gO_fieldD, gO_idxArr1, gO_idxArr2, gO_idx2, gO_extD, -List.set_append_right, h, hlt, ho, ha, g, hF, hp, ptE_cells, ap01, idxArr_k, Bool.true_and, Bool.not_false]
      · rw [show vals true true true a b c = [a, b, c] from rfl] at hF ⊢
        have w3 : Words [a, b, c] := by intro x hx; simp at hx; omega
        have hV := ref12_Vote_c n (by omega) p [a, b, c] w3 (by simp) ta
        have hv := voteV_word p [a, b, c] w3
        have ap := ref12_Apart_c n (by omega) p b (voteV p [a, b, c]).1 w1 hv
        have e1 : (oddV p [a, b, c]).2.1 = apartV p.band b (voteV p [a, b, c]).1 := rfl
        have e2 : splitV p [a, b, c] = false := rfl
        rw [e1, e2]
        generalize voteV p [a, b, c] = v at *
        obtain ⟨v1, v2⟩ := v
        obtain ⟨pk, ad, at_, band, safe⟩ := p
        unfold ptE at hV ap
        simp only at hV ap ⊢
        generalize apartV band b v1 = z at *
        simp -implicitDefEqProofs (disch := first | omega | (simp only [List.length_set, List.length_append, List.length_cons, List.length_nil, List.length_take, List.length_drop, List.length_map]; omega) | simp) [wrap_i64, wrap_u16_id, wrap_u8_id, tdiv_pos, tmod_pos, -getElem?_pos, -getElem?_neg, -List.length_eq_zero_iff, -List.getElem_cons_drop, -Bool.not_and, -Bool.not_or, -wantF_n, wantF_sy, wantF_sn, gO_some, gO_loadG, gO_lenD, gO_notD, gO_eqK1, gO_neK1, gO_ltK1, gO_leK1, gO_gtK1, gO_geK1, gO_max1, gO_addK1, gO_mulK1, gO_addK2, gO_ltK2, gO_leK2, gO_max2, gO_cvK, gO_idx, gO_pick, gO_pick2, gO_cP1, gO_cP1b, gO_cP2, gO_cP2a, gO_eqB, pick_t, pick_t2, pick_f, pick_f2, gd_gd, wantF_gt, wantF_gf, gO_pkf, gO_pkt, gO_pktn, gO_eqK2, gO_neK2, gO_gtK2, gO_geK2, gO_subK1, gO_subK2, gO_min1, gO_min2, gO_remK1, gO_cP3, gO_nilD, gO_fieldD, gO_idxArr1, gO_idxArr2, gO_idx2, gO_extD, -List.set_append_right, h, hlt, ho, ha, g, hF, hp, ptE_cells, hV, ap, idxArr_k, Bool.and_true, Bool.not_false]
    · have hf : fr ⟨b, rb, true⟩ r = false := by unfold fr; simp [hr]
      rw [hf, Bool.false_and, Bool.and_false]
      simp -implicitDefEqProofs (disch := first | omega | (simp only [List.length_set, List.length_append, List.length_cons, List.length_nil, List.length_take, List.length_drop, List.length_map]; omega) | simp) [wrap_i64, wrap_u16_id, wrap_u8_id, tdiv_pos, tmod_pos, -getElem?_pos, -getElem?_neg, -List.length_eq_zero_iff, -List.getElem_cons_drop, -List.set_append_right, h, hlt, ho, g, hr, idxArr_k]
theorem rf_step2 (n fl : Nat) (hn : 1100 ≤ n) (ps : List Pt) (tl : Tag) (r : Int) {G : Heap} {k m k0 k1 k2 : Nat} {s0 s1 s2 : List Sm} (hA : RA G k m k0 k1 k2 s0 s1 s2) (i : Nat) (h : i < ps.length) (hm : ps.length = m) (hm1 : m ≤ 100) (q : Q) (hq : QOk q) (hp : ps[i] = q.p) (h0 : s0[i]? = some q.x0) (h1 : s1[i]? = some q.x1) (h2 : s2[i]? = some q.x2) (ko ka : Nat) (y0 y1 y2 : Bool) (ho : G[ko]? = some (.cells 52 [Bo y0, Bo y1, Bo y2])) (ha : G[ka]? = some (.cells 52 [Bo true, Bo true, Bo true])) (hfl : fl ≤ ko) (x6 : DV) (w : Nat) (K : Ex → KF) :
    s_triuneref13_Fine_L1 n fl K (w + 1) (LV 5 ptE ps tl) (.ptr k 0) (I .i64 r) x6 (.ptr ko 0) (.ptr ka 0) (I .i64 2) (I .i64 i) G = s_triuneref13_Fine_L1 n fl K w (LV 5 ptE ps tl) (.ptr k 0) (I .i64 r) x6 (.ptr ko 0) (.ptr ka 0) (I .i64 2) (I .i64 (i + 1)) (G.set ko (.cells 52 [Bo y0, Bo y1, Bo (y2 && q.fin2 r)]) ++ [.cells 177 [I .u16 q.x2.v, I .i64 q.x2.r, Bo q.x2.is]]) := by
  have co := hp_lt ho
  have ca := hp_lt ha
  have hsame := hp_set_self ho
  have hlt : (i : Int) < (ps.length : Int) := by omega
  have g := fun X => ref11_Get_c n (by omega) (hA.app X) 2 (by omega) i (by omega) q.x2 h2
  have z : ((2 : Nat) : Int) = 2 := rfl
  rw [z] at g
  obtain ⟨ta, tb, hta, htb, hF⟩ := ref11_Fresh_c n (by omega) (hA.app [.cells 177 [I .u16 q.x2.v, I .i64 q.x2.r, Bo q.x2.is]]) i (by omega) q.x0 q.x1 q.x2 h0 h1 h2 r true true true
  obtain ⟨hk, w0, w1, w2⟩ := hq
  have f0 : fr q.x0 r = (q.x0.is && decide (q.x0.r = r)) := rfl
  have f1 : fr q.x1 r = (q.x1.is && decide (q.x1.r = r)) := rfl
  have f2 : fr q.x2 r = (q.x2.is && decide (q.x2.r = r)) := rfl
  unfold Q.fin2 Q.vl
  simp only [Bool.true_and, Bool.not_not] at hF ⊢
  obtain ⟨p, ⟨a, ra, ia⟩, ⟨b, rb, ib⟩, ⟨c, rc, ic⟩⟩ := q
  simp only at *
  have ap01 := ref12_Apart_c n (by omega) p a b w0 w1
  have ap02 := ref12_Apart_c n (by omega) p a c w0 w2
  have ap12 := ref12_Apart_c n (by omega) p b c w1 w2
  rw [s_triuneref13_Fine_L1, s_triuneref13_Fine_B1]
  cases ic with
  | false =>
    have hf : fr ⟨c, rc, false⟩ r = false := by unfold fr; rfl
    rw [hf, Bool.false_and, Bool.and_false]
    simp -implicitDefEqProofs (disch := first | omega | (simp only [List.length_set, List.length_append, List.length_cons, List.length_nil, List.length_take, List.length_drop, List.length_map]; omega) | simp) [wrap_i64, wrap_u16_id, wrap_u8_id, tdiv_pos, tmod_pos, -getElem?_pos, -getElem?_neg, -List.length_eq_zero_iff, -List.getElem_cons_drop, -List.set_append_right, h, hlt, ho, g, idxArr_k]
  | true =>
    by_cases hr : rc = r
    · have hf : fr ⟨c, rc, true⟩ r = true := by unfold fr; simp [hr]
      rw [hf] at hF ⊢
      rw [Bool.true_and]
      generalize fr ⟨a, ra, ia⟩ r = b0 at *
      generalize fr ⟨b, rb, ib⟩ r = b1 at *
      clear f0 f1 f2
      subst hr
      cases b0 <;> cases b1
      · rw [show vals false false true a b c = [c] from rfl] at hF ⊢
        have e1 : (oddV p [c]).2.2 = false := rfl
        have e2 : splitV p [c] = false := rfl
        rw [e1, e2]
        simp -implicitDefEqProofs (disch := first | omega | (simp only [List.length_set, List.length_append, List.length_cons, List.length_nil, List.length_take, List.length_drop, List.length_map]; omega) | simp) [wrap_i64, wrap_u16_id, wrap_u8_id, tdiv_pos, tmod_pos, -getElem?_pos, -getElem?_neg, -List.length_eq_zero_iff, -List.getElem_cons_drop, -Bool.not_and, -Bool.not_or, -wantF_n, wantF_sy, wantF_sn, gO_some, gO_loadG, gO_lenD, gO_notD, gO_eqK1, gO_neK1, gO_ltK1, gO_leK1, gO_gtK1, gO_geK1, gO_max1, gO_addK1, gO_mulK1, gO_addK2, gO_ltK2, gO_leK2, gO_max2, gO_cvK, gO_idx, gO_pick, gO_pick2, gO_cP1, gO_cP1b, gO_cP2, gO_cP2a, gO_eqB, pick_t, pick_t2, pick_f, pick_f2, gd_gd, wantF_gt, wantF_gf, gO_pkf, gO_pkt, gO_pktn, gO_eqK2, gO_neK2, gO_gtK2, gO_geK2, gO_subK1, gO_subK2, gO_min1, gO_min2, gO_remK1, gO_cP3, gO_nilD, gO_fieldD, gO_idxArr1, gO_idxArr2, gO_idx2, gO_extD, -List.set_append_right, h, hlt, ho, ha, g, hF, hp, idxArr_k, Bool.true_and, Bool.and_true, Bool.not_false, hsame]
      · rw [show vals false true true a b c = [b, c] from rfl] at hF ⊢
        have e1 : (oddV p [b, c]).2.2 = false := rfl
        have e2 : splitV p [b, c] = apartV p.band b c := rfl
        rw [e1, e2]
        obtain ⟨pk, ad, at_, band, safe⟩ := p
        unfold ptE at ap01 ap02 ap12
        simp only at ap01 ap02 ap12 ⊢
        generalize apartV band b c = z at *
        simp -implicitDefEqProofs (disch := first | omega | (simp only [List.length_set, List.length_append, List.length_cons, List.length_nil, List.length_take, List.length_drop, List.length_map]; omega) | simp) [wrap_i64, wrap_u16_id, wrap_u8_id, tdiv_pos, tmod_pos, -getElem?_pos, -getElem?_neg, -List.length_eq_zero_iff, -List.getElem_cons_drop, -Bool.not_and, -Bool.not_or, -wantF_n, wantF_sy, wantF_sn, gO_some, gO_loadG, gO_lenD, gO_notD, gO_eqK1, gO_neK1, gO_ltK1, gO_leK1, gO_gtK1, gO_geK1, gO_max1, gO_addK1, gO_mulK1, gO_addK2, gO_ltK2, gO_leK2, gO_max2, gO_cvK, gO_idx, gO_pick, gO_pick2, gO_cP1, gO_cP1b, gO_cP2, gO_cP2a, gO_eqB, pick_t, pick_t2, pick_f, pick_f2, gd_gd, wantF_gt, wantF_gf, gO_pkf, gO_pkt, gO_pktn, gO_eqK2, gO_neK2, gO_gtK2, gO_geK2, gO_subK1, gO_subK2, gO_min1, gO_min2, gO_remK1, gO_cP3, gO_nilD, gO_fieldD, gO_idxArr1, gO_idxArr2, gO_idx2, gO_extD, -List.set_append_right, h, hlt, ho, ha, g, hF, hp, ptE_cells, ap12, idxArr_k, Bool.true_and, Bool.not_false]
      · rw [show vals true false true a b c = [a, c] from rfl] at hF ⊢
        have e1 : (oddV p [a, c]).2.2 = false := rfl
        have e2 : splitV p [a, c] = apartV p.band a c := rfl
        rw [e1, e2]
        obtain ⟨pk, ad, at_, band, safe⟩ := p
        unfold ptE at ap01 ap02 ap12
        simp only at ap01 ap02 ap12 ⊢
        generalize apartV band a c = z at *
        simp -implicitDefEqProofs (disch := first | omega | (simp only [List.length_set, List.length_append, List.length_cons, List.length_nil, List.length_take, List.length_drop, List.length_map]; omega) | simp) [wrap_i64, wrap_u16_id, wrap_u8_id, tdiv_pos, tmod_pos, -getElem?_pos, -getElem?_neg, -List.length_eq_zero_iff, -List.getElem_cons_drop, -Bool.not_and, -Bool.not_or, -wantF_n, wantF_sy, wantF_sn, gO_some, gO_loadG, gO_lenD, gO_notD, gO_eqK1, gO_neK1, gO_ltK1, gO_leK1, gO_gtK1, gO_geK1, gO_max1, gO_addK1, gO_mulK1, gO_addK2, gO_ltK2, gO_leK2, gO_max2, gO_cvK, gO_idx, gO_pick, gO_pick2, gO_cP1, gO_cP1b, gO_cP2, gO_cP2a, gO_eqB, pick_t, pick_t2, pick_f, pick_f2, gd_gd, wantF_gt, wantF_gf, gO_pkf, gO_pkt, gO_pktn, gO_eqK2, gO_neK2, gO_gtK2, gO_geK2, gO_subK1, gO_subK2, gO_min1, gO_min2, gO_remK1, gO_cP3, gO_nilD, gO_fieldD, gO_idxArr1, gO_idxArr2, gO_idx2, gO_extD, -List.set_append_right, h, hlt, ho, ha, g, hF, hp, ptE_cells, ap02, idxArr_k, Bool.true_and, Bool.not_false]
      · rw [show vals true true true a b c = [a, b, c] from rfl] at hF ⊢
        have w3 : Words [a, b, c] := by intro x hx; simp at hx; omega
        have hV := ref12_Vote_c n (by omega) p [a, b, c] w3 (by simp) ta
        have hv := voteV_word p [a, b, c] w3
        have ap := ref12_Apart_c n (by omega) p c (voteV p [a, b, c]).1 w2 hv
        have e1 : (oddV p [a, b, c]).2.2 = apartV p.band c (voteV p [a, b, c]).1 := rfl
        have e2 : splitV p [a, b, c] = false := rfl
        rw [e1, e2]
        generalize voteV p [a, b, c] = v at *
        obtain ⟨v1, v2⟩ := v
        obtain ⟨pk, ad, at_, band, safe⟩ := p
        unfold ptE at hV ap
        simp only at hV ap ⊢
        generalize apartV band c v1 = z at *
        simp -implicitDefEqProofs (disch := first | omega | (simp only [List.length_set, List.length_append, List.length_cons, List.length_nil, List.length_take, List.length_drop, List.length_map]; omega) | simp) [wrap_i64, wrap_u16_id, wrap_u8_id, tdiv_pos, tmod_pos, -getElem?_pos, -getElem?_neg, -List.length_eq_zero_iff, -List.getElem_cons_drop, -Bool.not_and, -Bool.not_or, -wantF_n, wantF_sy, wantF_sn, gO_some, gO_loadG, gO_lenD, gO_notD, gO_eqK1, gO_neK1, gO_ltK1, gO_leK1, gO_gtK1, gO_geK1, gO_max1, gO_addK1, gO_mulK1, gO_addK2, gO_ltK2, gO_leK2, gO_max2, gO_cvK, gO_idx, gO_pick, gO_pick2, gO_cP1, gO_cP1b, gO_cP2, gO_cP2a, gO_eqB, pick_t, pick_t2, pick_f, pick_f2, gd_gd, wantF_gt, wantF_gf, gO_pkf, gO_pkt, gO_pktn, gO_eqK2, gO_neK2, gO_gtK2, gO_geK2, gO_subK1, gO_subK2, gO_min1, gO_min2, gO_remK1, gO_cP3, gO_nilD, gO_fieldD, gO_idxArr1, gO_idxArr2, gO_idx2, gO_extD, -List.set_append_right, h, hlt, ho, ha, g, hF, hp, ptE_cells, hV, ap, idxArr_k, Bool.and_true, Bool.not_false]
    · have hf : fr ⟨c, rc, true⟩ r = false := by unfold fr; simp [hr]
      rw [hf, Bool.false_and, Bool.and_false]
      simp -implicitDefEqProofs (disch := first | omega | (simp only [List.length_set, List.length_append, List.length_cons, List.length_nil, List.length_take, List.length_drop, List.length_map]; omega) | simp) [wrap_i64, wrap_u16_id, wrap_u8_id, tdiv_pos, tmod_pos, -getElem?_pos, -getElem?_neg, -List.length_eq_zero_iff, -List.getElem_cons_drop, -List.set_append_right, h, hlt, ho, g, hr, idxArr_k]
end Go.Proofs.Ytbhnkdnfmlnajaa

/- The document's judge: who was fine, whole. -/
namespace Go.Proofs.Ytbhnkdnfmlnajaa
open Go
set_option linter.unusedSimpArgs false
set_option linter.unusedVariables false
set_option maxRecDepth 100000
/-- what stands behind some rounds of Fine -/
structure FI (H : Heap) (N : Nat) (y0 y1 y2 : Bool) (G : Heap) : Prop where
  len : N + 3 ≤ G.length
  oth : ∀ j, j < N → G[j]? = H[j]?
  rt : ∃ r0 r1 r2, G[N]? = some (.cells 52 [Bo r0, Bo r1, Bo r2])
  out : G[N + 1]? = some (.cells 52 [Bo y0, Bo y1, Bo y2])
  al : G[N + 2]? = some (.cells 52 [Bo true, Bo true, Bo true])
theorem FI.step {H G : Heap} {N : Nat} {y0 y1 y2 : Bool} (h : FI H N y0 y1 y2 G) (z0 z1 z2 : Bool) (b : DBlk) : FI H N z0 z1 z2 (G.set (N + 1) (.cells 52 [Bo z0, Bo z1, Bo z2]) ++ [b]) := by
  have hl := h.len
  refine ⟨by simp; omega, fun j hj => ?_, ?_, ?_, ?_⟩
  · rw [hp_get_left _ _ _ (by simp; omega), hp_set_ne _ _ _ _ (by omega)]; exact h.oth j hj
  · obtain ⟨r0, r1, r2, e⟩ := h.rt
    exact ⟨r0, r1, r2, by rw [hp_get_left _ _ _ (by simp; omega), hp_set_ne _ _ _ _ (by omega)]; exact e⟩
  · rw [hp_get_left _ _ _ (by simp; omega)]; exact hp_set_get _ _ _ (by omega)
  · rw [hp_get_left _ _ _ (by simp; omega), hp_set_ne _ _ _ _ (by omega)]; exact h.al
theorem FI.set {H G : Heap} {N : Nat} {y0 y1 y2 : Bool} (h : FI H N y0 y1 y2 G) (z0 z1 z2 : Bool) : FI H N z0 z1 z2 (G.set (N + 1) (.cells 52 [Bo z0, Bo z1, Bo z2])) := by
  have hl := h.len
  refine ⟨by simp; omega, fun j hj => ?_, ?_, ?_, ?_⟩
  · rw [hp_set_ne _ _ _ _ (by omega)]; exact h.oth j hj
  · obtain ⟨r0, r1, r2, e⟩ := h.rt
    exact ⟨r0, r1, r2, by rw [hp_set_ne _ _ _ _ (by omega)]; exact e⟩
  · exact hp_set_get _ _ _ (by omega)
  · rw [hp_set_ne _ _ _ _ (by omega)]; exact h.al
theorem FI.eq {H G : Heap} {N : Nat} {y0 y1 y2 z0 z1 z2 : Bool} (h : FI H N y0 y1 y2 G) (e0 : y0 = z0) (e1 : y1 = z1) (e2 : y2 = z2) : FI H N z0 z1 z2 G := by
  subst e0 e1 e2
  exact h
theorem rf_L1_0 (n fl : Nat) (hn : 1100 ≤ n) (L : List Q) (hL : L.length ≤ 100) (hq : ∀ q ∈ L, QOk q) (tl : Tag) (r : Int) {H : Heap} {k k0 k1 k2 : Nat} (hA : RA H k L.length k0 k1 k2 (L.map Q.x0) (L.map Q.x1) (L.map Q.x2)) (N : Nat) (hN : k < N ∧ k0 < N ∧ k1 < N ∧ k2 < N) (hfl : fl ≤ N) (y0 y1 y2 : Bool) : ∀ (w i : Nat) (G : Heap), L.length < w + i → i ≤ L.length → FI H N ((L.take i).all (Q.fin0 r)) y1 y2 G →
    ∃ G', (∀ K, s_triuneref13_Fine_L1 n fl K w (LV 5 ptE (L.map Q.p) tl) (.ptr k 0) (I .i64 r) (.ptr N 0) (.ptr (N + 1) 0) (.ptr (N + 2) 0) (I .i64 0) (I .i64 i) G = K (.exit 2) (s_triuneref13_Fine_O1 (LV 5 ptE (L.map Q.p) tl) (.ptr k 0) (I .i64 r) (.ptr N 0) (.ptr (N + 1) 0) (.ptr (N + 2) 0) (I .i64 0)) G') ∧ FI H N (L.all (Q.fin0 r)) y1 y2 G' := by
  intro w
  induction w with
  | zero => intro i G h; omega
  | succ w ih =>
    intro i G hw hi hG
    by_cases h : i < L.length
    · have hA' : RA G k L.length k0 k1 k2 (L.map Q.x0) (L.map Q.x1) (L.map Q.x2) := hA.same fun j h => hG.oth j (by omega)
      have st := fun K => rf_step0 n fl hn (L.map Q.p) tl r hA' i (by simpa using h) (by simp) hL L[i] (hq _ (List.getElem_mem h)) (by simp) (by simp [h]) (by simp [h]) (by simp [h]) (N + 1) (N + 2) _ _ _ hG.out hG.al (by omega) (.ptr N 0) w K
      obtain ⟨G', g1, g2⟩ := ih (i + 1) _ (by omega) (by omega) ((hG.step ((L.take i).all (Q.fin0 r) && L[i].fin0 r) y1 y2 (.cells 177 [I .u16 L[i].x0.v, I .i64 L[i].x0.r, Bo L[i].x0.is])).eq (take_all _ _ _ h).symm rfl rfl)
      refine ⟨G', fun K => ?_, g2⟩
      have g1' := g1 K
      have hi2 : ((i + 1 : Nat) : Int) = (i : Int) + 1 := by omega
      rw [hi2] at g1'
      exact (st K).trans g1'
    · have hi' : i = L.length := by omega
      subst hi'
      rw [List.take_length] at hG
      refine ⟨G, fun K => ?_, hG⟩
      rw [s_triuneref13_Fine_L1, s_triuneref13_Fine_B1]
      simp -implicitDefEqProofs (disch := first | omega | (simp only [List.length_set, List.length_append, List.length_cons, List.length_nil, List.length_take, List.length_drop, List.length_map]; omega) | simp) [wrap_i64, wrap_u16_id, wrap_u8_id, tdiv_pos, tmod_pos, -getElem?_pos, -getElem?_neg, -List.length_eq_zero_iff, -List.getElem_cons_drop]
theorem rf_L1_1 (n fl : Nat) (hn : 1100 ≤ n) (L : List Q) (hL : L.length ≤ 100) (hq : ∀ q ∈ L, QOk q) (tl : Tag) (r : Int) {H : Heap} {k k0 k1 k2 : Nat} (hA : RA H k L.length k0 k1 k2 (L.map Q.x0) (L.map Q.x1) (L.map Q.x2)) (N : Nat) (hN : k < N ∧ k0 < N ∧ k1 < N ∧ k2 < N) (hfl : fl ≤ N) (y0 y1 y2 : Bool) : ∀ (w i : Nat) (G : Heap), L.length < w + i → i ≤ L.length → FI H N y0 ((L.take i).all (Q.fin1 r)) y2 G →
    ∃ G', (∀ K, s_triuneref13_Fine_L1 n fl K w (LV 5 ptE (L.map Q.p) tl) (.ptr k 0) (I .i64 r) (.ptr N 0) (.ptr (N + 1) 0) (.ptr (N + 2) 0) (I .i64 1) (I .i64 i) G = K (.exit 2) (s_triuneref13_Fine_O1 (LV 5 ptE (L.map Q.p) tl) (.ptr k 0) (I .i64 r) (.ptr N 0) (.ptr (N + 1) 0) (.ptr (N + 2) 0) (I .i64 1)) G') ∧ FI H N y0 (L.all (Q.fin1 r)) y2 G' := by
  intro w
  induction w with
  | zero => intro i G h; omega
  | succ w ih =>
    intro i G hw hi hG
    by_cases h : i < L.length
    · have hA' : RA G k L.length k0 k1 k2 (L.map Q.x0) (L.map Q.x1) (L.map Q.x2) := hA.same fun j h => hG.oth j (by omega)
      have st := fun K => rf_step1 n fl hn (L.map Q.p) tl r hA' i (by simpa using h) (by simp) hL L[i] (hq _ (List.getElem_mem h)) (by simp) (by simp [h]) (by simp [h]) (by simp [h]) (N + 1) (N + 2) _ _ _ hG.out hG.al (by omega) (.ptr N 0) w K
      obtain ⟨G', g1, g2⟩ := ih (i + 1) _ (by omega) (by omega) ((hG.step y0 ((L.take i).all (Q.fin1 r) && L[i].fin1 r) y2 (.cells 177 [I .u16 L[i].x1.v, I .i64 L[i].x1.r, Bo L[i].x1.is])).eq rfl (take_all _ _ _ h).symm rfl)
      refine ⟨G', fun K => ?_, g2⟩
      have g1' := g1 K
      have hi2 : ((i + 1 : Nat) : Int) = (i : Int) + 1 := by omega
      rw [hi2] at g1'
      exact (st K).trans g1'
    · have hi' : i = L.length := by omega
      subst hi'
      rw [List.take_length] at hG
      refine ⟨G, fun K => ?_, hG⟩
      rw [s_triuneref13_Fine_L1, s_triuneref13_Fine_B1]
      simp -implicitDefEqProofs (disch := first | omega | (simp only [List.length_set, List.length_append, List.length_cons, List.length_nil, List.length_take, List.length_drop, List.length_map]; omega) | simp) [wrap_i64, wrap_u16_id, wrap_u8_id, tdiv_pos, tmod_pos, -getElem?_pos, -getElem?_neg, -List.length_eq_zero_iff, -List.getElem_cons_drop]
theorem rf_L1_2 (n fl : Nat) (hn : 1100 ≤ n) (L : List Q) (hL : L.length ≤ 100) (hq : ∀ q ∈ L, QOk q) (tl : Tag) (r : Int) {H : Heap} {k k0 k1 k2 : Nat} (hA : RA H k L.length k0 k1 k2 (L.map Q.x0) (L.map Q.x1) (L.map Q.x2)) (N : Nat) (hN : k < N ∧ k0 < N ∧ k1 < N ∧ k2 < N) (hfl : fl ≤ N) (y0 y1 y2 : Bool) : ∀ (w i : Nat) (G : Heap), L.length < w + i → i ≤ L.length → FI H N y0 y1 ((L.take i).all (Q.fin2 r)) G →
    ∃ G', (∀ K, s_triuneref13_Fine_L1 n fl K w (LV 5 ptE (L.map Q.p) tl) (.ptr k 0) (I .i64 r) (.ptr N 0) (.ptr (N + 1) 0) (.ptr (N + 2) 0) (I .i64 2) (I .i64 i) G = K (.exit 2) (s_triuneref13_Fine_O1 (LV 5 ptE (L.map Q.p) tl) (.ptr k 0) (I .i64 r) (.ptr N 0) (.ptr (N + 1) 0) (.ptr (N + 2) 0) (I .i64 2)) G') ∧ FI H N y0 y1 (L.all (Q.fin2 r)) G' := by
  intro w
  induction w with
  | zero => intro i G h; omega
  | succ w ih =>
    intro i G hw hi hG
    by_cases h : i < L.length
    · have hA' : RA G k L.length k0 k1 k2 (L.map Q.x0) (L.map Q.x1) (L.map Q.x2) := hA.same fun j h => hG.oth j (by omega)
      have st := fun K => rf_step2 n fl hn (L.map Q.p) tl r hA' i (by simpa using h) (by simp) hL L[i] (hq _ (List.getElem_mem h)) (by simp) (by simp [h]) (by simp [h]) (by simp [h]) (N + 1) (N + 2) _ _ _ hG.out hG.al (by omega) (.ptr N 0) w K
      obtain ⟨G', g1, g2⟩ := ih (i + 1) _ (by omega) (by omega) ((hG.step y0 y1 ((L.take i).all (Q.fin2 r) && L[i].fin2 r) (.cells 177 [I .u16 L[i].x2.v, I .i64 L[i].x2.r, Bo L[i].x2.is])).eq rfl rfl (take_all _ _ _ h).symm)
      refine ⟨G', fun K => ?_, g2⟩
      have g1' := g1 K
      have hi2 : ((i + 1 : Nat) : Int) = (i : Int) + 1 := by omega
      rw [hi2] at g1'
      exact (st K).trans g1'
    · have hi' : i = L.length := by omega
      subst hi'
      rw [List.take_length] at hG
      refine ⟨G, fun K => ?_, hG⟩
      rw [s_triuneref13_Fine_L1, s_triuneref13_Fine_B1]
      simp -implicitDefEqProofs (disch := first | omega | (simp only [List.length_set, List.length_append, List.length_cons, List.length_nil, List.length_take, List.length_drop, List.length_map]; omega) | simp) [wrap_i64, wrap_u16_id, wrap_u8_id, tdiv_pos, tmod_pos, -getElem?_pos, -getElem?_neg, -List.length_eq_zero_iff, -List.getElem_cons_drop]
theorem ref13_Fine_c (n : Nat) (hn : 1400 ≤ n) (L : List Q) (hL : L.length ≤ 100) (hq : ∀ q ∈ L, QOk q) (tl : Tag) (r : Int) {H : Heap} {k k0 k1 k2 : Nat} (hA : RA H k L.length k0 k1 k2 (L.map Q.x0) (L.map Q.x1) (L.map Q.x2)) :
    cO n 52 [LV 5 ptE (L.map Q.p) tl, .ptr k 0, I .i64 r] H = some (.agg [Bo (L.all (Q.fin0 r)), Bo (L.all (Q.fin1 r)), Bo (L.all (Q.fin2 r))]) := by
  obtain ⟨n, rfl⟩ : ∃ m, n = m + 5 := ⟨n - 5, by omega⟩
  have ck := hp_lt hA.b
  have c0 := hp_lt hA.r0
  have c1 := hp_lt hA.r1
  have c2 := hp_lt hA.r2
  have f0 : FI H H.length false false false (H ++ [DBlk.cells 52 [Bo false, Bo false, Bo false], DBlk.cells 52 [Bo false, Bo false, Bo false], DBlk.cells 52 [Bo true, Bo true, Bo true]]) :=
    ⟨by simp, fun j hj => hp_get_left _ _ _ hj, ⟨_, _, _, hp_get_0 _ _ _ _ rfl⟩, hp_get_1 _ _ _ _ _ rfl, hp_get_2 _ _ _ _ _ _ rfl⟩
  obtain ⟨G1, a1, b1⟩ := rf_L1_0 (n + 4) H.length (by omega) L hL hq tl r hA H.length ⟨ck, c0, c1, c2⟩ (by omega) true false false (n + 4) 0 _ (by omega) (by omega) (f0.set true false false)
  obtain ⟨G2, a2, b2⟩ := rf_L1_1 (n + 4) H.length (by omega) L hL hq tl r hA H.length ⟨ck, c0, c1, c2⟩ (by omega) (L.all (Q.fin0 r)) true false (n + 4) 0 _ (by omega) (by omega) (b1.set (L.all (Q.fin0 r)) true false)
  obtain ⟨G3, a3, b3⟩ := rf_L1_2 (n + 4) H.length (by omega) L hL hq tl r hA H.length ⟨ck, c0, c1, c2⟩ (by omega) (L.all (Q.fin0 r)) (L.all (Q.fin1 r)) true (n + 4) 0 _ (by omega) (by omega) (b2.set (L.all (Q.fin0 r)) (L.all (Q.fin1 r)) true)
  generalize L.all (Q.fin0 r) = z0 at *
  generalize L.all (Q.fin1 r) = z1 at *
  generalize L.all (Q.fin2 r) = z2 at *
  rw [hp_set_1 _ _ _ _ _ _ rfl] at a1
  have q1 := fun K => (s_triuneref13_Fine_L1_eq (n + 4) H.length K (n + 4) (LV 5 ptE (L.map Q.p) tl) (.ptr k 0) (I .i64 r) (.ptr H.length 0) (.ptr (H.length + 1) 0) (.ptr (H.length + 2) 0) (I .i64 0) (I .i64 0) _).trans (a1 K)
  have q2 := fun K => (s_triuneref13_Fine_L1_eq (n + 4) H.length K (n + 4) (LV 5 ptE (L.map Q.p) tl) (.ptr k 0) (I .i64 r) (.ptr H.length 0) (.ptr (H.length + 1) 0) (.ptr (H.length + 2) 0) (I .i64 1) (I .i64 0) _).trans (a2 K)
  have q3 := fun K => (s_triuneref13_Fine_L1_eq (n + 4) H.length K (n + 4) (LV 5 ptE (L.map Q.p) tl) (.ptr k 0) (I .i64 r) (.ptr H.length 0) (.ptr (H.length + 1) 0) (.ptr (H.length + 2) 0) (I .i64 2) (I .i64 0) _).trans (a3 K)
  have o1 := b1.out
  have o2 := b2.out
  have o3 := b3.out
  obtain ⟨r0, r1, r2, o4⟩ := b3.rt
  have l1 := b1.len
  have l2 := b2.len
  have l3 := b3.len
  have l0 : ∀ K, s_triuneref13_Fine_L0 (n + 4) H.length K (n + 4) (LV 5 ptE (L.map Q.p) tl) (.ptr k 0) (I .i64 r) (.ptr H.length 0) (.ptr (H.length + 1) 0) (.ptr (H.length + 2) 0) (I .i64 0) (H ++ [DBlk.cells 52 [Bo false, Bo false, Bo false], DBlk.cells 52 [Bo false, Bo false, Bo false], DBlk.cells 52 [Bo true, Bo true, Bo true]]) = K (.exit 0) (s_triuneref13_Fine_O0 (.ptr H.length 0) (.ptr (H.length + 1) 0)) G3 := by
    intro K
    simp -implicitDefEqProofs (disch := first | omega | (simp only [List.length_set, List.length_append, List.length_cons, List.length_nil, List.length_take, List.length_drop, List.length_map]; omega) | simp) [wrap_i64, wrap_u16_id, wrap_u8_id, tdiv_pos, tmod_pos, -getElem?_pos, -getElem?_neg, -List.length_eq_zero_iff, -List.getElem_cons_drop, -List.set_append_right, s_triuneref13_Fine_L0, s_triuneref13_Fine_B0, idxArr_k, q1, q2, q3, s_triuneref13_Fine_O1, o1, o2]
  have lq0 := fun K => (s_triuneref13_Fine_L0_eq (n + 4) H.length K (n + 4) (LV 5 ptE (L.map Q.p) tl) (.ptr k 0) (I .i64 r) (.ptr H.length 0) (.ptr (H.length + 1) 0) (.ptr (H.length + 2) 0) (I .i64 0) (H ++ [DBlk.cells 52 [Bo false, Bo false, Bo false], DBlk.cells 52 [Bo false, Bo false, Bo false], DBlk.cells 52 [Bo true, Bo true, Bo true]])).trans (l0 K)
  exact cO_of (r := .agg [Bo z0, Bo z1, Bo z2]) (H' := G3.set H.length (.cells 52 [Bo z0, Bo z1, Bo z2])) ((s_triuneref13_Fine_eq _ _ _ _ _ _).trans (by unfold s_triuneref13_Fine; simp -implicitDefEqProofs (disch := first | omega | (simp only [List.length_set, List.length_append, List.length_cons, List.length_nil, List.length_take, List.length_drop, List.length_map]; omega) | simp) [wrap_i64, wrap_u16_id, wrap_u8_id, tdiv_pos, tmod_pos, -getElem?_pos, -getElem?_neg, -List.length_eq_zero_iff, -List.getElem_cons_drop, -List.set_append_right, lq0, s_triuneref13_Fine_O0, o3, o4] <;> first | rfl | exact ⟨rfl, rfl⟩)) (by simp)
end Go.Proofs.Ytbhnkdnfmlnajaa

/- Go functions as Lean functions on deep values; printed by a program of mine. -/
namespace Go.Proofs.Ytbhnkdnfmlnajaa
open Go
set_option maxRecDepth 100000
set_option linter.unusedVariables false
/-! triune/triuneref02.Same -/
def s_triuneref02_Same_I0 (x0 x1 x5 : DV) : List DV := [x0, x1, .any, .any, .any, x5, .any, .any, .any, .any, .any, .any, .any, .any, .any, .any, .any, .any, .any, .any, .any, .any, .any, .any, .any, .any]
def s_triuneref02_Same_O0 (x4 : DV) : List DV := [.any, .any, .any, .any, x4, .any, .any, .any, .any, .any, .any, .any, .any, .any, .any, .any, .any, .any, .any, .any, .any, .any, .any, .any, .any, .any]
noncomputable abbrev s_triuneref02_Same_b0 (n fl : Nat) : List DV → Heap → (Ex → KF) → R := execG ⟨Try.prog, callG Try.prog ENV n, ENV.md, fl, 26⟩ n (loopAt (bodyOf Try.f48) 0) []
noncomputable def s_triuneref02_Same_B0 (n fl : Nat) (rec : DV → DV → DV → Heap → R) (k : Ex → KF) (x0 x1 x5 : DV) (H : Heap) : R :=
  bi (lenD x0) fun d0 =>
  bi (ltK .i64 x5 d0) fun d1 =>
  condR d1 (
  bi (idxSl 1 x0 x5) fun d2 =>
  bi (loadG false 1 d2 H) fun d3 =>
  bi (idxSl 1 x1 x5) fun d4 =>
  bi (loadG false 1 d4 H) fun d5 =>
  bi (neK .u16 d3 d5) fun d6 =>
  condR d6 (
  k .ret (s_triuneref02_Same_O0 (Bo false)) H) (
  bi (addK .i64 x5 (I .i64 1)) fun d7 =>
  rec x0 x1 d7 H)) (
  k (.exit 0) (s_triuneref02_Same_O0 .any) H)
noncomputable def s_triuneref02_Same_L0 (n fl : Nat) (k : Ex → KF) : Nat → DV → DV → DV → Heap → R
  | 0, _, _, _, _ => none
  | m + 1, x0, x1, x5, H => s_triuneref02_Same_B0 n fl (s_triuneref02_Same_L0 n fl k m) k x0 x1 x5 H
theorem s_triuneref02_Same_S0 (n fl m : Nat) (k : Ex → KF) (x0 x1 x5 : DV) (H : Heap) : loopG [0, 1, 5] [4] 26 (s_triuneref02_Same_b0 n fl) (m + 1) (s_triuneref02_Same_I0 x0 x1 x5) H k = s_triuneref02_Same_B0 n fl (fun x0 x1 x5 H => loopG [0, 1, 5] [4] 26 (s_triuneref02_Same_b0 n fl) m (s_triuneref02_Same_I0 x0 x1 x5) H k) k x0 x1 x5 H := by kernel_rfl
theorem s_triuneref02_Same_L0_eq (n fl : Nat) (k : Ex → KF) : ∀ (m : Nat) (x0 x1 x5 : DV) (H : Heap), loopG [0, 1, 5] [4] 26 (s_triuneref02_Same_b0 n fl) m (s_triuneref02_Same_I0 x0 x1 x5) H k = s_triuneref02_Same_L0 n fl k m x0 x1 x5 H := by
  intro m
  induction m with
  | zero => intros; rfl
  | succ m ih =>
    intro x0 x1 x5 H
    rw [s_triuneref02_Same_S0, show (fun x0 x1 x5 H => loopG [0, 1, 5] [4] 26 (s_triuneref02_Same_b0 n fl) m (s_triuneref02_Same_I0 x0 x1 x5) H k) = s_triuneref02_Same_L0 n fl k m from by funext x0 x1 x5 H; exact ih _ _ _ _]
    rw [s_triuneref02_Same_L0]
noncomputable def s_triuneref02_Same (n : Nat) (H : Heap) (fl : Nat) (a0 a1 : DV) : R :=
  bi (lenD a0) fun d0 =>
  bi (lenD a1) fun d1 =>
  bi (neK .i64 d0 d1) fun d2 =>
  condR d2 (
  some ((Bo false), H)) (
  loopG [0, 1, 5] [4] 26 (s_triuneref02_Same_b0 n fl) n (s_triuneref02_Same_I0 a0 a1 (I .i64 0)) H fun x S3 h3 => match x with
  | .normal => none
  | .exit i3 => (
  if i3 = 0 then (
  some ((Bo true), h3)) else (
  none))
  | .ret => (
  some ((S3.getD 4 .any), h3)))
theorem s_triuneref02_Same_eq (n : Nat) (H : Heap) (fl : Nat) (a0 a1 : DV) : callG Try.prog ENV (n + 1) 48 [a0, a1] H fl = s_triuneref02_Same n H fl a0 a1 := by kernel_rfl

end Go.Proofs.Ytbhnkdnfmlnajaa

/- Are bytes the same? -/
namespace Go.Proofs.Ytbhnkdnfmlnajaa
open Go
set_option linter.unusedSimpArgs false
theorem ref02_Same_L (n fl : Nat) (k : Ex → KF) (l1 l2 : List Int) (hl : l1.length = l2.length) (hl1 : l1.length ≤ 1000000) : ∀ (m i : Nat) (H : Heap), l1.length < m + i → i ≤ l1.length →
    s_triuneref02_Same_L0 n fl k m (LV 1 (I .u16) l1 .sh) (LV 1 (I .u16) l2 .sh) (I .i64 i) H = if l1.drop i = l2.drop i then k (.exit 0) (s_triuneref02_Same_O0 .any) H else k .ret (s_triuneref02_Same_O0 (Bo false)) H := by
  intro m
  induction m with
  | zero => intro i H h; omega
  | succ m ih =>
    intro i H hm hi
    unfold s_triuneref02_Same_L0 s_triuneref02_Same_B0
    by_cases h : i < l1.length
    · have d1 : l1.drop i = l1[i] :: l1.drop (i + 1) := List.drop_eq_getElem_cons h
      have d2 : l2.drop i = l2[i] :: l2.drop (i + 1) := List.drop_eq_getElem_cons (by omega)
      have h' : i < l2.length := by omega
      rw [d1, d2]
      by_cases e : l1[i] = l2[i]
      · have ih' := ih (i + 1) H (by omega) (by omega)
        have hi2 : ((i + 1 : Nat) : Int) = (i : Int) + 1 := by omega
        rw [hi2] at ih'
        simp -implicitDefEqProofs (disch := first | omega | (simp only [List.length_set, List.length_append, List.length_cons, List.length_nil, List.length_take, List.length_drop, List.length_map]; omega) | simp) [wrap_i64, wrap_u16_id, wrap_u8_id, tdiv_pos, tmod_pos, -getElem?_pos, -getElem?_neg, -List.length_eq_zero_iff, -List.getElem_cons_drop, h, h', e, ih']
      · simp -implicitDefEqProofs (disch := first | omega | (simp only [List.length_set, List.length_append, List.length_cons, List.length_nil, List.length_take, List.length_drop, List.length_map]; omega) | simp) [wrap_i64, wrap_u16_id, wrap_u8_id, tdiv_pos, tmod_pos, -getElem?_pos, -getElem?_neg, -List.length_eq_zero_iff, -List.getElem_cons_drop, h, h', e]
    · have d1 : l1.drop i = [] := by simp; omega
      have d2 : l2.drop i = [] := by simp; omega
      rw [d1, d2, if_pos rfl]
      simp -implicitDefEqProofs (disch := first | omega | (simp only [List.length_set, List.length_append, List.length_cons, List.length_nil, List.length_take, List.length_drop, List.length_map]; omega) | simp) [wrap_i64, wrap_u16_id, wrap_u8_id, tdiv_pos, tmod_pos, -getElem?_pos, -getElem?_neg, -List.length_eq_zero_iff, -List.getElem_cons_drop, h]
theorem ref02_Same_c (n : Nat) (l1 l2 : List Int) (t1 t2 : Tag) (hl1 : l1.length ≤ 1000000) (hn : l1.length + 2 ≤ n) : cP n 48 false [LV 1 (I .u16) l1 t1, LV 1 (I .u16) l2 t2] = some (Bo (decide (l1 = l2))) := by
  obtain ⟨n, rfl⟩ : ∃ m, n = m + 1 := ⟨n - 1, by omega⟩
  by_cases hl : l1.length = l2.length
  · by_cases e : l1 = l2
    · refine cP_of (args' := [LV 1 (I .u16) l1 .sh, LV 1 (I .u16) l2 .sh]) (by simp [argEl_eq]) ((s_triuneref02_Same_eq _ _ _ _ _).trans (by unfold s_triuneref02_Same; simp -implicitDefEqProofs (disch := first | omega | (simp only [List.length_set, List.length_append, List.length_cons, List.length_nil, List.length_take, List.length_drop, List.length_map]; omega) | simp) [wrap_i64, wrap_u16_id, wrap_u8_id, tdiv_pos, tmod_pos, -getElem?_pos, -getElem?_neg, -List.length_eq_zero_iff, -List.getElem_cons_drop, hl]; rw [s_triuneref02_Same_L0_eq]; erw [ref02_Same_L n 0 _ l1 l2 hl hl1 n 0 [] (by omega) (by omega)]; rw [if_pos (by simp [e])]; first | done | exact rfl)) ?_
      simp [e]
    · refine cP_of (args' := [LV 1 (I .u16) l1 .sh, LV 1 (I .u16) l2 .sh]) (by simp [argEl_eq]) ((s_triuneref02_Same_eq _ _ _ _ _).trans (by unfold s_triuneref02_Same; simp -implicitDefEqProofs (disch := first | omega | (simp only [List.length_set, List.length_append, List.length_cons, List.length_nil, List.length_take, List.length_drop, List.length_map]; omega) | simp) [wrap_i64, wrap_u16_id, wrap_u8_id, tdiv_pos, tmod_pos, -getElem?_pos, -getElem?_neg, -List.length_eq_zero_iff, -List.getElem_cons_drop, hl]; rw [s_triuneref02_Same_L0_eq]; erw [ref02_Same_L n 0 _ l1 l2 hl hl1 n 0 [] (by omega) (by omega)]; rw [if_neg (by simpa using e)]; first | done | exact rfl)) ?_
      simp [e, s_triuneref02_Same_O0]
  · have e : ¬ l1 = l2 := fun h => hl (by rw [h])
    refine cP_of (args' := [LV 1 (I .u16) l1 .sh, LV 1 (I .u16) l2 .sh]) (by simp [argEl_eq]) ((s_triuneref02_Same_eq _ _ _ _ _).trans (by unfold s_triuneref02_Same; simp -implicitDefEqProofs (disch := first | omega | (simp only [List.length_set, List.length_append, List.length_cons, List.length_nil, List.length_take, List.length_drop, List.length_map]; omega) | simp) [wrap_i64, wrap_u16_id, wrap_u8_id, tdiv_pos, tmod_pos, -getElem?_pos, -getElem?_neg, -List.length_eq_zero_iff, -List.getElem_cons_drop, hl]; first | exact rfl | exact ⟨rfl, rfl⟩)) ?_
    simp [e]
end Go.Proofs.Ytbhnkdnfmlnajaa

/- The law's program is awake. -/
namespace Go.Proofs.Ytbhnkdnfmlnajaa
open Go
set_option maxRecDepth 100000
theorem awake13 : cP 19999 44 false [] = some (Bo true) := by kernel_rfl
end Go.Proofs.Ytbhnkdnfmlnajaa
