/- The law JudgeTells. -/
import Derived.Test.YtbhnkdnfmlnajaaFLJudgeTells
import Derived.Test.YtbhnkdnfmlnajaaKT8
-- NEEDS: triunelaw13.JudgeTells
namespace Go.Proofs.Ytbhnkdnfmlnajaa
open Go
set_option linter.unusedSimpArgs false
set_option linter.unusedVariables false
set_option maxRecDepth 100000
theorem JudgeTells_run (n : Nat) (up : cP n 44 false [] = some (Bo true)) (hn : 3000 ≤ n) (ps : List Pt) (hpl : ps.length ≤ 140737488355328) (c0 c1 c2 : List (Int × Int)) (w0 : Wd c0) (w1 : Wd c1) (w2 : Wd c2) (hl0 : c0.length ≤ 140737488355328) (hl1 : c1.length ≤ 140737488355328) (hl2 : c2.length ≤ 140737488355328) (b0 b1 b2 : Bool) :
    ∃ H', s_triunelaw13_JudgeTells n [] 0 (LV 5 ptE ps .sh) (.agg [LV 2 clE c0 .sh, LV 2 clE c1 .sh, LV 2 clE c2 .sh]) (.agg [Bo b0, Bo b1, Bo b2]) = some (Bo true, H') := by
  obtain ⟨B, m1, m2⟩ := May_c n ps .sh hpl (by omega)
  have lf : ∀ (c : List (Int × Int)) t, (LV 2 clE c t).leaf = true := fun c t => by cases c <;> rfl
  cases B with
  | false => exact ⟨_, by unfold s_triunelaw13_JudgeTells; simp -implicitDefEqProofs (disch := first | omega | (simp only [List.length_set, List.length_append, List.length_cons, List.length_nil, List.length_take, List.length_drop, List.length_map]; omega) | simp) [wrap_i64, wrap_u16_id, wrap_u8_id, tdiv_pos, tmod_pos, -getElem?_pos, -getElem?_neg, -List.length_eq_zero_iff, -List.getElem_cons_drop, up, m1, lf]; first | rfl | exact ⟨rfl, rfl⟩⟩
  | true =>
    obtain ⟨⟨hp1, hp48⟩, hpm, _⟩ := m2 rfl
    clear m2
    by_cases e1 : (200 : Int) < (c0.length : Int) + c1.length + c2.length
    · exact ⟨_, by unfold s_triunelaw13_JudgeTells; simp -implicitDefEqProofs (disch := first | omega | (simp only [List.length_set, List.length_append, List.length_cons, List.length_nil, List.length_take, List.length_drop, List.length_map]; omega) | simp) [wrap_i64, wrap_u16_id, wrap_u8_id, tdiv_pos, tmod_pos, -getElem?_pos, -getElem?_neg, -List.length_eq_zero_iff, -List.getElem_cons_drop, up, m1, lf, e1]; first | rfl | exact ⟨rfl, rfl⟩⟩
    · have hw0 : WfH ([bxB c0 c1 c2 .sh .sh .sh] ++ [.cells 52 ([b0, b1, b2].map Bo)]) := wf_bools (bxB_wf c0 c1 c2) _ _
      obtain ⟨G, i1, i2⟩ := images_c n (by omega) hw0 0 ps.length (by omega) hp1 hp48 ps rfl .sh 7 c0 c1 c2 .sh .sh .sh (inSc_LV_sh _ _ _ _) (inSc_LV_sh _ _ _ _) (inSc_LV_sh _ _ _ _)
      obtain ⟨L, q1, q2, q3, q4, q5⟩ := mkQ ps.length ps (smF 7 ps.length c0) (smF 7 ps.length c1) (smF 7 ps.length c2) rfl (smF_len _ _ _) (smF_len _ _ _) (smF_len _ _ _)
      have hq := qok_of q2 q3 q4 q5 hpm (smF_ok 7 _ _ w0) (smF_ok 7 _ _ w1) (smF_ok 7 _ _ w2)
      have hA : IA G 3 L.length 4 5 6 (L.map Q.x0) (L.map Q.x1) (L.map Q.x2) := by rw [q1, q3, q4, q5]; exact i2.ia
      have hB : RA G 7 L.length 8 9 10 (L.map Q.x0) (L.map Q.x1) (L.map Q.x2) := by rw [q1, q3, q4, q5]; exact i2.ra
      have gl := i2.len
      have hbx : G[1]? = some (.cells 52 [Bo b0, Bo b1, Bo b2]) := i2.oth 1 (by simp)
      simp only [bxB, List.map_cons, List.map_nil, List.length_cons, List.length_nil, List.cons_append, List.nil_append, Nat.zero_add, Nat.reduceAdd] at i1 gl
      have hR := Round_c n (by omega) L (by omega) hq .sh 7 b0 b1 b2 (wf_hole i2.wf) (hA.app [.hole])
      have hR2 := fun b => ref13_Round_c n (by omega) L (by omega) hq .sh 7 b0 b1 b2 (hB.app [DBlk.cells 110 b, .hole])
      have wf2 := fun (l m : List Bool) => wf_bools (wf_bools i2.wf 110 l) 52 m
      have hF := fun (l m : List Bool) => Fine_c n (by omega) L (by omega) hq .sh 7 (wf2 l m) ((hA.app [.cells 110 (l.map Bo)]).app [.cells 52 (m.map Bo)])
      have hF2 := fun (l m : List Bool) => ref13_Fine_c n (by omega) L (by omega) hq .sh 7 ((hB.app [.cells 110 (l.map Bo)]).app [.cells 52 (m.map Bo)])
      have hV := fun (l m : List Bool) => Voted_c n (by omega) L (by omega) hq .sh 7 b0 b1 b2 (wf2 l m) ((hA.app [.cells 110 (l.map Bo)]).app [.cells 52 (m.map Bo)])
      have hV2 := fun (l m : List Bool) => ref13_Voted_c n (by omega) L (by omega) hq .sh 7 b0 b1 b2 ((hB.app [.cells 110 (l.map Bo)]).app [.cells 52 (m.map Bo)])
      have hS := fun t t2 => ref02_Same_c n (L.map (Q.vot 7 b0 b1 b2)) (L.map (Q.vot 7 b0 b1 b2)) t t2 (by simp; omega) (by simp; omega)
      simp only [decide_true] at hS
      rw [q2] at hR hF hF2 hV hV2 hR2
      generalize L.map (Q.vot 7 b0 b1 b2) = vt at *
      generalize L.all (Q.fin0 7) = F0 at *
      generalize L.all (Q.fin1 7) = F1 at *
      generalize L.all (Q.fin2 7) = F2 at *
      generalize L.any (Q.bad0 7 b0 b1 b2) = B0 at *
      generalize L.any (Q.bad1 7 b0 b1 b2) = B1 at *
      generalize L.any (Q.bad2 7 b0 b1 b2) = B2 at *
      generalize L.any (Q.spl 7 b0 b1 b2) = sp at *
      have hF' := hF [B0, B1, B2, sp] [B0, B1, B2]
      have hF2' := hF2 [B0, B1, B2, sp] [B0, B1, B2]
      obtain ⟨t1, ht1, hV'⟩ := hV [B0, B1, B2, sp] [B0, B1, B2]
      obtain ⟨t2, ht2, hV2'⟩ := hV2 [B0, B1, B2, sp] [B0, B1, B2]
      clear hF hF2 hV hV2 wf2
      simp only [List.map_cons, List.map_nil, List.append_assoc, List.cons_append, List.nil_append] at hF' hF2' hV' hV2'
      have p1 := fun x y k o => binD_ptr_nil (t := 105) (e := 186) Try.underlying105 x y k o
      have p2 := fun x y k o => binD_ptr_nil (t := 106) (e := 199) Try.underlying106 x y k o
      have eb := fun a b c x y => eql_b3 a b c a b c x y
      exact ⟨_, by unfold s_triunelaw13_JudgeTells; simp -implicitDefEqProofs (disch := first | omega | (simp only [List.length_set, List.length_append, List.length_cons, List.length_nil, List.length_take, List.length_drop, List.length_map]; omega) | simp) [wrap_i64, wrap_u16_id, wrap_u8_id, tdiv_pos, tmod_pos, -getElem?_pos, -getElem?_neg, -List.length_eq_zero_iff, -List.getElem_cons_drop, -List.set_append_right, up, m1, lf, e1, i1, p1, p2, hbx, hR, hR2, hF', hF2', hV', hV2', hS, eb]; first | rfl | exact ⟨rfl, rfl⟩⟩
theorem JudgeTells_all (e0 e1 e2 : List DV) (h0 : Shp Try.prog 8 41 e0) (h1 : Shp Try.prog 8 104 e1) (h2 : Shp Try.prog 8 52 e2) :
    ∃ H', callG Try.prog ENV 20000 8 [elOf (isAgT Try.prog 41) e0, elOf (isAgT Try.prog 104) e1, elOf (isAgT Try.prog 52) e2] [] 0 = some (.flat (.bool true), H') := by
  obtain ⟨ps, r0, hl⟩ := jshp_pts h0
  obtain ⟨c0, c1, c2, r1, w0, w1, w2⟩ := jshp_c3 h1
  obtain ⟨b0, b1, b2, r2⟩ := jshp_b3 h2
  obtain ⟨H', h⟩ := JudgeTells_run 19999 awake13 (by omega) ps hl c0 c1 c2 w0.1 w1.1 w2.1 w0.2 w1.2 w2.2 b0 b1 b2
  rw [r0, r1, r2]
  exact ⟨H', (s_triunelaw13_JudgeTells_eq 19999 [] 0 _ _ _).trans h⟩
end Go.Proofs.Ytbhnkdnfmlnajaa
