/- The law JudgeFine. -/
import Derived.Test.YtbhnkdnfmlnajaaFLJudgeFine
import Derived.Test.YtbhnkdnfmlnajaaKJ7
-- NEEDS: triunelaw13.JudgeFine
namespace Go.Proofs.Ytbhnkdnfmlnajaa
open Go
set_option linter.unusedSimpArgs false
set_option linter.unusedVariables false
set_option maxRecDepth 100000
theorem buildL_cl (a b : Int) : buildL true 2 1 (.agg [I .u16 0, I .i64 0]) [(0, .agg [I .u16 a, I .i64 b])] = some (LV 2 clE [(a, b)] .ti) := by kernel_rfl
theorem goodF_L (n fl n0 : Nat) (hn0 : fl ≤ n0) (ps : List Pt) (vs : List Int) (hw : Words vs) (hpv : ps.length ≤ vs.length) (hv : vs.length ≤ 100) (tp tv : Tag) (x7 : DV) : ∀ (q i : Nat) (t : Tag) (H : Heap), ps.length < q + i → i ≤ ps.length → TgOk t 121 2 n0 i H → n0 ≤ H.length → WfH H →
    ∃ t' H', (∀ K, s_triunelaw13_JudgeFine_L1 n fl K q (LV 5 ptE ps tp) (LV 1 (I .u16) vs tv) x7 (LV 2 clE ((goodL ps vs).take i) t) (I .i64 i) H = K (.exit 2) (s_triunelaw13_JudgeFine_O1 (LV 5 ptE ps tp) x7 (LV 2 clE (goodL ps vs) t')) H') ∧ TgOk t' 121 2 n0 ps.length H' ∧ H.length ≤ H'.length ∧ (∀ j, j < n0 → H'[j]? = H[j]?) ∧ WfH H' := by
  intro q
  have hgl := goodL_len ps vs hpv
  induction q with
  | zero => intro i t H h; omega
  | succ q ih =>
    intro i t H hq hi ht hfl hwf
    by_cases h : i < ps.length
    · have hvi : i < vs.length := by omega
      have hg : i < (goodL ps vs).length := by omega
      have eg := goodL_get ps vs i h hvi hg
      have hwv := hw _ (List.getElem_mem hvi)
      obtain ⟨t3, H3, ha, ht3, hl3, hj3, hw3, _⟩ := appG_fr (e := 121) (ag := true) (sz := 2) (by_ := 16) (n0 := n0) (enc := clE) (xs := (goodL ps vs).take i) (ys := [(goodL ps vs)[i]]) (t := t) (t' := .ti) (H := H) (fl := fl) hn0 hfl (by simpa [Nat.min_eq_left (by omega : i ≤ (goodL ps vs).length)] using ht) (by simp) rfl (by simp; omega) (by simp; omega)
      have htk : (goodL ps vs).take i ++ [(goodL ps vs)[i]] = (goodL ps vs).take (i + 1) := by rw [List.take_succ_eq_append_getElem hg]
      rw [htk] at ha ht3
      obtain ⟨t', H', g1, g2, g3, g4, g5⟩ := ih (i + 1) t3 H3 (by omega) (by omega) (by simpa [Nat.min_eq_left (by omega : i + 1 ≤ (goodL ps vs).length)] using ht3) (by omega) (hw3 hwf)
      refine ⟨t', H', fun K => ?_, g2, by omega, fun j hj => by rw [g4 j hj, hj3 j hj], g5⟩
      have g1' := g1 K
      have hi2 : ((i + 1 : Nat) : Int) = (i : Int) + 1 := by omega
      rw [hi2] at g1'
      rw [eg] at ha
      have hlt : (i : Int) < (ps.length : Int) := by omega
      have b1 := buildL_cl vs[i] 0
      have b2 := buildL_cl (vs[i] % 2) 0
      rw [s_triunelaw13_JudgeFine_L1, s_triunelaw13_JudgeFine_B1]
      by_cases hk : 2 ≤ ps[i].kind
      · have e : gv ps[i] vs[i] = vs[i] % 2 := if_pos hk
        rw [e] at ha
        simp -implicitDefEqProofs (disch := first | omega | (simp only [List.length_set, List.length_append, List.length_cons, List.length_nil, List.length_take, List.length_drop, List.length_map]; omega) | simp) [wrap_i64, wrap_u16_id, wrap_u8_id, tdiv_pos, tmod_pos, -getElem?_pos, -getElem?_neg, -List.length_eq_zero_iff, -List.getElem_cons_drop, h, hvi, hlt, ptE_cells, hk, b1, b2, ha, g1']
      · have e : gv ps[i] vs[i] = vs[i] := if_neg hk
        rw [e] at ha
        simp -implicitDefEqProofs (disch := first | omega | (simp only [List.length_set, List.length_append, List.length_cons, List.length_nil, List.length_take, List.length_drop, List.length_map]; omega) | simp) [wrap_i64, wrap_u16_id, wrap_u8_id, tdiv_pos, tmod_pos, -getElem?_pos, -getElem?_neg, -List.length_eq_zero_iff, -List.getElem_cons_drop, h, hvi, hlt, ptE_cells, hk, b1, b2, ha, g1']
    · have hi' : i = ps.length := by omega
      subst hi'
      refine ⟨t, H, fun K => ?_, ht, Nat.le_refl _, fun _ _ => rfl, hwf⟩
      rw [s_triunelaw13_JudgeFine_L1, s_triunelaw13_JudgeFine_B1, ← hgl, List.take_length, hgl]
      simp -implicitDefEqProofs (disch := first | omega | (simp only [List.length_set, List.length_append, List.length_cons, List.length_nil, List.length_take, List.length_drop, List.length_map]; omega) | simp) [wrap_i64, wrap_u16_id, wrap_u8_id, tdiv_pos, tmod_pos, -getElem?_pos, -getElem?_neg, -List.length_eq_zero_iff, -List.getElem_cons_drop]
theorem fineF_step (n fl : Nat) (K : Ex → KF) (q : Nat) (x0 x2 x7 : DV) (H : Heap) (ki kv kf : Nat) (c : Int) (hc : 0 ≤ c ∧ c < 3) (F B W : Bool) (lf : loadG false 1 (.ptr kf c.toNat) H = some (Bo F)) (lv : loadG false 1 (.ptr kv c.toNat) H = some (Bo B)) (hW : cO n 53 [.ptr ki 0, I .i64 c, I .i64 7] H = some (Bo W)) (h1 : (F && B) = false) (h2 : W = true ∨ (F = false ∧ B = true)) :
    s_triunelaw13_JudgeFine_L0 n fl K (q + 1) x0 x2 x7 (.ptr ki 0) (.ptr kv 0) (.ptr kf 0) (I .i64 c) H = s_triunelaw13_JudgeFine_L0 n fl K q x0 x2 x7 (.ptr ki 0) (.ptr kv 0) (.ptr kf 0) (I .i64 (c + 1)) H := by
  rw [s_triunelaw13_JudgeFine_L0, s_triunelaw13_JudgeFine_B0]
  cases F <;> cases B <;> cases W <;> first
    | (exfalso; revert h1 h2; decide)
    | simp -implicitDefEqProofs (disch := first | omega | (simp only [List.length_set, List.length_append, List.length_cons, List.length_nil, List.length_take, List.length_drop, List.length_map]; omega) | simp) [wrap_i64, wrap_u16_id, wrap_u8_id, tdiv_pos, tmod_pos, -getElem?_pos, -getElem?_neg, -List.length_eq_zero_iff, -List.getElem_cons_drop, -loadG_ptr, hc, lf, lv, hW, idxArr_k]
theorem JudgeFine_run (n : Nat) (up : cP n 44 false [] = some (Bo true)) (hn : 3000 ≤ n) (ps : List Pt) (hpl : ps.length ≤ 140737488355328) (c0 c1 c2 : List (Int × Int)) (w0 : Wd c0) (w1 : Wd c1) (w2 : Wd c2) (hl0 : c0.length ≤ 140737488355328) (hl1 : c1.length ≤ 140737488355328) (hl2 : c2.length ≤ 140737488355328) (vs : List Int) (hv : Words vs) :
    ∃ H', s_triunelaw13_JudgeFine n [] 0 (LV 5 ptE ps .sh) (.agg [LV 2 clE c0 .sh, LV 2 clE c1 .sh, LV 2 clE c2 .sh]) (LV 1 (I .u16) vs .sh) = some (Bo true, H') := by
  obtain ⟨B, m1, m2⟩ := May_c n ps .sh hpl (by omega)
  have lf : ∀ (c : List (Int × Int)) t, (LV 2 clE c t).leaf = true := fun c t => by cases c <;> rfl
  cases B with
  | false => exact ⟨_, by unfold s_triunelaw13_JudgeFine; simp -implicitDefEqProofs (disch := first | omega | (simp only [List.length_set, List.length_append, List.length_cons, List.length_nil, List.length_take, List.length_drop, List.length_map]; omega) | simp) [wrap_i64, wrap_u16_id, wrap_u8_id, tdiv_pos, tmod_pos, -getElem?_pos, -getElem?_neg, -List.length_eq_zero_iff, -List.getElem_cons_drop, up, m1, lf]; first | rfl | exact ⟨rfl, rfl⟩⟩
  | true =>
    obtain ⟨⟨hp1, hp48⟩, hpm, _⟩ := m2 rfl
    clear m2
    by_cases e1 : (200 : Int) < (c0.length : Int) + c1.length + c2.length
    · exact ⟨_, by unfold s_triunelaw13_JudgeFine; simp -implicitDefEqProofs (disch := first | omega | (simp only [List.length_set, List.length_append, List.length_cons, List.length_nil, List.length_take, List.length_drop, List.length_map]; omega) | simp) [wrap_i64, wrap_u16_id, wrap_u8_id, tdiv_pos, tmod_pos, -getElem?_pos, -getElem?_neg, -List.length_eq_zero_iff, -List.getElem_cons_drop, up, m1, lf, e1]; first | rfl | exact ⟨rfl, rfl⟩⟩
    · by_cases e2 : (vs.length : Int) < (ps.length : Int)
      · exact ⟨_, by unfold s_triunelaw13_JudgeFine; simp -implicitDefEqProofs (disch := first | omega | (simp only [List.length_set, List.length_append, List.length_cons, List.length_nil, List.length_take, List.length_drop, List.length_map]; omega) | simp) [wrap_i64, wrap_u16_id, wrap_u8_id, tdiv_pos, tmod_pos, -getElem?_pos, -getElem?_neg, -List.length_eq_zero_iff, -List.getElem_cons_drop, up, m1, lf, e1, e2]; first | rfl | exact ⟨rfl, rfl⟩⟩
      · by_cases e3 : (100 : Int) < (vs.length : Int)
        · exact ⟨_, by unfold s_triunelaw13_JudgeFine; simp -implicitDefEqProofs (disch := first | omega | (simp only [List.length_set, List.length_append, List.length_cons, List.length_nil, List.length_take, List.length_drop, List.length_map]; omega) | simp) [wrap_i64, wrap_u16_id, wrap_u8_id, tdiv_pos, tmod_pos, -getElem?_pos, -getElem?_neg, -List.length_eq_zero_iff, -List.getElem_cons_drop, up, m1, lf, e1, e2, e3]; first | rfl | exact ⟨rfl, rfl⟩⟩
        · obtain ⟨G, i1, i2⟩ := images_c n (by omega) (bxB_wf c0 c1 c2) 0 ps.length (by omega) hp1 hp48 ps rfl .sh 7 c0 c1 c2 .sh .sh .sh (inSc_LV_sh _ _ _ _) (inSc_LV_sh _ _ _ _) (inSc_LV_sh _ _ _ _)
          obtain ⟨L, q1, q2, q3, q4, q5⟩ := mkQ ps.length ps (smF 7 ps.length c0) (smF 7 ps.length c1) (smF 7 ps.length c2) rfl (smF_len _ _ _) (smF_len _ _ _) (smF_len _ _ _)
          have hq := qok_of q2 q3 q4 q5 hpm (smF_ok 7 _ _ w0) (smF_ok 7 _ _ w1) (smF_ok 7 _ _ w2)
          have hA : IA G 2 L.length 3 4 5 (L.map Q.x0) (L.map Q.x1) (L.map Q.x2) := by rw [q1, q3, q4, q5]; exact i2.ia
          have gl := i2.len
          simp only [bxB, List.length_cons, List.length_nil, Nat.zero_add, Nat.reduceAdd] at i1 gl
          have hR := Round_c n (by omega) L (by omega) hq .sh 7 true true true (wf_hole i2.wf) (hA.app [.hole])
          have hF := fun (b : List Bool) => Fine_c n (by omega) L (by omega) hq .sh 7 (wf_hole (wf_bools i2.wf 110 b)) ((hA.app [.cells 110 (b.map Bo)]).app [.hole])
          have hWh := fun (b d : List Bool) (c : Nat) (hc : c < 3) => Whole_c n (by omega) ((hA.app [.cells 110 (b.map Bo)]).app [.cells 52 (d.map Bo)]) (by omega) c hc 7
          have f0 := fine_law (Q.fin0 7) (Q.bad0 7 true true true) (fun q => fr q.x0 7) L (fin_bad0 7) (unfr0 7)
          have f1 := fine_law (Q.fin1 7) (Q.bad1 7 true true true) (fun q => fr q.x1 7) L (fin_bad1 7) (unfr1 7)
          have f2 := fine_law (Q.fin2 7) (Q.bad2 7 true true true) (fun q => fr q.x2 7) L (fin_bad2 7) (unfr2 7)
          have a0 := fun b d => hWh b d 0 (by omega)
          have a1 := fun b d => hWh b d 1 (by omega)
          have a2 := fun b d => hWh b d 2 (by omega)
          have g0 : ((sel 0 (L.map Q.x0) (L.map Q.x1) (L.map Q.x2)).all fun s => fr s 7) = L.all fun q => fr q.x0 7 := by simp [sel, List.all_map, Function.comp_def]
          have g1 : ((sel 1 (L.map Q.x0) (L.map Q.x1) (L.map Q.x2)).all fun s => fr s 7) = L.all fun q => fr q.x1 7 := by simp [sel, List.all_map, Function.comp_def]
          have g2 : ((sel 2 (L.map Q.x0) (L.map Q.x1) (L.map Q.x2)).all fun s => fr s 7) = L.all fun q => fr q.x2 7 := by simp [sel, List.all_map, Function.comp_def]
          have z0 : ((0 : Nat) : Int) = 0 := rfl
          have z1 : ((1 : Nat) : Int) = 1 := rfl
          have z2 : ((2 : Nat) : Int) = 2 := rfl
          simp only [g0, z0] at a0
          simp only [g1, z1] at a1
          simp only [g2, z2] at a2
          clear g0 g1 g2 hWh
          rw [q2] at hR hF
          generalize (L.all fun q => fr q.x0 7) = W0 at *
          generalize (L.all fun q => fr q.x1 7) = W1 at *
          generalize (L.all fun q => fr q.x2 7) = W2 at *
          generalize L.all (Q.fin0 7) = F0 at *
          generalize L.all (Q.fin1 7) = F1 at *
          generalize L.all (Q.fin2 7) = F2 at *
          generalize L.any (Q.bad0 7 true true true) = B0 at *
          generalize L.any (Q.bad1 7 true true true) = B1 at *
          generalize L.any (Q.bad2 7 true true true) = B2 at *
          generalize L.any (Q.spl 7 true true true) = sp at *
          have wf2 : WfH (G ++ [.cells 110 [Bo B0, Bo B1, Bo B2, Bo sp], .cells 52 [Bo F0, Bo F1, Bo F2]]) := by
            have := wf_bools (wf_bools i2.wf 110 [B0, B1, B2, sp]) 52 [F0, F1, F2]
            simpa using this
          have hF' := hF [B0, B1, B2, sp]
          have a0' := a0 [B0, B1, B2, sp] [F0, F1, F2]
          have a1' := a1 [B0, B1, B2, sp] [F0, F1, F2]
          have a2' := a2 [B0, B1, B2, sp] [F0, F1, F2]
          simp only [List.map_cons, List.map_nil, List.append_assoc, List.cons_append, List.nil_append] at hF' a0' a1' a2'
          clear hF a0 a1 a2
          generalize hH : G ++ [.cells 110 [Bo B0, Bo B1, Bo B2, Bo sp], .cells 52 [Bo F0, Bo F1, Bo F2]] = H38 at *
          have hkv : H38[G.length]? = some (.cells 110 [Bo B0, Bo B1, Bo B2, Bo sp]) := by rw [← hH]; exact hp_get_0 _ _ _ _ rfl
          have hkf : H38[G.length + 1]? = some (.cells 52 [Bo F0, Bo F1, Bo F2]) := by rw [← hH]; exact hp_get_1 _ _ _ _ _ rfl
          have ld : ∀ k o, loadG false 1 (.ptr k o) H38 = match H38[k]? with | some (.cells _ cs) => cs[o]? | _ => none := fun k o => rfl
          have s0 := fun K q => fineF_step n 0 K q (LV 5 ptE ps .sh) (LV 1 (I .u16) vs .sh) (Bo true) H38 2 G.length (G.length + 1) 0 (by omega) F0 B0 W0 (by rw [ld, hkf]; rfl) (by rw [ld, hkv]; rfl) a0' f0.1 f0.2
          have s1 := fun K q => fineF_step n 0 K q (LV 5 ptE ps .sh) (LV 1 (I .u16) vs .sh) (Bo true) H38 2 G.length (G.length + 1) 1 (by omega) F1 B1 W1 (by rw [ld, hkf]; rfl) (by rw [ld, hkv]; rfl) a1' f1.1 f1.2
          have s2 := fun K q => fineF_step n 0 K q (LV 5 ptE ps .sh) (LV 1 (I .u16) vs .sh) (Bo true) H38 2 G.length (G.length + 1) 2 (by omega) F2 B2 W2 (by rw [ld, hkf]; rfl) (by rw [ld, hkv]; rfl) a2' f2.1 f2.2
          obtain ⟨n', rfl⟩ : ∃ n', n = n' + 4 := ⟨n - 4, by omega⟩
          have s3 : ∀ K, s_triunelaw13_JudgeFine_L0 (n' + 4) 0 K (n' + 1) (LV 5 ptE ps .sh) (LV 1 (I .u16) vs .sh) (Bo true) (.ptr 2 0) (.ptr G.length 0) (.ptr (G.length + 1) 0) (I .i64 3) H38 = K (.exit 0) (s_triunelaw13_JudgeFine_O0 (LV 5 ptE ps .sh) (LV 1 (I .u16) vs .sh) .any (Bo true)) H38 := fun K => by
            rw [s_triunelaw13_JudgeFine_L0, s_triunelaw13_JudgeFine_B0]
            simp -implicitDefEqProofs (disch := first | omega | (simp only [List.length_set, List.length_append, List.length_cons, List.length_nil, List.length_take, List.length_drop, List.length_map]; omega) | simp) [wrap_i64, wrap_u16_id, wrap_u8_id, tdiv_pos, tmod_pos, -getElem?_pos, -getElem?_neg, -List.length_eq_zero_iff, -List.getElem_cons_drop]
          have lq0 := fun K => (s_triunelaw13_JudgeFine_L0_eq (n' + 4) 0 K (n' + 4) (LV 5 ptE ps .sh) (LV 1 (I .u16) vs .sh) (Bo true) (.ptr 2 0) (.ptr G.length 0) (.ptr (G.length + 1) 0) (I .i64 0) H38).trans ((s0 K (n' + 3)).trans ((s1 K (n' + 2)).trans ((s2 K (n' + 1)).trans (s3 K))))
          obtain ⟨t', G2, k1, k2, k3, k4, k5⟩ := goodF_L (n' + 4) 0 H38.length (by omega) ps vs hv (by omega) (by omega) .sh .sh (Bo true) (n' + 4) 0 .ti H38 (by omega) (by omega) (.inl rfl) (by omega) wf2
          have lq1 := fun K => (s_triunelaw13_JudgeFine_L1_eq (n' + 4) 0 K (n' + 4) (LV 5 ptE ps .sh) (LV 1 (I .u16) vs .sh) (Bo true) (.list 0 [] .ti) (I .i64 0) H38).trans (k1 K)
          obtain ⟨G3, j1, j2⟩ := images_c (n' + 4) (by omega) k5 0 ps.length (by omega) hp1 hp48 ps rfl .sh 7 (goodL ps vs) (goodL ps vs) (goodL ps vs) t' t' t' (inSc_tg k2 _) (inSc_tg k2 _) (inSc_tg k2 _)
          obtain ⟨y1, y2, y3, y4, y5⟩ := goodQ_maps ps vs (by omega)
          have hgl := goodL_len ps vs (by omega)
          have hA3 := j2.ia
          rw [smF_full _ _ _ hgl] at hA3
          have hA4 : IA G3 (G2.length + 1) (goodQ ps vs).length (G2.length + 2) (G2.length + 3) (G2.length + 4) ((goodQ ps vs).map Q.x0) ((goodQ ps vs).map Q.x1) ((goodQ ps vs).map Q.x2) := by rw [y1, y3, y4, y5]; exact hA3
          have gd := goodL_wd ps vs hv
          have gs : ∀ s ∈ (goodL ps vs).map (smf 7), 0 ≤ s.v ∧ s.v < 65536 := by
            intro s hs
            obtain ⟨x, hx, rfl⟩ := List.mem_map.1 hs
            exact gd x hx
          have hF3 := Fine_c (n' + 4) (by omega) (goodQ ps vs) (by omega) (qok_of y2 y3 y4 y5 hpm gs gs gs) .sh 7 j2.wf hA4
          have gf := goodQ_fin ps vs hpm hv
          have x0 : (goodQ ps vs).all (Q.fin0 7) = true := List.all_eq_true.2 fun q h => (gf q h).1
          have x1 : (goodQ ps vs).all (Q.fin1 7) = true := List.all_eq_true.2 fun q h => (gf q h).2.1
          have x2 : (goodQ ps vs).all (Q.fin2 7) = true := List.all_eq_true.2 fun q h => (gf q h).2.2
          rw [x0, x1, x2, y2] at hF3
          have p1 := fun x y k o => binD_ptr_nil (t := 105) (e := 186) Try.underlying105 x y k o
          have p2 := fun x y k o => binD_ptr_nen (t := 105) (e := 186) Try.underlying105 x y k o
          have eb := fun x y => eql_b3 true true true true true true x y
          exact ⟨_, by unfold s_triunelaw13_JudgeFine; simp -implicitDefEqProofs (disch := first | omega | (simp only [List.length_set, List.length_append, List.length_cons, List.length_nil, List.length_take, List.length_drop, List.length_map]; omega) | simp) [wrap_i64, wrap_u16_id, wrap_u8_id, tdiv_pos, tmod_pos, -getElem?_pos, -getElem?_neg, -List.length_eq_zero_iff, -List.getElem_cons_drop, -List.set_append_right, up, m1, lf, e1, e2, e3, i1, p1, p2, hR, hF', hH, lq0, s_triunelaw13_JudgeFine_O0, lq1, s_triunelaw13_JudgeFine_O1, j1, hF3, eb]; first | rfl | exact ⟨rfl, rfl⟩⟩
theorem JudgeFine_all (e0 e1 e2 : List DV) (h0 : Shp Try.prog 8 41 e0) (h1 : Shp Try.prog 8 104 e1) (h2 : Shp Try.prog 8 56 e2) :
    ∃ H', callG Try.prog ENV 20000 10 [elOf (isAgT Try.prog 41) e0, elOf (isAgT Try.prog 104) e1, elOf (isAgT Try.prog 56) e2] [] 0 = some (.flat (.bool true), H') := by
  obtain ⟨ps, r0, hl⟩ := jshp_pts h0
  obtain ⟨c0, c1, c2, r1, w0, w1, w2⟩ := jshp_c3 h1
  obtain ⟨vs, r2, hv, _⟩ := jshp_ws h2
  obtain ⟨H', h⟩ := JudgeFine_run 19999 awake13 (by omega) ps hl c0 c1 c2 w0.1 w1.1 w2.1 w0.2 w1.2 w2.2 vs hv
  rw [r0, r1, r2]
  exact ⟨H', (s_triunelaw13_JudgeFine_eq 19999 [] 0 _ _ _).trans h⟩
end Go.Proofs.Ytbhnkdnfmlnajaa
