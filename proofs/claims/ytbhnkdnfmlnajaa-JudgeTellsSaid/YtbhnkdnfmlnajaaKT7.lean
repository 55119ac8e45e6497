/- Texts of mine, laid together: GJudge4, GImgs, GJudgeP, Op, Shp, GJudgeL, FRef13, GRef13, GRef13b. -/
import Derived.Test.YtbhnkdnfmlnajaaKT6
import Derived.SizedLaws
import Derived.ChangeSlices
import Derived.OpenShut
import Derived.ChangeArms
/- The judge: who was fine, and what is voted. -/
namespace Go.Proofs.Ytbhnkdnfmlnajaa
open Go
set_option linter.unusedSimpArgs false
set_option linter.unusedVariables false
set_option maxRecDepth 100000
def Q.fin0 (r : Int) (q : Q) : Bool := !(true && !(true && fr q.x0 r)) && (!(oddV q.p (q.vl r true true true)).1 && !splitV q.p (q.vl r true true true))
def Q.fin1 (r : Int) (q : Q) : Bool := !(true && !(true && fr q.x1 r)) && (!(oddV q.p (q.vl r true true true)).2.1 && !splitV q.p (q.vl r true true true))
def Q.fin2 (r : Int) (q : Q) : Bool := !(true && !(true && fr q.x2 r)) && (!(oddV q.p (q.vl r true true true)).2.2 && !splitV q.p (q.vl r true true true))
theorem Fine1_c (n : Nat) (hn : 1200 ≤ n) {H : Heap} (hw : WfH H) (p : Pt) (hk : 0 ≤ p.kind) (b0 b1 b2 : Bool) (v0 v1 v2 : Int) (h0 : 0 ≤ v0 ∧ v0 < 65536) (h1 : 0 ≤ v1 ∧ v1 < 65536) (h2 : 0 ≤ v2 ∧ v2 < 65536) (t t2 : Tag) (x0 x1 x2 : Bool) (k : Nat) (hv : H[k]? = some (.cells 52 [Bo x0, Bo x1, Bo x2])) (fl : Nat) (hfl : fl ≤ k) :
    cW n 87 ([lkE p (vals b0 b1 b2 v0 v1 v2) (vals b0 b1 b2 0 1 2) t t2] ++ [.ptr k 0]) H fl = some (.tup [], H.set k (.cells 52 [Bo (x0 && !(true && !b0) && !(oddV p (vals b0 b1 b2 v0 v1 v2)).1 && !splitV p (vals b0 b1 b2 v0 v1 v2)), Bo (x1 && !(true && !b1) && !(oddV p (vals b0 b1 b2 v0 v1 v2)).2.1 && !splitV p (vals b0 b1 b2 v0 v1 v2)), Bo (x2 && !(true && !b2) && !(oddV p (vals b0 b1 b2 v0 v1 v2)).2.2 && !splitV p (vals b0 b1 b2 v0 v1 v2))])) := by
  obtain ⟨n, rfl⟩ : ∃ m, n = m + 5 := ⟨n - 5, by omega⟩
  have cv := hp_lt hv
  have ka := all_c (n + 4) (by omega)
  have k1 := missing_c (n + 4) (by omega) p (vals b0 b1 b2 v0 v1 v2) b0 b1 b2 true true true t t2
  have k2 := odd_c (n + 4) (by omega) p hk b0 b1 b2 v0 v1 v2 h0 h1 h2 t t2
  have k3 := split_c (n + 4) (by omega) p b0 b1 b2 v0 v1 v2 h0 h1 h2 (vals b0 b1 b2 0 1 2) t t2
  have lq := fun K (H : Heap) a b c d e => s_judge_Fine_1_L0_eq (n + 4) fl K (n + 4) a b c d e H
  generalize vals b0 b1 b2 v0 v1 v2 = vs at *
  generalize vals b0 b1 b2 0 1 2 = ws at *
  generalize (true && !b0) = m0 at *
  generalize (true && !b1) = m1 at *
  generalize (true && !b2) = m2 at *
  generalize oddV p vs = o at *
  generalize splitV p vs = sp at *
  obtain ⟨o0, o1, o2⟩ := o
  obtain ⟨pk, ad, at_, band, safe⟩ := p
  simp only at k2 ⊢
  unfold lkE at *
  simp only at k1 k2 k3 ⊢
  refine cW_of (r := .tup []) (H' := (H.set k (.cells 52 [Bo (x0 && !m0 && !o0 && !sp), Bo (x1 && !m1 && !o1 && !sp), Bo (x2 && !m2 && !o2 && !sp)])) ++ [.cells 167 [I .i64 pk, I .i64 ad, I .i64 at_, I .i64 band, I .i64 safe, LV 1 (I .u16) vs t, LV 1 (I .i64) ws t2], .cells 52 [Bo m0, Bo m1, Bo m2], .cells 52 [Bo o0, Bo o1, Bo o2]]) ((s_judge_Fine_1_eq _ _ _ _ _).trans ?_) (by simp)
    (cutH_set hw cv (by rw [hp_get_left _ _ _ (by simpa using cv)]; exact hp_set_get _ _ _ cv) (fun j hj hne => by rw [hp_get_left _ _ _ (by simpa using hj)]; exact hp_set_ne _ _ _ _ hne) (oldBlk_wf (wf_in _ _ _ _ _)))
  unfold s_judge_Fine_1
  simp -implicitDefEqProofs (disch := first | omega | (simp only [List.length_set, List.length_append, List.length_cons, List.length_nil, List.length_take, List.length_drop, List.length_map]; omega) | simp) [wrap_i64, wrap_u16_id, wrap_u8_id, tdiv_pos, tmod_pos, -getElem?_pos, -getElem?_neg, -List.length_eq_zero_iff, -List.getElem_cons_drop, -Bool.not_and, -Bool.not_or, -wantF_n, wantF_sy, wantF_sn, gO_some, gO_loadG, gO_lenD, gO_notD, gO_eqK1, gO_neK1, gO_ltK1, gO_leK1, gO_gtK1, gO_geK1, gO_max1, gO_addK1, gO_mulK1, gO_addK2, gO_ltK2, gO_leK2, gO_max2, gO_cvK, gO_idx, gO_pick, gO_pick2, gO_cP1, gO_cP1b, gO_cP2, gO_cP2a, gO_eqB, pick_t, pick_t2, pick_f, pick_f2, gd_gd, wantF_gt, wantF_gf, gO_pkf, gO_pkt, gO_pktn, gO_eqK2, gO_neK2, gO_gtK2, gO_geK2, gO_subK1, gO_subK2, gO_min1, gO_min2, gO_remK1, gO_cP3, gO_nilD, gO_fieldD, gO_idxArr1, gO_idxArr2, gO_idx2, gO_extD, -List.set_append_right, ka, hv, k1, k2, k3, lq, s_judge_Fine_1_L0, s_judge_Fine_1_B0, idxArr_k, s_judge_Fine_1_O0]
theorem each_fine_c (n : Nat) (hn : 1300 ≤ n) (L : List Q) (hL : L.length ≤ 100) (hq : ∀ q ∈ L, QOk q) (tl : Tag) (r : Int) {H : Heap} (hw : WfH H) {k k0 k1 k2 : Nat} (hA : IA H k L.length k0 k1 k2 (L.map Q.x0) (L.map Q.x1) (L.map Q.x2))
    (v fl : Nat) (hv : H[v]? = some (.cells 52 [Bo true, Bo true, Bo true])) (dk : k ≠ v ∧ k0 ≠ v ∧ k1 ≠ v ∧ k2 ≠ v) (hfl : fl ≤ v) :
    cW n 76 [LV 5 ptE (L.map Q.p) tl, .ptr k 0, I .i64 r, .agg [Bo true, Bo true, Bo true], .clo (.func 87) [] [.ptr v 0]] H fl = some (.tup [], H.set v (.cells 52 [Bo (L.all (Q.fin0 r)), Bo (L.all (Q.fin1 r)), Bo (L.all (Q.fin2 r))])) := by
  obtain ⟨n, rfl⟩ : ∃ m, n = m + 1 := ⟨n - 1, by omega⟩
  have ck := hp_lt hA.b
  have c0 := hp_lt hA.r0
  have c1 := hp_lt hA.r1
  have c2 := hp_lt hA.r2
  have cv := hp_lt hv
  obtain ⟨H', g1, g2⟩ := each_L n (by omega) fl L hL tl (.clo (.func 87) [] [.ptr v 0]) r true true true k k0 k1 k2 H.length 52
    (fun i G => EI (H ++ [.cells 52 [Bo true, Bo true, Bo true]]) v (H.length + 1) (.cells 52 [Bo ((L.take i).all (Q.fin0 r)), Bo ((L.take i).all (Q.fin1 r)), Bo ((L.take i).all (Q.fin2 r))]) G)
    (fun i G hG => ⟨(hA.app _).same fun j hj => hG.oth j (by omega) (by omega), by rw [hG.oth _ (by omega) (by omega)]; exact hp_get_0 _ _ _ _ rfl, by have := hG.len; omega⟩)
    (fun i hi G t t2 _ _ hG => by
      have hG1 := hG.len
      have gv : (G ++ [.cells 87 (ptE L[i].p).cells])[v]? = some (.cells 52 [Bo ((L.take i).all (Q.fin0 r)), Bo ((L.take i).all (Q.fin1 r)), Bo ((L.take i).all (Q.fin2 r))]) := by rw [hp_get_left _ _ _ (by omega)]; exact hG.at_
      have hwG : WfH (G ++ [.cells 87 (ptE L[i].p).cells]) := hG.wf.app fun b hb => by
        simp only [List.mem_singleton] at hb
        subst hb
        exact wf_pt _ _
      obtain ⟨q1, q2, q3, q4⟩ := hq _ (List.getElem_mem hi)
      have hR := Fine1_c n (by omega) hwG L[i].p q1 (true && fr L[i].x0 r) (true && fr L[i].x1 r) (true && fr L[i].x2 r) L[i].x0.v L[i].x1.v L[i].x2.v q2 q3 q4 t t2 _ _ _ v gv fl hfl
      refine ⟨_, _, (cVrw_c (by kernel_rfl)).trans hR, ?_, hwG.set v (wf_in _ _ _ _ _), fun j hj hne => ?_, ?_⟩
      · simp; omega
      · rw [hp_set_ne _ _ _ _ hne, hp_get_left _ _ _ (by omega)]
        exact hG.oth j hj hne
      · rw [hp_set_get _ _ _ (by simp; omega)]
        rw [take_all _ _ _ hi, take_all _ _ _ hi, take_all _ _ _ hi]
        simp only [Bool.and_assoc]
        rfl)
    n 0 (H ++ [.cells 52 [Bo true, Bo true, Bo true]]) (by omega) (by omega) ⟨by simp, hw.app fun b hb => by
      simp only [List.mem_singleton] at hb
      subst hb
      exact wf_in _ _ _ _ _, fun j _ _ => rfl, by rw [hp_get_left _ _ _ cv]; exact hv⟩
  rw [List.take_length] at g2
  have lq := fun K => (s_judge_each_L0_eq n fl K n (.ptr k 0) (I .i64 r) (.clo (.func 87) [] [.ptr v 0]) (.ptr H.length 0) (LV 5 ptE (L.map Q.p) tl) (I .i64 L.length) (I .i64 0) (H ++ [.cells 52 [Bo true, Bo true, Bo true]])).trans (g1 K)
  refine cW_of (r := .tup []) (H' := H') ((s_judge_each_eq _ _ _ _ _ _ _ _).trans (by unfold s_judge_each; simp -implicitDefEqProofs (disch := first | omega | (simp only [List.length_set, List.length_append, List.length_cons, List.length_nil, List.length_take, List.length_drop, List.length_map]; omega) | simp) [wrap_i64, wrap_u16_id, wrap_u8_id, tdiv_pos, tmod_pos, -getElem?_pos, -getElem?_neg, -List.length_eq_zero_iff, -List.getElem_cons_drop, lq])) (by simp) (cutH_set hw cv g2.at_ (fun j hj hne => by rw [g2.oth j (by omega) hne, hp_get_left _ _ _ hj]) (oldBlk_wf (wf_in _ _ _ _ _)))
theorem Fine_c (n : Nat) (hn : 1400 ≤ n) (L : List Q) (hL : L.length ≤ 100) (hq : ∀ q ∈ L, QOk q) (tl : Tag) (r : Int) {H : Heap} (hw : WfH H) {k k0 k1 k2 : Nat} (hA : IA H k L.length k0 k1 k2 (L.map Q.x0) (L.map Q.x1) (L.map Q.x2)) :
    cO n 51 [LV 5 ptE (L.map Q.p) tl, .ptr k 0, I .i64 r] H = some (.agg [Bo (L.all (Q.fin0 r)), Bo (L.all (Q.fin1 r)), Bo (L.all (Q.fin2 r))]) := by
  obtain ⟨n, rfl⟩ : ∃ m, n = m + 1 := ⟨n - 1, by omega⟩
  have ck := hp_lt hA.b
  have c0 := hp_lt hA.r0
  have c1 := hp_lt hA.r1
  have c2 := hp_lt hA.r2
  have ka := all_c n (by omega)
  have hE := each_fine_c n (by omega) L hL hq tl r (H := H ++ [.cells 52 [Bo false, Bo false, Bo false], .cells 52 [Bo true, Bo true, Bo true]])
    (hw.app fun b hb => by
      simp only [List.mem_cons, List.not_mem_nil, or_false] at hb
      rcases hb with rfl | rfl <;> exact wf_in _ _ _ _ _) (hA.app _) (H.length + 1) H.length (hp_get_1 _ _ _ _ _ rfl) ⟨by omega, by omega, by omega, by omega⟩ (by omega)
  rw [hp_set_1 _ _ _ _ _ _ rfl] at hE
  generalize L.all (Q.fin0 r) = y0 at *
  generalize L.all (Q.fin1 r) = y1 at *
  generalize L.all (Q.fin2 r) = y2 at *
  exact cO_of (r := .agg [Bo y0, Bo y1, Bo y2]) (H' := H ++ [.cells 52 [Bo y0, Bo y1, Bo y2], .cells 52 [Bo y0, Bo y1, Bo y2]]) ((s_judge_Fine_eq _ _ _ _ _ _).trans (by unfold s_judge_Fine; simp -implicitDefEqProofs (disch := first | omega | (simp only [List.length_set, List.length_append, List.length_cons, List.length_nil, List.length_take, List.length_drop, List.length_map]; omega) | simp) [wrap_i64, wrap_u16_id, wrap_u8_id, tdiv_pos, tmod_pos, -getElem?_pos, -getElem?_neg, -List.length_eq_zero_iff, -List.getElem_cons_drop, -List.set_append_right, ka, hE] <;> first | rfl | exact ⟨rfl, rfl⟩)) (by simp)
def Q.vot (r : Int) (i0 i1 i2 : Bool) (q : Q) : Int := (voteV q.p (q.vl r i0 i1 i2)).1
/-- what a run of each leaves: the list of what is voted -/
structure EV1 (H : Heap) (v N : Nat) (xs : List Int) (G : Heap) : Prop where
  len : N ≤ G.length
  wf : WfH G
  oth : ∀ j, j < N → j ≠ v → G[j]? = H[j]?
  at_ : ∃ t, G[v]? = some (.cells 56 [LV 1 (I .u16) xs t]) ∧ TgOk t 75 1 N xs.length G
theorem vals_words (b0 b1 b2 : Bool) (v0 v1 v2 : Int) (h0 : 0 ≤ v0 ∧ v0 < 65536) (h1 : 0 ≤ v1 ∧ v1 < 65536) (h2 : 0 ≤ v2 ∧ v2 < 65536) : Words (vals b0 b1 b2 v0 v1 v2) ∧ (vals b0 b1 b2 v0 v1 v2).length ≤ 3 := by
  unfold vals
  refine ⟨fun x hx => ?_, ?_⟩
  · cases b0 <;> cases b1 <;> cases b2 <;> simp at hx <;> omega
  · cases b0 <;> cases b1 <;> cases b2 <;> simp
theorem Voted1_c (n : Nat) (hn : 1200 ≤ n) {H : Heap} (hw : WfH H) (p : Pt) (hk : 0 ≤ p.kind) (vs ws : List Int) (hvs : Words vs) (hl : vs.length ≤ 3) (t t2 : Tag) (xs : List Int) (hxs : xs.length ≤ 1000) (k : Nat) (tt : Tag) (N : Nat) (hN : N ≤ H.length) (hv : H[k]? = some (.cells 56 [LV 1 (I .u16) xs tt])) (ht : TgOk tt 75 1 N xs.length H) (fl : Nat) (hfl : fl ≤ k) (hflN : fl ≤ N) (hkN : k < N) (hlk : okT t) (hlk2 : okT t2) :
    ∃ H' x, cV n fl (.clo (.func 84) [] [.ptr k 0]) [lkE p vs ws t t2] H = some (x, H') ∧ H.length ≤ H'.length ∧ WfH H' ∧ (∀ j, j < N → j ≠ k → H'[j]? = H[j]?) ∧ ∃ t', H'[k]? = some (.cells 56 [LV 1 (I .u16) (xs ++ [(voteV p vs).1]) t']) ∧ TgOk t' 75 1 N (xs ++ [(voteV p vs).1]).length H' := by
  obtain ⟨n, rfl⟩ : ∃ m, n = m + 5 := ⟨n - 5, by omega⟩
  have cv := hp_lt hv
  have kv := Vote_c (n + 4) (by omega) p vs hvs (by omega) t hk (medC _ _ _ (by omega) hvs (by omega))
  obtain ⟨pk, ad, at_, band, safe⟩ := p
  have hwf0 : WfH (H ++ [.cells 167 (lkE ⟨pk, ad, at_, band, safe⟩ vs ws t t2).cells]) := hw.app fun b hb => by
    simp only [List.mem_singleton] at hb
    subst hb
    intro d hd
    simp only [lkE, cells_agg, List.mem_cons, List.not_mem_nil, or_false] at hd
    rcases hd with rfl | rfl | rfl | rfl | rfl | rfl | rfl
    · rfl
    · rfl
    · rfl
    · rfl
    · rfl
    · rw [inSc_okT hlk]; simp
    · rw [inSc_okT hlk2]; simp
  have ht0 : TgOk tt 75 1 N xs.length (H ++ [.cells 167 (lkE ⟨pk, ad, at_, band, safe⟩ vs ws t t2).cells]) := by
    rcases ht with rfl | ⟨k2, rfl, h1, h2⟩
    · exact .inl rfl
    · exact .inr ⟨k2, rfl, by rw [hp_get_left _ _ _ (hp_lt h1)]; exact h1, h2⟩
  generalize hw1 : voteV ⟨pk, ad, at_, band, safe⟩ vs = w at *
  obtain ⟨w1, w2⟩ := w
  simp only at kv ⊢
  obtain ⟨t3, H3, ha, ht3, hl3, hj3, hw3, _⟩ := appG_fr (e := 75) (ag := false) (sz := 1) (by_ := 2) (n0 := N) (enc := I .u16) (xs := xs) (ys := [w1]) (t := tt) (t' := .ti) (H := H ++ [.cells 167 (lkE ⟨pk, ad, at_, band, safe⟩ vs ws t t2).cells]) (fl := fl) hflN (by simp; omega) ht0 (by simp) rfl (by simp; omega) (by simp; omega)
  have h3k : H3[k]? = some (.cells 56 [LV 1 (I .u16) xs tt]) := by rw [hj3 k hkN, hp_get_left _ _ _ cv]; exact hv
  have c3 := hp_lt h3k
  have hlen : H.length < H3.length := by have := hl3; simp at this; omega
  refine ⟨H3.set k (.cells 56 [LV 1 (I .u16) (xs ++ [w1]) t3]), .tup [], ?_, by simp; omega, (hw3 hwf0).set k ?_, fun j hj hne => ?_, t3, hp_set_get _ _ _ c3, ?_⟩
  · unfold cV callVG callV
    have hm : ENV.md 84 = .keep := by kernel_rfl
    have hrun : callG Try.prog ENV (n + 5) 84 [lkE ⟨pk, ad, at_, band, safe⟩ vs ws t t2, .ptr k 0] H fl = some (.tup [], H3.set k (.cells 56 [LV 1 (I .u16) (xs ++ [w1]) t3])) := by
      refine (s_judge_Voted_1_eq _ _ _ _ _).trans ?_
      unfold lkE ptE at *
      simp only [cells_agg] at kv ha
      unfold s_judge_Voted_1
      simp -implicitDefEqProofs (disch := first | omega | (simp only [List.length_set, List.length_append, List.length_cons, List.length_nil, List.length_take, List.length_drop, List.length_map]; omega) | simp) [wrap_i64, wrap_u16_id, wrap_u8_id, tdiv_pos, tmod_pos, -getElem?_pos, -getElem?_neg, -List.length_eq_zero_iff, -List.getElem_cons_drop, -List.set_append_right, hv, kv, ha, h3k]
    simp only [fnOf, hm, callD, List.cons_append, List.nil_append, hrun]
    rfl
  · intro d hd
    simp only [List.mem_singleton] at hd
    subst hd
    rcases ht3 with rfl | ⟨k2, rfl, h1, h2⟩
    · simp [inSc_LV_ti]
    · have := hp_lt h1
      cases xs <;> simp [LV, mkl, DV.leaf, inSc, this]
  · rw [hp_set_ne _ _ _ _ hne, hj3 j hj, hp_get_left _ _ _ (by omega)]
  · rcases ht3 with rfl | ⟨k2, rfl, h1, h2⟩
    · exact .inl rfl
    · exact .inr ⟨k2, rfl, by rw [hp_set_ne _ _ _ _ (by omega)]; exact h1, h2⟩
theorem Q.vl_words {q : Q} (hq : QOk q) (r : Int) (i0 i1 i2 : Bool) : Words (q.vl r i0 i1 i2) ∧ (q.vl r i0 i1 i2).length ≤ 3 := vals_words _ _ _ _ _ _ hq.2.1 hq.2.2.1 hq.2.2.2
theorem each_voted_c (n : Nat) (hn : 1300 ≤ n) (L : List Q) (hL : L.length ≤ 100) (hq : ∀ q ∈ L, QOk q) (tl : Tag) (r : Int) (i0 i1 i2 : Bool) {H : Heap} (hw : WfH H) {k k0 k1 k2 : Nat} (hA : IA H k L.length k0 k1 k2 (L.map Q.x0) (L.map Q.x1) (L.map Q.x2))
    (v fl : Nat) (hv : H[v]? = some (.cells 56 [.list 0 [] .ti])) (dk : k ≠ v ∧ k0 ≠ v ∧ k1 ≠ v ∧ k2 ≠ v) (hfl : fl ≤ v) :
    ∃ t, okT t ∧ cW n 76 [LV 5 ptE (L.map Q.p) tl, .ptr k 0, I .i64 r, .agg [Bo i0, Bo i1, Bo i2], .clo (.func 84) [] [.ptr v 0]] H fl = some (.tup [], H.set v (.cells 56 [LV 1 (I .u16) (L.map (Q.vot r i0 i1 i2)) t])) := by
  obtain ⟨n, rfl⟩ : ∃ m, n = m + 1 := ⟨n - 1, by omega⟩
  have ck := hp_lt hA.b
  have c0 := hp_lt hA.r0
  have c1 := hp_lt hA.r1
  have c2 := hp_lt hA.r2
  have cv := hp_lt hv
  obtain ⟨H', g1, g2⟩ := each_L n (by omega) fl L hL tl (.clo (.func 84) [] [.ptr v 0]) r i0 i1 i2 k k0 k1 k2 H.length 52
    (fun i G => EV1 (H ++ [.cells 52 [Bo i0, Bo i1, Bo i2]]) v (H.length + 1) ((L.take i).map (Q.vot r i0 i1 i2)) G)
    (fun i G hG => ⟨(hA.app _).same fun j hj => hG.oth j (by omega) (by omega), by rw [hG.oth _ (by omega) (by omega)]; exact hp_get_0 _ _ _ _ rfl, by have := hG.len; omega⟩)
    (fun i hi G t t2 hlk hlk2 hG => by
      have hG1 := hG.len
      obtain ⟨tt, gv, gt⟩ := hG.at_
      have hwG : WfH (G ++ [.cells 87 (ptE L[i].p).cells]) := hG.wf.app fun b hb => by
        simp only [List.mem_singleton] at hb
        subst hb
        exact wf_pt _ _
      have gt2 : TgOk tt 75 1 (H.length + 1) ((L.take i).map (Q.vot r i0 i1 i2)).length (G ++ [.cells 87 (ptE L[i].p).cells]) := by
        rcases gt with rfl | ⟨k2, rfl, h1, h2⟩
        · exact .inl rfl
        · exact .inr ⟨k2, rfl, by rw [hp_get_left _ _ _ (hp_lt h1)]; exact h1, h2⟩
      have hqi := hq _ (List.getElem_mem hi)
      obtain ⟨w1, w2⟩ := Q.vl_words hqi r i0 i1 i2
      obtain ⟨H', x, e1, e2, e3, e4, t', e5, e6⟩ := Voted1_c n (by omega) hwG L[i].p hqi.1 (L[i].vl r i0 i1 i2) (L[i].wh r i0 i1 i2) w1 w2 t t2 ((L.take i).map (Q.vot r i0 i1 i2)) (by simp; omega) v tt (H.length + 1) (by simp; omega) (by rw [hp_get_left _ _ _ (by omega)]; exact gv) gt2 fl hfl (by omega) (by omega) hlk hlk2
      have em : (L.take i).map (Q.vot r i0 i1 i2) ++ [(voteV L[i].p (L[i].vl r i0 i1 i2)).1] = (L.take (i + 1)).map (Q.vot r i0 i1 i2) := by
        rw [List.take_succ_eq_append_getElem hi, List.map_append]
        rfl
      rw [em] at e5 e6
      refine ⟨H', x, e1, ?_, e3, fun j hj hne => ?_, t', e5, e6⟩
      · simp at e2; omega
      · rw [e4 j hj hne, hp_get_left _ _ _ (by omega)]
        exact hG.oth j hj hne)
    n 0 (H ++ [.cells 52 [Bo i0, Bo i1, Bo i2]]) (by omega) (by omega) ⟨by simp, hw.app fun b hb => by
      simp only [List.mem_singleton] at hb
      subst hb
      exact wf_in _ _ _ _ _, fun j _ _ => rfl, .ti, by rw [hp_get_left _ _ _ cv]; exact hv, .inl rfl⟩
  rw [List.take_length] at g2
  obtain ⟨tt, gv, gt⟩ := g2.at_
  have lq := fun K => (s_judge_each_L0_eq n fl K n (.ptr k 0) (I .i64 r) (.clo (.func 84) [] [.ptr v 0]) (.ptr H.length 0) (LV 5 ptE (L.map Q.p) tl) (I .i64 L.length) (I .i64 0) (H ++ [.cells 52 [Bo i0, Bo i1, Bo i2]])).trans (g1 K)
  have hoT : oT H.length tt := by
    rcases gt with rfl | ⟨k2, rfl, h1, h2⟩
    · exact .inl rfl
    · exact .inr ⟨k2, rfl, by omega⟩
  obtain ⟨t', ht', et⟩ := oldLeaf_oT hoT H' 1 (I .u16) (L.map (Q.vot r i0 i1 i2))
  refine ⟨t', ht', cW_of (r := .tup []) (H' := H') ((s_judge_each_eq _ _ _ _ _ _ _ _).trans (by unfold s_judge_each; simp -implicitDefEqProofs (disch := first | omega | (simp only [List.length_set, List.length_append, List.length_cons, List.length_nil, List.length_take, List.length_drop, List.length_map]; omega) | simp) [wrap_i64, wrap_u16_id, wrap_u8_id, tdiv_pos, tmod_pos, -getElem?_pos, -getElem?_neg, -List.length_eq_zero_iff, -List.getElem_cons_drop, lq])) (by simp) (cutH_set hw cv gv (fun j hj hne => by rw [g2.oth j (by omega) hne, hp_get_left _ _ _ hj]) (by simp [et]))⟩
theorem Voted_c (n : Nat) (hn : 1400 ≤ n) (L : List Q) (hL : L.length ≤ 100) (hq : ∀ q ∈ L, QOk q) (tl : Tag) (r : Int) (i0 i1 i2 : Bool) {H : Heap} (hw : WfH H) {k k0 k1 k2 : Nat} (hA : IA H k L.length k0 k1 k2 (L.map Q.x0) (L.map Q.x1) (L.map Q.x2)) :
    ∃ t, okT t ∧ cO n 49 [LV 5 ptE (L.map Q.p) tl, .ptr k 0, I .i64 r, .agg [Bo i0, Bo i1, Bo i2]] H = some (LV 1 (I .u16) (L.map (Q.vot r i0 i1 i2)) t) := by
  obtain ⟨n, rfl⟩ : ∃ m, n = m + 1 := ⟨n - 1, by omega⟩
  have ck := hp_lt hA.b
  have c0 := hp_lt hA.r0
  have c1 := hp_lt hA.r1
  have c2 := hp_lt hA.r2
  obtain ⟨t, ht, hE⟩ := each_voted_c n (by omega) L hL hq tl r i0 i1 i2 (H := H ++ [.cells 52 [Bo i0, Bo i1, Bo i2], .cells 56 [.list 0 [] .ti]])
    (hw.app fun b hb => by
      simp only [List.mem_cons, List.not_mem_nil, or_false] at hb
      rcases hb with rfl | rfl
      · exact wf_in _ _ _ _ _
      · intro d hd
        simp only [List.mem_singleton] at hd
        subst hd
        rfl) (hA.app _) (H.length + 1) H.length (hp_get_1 _ _ _ _ _ rfl) ⟨by omega, by omega, by omega, by omega⟩ (by omega)
  rw [hp_set_1 _ _ _ _ _ _ rfl] at hE
  generalize L.map (Q.vot r i0 i1 i2) = ys at *
  exact ⟨t, ht, cO_of (r := LV 1 (I .u16) ys t) (H' := H ++ [.cells 52 [Bo i0, Bo i1, Bo i2], .cells 56 [LV 1 (I .u16) ys t]]) ((s_judge_Voted_eq _ _ _ _ _ _ _).trans (by unfold s_judge_Voted; simp -implicitDefEqProofs (disch := first | omega | (simp only [List.length_set, List.length_append, List.length_cons, List.length_nil, List.length_take, List.length_drop, List.length_map]; omega) | simp) [wrap_i64, wrap_u16_id, wrap_u8_id, tdiv_pos, tmod_pos, -getElem?_pos, -getElem?_neg, -List.length_eq_zero_iff, -List.getElem_cons_drop, -List.set_append_right, hE] <;> first | rfl | exact ⟨rfl, rfl⟩)) (by simp [oldLeaf_okT ht])⟩
end Go.Proofs.Ytbhnkdnfmlnajaa

/- The law's images. -/
namespace Go.Proofs.Ytbhnkdnfmlnajaa
open Go
set_option linter.unusedSimpArgs false
set_option linter.unusedVariables false
set_option maxRecDepth 100000
def clE (c : Int × Int) : DV := .agg [I .u16 c.1, I .i64 c.2]
theorem clE_cells (c : Int × Int) : (clE c).cells = [I .u16 c.1, I .i64 c.2] := rfl
/-- the law's two images, side by side -/
structure Im2 (H : Heap) (N m : Nat) (bx : DBlk) (s0 s1 s2 : List Sm) (G : Heap) : Prop where
  ia : IA G (N + 1) m (N + 2) (N + 3) (N + 4) s0 s1 s2
  ra : RA G (N + 5) m (N + 6) (N + 7) (N + 8) s0 s1 s2
  wf : WfH G
  bx : G[N]? = some bx
  oth : ∀ j, j < N → G[j]? = H[j]?
  len : N + 9 ≤ G.length
def up (c d : Nat) (i : Nat) (x : Sm) (s : List Sm) : List Sm := if c = d then s.set i x else s
theorem Im2.step {H G : Heap} {N m : Nat} {bx : DBlk} {s0 s1 s2 : List Sm} (h : Im2 H N m bx s0 s1 s2 G) (c : Nat) (hc : c < 3) (i : Nat) (x : Sm) (X : List DV) (e : TypeId) (hX : ∀ d ∈ X, (d.leaf && inSc (G.length + 1) d) = true) :
    Im2 H N m bx (up c 0 i x s0) (up c 1 i x s1) (up c 2 i x s2) (((G ++ [DBlk.cells e X]).set (sel c (N + 2) (N + 3) (N + 4)) (.cells 182 (smL ((sel c s0 s1 s2).set i x)))).set (sel c (N + 6) (N + 7) (N + 8)) (.cells 177 (smL ((sel c s0 s1 s2).set i x)))) := by
  have hw : WfH (G ++ [DBlk.cells e X]) := h.wf.app fun b hb => by
    simp only [List.mem_singleton] at hb
    subst hb
    intro d hd
    have := hX d hd
    simpa using this
  have hA := h.ia.app [DBlk.cells e X]
  have hR := h.ra.app [DBlk.cells e X]
  have hb : (G ++ [DBlk.cells e X])[N]? = some bx := by rw [hp_get_left _ _ _ (by have := h.len; omega)]; exact h.bx
  have hl : N + 9 ≤ (G ++ [DBlk.cells e X]).length := by have := h.len; simp; omega
  have ho : ∀ j, j < N → (G ++ [DBlk.cells e X])[j]? = H[j]? := fun j hj => by rw [hp_get_left _ _ _ (by have := h.len; omega)]; exact h.oth j hj
  generalize G ++ [DBlk.cells e X] = G' at *
  have hc' : c = 0 ∨ c = 1 ∨ c = 2 := by omega
  have w1 : ∀ l, WfB G'.length (.cells 182 (smL l)) := fun l => smL_wf _ _ _
  have w2 : ∀ l, WfB (G'.set (sel c (N + 2) (N + 3) (N + 4)) (.cells 182 (smL ((sel c s0 s1 s2).set i x)))).length (.cells 177 (smL l)) := fun l => smL_wf _ _ _
  have wf' := (hw.set (sel c (N + 2) (N + 3) (N + 4)) (w1 ((sel c s0 s1 s2).set i x))).set (sel c (N + 6) (N + 7) (N + 8)) (w2 ((sel c s0 s1 s2).set i x))
  rcases hc' with rfl | rfl | rfl <;> simp only [sel, up, if_true, if_false, Nat.reduceEqDiff, Nat.one_ne_zero, Nat.zero_ne_one, Nat.succ_ne_zero] at wf' ⊢
  all_goals refine ⟨⟨?_, ?_, ?_, ?_, ?_, ?_, ?_⟩, ⟨?_, ?_, ?_, ?_, ?_, ?_, ?_⟩, wf', ?_, fun j hj => ?_, ?_⟩
  all_goals first
    | (rw [hp_set_ne _ _ _ _ (by omega), hp_set_ne _ _ _ _ (by omega)]; first | exact hA.b | exact hA.r0 | exact hA.r1 | exact hA.r2 | exact hR.b | exact hR.r0 | exact hR.r1 | exact hR.r2 | exact hb | exact ho _ hj)
    | (rw [hp_set_ne _ _ _ _ (by omega)]; exact hp_set_get _ _ _ (by omega))
    | exact hp_set_get _ _ _ (by simp; omega)
    | (simp only [List.length_set]; first | exact hA.l0 | exact hA.l1 | exact hA.l2 | omega)
    | (first | exact hA.l0 | exact hA.l1 | exact hA.l2)
def smf (r : Int) (c : Int × Int) : Sm := ⟨c.1, IntKind.wrap .i64 (r - c.2), true⟩
def smz : Sm := ⟨0, 0, false⟩
def smI (r : Int) (m : Nat) (c : List (Int × Int)) (i : Nat) : List Sm := (c.take i).map (smf r) ++ List.replicate (m - i) smz
theorem smI_set (r : Int) (m : Nat) (c : List (Int × Int)) (i : Nat) (h1 : i < m) (h2 : i < c.length) : (smI r m c i).set i (smf r c[i]) = smI r m c (i + 1) := by
  unfold smI
  have e1 : ((c.take i).map (smf r)).length = i := by simp; omega
  have e2 : m - i = (m - (i + 1)) + 1 := by omega
  rw [List.set_append_right _ _ (by omega), e1, Nat.sub_self, e2, List.replicate_succ, List.set_cons_zero, List.take_succ_eq_append_getElem h2, List.map_append, List.append_assoc]
  rfl
theorem RA.other {H : Heap} {k n k0 k1 k2 : Nat} {s0 s1 s2 : List Sm} (h : RA H k n k0 k1 k2 s0 s1 s2) (kk : Nat) (b : DBlk) (hk : k ≠ kk ∧ k0 ≠ kk ∧ k1 ≠ kk ∧ k2 ≠ kk) : RA (H.set kk b) k n k0 k1 k2 s0 s1 s2 :=
  ⟨by rw [hp_set_ne _ _ _ _ hk.1]; exact h.b, by rw [hp_set_ne _ _ _ _ hk.2.1]; exact h.r0, by rw [hp_set_ne _ _ _ _ hk.2.2.1]; exact h.r1, by rw [hp_set_ne _ _ _ _ hk.2.2.2]; exact h.r2, h.l0, h.l1, h.l2⟩
def bxB (c0 c1 c2 : List (Int × Int)) (t0 t1 t2 : Tag) : DBlk := .cells 104 [LV 2 clE c0 t0, LV 2 clE c1 t1, LV 2 clE c2 t2]
def fn (c d : Nat) (S s : List Sm) : List Sm := if c = d then S else s
theorem fn_up (c d i : Nat) (x : Sm) (S s : List Sm) : fn c d S (up c d i x s) = fn c d S s := by unfold fn up; split <;> rfl
theorem sel_up (c : Nat) (hc : c < 3) (i : Nat) (x : Sm) (s0 s1 s2 : List Sm) : sel c (up c 0 i x s0) (up c 1 i x s1) (up c 2 i x s2) = (sel c s0 s1 s2).set i x := by
  have hc' : c = 0 ∨ c = 1 ∨ c = 2 := by omega
  rcases hc' with rfl | rfl | rfl <;> rfl
theorem fn_self (c d : Nat) (hd : d < 3) (hc : c < 3) (s0 s1 s2 : List Sm) : fn c d (sel c s0 s1 s2) (sel d s0 s1 s2) = sel d s0 s1 s2 := by
  unfold fn
  split
  · rename_i h; rw [h]
  · rfl
theorem sel_le (c a b d N : Nat) (h1 : N ≤ a) (h2 : N ≤ b) (h3 : N ≤ d) : N ≤ sel c a b d := by unfold sel; split; exact h1; split; exact h2; exact h3
theorem sel_lt (c a b d N : Nat) (h1 : a < N) (h2 : b < N) (h3 : d < N) : sel c a b d < N := by unfold sel; split; exact h1; split; exact h2; exact h3
theorem imgs_L1 (n fl : Nat) (hn : 40 ≤ n) {H : Heap} {N m : Nat} (hfl : fl ≤ N) (pts : List Pt) (hp : pts.length = m) (tp : Tag) (r : Int) (c0 c1 c2 : List (Int × Int)) (t0 t1 t2 : Tag) (c : Nat) (hc : c < 3) (hm : m ≤ 100) :
    ∀ (q i : Nat) (G : Heap) (s0 s1 s2 : List Sm), m < q + i → i ≤ m → i ≤ (sel c c0 c1 c2).length → Im2 H N m (bxB c0 c1 c2 t0 t1 t2) s0 s1 s2 G → sel c s0 s1 s2 = smI r m (sel c c0 c1 c2) i →
    ∃ G', (∀ K, s_triunelaw13_images_L1 n fl K q (LV 5 ptE pts tp) (I .i64 r) (.ptr N 0) (.ptr (N + 1) 0) (.ptr (N + 5) 0) (I .i64 c) (I .i64 i) G = K (.exit 2) (s_triunelaw13_images_O1 (LV 5 ptE pts tp) (I .i64 r) (.ptr N 0) (.ptr (N + 1) 0) (.ptr (N + 5) 0) (I .i64 c)) G') ∧
      Im2 H N m (bxB c0 c1 c2 t0 t1 t2) (fn c 0 (smI r m (sel c c0 c1 c2) (min m (sel c c0 c1 c2).length)) s0) (fn c 1 (smI r m (sel c c0 c1 c2) (min m (sel c c0 c1 c2).length)) s1) (fn c 2 (smI r m (sel c c0 c1 c2) (min m (sel c c0 c1 c2).length)) s2) G' := by
  intro q
  induction q with
  | zero => intro i G s0 s1 s2 h1 h2; omega
  | succ q ih =>
    intro i G s0 s1 s2 hq him hic hI hsI
    have hbx := hI.bx
    have hlen := hI.len
    have cN : N < G.length := by omega
    have hld : ∀ X, idxArr 3 1 (.ptr N 0) (I .i64 c) = some (.ptr N c) ∧ loadG false 1 (.ptr N c) (G ++ X) = some (LV 2 clE (sel c c0 c1 c2) (sel c t0 t1 t2)) := by
      intro X
      have hc' : c = 0 ∨ c = 1 ∨ c = 2 := by omega
      refine ⟨by rw [idxArr_k 3 1 N 0 c ⟨by omega, by omega⟩]; simp, ?_⟩
      rw [loadG_ptr, hp_get_left _ _ _ cN, hbx]
      rcases hc' with rfl | rfl | rfl <;> rfl
    obtain ⟨hix, _⟩ := hld []
    have hl1 := fun X => (hld X).2
    have hl0 : loadG false 1 (.ptr N c) G = some (LV 2 clE (sel c c0 c1 c2) (sel c t0 t1 t2)) := by have := hl1 []; rwa [List.append_nil] at this
    by_cases h : i < m ∧ i < (sel c c0 c1 c2).length
    · obtain ⟨h1, h2⟩ := h
      have hset := smI_set r m (sel c c0 c1 c2) i h1 h2
      generalize hxc : (sel c c0 c1 c2)[i] = xc at *
      have hst := hI.step c hc i (smf r xc) [I .u16 xc.1, I .i64 xc.2] 121 (by
        intro d hd
        simp only [List.mem_cons, List.not_mem_nil, or_false] at hd
        rcases hd with rfl | rfl <;> rfl)
      have hw1 : WfH (G ++ [DBlk.cells 121 [I .u16 xc.1, I .i64 xc.2]]) := hI.wf.app fun b hb => by
        simp only [List.mem_singleton] at hb
        subst hb
        intro d hd
        simp only [List.mem_cons, List.not_mem_nil, or_false] at hd
        rcases hd with rfl | rfl <;> rfl
      have hP1 := image_Put_c n (by omega) hw1 (hI.ia.app _) c hc i h1 xc.1 (IntKind.wrap .i64 (r - xc.2)) fl (sel_le _ _ _ _ _ (by omega) (by omega) (by omega))
      have hP2 := ref11_Put_c n (by omega) (hw1.set (sel c (N + 2) (N + 3) (N + 4)) (smL_wf _ 182 ((sel c s0 s1 s2).set i (smf r xc)))) ((hI.ra.app [DBlk.cells 121 [I .u16 xc.1, I .i64 xc.2]]).other (sel c (N + 2) (N + 3) (N + 4)) (.cells 182 (smL ((sel c s0 s1 s2).set i (smf r xc)))) (by have := sel_lt c (N + 2) (N + 3) (N + 4) (N + 5) (by omega) (by omega) (by omega); have := sel_le c (N + 2) (N + 3) (N + 4) (N + 2) (by omega) (by omega) (by omega); omega)) c hc i h1 xc.1 (IntKind.wrap .i64 (r - xc.2)) fl (sel_le _ _ _ _ _ (by omega) (by omega) (by omega))
      have hk1 := sel_lt c (N + 2) (N + 3) (N + 4) (N + 9) (by omega) (by omega) (by omega)
      have hk2 := sel_lt c (N + 6) (N + 7) (N + 8) (N + 9) (by omega) (by omega) (by omega)
      obtain ⟨G', g1, g2⟩ := ih (i + 1) _ _ _ _ (by omega) (by omega) (by omega) hst (by rw [sel_up c hc, hsI]; exact hset)
      rw [fn_up, fn_up, fn_up] at g2
      refine ⟨G', fun K => ?_, g2⟩
      have g1' := g1 K
      have hi2 : ((i + 1 : Nat) : Int) = (i : Int) + 1 := by omega
      rw [hi2] at g1'
      have e1 : (⟨xc.1, IntKind.wrap .i64 (r - xc.2), true⟩ : Sm) = smf r xc := rfl
      rw [e1] at hP1 hP2
      rw [hp_set_left _ _ _ _ (by omega : sel c (N + 2) (N + 3) (N + 4) < G.length)] at hP1 hP2 g1'
      rw [hp_set_left _ _ _ _ (by simp only [List.length_set]; omega)] at hP2 g1'
      have hi3 : (i : Int) < (pts.length : Int) := by omega
      have hi4 : (i : Int) < ((sel c c0 c1 c2).length : Int) := by omega
      generalize (.cells 182 (smL ((sel c s0 s1 s2).set i (smf r xc))) : DBlk) = B1 at *
      generalize (.cells 177 (smL ((sel c s0 s1 s2).set i (smf r xc))) : DBlk) = B2 at *
      generalize sel c (N + 2) (N + 3) (N + 4) = K1 at *
      generalize sel c (N + 6) (N + 7) (N + 8) = K2 at *
      generalize sel c c0 c1 c2 = cc at *
      generalize sel c t0 t1 t2 = tc at *
      have hx0 : ∀ (Gp : Heap) (h : Gp.length = G.length), loadG false 1 (.ptr G.length 0) (Gp ++ [DBlk.cells 121 [I .u16 xc.1, I .i64 xc.2]]) = some (I .u16 xc.1) := fun Gp h => by rw [loadG_ptr, hp_get_0 _ _ _ _ h.symm]; rfl
      have hx1 : ∀ (Gp : Heap) (h : Gp.length = G.length), loadG false 1 (.ptr G.length 1) (Gp ++ [DBlk.cells 121 [I .u16 xc.1, I .i64 xc.2]]) = some (I .i64 xc.2) := fun Gp h => by rw [loadG_ptr, hp_get_0 _ _ _ _ h.symm]; rfl
      rw [s_triunelaw13_images_L1, s_triunelaw13_images_B1]
      simp -implicitDefEqProofs (disch := first | omega | (simp only [List.length_set, List.length_append, List.length_cons, List.length_nil, List.length_take, List.length_drop, List.length_map]; omega) | simp) [wrap_i64, wrap_u16_id, wrap_u8_id, tdiv_pos, tmod_pos, -getElem?_pos, -getElem?_neg, -List.length_eq_zero_iff, -List.getElem_cons_drop, -List.set_append_right, -loadG_ptr, hi3, hi4, hix, hl0, hl1, hx0, hx1, clE_cells, hxc, hP1, hP2, g1']
    · have hmin : min m (sel c c0 c1 c2).length = i := by omega
      rw [hmin, ← hsI]
      have e0 : fn c 0 (sel c s0 s1 s2) s0 = s0 := fn_self c 0 (by omega) hc s0 s1 s2
      have e1 : fn c 1 (sel c s0 s1 s2) s1 = s1 := fn_self c 1 (by omega) hc s0 s1 s2
      have e2 : fn c 2 (sel c s0 s1 s2) s2 = s2 := fn_self c 2 (by omega) hc s0 s1 s2
      rw [e0, e1, e2]
      refine ⟨G, fun K => ?_, hI⟩
      rw [s_triunelaw13_images_L1, s_triunelaw13_images_B1]
      by_cases h1 : i < m
      · have hi3 : (i : Int) < (pts.length : Int) := by omega
        have hi4 : ¬ (i : Int) < ((sel c c0 c1 c2).length : Int) := by omega
        simp -implicitDefEqProofs (disch := first | omega | (simp only [List.length_set, List.length_append, List.length_cons, List.length_nil, List.length_take, List.length_drop, List.length_map]; omega) | simp) [wrap_i64, wrap_u16_id, wrap_u8_id, tdiv_pos, tmod_pos, -getElem?_pos, -getElem?_neg, -List.length_eq_zero_iff, -List.getElem_cons_drop, -loadG_ptr, hi3, hi4, hix, hl0]
      · have hi3 : ¬ (i : Int) < (pts.length : Int) := by omega
        simp -implicitDefEqProofs (disch := first | omega | (simp only [List.length_set, List.length_append, List.length_cons, List.length_nil, List.length_take, List.length_drop, List.length_map]; omega) | simp) [wrap_i64, wrap_u16_id, wrap_u8_id, tdiv_pos, tmod_pos, -getElem?_pos, -getElem?_neg, -List.length_eq_zero_iff, -List.getElem_cons_drop, hi3]
def smF (r : Int) (m : Nat) (c : List (Int × Int)) : List Sm := smI r m c (min m c.length)
theorem smI_zero (r : Int) (m : Nat) (c : List (Int × Int)) : smI r m c 0 = List.replicate m smz := by unfold smI; simp
theorem imgs_L0 (n fl : Nat) (hn : 140 ≤ n) {H : Heap} {N m : Nat} (hfl : fl ≤ N) (pts : List Pt) (hp : pts.length = m) (tp : Tag) (r : Int) (c0 c1 c2 : List (Int × Int)) (t0 t1 t2 : Tag) (hm : m ≤ 100) (q : Nat) (G : Heap)
    (hI : Im2 H N m (bxB c0 c1 c2 t0 t1 t2) (List.replicate m smz) (List.replicate m smz) (List.replicate m smz) G) :
    ∃ G', (∀ K, s_triunelaw13_images_L0 n fl K (q + 4) (LV 5 ptE pts tp) (I .i64 r) (.ptr N 0) (.ptr (N + 1) 0) (.ptr (N + 5) 0) (I .i64 0) G = K (.exit 0) (s_triunelaw13_images_O0 (.ptr (N + 1) 0) (.ptr (N + 5) 0)) G') ∧
      Im2 H N m (bxB c0 c1 c2 t0 t1 t2) (smF r m c0) (smF r m c1) (smF r m c2) G' := by
  obtain ⟨G1, a1, b1⟩ := imgs_L1 n fl (by omega) hfl pts hp tp r c0 c1 c2 t0 t1 t2 0 (by omega) hm n 0 G _ _ _ (by omega) (by omega) (by omega) hI (smI_zero r m _).symm
  have b1' : Im2 H N m (bxB c0 c1 c2 t0 t1 t2) (smF r m c0) (List.replicate m smz) (List.replicate m smz) G1 := b1
  obtain ⟨G2, a2, b2⟩ := imgs_L1 n fl (by omega) hfl pts hp tp r c0 c1 c2 t0 t1 t2 1 (by omega) hm n 0 G1 _ _ _ (by omega) (by omega) (by omega) b1' (smI_zero r m _).symm
  have b2' : Im2 H N m (bxB c0 c1 c2 t0 t1 t2) (smF r m c0) (smF r m c1) (List.replicate m smz) G2 := b2
  obtain ⟨G3, a3, b3⟩ := imgs_L1 n fl (by omega) hfl pts hp tp r c0 c1 c2 t0 t1 t2 2 (by omega) hm n 0 G2 _ _ _ (by omega) (by omega) (by omega) b2' (smI_zero r m _).symm
  have b3' : Im2 H N m (bxB c0 c1 c2 t0 t1 t2) (smF r m c0) (smF r m c1) (smF r m c2) G3 := b3
  have z0 : ((0 : Nat) : Int) = 0 := rfl
  have z1 : ((1 : Nat) : Int) = 1 := rfl
  have z2 : ((2 : Nat) : Int) = 2 := rfl
  rw [z0] at a1 a2 a3
  rw [z1] at a2
  rw [z2] at a3
  refine ⟨G3, fun K => ?_, b3'⟩
  have q1 := fun K => (s_triunelaw13_images_L1_eq n fl K n (LV 5 ptE pts tp) (I .i64 r) (.ptr N 0) (.ptr (N + 1) 0) (.ptr (N + 5) 0) (I .i64 0) (I .i64 0) G).trans (a1 K)
  have q2 := fun K => (s_triunelaw13_images_L1_eq n fl K n (LV 5 ptE pts tp) (I .i64 r) (.ptr N 0) (.ptr (N + 1) 0) (.ptr (N + 5) 0) (I .i64 1) (I .i64 0) G1).trans (a2 K)
  have q3 := fun K => (s_triunelaw13_images_L1_eq n fl K n (LV 5 ptE pts tp) (I .i64 r) (.ptr N 0) (.ptr (N + 1) 0) (.ptr (N + 5) 0) (I .i64 2) (I .i64 0) G2).trans (a3 K)
  simp -implicitDefEqProofs (disch := first | omega | (simp only [List.length_set, List.length_append, List.length_cons, List.length_nil, List.length_take, List.length_drop, List.length_map]; omega) | simp) [wrap_i64, wrap_u16_id, wrap_u8_id, tdiv_pos, tmod_pos, -getElem?_pos, -getElem?_neg, -List.length_eq_zero_iff, -List.getElem_cons_drop, s_triunelaw13_images_L0, s_triunelaw13_images_B0, q1, q2, q3, s_triunelaw13_images_O1]
theorem images_c (n : Nat) (hn : 200 ≤ n) {H : Heap} (hw : WfH H) (fl m : Nat) (hfl : fl ≤ H.length) (h1 : 1 ≤ m) (h2 : m ≤ 48) (pts : List Pt) (hp : pts.length = m) (tp : Tag) (r : Int) (c0 c1 c2 : List (Int × Int)) (t0 t1 t2 : Tag) (hs0 : inSc H.length (LV 2 clE c0 t0) = true) (hs1 : inSc H.length (LV 2 clE c1 t1) = true) (hs2 : inSc H.length (LV 2 clE c2 t2) = true) :
    ∃ G', cK n 45 [LV 5 ptE pts tp, .agg [LV 2 clE c0 t0, LV 2 clE c1 t1, LV 2 clE c2 t2], I .i64 r] H fl = some (.tup [.ptr (H.length + 1) 0, .ptr (H.length + 5) 0], G') ∧
      Im2 H H.length m (bxB c0 c1 c2 t0 t1 t2) (smF r m c0) (smF r m c1) (smF r m c2) G' := by
  obtain ⟨n, rfl⟩ : ∃ m, n = m + 5 := ⟨n - 5, by omega⟩
  have lf : ∀ (c : List (Int × Int)) t, (LV 2 clE c t).leaf = true := fun c t => by cases c <;> rfl
  have hN1 := image_New_c (n + 4) (by omega) (H ++ [bxB c0 c1 c2 t0 t1 t2]) fl m h1 h2 (by simp; omega)
  have hN2 := fun (X : Heap) (hX : fl ≤ X.length) => ref11_New_c (n + 4) (by omega) X fl m h1 h2 hX
  have hI : Im2 H H.length m (bxB c0 c1 c2 t0 t1 t2) (List.replicate m smz) (List.replicate m smz) (List.replicate m smz) (H ++ [bxB c0 c1 c2 t0 t1 t2, .cells 186 [rw3 (H.length + 2) m, rw3 (H.length + 3) m, rw3 (H.length + 4) m], .cells 182 (smL (List.replicate m smz)), .cells 182 (smL (List.replicate m smz)), .cells 182 (smL (List.replicate m smz)), .cells 199 [I .i64 m, rw3 (H.length + 6) m, rw3 (H.length + 7) m, rw3 (H.length + 8) m], .cells 177 (smL (List.replicate m smz)), .cells 177 (smL (List.replicate m smz)), .cells 177 (smL (List.replicate m smz))]) := by
    have gt : ∀ (X : Heap) (k : Nat) (b : DBlk), X[k]? = some b → (H ++ X)[H.length + k]? = some b := fun X k b h => by
      rw [List.getElem?_append_right (by omega), Nat.add_sub_cancel_left]; exact h
    refine ⟨⟨gt _ 1 _ rfl, gt _ 2 _ rfl, gt _ 3 _ rfl, gt _ 4 _ rfl, by simp, by simp, by simp⟩, ⟨gt _ 5 _ rfl, gt _ 6 _ rfl, gt _ 7 _ rfl, gt _ 8 _ rfl, by simp, by simp, by simp⟩, hw.app fun b hb => ?_, gt _ 0 _ rfl, fun j hj => hp_get_left _ _ _ hj, by simp⟩
    simp only [List.mem_cons, List.not_mem_nil, or_false] at hb
    rcases hb with rfl | rfl | rfl | rfl | rfl | rfl | rfl | rfl | rfl
    · intro d hd
      simp only [List.mem_cons, List.not_mem_nil, or_false] at hd
      rcases hd with rfl | rfl | rfl
      · rw [lf, inSc_mono (by simp) _ hs0]; rfl
      · rw [lf, inSc_mono (by simp) _ hs1]; rfl
      · rw [lf, inSc_mono (by simp) _ hs2]; rfl
    · intro d hd
      simp only [List.mem_cons, List.not_mem_nil, or_false] at hd
      rcases hd with rfl | rfl | rfl <;> simp [rw3, DV.leaf, inSc] <;> omega
    · exact smL_wf _ _ _
    · exact smL_wf _ _ _
    · exact smL_wf _ _ _
    · intro d hd
      simp only [List.mem_cons, List.not_mem_nil, or_false] at hd
      rcases hd with rfl | rfl | rfl | rfl
      · rfl
      all_goals simp [rw3, DV.leaf, inSc]
      all_goals omega
    · exact smL_wf _ _ _
    · exact smL_wf _ _ _
    · exact smL_wf _ _ _
  obtain ⟨G', a1, b1⟩ := imgs_L0 (n + 4) fl (by omega) hfl pts hp tp r c0 c1 c2 t0 t1 t2 (by omega) n _ hI
  refine ⟨G', ?_, b1⟩
  have lq := fun K (X : Heap) => s_triunelaw13_images_L0_eq (n + 4) fl K (n + 4) (LV 5 ptE pts tp) (I .i64 r) (.ptr H.length 0) (.ptr (H.length + 1) 0) (.ptr (H.length + 5) 0) (I .i64 0) X
  have e1 : (104 : Nat) = 104 := rfl
  have p1 := fun x y k o => binD_ptr_nil (t := 105) (e := 186) Try.underlying105 x y k o
  have p2 := fun x y k o => binD_ptr_nil (t := 106) (e := 199) Try.underlying106 x y k o
  refine (s_triunelaw13_images_eq _ _ _ _ _ _).trans ?_
  have hz : smz = ⟨0, 0, false⟩ := rfl
  rw [← hz] at hN1 hN2
  unfold bxB at *
  unfold s_triunelaw13_images
  simp -implicitDefEqProofs (disch := first | omega | (simp only [List.length_set, List.length_append, List.length_cons, List.length_nil, List.length_take, List.length_drop, List.length_map]; omega) | simp) [wrap_i64, wrap_u16_id, wrap_u8_id, tdiv_pos, tmod_pos, -getElem?_pos, -getElem?_neg, -List.length_eq_zero_iff, -List.getElem_cons_drop, -List.set_append_right, lf, hN1, hN2, hp, p1, p2, lq, a1, s_triunelaw13_images_O0]
end Go.Proofs.Ytbhnkdnfmlnajaa

/- The judge: plain facts of rounds. -/
namespace Go.Proofs.Ytbhnkdnfmlnajaa
open Go
set_option linter.unusedSimpArgs false
set_option linter.unusedVariables false
set_option maxRecDepth 100000
theorem eql_b3 (a b c a' b' c' : Bool) (x y : Operand) : binD Try.prog .eql 52 x y (.agg [Bo a, Bo b, Bo c]) (.agg [Bo a', Bo b', Bo c']) = some (Bo (a == a' && b == b' && c == c')) :=
  binD_eql_agg (va := [.bool a, .bool b, .bool c]) (vb := [.bool a', .bool b', .bool c']) rfl rfl (by kernel_rfl) (pr_eq3_bool Try.underlying52 Try.underlying4 (by kernel_rfl) a b c a' b' c')
theorem mkQ : ∀ (m : Nat) (ps : List Pt) (a b c : List Sm), ps.length = m → a.length = m → b.length = m → c.length = m → ∃ L : List Q, L.length = m ∧ L.map Q.p = ps ∧ L.map Q.x0 = a ∧ L.map Q.x1 = b ∧ L.map Q.x2 = c
  | 0, [], [], [], [], _, _, _, _ => ⟨[], rfl, rfl, rfl, rfl, rfl⟩
  | m + 1, p :: ps, x :: a, y :: b, z :: c, h1, h2, h3, h4 => by
    obtain ⟨L, e1, e2, e3, e4, e5⟩ := mkQ m ps a b c (by simpa using h1) (by simpa using h2) (by simpa using h3) (by simpa using h4)
    exact ⟨⟨p, x, y, z⟩ :: L, by simp [e1], by simp [e2], by simp [e3], by simp [e4], by simp [e5]⟩
def Wd (l : List (Int × Int)) : Prop := ∀ c ∈ l, 0 ≤ c.1 ∧ c.1 < 65536
theorem smF_ok (r : Int) (m : Nat) (c : List (Int × Int)) (hc : Wd c) : ∀ s ∈ smF r m c, 0 ≤ s.v ∧ s.v < 65536 := by
  intro s hs
  unfold smF smI at hs
  rcases List.mem_append.1 hs with hs | hs
  · obtain ⟨x, hx, rfl⟩ := List.mem_map.1 hs
    exact hc x (List.mem_of_mem_take hx)
  · rw [List.eq_of_mem_replicate hs]
    exact ⟨by decide, by decide⟩
theorem smF_len (r : Int) (m : Nat) (c : List (Int × Int)) : (smF r m c).length = m := by
  unfold smF smI
  simp
  omega
theorem qok_of {L : List Q} {ps : List Pt} {a b c : List Sm} (e2 : L.map Q.p = ps) (e3 : L.map Q.x0 = a) (e4 : L.map Q.x1 = b) (e5 : L.map Q.x2 = c) (hp : ∀ p ∈ ps, PtMay p) (ha : ∀ s ∈ a, 0 ≤ s.v ∧ s.v < 65536) (hb : ∀ s ∈ b, 0 ≤ s.v ∧ s.v < 65536) (hc : ∀ s ∈ c, 0 ≤ s.v ∧ s.v < 65536) : ∀ q ∈ L, QOk q := by
  intro q hq
  refine ⟨(hp _ (e2 ▸ List.mem_map_of_mem hq)).1.1, ha _ (e3 ▸ List.mem_map_of_mem hq), hb _ (e4 ▸ List.mem_map_of_mem hq), hc _ (e5 ▸ List.mem_map_of_mem hq)⟩
theorem fin_bad0 (r : Int) (q : Q) (h : q.fin0 r = true) : q.bad0 r true true true = false := by
  unfold Q.fin0 at h
  unfold Q.bad0
  simp only [Bool.and_eq_true, Bool.not_eq_true', Bool.true_and, Bool.not_not] at h ⊢
  simp [h.1, h.2.1]
theorem fin_bad1 (r : Int) (q : Q) (h : q.fin1 r = true) : q.bad1 r true true true = false := by
  unfold Q.fin1 at h
  unfold Q.bad1
  simp only [Bool.and_eq_true, Bool.not_eq_true', Bool.true_and, Bool.not_not] at h ⊢
  simp [h.1, h.2.1]
theorem fin_bad2 (r : Int) (q : Q) (h : q.fin2 r = true) : q.bad2 r true true true = false := by
  unfold Q.fin2 at h
  unfold Q.bad2
  simp only [Bool.and_eq_true, Bool.not_eq_true', Bool.true_and, Bool.not_not] at h ⊢
  simp [h.1, h.2.1]
/-- what the law asks of a channel -/
theorem fine_law (F B : Q → Bool) (W : Q → Bool) (L : List Q) (h1 : ∀ q, F q = true → B q = false) (h2 : ∀ q, W q = false → F q = false ∧ B q = true) :
    (L.all F && L.any B) = false ∧ (L.all W = true ∨ (L.all F = false ∧ L.any B = true)) := by
  refine ⟨?_, ?_⟩
  · by_cases h : L.all F = true
    · rw [h, Bool.true_and, List.any_eq_false]
      intro q hq
      rw [List.all_eq_true] at h
      simpa using h1 q (h q hq)
    · simp [h]
  · by_cases h : L.all W = true
    · exact .inl h
    · right
      have : ∃ q ∈ L, W q = false := by
        rw [List.all_eq_true] at h
        simpa using h
      obtain ⟨q, hq, hw⟩ := this
      obtain ⟨a, b⟩ := h2 q hw
      refine ⟨?_, List.any_eq_true.2 ⟨q, hq, b⟩⟩
      rw [List.all_eq_false]
      exact ⟨q, hq, by simp [a]⟩
theorem unfr0 (r : Int) (q : Q) (h : fr q.x0 r = false) : q.fin0 r = false ∧ q.bad0 r true true true = true := by
  unfold Q.fin0 Q.bad0; simp [h]
theorem unfr1 (r : Int) (q : Q) (h : fr q.x1 r = false) : q.fin1 r = false ∧ q.bad1 r true true true = true := by
  unfold Q.fin1 Q.bad1; simp [h]
theorem unfr2 (r : Int) (q : Q) (h : fr q.x2 r = false) : q.fin2 r = false ∧ q.bad2 r true true true = true := by
  unfold Q.fin2 Q.bad2; simp [h]
/-- a value that a point may have -/
def VOk (p : Pt) (x : Int) : Prop := (0 ≤ x ∧ x < 65536) ∧ (1 < p.kind → x ≤ 1)
theorem vote_bits2 (g : Int) (h0 : 0 ≤ g) (h1 : g ≤ 1) : majV [g, g] = (g, true) := by
  have hg : g = 0 ∨ g = 1 := by omega
  rcases hg with rfl | rfl <;> (unfold majV sumI; simp)
theorem vote_bits3 (a b c g : Int) (ha : 0 ≤ a ∧ a ≤ 1) (hb : 0 ≤ b ∧ b ≤ 1) (hc : 0 ≤ c ∧ c ≤ 1) (h : (a = g ∧ b = g) ∨ (a = g ∧ c = g) ∨ (b = g ∧ c = g)) : majV [a, b, c] = (g, true) := by
  have ha' : a = 0 ∨ a = 1 := by omega
  have hb' : b = 0 ∨ b = 1 := by omega
  have hc' : c = 0 ∨ c = 1 := by omega
  rcases ha' with rfl | rfl <;> rcases hb' with rfl | rfl <;> rcases hc' with rfl | rfl <;> first
    | (have : g = 0 := by omega
       subst this; unfold majV sumI; simp)
    | (have : g = 1 := by omega
       subst this; unfold majV sumI; simp)
theorem vote2 (p : Pt) (g : Int) (hg : VOk p g) : (voteV p [g, g]).1 = g := by
  unfold voteV pickV
  by_cases hk : p.kind ≤ 1
  · simp only [hk, if_true]
    show (if true = true then ((g + g) / 2, true) else _).1 = g
    simp only [if_true]
    omega
  · simp only [hk, if_false]
    rw [vote_bits2 g hg.1.1 (hg.2 (by omega))]
    rfl
theorem vote3 (p : Pt) (a b c g : Int) (ha : VOk p a) (hb : VOk p b) (hc : VOk p c) (h : (a = g ∧ b = g) ∨ (a = g ∧ c = g) ∨ (b = g ∧ c = g)) : (voteV p [a, b, c]).1 = g := by
  unfold voteV pickV
  by_cases hk : p.kind ≤ 1
  · simp only [hk, if_true]
    show (if true = true then (max (min a b) (min (max a b) c), true) else _).1 = g
    simp only [if_true]
    omega
  · simp only [hk, if_false]
    rw [vote_bits3 a b c g ⟨ha.1.1, ha.2 (by omega)⟩ ⟨hb.1.1, hb.2 (by omega)⟩ ⟨hc.1.1, hc.2 (by omega)⟩ h]
    rfl
theorem apart_gg (band g : Int) (h : 0 ≤ band) : apartV band g g = false := by
  unfold apartV
  simp
  omega
/-- where two tell the same, that is voted, and neither is odd -/
theorem two_vote (p : Pt) (hb : 0 ≤ p.band) (f0 f1 f2 : Bool) (a b c g : Int) (ha : VOk p a) (hB : VOk p b) (hc : VOk p c) (who : Nat) (hw : who < 3) (h0 : who ≠ 0 → f0 = true ∧ a = g) (h1 : who ≠ 1 → f1 = true ∧ b = g) (h2 : who ≠ 2 → f2 = true ∧ c = g) :
    (voteV p (vals f0 f1 f2 a b c)).1 = g ∧ (who ≠ 0 → (oddV p (vals f0 f1 f2 a b c)).1 = false) ∧ (who ≠ 1 → (oddV p (vals f0 f1 f2 a b c)).2.1 = false) ∧ (who ≠ 2 → (oddV p (vals f0 f1 f2 a b c)).2.2 = false) := by
  have hw' : who = 0 ∨ who = 1 ∨ who = 2 := by omega
  rcases hw' with rfl | rfl | rfl
  · obtain ⟨rfl, rfl⟩ := h1 (by omega)
    obtain ⟨rfl, rfl⟩ := h2 (by omega)
    cases f0
    · exact ⟨vote2 p _ hc, fun _ => rfl, fun _ => rfl, fun _ => rfl⟩
    · have hv := vote3 p a c c c ha hc hc (by omega)
      refine ⟨hv, fun h => absurd rfl h, fun _ => ?_, fun _ => ?_⟩
      · show apartV p.band c (voteV p [a, c, c]).1 = false
        rw [hv]; exact apart_gg _ _ hb
      · show apartV p.band c (voteV p [a, c, c]).1 = false
        rw [hv]; exact apart_gg _ _ hb
  · obtain ⟨rfl, rfl⟩ := h0 (by omega)
    obtain ⟨rfl, rfl⟩ := h2 (by omega)
    cases f1
    · exact ⟨vote2 p _ hc, fun _ => rfl, fun _ => rfl, fun _ => rfl⟩
    · have hv := vote3 p c b c c hc hB hc (by omega)
      refine ⟨hv, fun _ => ?_, fun h => absurd rfl h, fun _ => ?_⟩
      · show apartV p.band c (voteV p [c, b, c]).1 = false
        rw [hv]; exact apart_gg _ _ hb
      · show apartV p.band c (voteV p [c, b, c]).1 = false
        rw [hv]; exact apart_gg _ _ hb
  · obtain ⟨rfl, rfl⟩ := h0 (by omega)
    obtain ⟨rfl, rfl⟩ := h1 (by omega)
    cases f2
    · exact ⟨vote2 p _ hB, fun _ => rfl, fun _ => rfl, fun _ => rfl⟩
    · have hv := vote3 p b b c b hB hB hc (by omega)
      refine ⟨hv, fun _ => ?_, fun _ => ?_, fun h => absurd rfl h⟩
      · show apartV p.band b (voteV p [b, b, c]).1 = false
        rw [hv]; exact apart_gg _ _ hb
      · show apartV p.band b (voteV p [b, b, c]).1 = false
        rw [hv]; exact apart_gg _ _ hb
/-- where all tell the same, all are fine -/
theorem same_fin (p : Pt) (hb : 0 ≤ p.band) (g : Int) (hg : VOk p g) (r : Int) : Q.fin0 r ⟨p, ⟨g, r, true⟩, ⟨g, r, true⟩, ⟨g, r, true⟩⟩ = true ∧ Q.fin1 r ⟨p, ⟨g, r, true⟩, ⟨g, r, true⟩, ⟨g, r, true⟩⟩ = true ∧ Q.fin2 r ⟨p, ⟨g, r, true⟩, ⟨g, r, true⟩, ⟨g, r, true⟩⟩ = true := by
  have hf : fr ⟨g, r, true⟩ r = true := by unfold fr; simp
  have hv := vote3 p g g g g hg hg hg (by omega)
  have ha : apartV p.band g (voteV p [g, g, g]).1 = false := by rw [hv]; exact apart_gg _ _ hb
  unfold Q.fin0 Q.fin1 Q.fin2 Q.vl
  simp only [hf]
  refine ⟨?_, ?_, ?_⟩ <;> (show (true && (!(apartV p.band g (voteV p [g, g, g]).1) && true)) = true; rw [ha]; rfl)
/-- what all tell -/
def gv (p : Pt) (v : Int) : Int := if 2 ≤ p.kind then v % 2 else v
theorem gv_ok (p : Pt) (v : Int) (h : 0 ≤ v ∧ v < 65536) : VOk p (gv p v) := by
  unfold gv VOk
  split <;> omega
def goodL : List Pt → List Int → List (Int × Int)
  | p :: ps, v :: vs => (gv p v, 0) :: goodL ps vs
  | _, _ => []
theorem goodL_len : ∀ (ps : List Pt) (vs : List Int), ps.length ≤ vs.length → (goodL ps vs).length = ps.length
  | [], _, _ => by simp [goodL]
  | p :: ps, [], h => by simp at h
  | p :: ps, v :: vs, h => by simp only [goodL, List.length_cons]; rw [goodL_len ps vs (by simpa using h)]
theorem goodL_get : ∀ (ps : List Pt) (vs : List Int) (i : Nat) (h1 : i < ps.length) (h2 : i < vs.length) (h3 : i < (goodL ps vs).length), (goodL ps vs)[i] = (gv ps[i] vs[i], 0)
  | p :: ps, v :: vs, 0, _, _, _ => rfl
  | p :: ps, v :: vs, i + 1, h1, h2, h3 => by
    simp only [goodL, List.getElem_cons_succ]
    exact goodL_get ps vs i _ _ _
theorem goodL_wd : ∀ (ps : List Pt) (vs : List Int), Words vs → Wd (goodL ps vs)
  | [], _, _ => by intro c hc; simp [goodL] at hc
  | p :: ps, [], _ => by intro c hc; simp [goodL] at hc
  | p :: ps, v :: vs, h => by
    intro c hc
    simp only [goodL] at hc
    rcases List.mem_cons.1 hc with rfl | hc
    · exact (gv_ok p v (h v (by simp))).1
    · exact goodL_wd ps vs (fun x hx => h x (by simp [hx])) c hc
theorem smF_full (r : Int) (m : Nat) (c : List (Int × Int)) (h : c.length = m) : smF r m c = c.map (smf r) := by
  unfold smF smI
  subst h
  simp
def goodQ : List Pt → List Int → List Q
  | p :: ps, v :: vs => ⟨p, ⟨gv p v, 7, true⟩, ⟨gv p v, 7, true⟩, ⟨gv p v, 7, true⟩⟩ :: goodQ ps vs
  | _, _ => []
theorem goodQ_maps : ∀ (ps : List Pt) (vs : List Int), ps.length ≤ vs.length → (goodQ ps vs).length = ps.length ∧ (goodQ ps vs).map Q.p = ps ∧ (goodQ ps vs).map Q.x0 = (goodL ps vs).map (smf 7) ∧ (goodQ ps vs).map Q.x1 = (goodL ps vs).map (smf 7) ∧ (goodQ ps vs).map Q.x2 = (goodL ps vs).map (smf 7)
  | [], _, _ => by simp [goodQ, goodL]
  | p :: ps, [], h => by simp at h
  | p :: ps, v :: vs, h => by
    obtain ⟨e1, e2, e3, e4, e5⟩ := goodQ_maps ps vs (by simpa using h)
    have e : smf 7 (gv p v, 0) = ⟨gv p v, 7, true⟩ := rfl
    simp only [goodQ, goodL, List.length_cons, List.map_cons, e1, e2, e3, e4, e5, e]
    exact ⟨trivial, trivial, trivial, trivial, trivial⟩
theorem goodQ_fin : ∀ (ps : List Pt) (vs : List Int), (∀ p ∈ ps, PtMay p) → Words vs → ∀ q ∈ goodQ ps vs, q.fin0 7 = true ∧ q.fin1 7 = true ∧ q.fin2 7 = true
  | [], _, _, _ => by simp [goodQ]
  | p :: ps, [], _, _ => by simp [goodQ]
  | p :: ps, v :: vs, hp, hv => by
    intro q hq
    simp only [goodQ] at hq
    rcases List.mem_cons.1 hq with rfl | hq
    · exact same_fin p (hp p (by simp)).2.2.2 (gv p v) (gv_ok p v (hv v (by simp))) 7
    · exact goodQ_fin ps vs (fun p h => hp p (by simp [h])) (fun v h => hv v (by simp [h])) q hq
theorem bxB_wf (c0 c1 c2 : List (Int × Int)) : WfH [bxB c0 c1 c2 .sh .sh .sh] := by
  intro b hb
  simp only [List.mem_singleton] at hb
  subst hb
  intro d hd
  simp only [List.mem_cons, List.not_mem_nil, or_false] at hd
  rcases hd with rfl | rfl | rfl
  · cases c0 <;> rfl
  · cases c1 <;> rfl
  · cases c2 <;> rfl
theorem inSc_tg {t : Tag} {e : TypeId} {n0 k : Nat} {H : Heap} (h : TgOk t e 2 n0 k H) (l : List (Int × Int)) : inSc H.length (LV 2 clE l t) = true := by
  rcases h with rfl | ⟨k2, rfl, h1, h2⟩
  · exact inSc_LV_ti _ _ _ _
  · have := hp_lt h1
    cases l <;> simp [LV, mkl, inSc, this]
theorem wf_hole {H : Heap} (h : WfH H) : WfH (H ++ [.hole]) := h.app fun b hb => by
  simp only [List.mem_singleton] at hb
  subst hb
  trivial
theorem wf_bools {H : Heap} (h : WfH H) (e : TypeId) (l : List Bool) : WfH (H ++ [.cells e (l.map Bo)]) := h.app fun b hb => by
  simp only [List.mem_singleton] at hb
  subst hb
  exact bools_wf _ _ _
end Go.Proofs.Ytbhnkdnfmlnajaa

/- Opening any argument of a law: what reads as data of a type stands for a deep value of the type's shape. -/
namespace Go.Proofs.Ytbhnkdnfmlnajaa
open Go Go.RowKit Go.ChangeShapes Go.WideShapes

def isAgT (P : Program) (t : TypeId) : Bool := match P.underlying t with
  | some (.struct _) => true
  | some (.array _ _) => true
  | _ => false
def elOf (ag : Bool) (ds : List DV) : DV := if ag then .agg ds else ds.headD .any
def ShpFs (S : TypeId → List DV → Prop) : List TypeId → List DV → Prop
  | [], ds => ds = []
  | t :: ts, ds => ∃ a b, ds = a ++ b ∧ S t a ∧ ShpFs S ts b
/-- the deep cells that data of a type has -/
def Shp (P : Program) : Nat → TypeId → List DV → Prop
  | 0, _, _ => False
  | d + 1, t, ds => match P.underlying t with
    | some (.int k) => ∃ n, ds = [.flat (.int k n)] ∧ (Lit.int k n).wf = true
    | some .bool => ∃ b, ds = [.flat (.bool b)]
    | some .string => ∃ s : ByteArray, ds = [.flat (.string s)] ∧ s.size ≤ reachBytes
    | some (.slice e) => ∃ l : List (List DV), ds = [mkl (P.cellsOf e) (l.map (elOf (isAgT P e))) .sh] ∧ l.length * P.bytesOf e ≤ reachBytes ∧ ∀ x ∈ l, Shp P d e x
    | some (.struct fs) => ShpFs (Shp P d) (fs.toList.map (·.type)) ds
    | some (.array n e) => ∃ l : List (List DV), l.length = n ∧ ds = l.flatten ∧ ∀ x ∈ l, Shp P d e x
    | _ => False
def laidFs (P : Program) (total : Nat) : Nat → List Field → Bool
  | off, [] => off == total
  | off, f :: fs => f.offset == off && laidFs P total (off + P.cellsOf f.type) fs
def deepT (P : Program) : Nat → TypeId → Bool
  | 0, _ => false
  | d + 1, t => match P.underlying t with
    | some (.int _) => P.cellsOf t == 1
    | some .bool => P.cellsOf t == 1
    | some .string => P.cellsOf t == 1
    | some (.slice e) => P.cellsOf t == 1 && decide (0 < P.bytesOf e ∧ 0 < P.cellsOf e) && (isAgT P e || P.cellsOf e == 1) && deepT P d e
    | some (.struct fs) => laidFs P (P.cellsOf t) 0 fs.toList && fs.toList.all fun f => deepT P d f.type
    | some (.array n e) => P.cellsOf t == n * P.cellsOf e && deepT P d e
    | _ => false

section
variable {H : Type} {enc' : TypeId × Value → H} {P : Program} {W : World} {spare : Nat → Bool} {held : Bool}
abbrev Any : Nat → Nat → Prop := fun _ _ => True
/-- what is found of some cells -/
def Opened (P : Program) (W : World) (d : Nat) (t : TypeId) (cs : List Value) : Prop :=
  ∃ ds : List DV, RepL Any W [] ds cs ∧ Shp P d t ds ∧ ds.all DV.leaf = true ∧ ∀ v ∈ cs, isOne v = true
theorem ex_list {α : Type} (Q : Nat → α → Prop) (n : Nat) (h : ∀ i, i < n → ∃ y, Q i y) : ∃ L : List α, L.length = n ∧ ∀ i (hi : i < L.length), Q i L[i] := by
  induction n with
  | zero => exact ⟨[], rfl, fun i hi => by simp at hi⟩
  | succ n ih =>
    obtain ⟨L, rfl, hL⟩ := ih (fun i hi => h i (by omega))
    obtain ⟨y, hy⟩ := h L.length (by omega)
    refine ⟨L ++ [y], by simp, fun i hi => ?_⟩
    by_cases hlt : i < L.length
    · rw [List.getElem_append_left hlt]; exact hL i hlt
    · have : i = L.length := by simp at hi; omega
      subst this
      simpa using hy
theorem addr_pl {w : World} {a : Addr} {v : Value} (h : w.cell? a = some v) : a = ⟨a.block, a.off, none⟩ := by
  obtain ⟨b, o, s⟩ := a
  unfold World.cell? at h
  split at h
  · cases s with
    | none => rfl
    | some s => simp at h
  · cases h
theorem addr_ad (b o j : Nat) : (⟨b, o, none⟩ : Addr).add j = ⟨b, o + j, none⟩ := by
  unfold Addr.add; split <;> simp_all
theorem RepE.of {I : Nat → Nat → Prop} {w : World} {sz b : Nat} : ∀ (xs : List DV) (o : Nat), (∀ i (hi : i < xs.length), xs[i].cells.all DV.leaf = true ∧ ∃ V, Rep I w [] xs[i] V ∧ V.cells.size = sz ∧ CellsAt I w b (o + i * sz) V.cells.toList) → RepE I w sz xs b o
  | [], _, _ => by simp [RepE]
  | x :: xs, o, h => by
    simp only [RepE]
    refine ⟨by have h0 := h 0 (by simp); rw [Nat.zero_mul, Nat.add_zero] at h0; exact h0, RepE.of xs (o + sz) fun i hi => ?_⟩
    have := h (i + 1) (by simpa using hi)
    rw [show o + (i + 1) * sz = o + sz + i * sz by rw [Nat.add_mul]; omega] at this
    simpa using this
/-- struct by struct, field by field -/
theorem open_fields {d n : Nat} {cs : List Value} {total : Nat} (hcs : cs.length = total) (ih : ∀ (t : TypeId) (cs : List Value) (x : DataW H × List MemPlace), deepT P d t = true → DataW.trod enc' P W 0 spare held n t cs = some x → (∀ k ∈ x.1.weights P t, k ≤ reachBytes) → Opened P W d t cs) :
    ∀ (fs : List Field) (off : Nat) (xs : List (DataW H × List MemPlace)), laidFs P total off fs = true → fs.all (fun f => deepT P d f.type) = true → xs.length = fs.length →
      (∀ (i : Nat) (f : Field), fs[i]? = some f → DataW.trod enc' P W 0 spare held n f.type ((cs.drop f.offset).take (P.cellsOf f.type)) = xs[i]?) →
      (∀ k ∈ DataW.weightsEach P (fs.map (·.type)) (xs.map (·.1)), k ≤ reachBytes) →
      ∃ ds : List DV, RepL Any W [] ds (cs.drop off) ∧ ShpFs (Shp P d) (fs.map (·.type)) ds ∧ ds.all DV.leaf = true ∧ ∀ v ∈ cs.drop off, isOne v = true
  | [], off, xs, hl, _, _, _, _ => by
    have : off = total := by simpa [laidFs] using hl
    have : cs.drop off = [] := by rw [List.drop_eq_nil_iff]; omega
    rw [this]
    exact ⟨[], by simp [RepL], rfl, rfl, fun v hv => by simp at hv⟩
  | f :: fs, off, [], _, _, hx, _, _ => by simp at hx
  | f :: fs, off, x :: xs, hl, hd, hx, ht, hw => by
    simp only [laidFs, Bool.and_eq_true, beq_iff_eq] at hl
    simp only [List.all_cons, Bool.and_eq_true] at hd
    have h0 := ht 0 f rfl
    simp only [List.getElem?_cons_zero] at h0
    rw [hl.1] at h0
    simp only [List.map_cons, DataW.weightsEach, List.mem_append] at hw
    obtain ⟨a, ha1, ha2, ha3, ha4⟩ := ih _ _ _ hd.1 h0 (fun k hk => hw k (.inl hk))
    obtain ⟨b, hb1, hb2, hb3, hb4⟩ := open_fields hcs ih fs (off + P.cellsOf f.type) xs hl.2 hd.2 (by simpa using hx) (fun i g hg => by
      have := ht (i + 1) g (by simpa using hg)
      simpa using this) (fun k hk => hw k (.inr hk))
    have hsplit : cs.drop off = (cs.drop off).take (P.cellsOf f.type) ++ cs.drop (off + P.cellsOf f.type) := by
      rw [← List.drop_drop, List.take_append_drop]
    refine ⟨a ++ b, ?_, ⟨a, b, rfl, ha2, hb2⟩, by simp only [List.all_append, ha3, hb3, Bool.and_self], ?_⟩
    · rw [hsplit]; exact ha1.app hb1
    · rw [hsplit]
      intro v hv
      rcases List.mem_append.mp hv with h | h
      · exact ha4 v h
      · exact hb4 v h
theorem open_items {d n : Nat} {e : TypeId} {cs : List Value} (hde : deepT P d e = true) (ih : ∀ (t : TypeId) (cs : List Value) (x : DataW H × List MemPlace), deepT P d t = true → DataW.trod enc' P W 0 spare held n t cs = some x → (∀ k ∈ x.1.weights P t, k ≤ reachBytes) → Opened P W d t cs) :
    ∀ (xs : List (DataW H × List MemPlace)) (off : Nat), cs.length = off + xs.length * P.cellsOf e → (∀ i, i < xs.length → DataW.trod enc' P W 0 spare held n e ((cs.drop (off + i * P.cellsOf e)).take (P.cellsOf e)) = xs[i]?) →
      (∀ k ∈ DataW.weightsAll P e (xs.map (·.1)), k ≤ reachBytes) →
      ∃ l : List (List DV), l.length = xs.length ∧ RepL Any W [] l.flatten (cs.drop off) ∧ (∀ x ∈ l, Shp P d e x) ∧ l.flatten.all DV.leaf = true ∧ ∀ v ∈ cs.drop off, isOne v = true
  | [], off, hl, _, _ => by
    have : cs.drop off = [] := by rw [List.drop_eq_nil_iff]; simp at hl; omega
    rw [this]
    exact ⟨[], rfl, by simp [RepL], fun x hx => by simp at hx, rfl, fun v hv => by simp at hv⟩
  | x :: xs, off, hl, ht, hw => by
    have h0 := ht 0 (by simp)
    simp only [List.getElem?_cons_zero, Nat.zero_mul, Nat.add_zero] at h0
    simp only [List.map_cons, DataW.weightsAll, List.mem_append] at hw
    obtain ⟨a, ha1, ha2, ha3, ha4⟩ := ih _ _ _ hde h0 (fun k hk => hw k (.inl hk))
    obtain ⟨l, hb0, hb1, hb2, hb3, hb4⟩ := open_items hde ih xs (off + P.cellsOf e) (by rw [hl, List.length_cons, Nat.add_mul]; omega) (fun i hi => by
      have := ht (i + 1) (by simpa using hi)
      rw [show off + (i + 1) * P.cellsOf e = off + P.cellsOf e + i * P.cellsOf e by rw [Nat.add_mul]; omega] at this
      simpa using this) (fun k hk => hw k (.inr hk))
    have hsplit : cs.drop off = (cs.drop off).take (P.cellsOf e) ++ cs.drop (off + P.cellsOf e) := by
      rw [← List.drop_drop, List.take_append_drop]
    refine ⟨a :: l, by simp [hb0], ?_, ?_, by simp only [List.flatten_cons, List.all_append, ha3, hb3, Bool.and_self], ?_⟩
    · rw [hsplit, List.flatten_cons]; exact ha1.app hb1
    · intro y hy
      rcases List.mem_cons.mp hy with rfl | hy
      · exact ha2
      · exact hb2 y hy
    · rw [hsplit]
      intro v hv
      rcases List.mem_append.mp hv with h | h
      · exact ha4 v h
      · exact hb4 v h
theorem open_cells : ∀ (d n : Nat) (t : TypeId) (cs : List Value) (x : DataW H × List MemPlace), deepT P d t = true → DataW.trod enc' P W 0 spare held n t cs = some x → (∀ k ∈ x.1.weights P t, k ≤ reachBytes) → Opened P W d t cs := by
  intro d
  induction d with
  | zero => intro n t cs x hd; cases hd
  | succ d ih =>
    intro n t cs x hd h hw
    unfold deepT at hd
    unfold Opened Shp
    split at hd
    · rename_i k hu
      obtain ⟨m, rfl, _, hwf⟩ := DataW.trod_int hu h
      exact ⟨[.flat (.int k m)], by simp [RepL, Rep], ⟨m, rfl, hwf⟩, rfl, fun v hv => by simp at hv; subst hv; rfl⟩
    · rename_i hu
      obtain ⟨b, rfl, _⟩ := DataW.trod_bool hu h
      exact ⟨[.flat (.bool b)], by simp [RepL, Rep], ⟨b, rfl⟩, rfl, fun v hv => by simp at hv; subst hv; rfl⟩
    · rename_i hu
      obtain ⟨s, rfl, rfl, _⟩ := DataW.trod_string hu h
      refine ⟨[.flat (.string s)], by simp [RepL, Rep], ⟨s, rfl, ?_⟩, rfl, fun v hv => by simp at hv; subst hv; rfl⟩
      have := hw s.data.toList.length (by simp [DataW.weights])
      simpa using this
    · rename_i e hu
      simp only [Bool.and_eq_true, beq_iff_eq, decide_eq_true_eq, Bool.or_eq_true] at hd
      obtain ⟨⟨⟨_, hB0, hpos2⟩, hag⟩, hde⟩ := hd
      rcases DataW.trod_slice hu h with ⟨rfl, _⟩ | ⟨a, len, cap, elems, rest, m, rfl, rfl, rfl, _, hl, _, hlen, hel, _, _⟩
      · refine ⟨[.list 0 [] .sh], ?_, ⟨[], rfl, by simp, fun x hx => by simp at hx⟩, rfl, fun v hv => by simp at hv; subst hv; rfl⟩
        simp only [RepL, Rep]
        exact ⟨_, _, rfl, ⟨none, 0, by simp, by simp, by simp, by simp, by simp [TagOk]⟩, rfl⟩
      · simp only [DataW.weights, hu, List.mem_cons, List.mem_append, List.length_map] at hw
        have hz := hw _ (.inl rfl)
        have hz2 : len * P.bytesOf e ≤ reachBytes := Nat.le_trans (Nat.mul_le_mul_right _ (by omega)) hz
        have hlen2 : len ≤ 140737488351232 := Nat.le_trans (Nat.le_mul_of_pos_right _ hB0) hz2
        have each : ∀ i, i < len → ∃ q : List DV, ∃ cs : List Value, W.cells? 0 (a.add (i * P.cellsOf e)) (P.cellsOf e) = some cs ∧ RepL Any W [] q cs ∧ Shp P d e q ∧ q.all DV.leaf = true ∧ ∀ v ∈ cs, isOne v = true := by
          intro i hi
          have h1 := hel i hi
          have h2 : elems[i]? = some elems[i] := List.getElem?_eq_getElem (by omega)
          rw [h2, Option.bind_eq_some_iff] at h1
          obtain ⟨cs, h3, h4⟩ := h1
          have hwi : ∀ k ∈ elems[i].1.weights P e, k ≤ reachBytes := by
            intro k hk
            refine hw k (.inr (.inl ?_))
            have : ∀ (L : List (DataW H)) (y : DataW H), y ∈ L → ∀ k ∈ y.weights P e, k ∈ DataW.weightsAll P e L := by
              intro L
              induction L with
              | nil => intro y hy; simp at hy
              | cons z L ih2 =>
                intro y hy k hk
                simp only [DataW.weightsAll, List.mem_append]
                rcases List.mem_cons.mp hy with rfl | hy
                · exact .inl hk
                · exact .inr (ih2 y hy k hk)
            exact this _ elems[i].1 (List.mem_map.mpr ⟨elems[i], List.getElem_mem _, rfl⟩) k hk
          obtain ⟨q, q1, q2, q3, q4⟩ := ih _ _ _ _ hde h4 hwi
          exact ⟨q, cs, h3, q1, q2, q3, q4⟩
        obtain ⟨L, hL, hLc⟩ := ex_list _ len each
        subst hL
        refine ⟨[mkl (P.cellsOf e) (L.map (elOf (isAgT P e))) .sh], ?_, ⟨L, rfl, hz2, ?_⟩, ?_, fun v hv => by simp at hv; subst hv; rfl⟩
        · simp only [RepL]
          refine ⟨_, _, rfl, ?_, rfl⟩
          by_cases h0 : L = []
          · subst h0
            show Rep Any W [] (.list 0 [] .sh) _
            simp only [Rep]
            exact ⟨some a, cap, rfl, Nat.zero_le _, Nat.zero_le _, .inl trivial, trivial⟩
          · have hmk : mkl (P.cellsOf e) (L.map (elOf (isAgT P e))) .sh = .list (P.cellsOf e) (L.map (elOf (isAgT P e))) .sh := by
              cases L with
              | nil => exact absurd rfl h0
              | cons => rfl
            rw [hmk]
            simp only [Rep, List.length_map]
            refine ⟨some a, cap, rfl, hl, by omega, .inr ?_, trivial⟩
            have ha : a = ⟨a.block, a.off, none⟩ := by
              have hpos : 0 < L.length := List.length_pos_iff.mpr h0
              obtain ⟨cs0, c1, c2, c3, c4, c5⟩ := hLc 0 hpos
              have hc := World.cells?_some c1
              have c := hc.2.2 0 hpos2
              simp only [Nat.zero_mul] at c
              have e1 : (a.add 0).add 0 = a := by simp [Addr.add]
              rw [e1] at c
              rw [List.getElem?_eq_getElem (by omega)] at c
              exact addr_pl c
            refine ⟨a.block, a.off, by rw [← ha], RepE.of _ _ fun i hi => ?_⟩
            have hi' : i < L.length := by simpa using hi
            obtain ⟨cs, c1, c2, c3, c4, c5⟩ := hLc i hi'
            have hc := World.cells?_some c1
            have cell : ∀ j v, cs[j]? = some v → W.cell? ⟨a.block, a.off + i * P.cellsOf e + j, none⟩ = some v ∧ Any a.block (a.off + i * P.cellsOf e + j) ∧ isOne v = true := by
              intro j v hv
              have hj : j < cs.length := by
                rcases Nat.lt_or_ge j cs.length with h | h
                · exact h
                · rw [List.getElem?_eq_none h] at hv; cases hv
              have := hc.2.2 j (by omega)
              rw [ha, addr_ad, addr_ad, hv] at this
              exact ⟨this, trivial, c5 v (List.mem_of_getElem? hv)⟩
            rw [List.getElem_map]
            by_cases hA : isAgT P e = true
            · have hel : elOf (isAgT P e) L[i] = .agg L[i] := by simp [elOf, hA]
              rw [hel]
              refine ⟨c4, .agg cs.toArray, by simp only [Rep]; exact ⟨_, rfl, c2⟩, by simpa [Value.cells] using hc.2.1, fun j v hv => cell j v (by simpa [Value.cells] using hv)⟩
            · have h1 : P.cellsOf e = 1 := by rcases hag with h | h; exact absurd h hA; exact h
              have hl2 := c2.length
              match hq : L[i], cs, hc.2.1, c2, c4, c5, cell with
              | [q], [v], _, c2, c4, c5, cell =>
                have hel : elOf (isAgT P e) [q] = q := by simp [elOf, hA]
                rw [hel]
                simp only [List.all_cons, List.all_nil, Bool.and_true] at c4
                have hqc : q.cells = [q] := by cases q <;> first | rfl | cases c4
                simp only [RepL] at c2
                obtain ⟨v', _, e1, c2, rfl⟩ := c2
                cases e1
                have hv1 : isOne v = true := c5 v (by simp)
                have hvc : v.cells = #[v] := by cases v <;> first | rfl | cases hv1
                refine ⟨by rw [hqc]; simp [c4], v, c2, by rw [hvc]; simp [h1], fun j u hu => cell j u (by rw [hvc] at hu; exact hu)⟩
              | [], [v], _, _, _, _, _ => rw [hq] at hl2; simp at hl2
              | _ :: _ :: _, [v], _, _, _, _, _ => rw [hq] at hl2; simp at hl2
              | _, [], hh, _, _, _, _ => simp at hh; omega
              | _, _ :: _ :: _, hh, _, _, _, _ => simp at hh; omega
        · intro x hx
          obtain ⟨i, hi, rfl⟩ := List.mem_iff_getElem.mp hx
          obtain ⟨cs, _, _, q2, _⟩ := hLc i hi
          exact q2
        · cases L <;> rfl
    · rename_i fs hu
      simp only [Bool.and_eq_true] at hd
      obtain ⟨xs, m, rfl, rfl, hl, hxs, hel⟩ := DataW.trod_struct hu h
      simp only [DataW.weights, hu] at hw
      obtain ⟨ds, h1, h2, h3, h4⟩ := open_fields (d := d) hl (ih m) fs.toList 0 xs hd.1 hd.2 (by simpa using hxs) (fun i f hf => hel i f (by simpa using hf)) hw
      exact ⟨ds, by simpa using h1, h2, h3, by simpa using h4⟩
    · rename_i cnt e hu
      simp only [Bool.and_eq_true, beq_iff_eq] at hd
      obtain ⟨xs, m, rfl, rfl, hl, hxs, hel⟩ := DataW.trod_array hu h
      simp only [DataW.weights, hu] at hw
      obtain ⟨l, h0, h1, h2, h3, h4⟩ := open_items (d := d) (e := e) (cs := cs) hd.2 (ih m) xs 0 (by rw [hl, hd.1, hxs, Nat.zero_add]) (fun i hi => by rw [Nat.zero_add]; exact hel i (by omega)) hw
      exact ⟨l.flatten, by simpa using h1, ⟨l, by rw [h0, hxs], rfl, h2⟩, h3, by simpa using h4⟩
    · cases hd
/-- an argument: a value of its own deep value -/
theorem open_arg (d : Nat) {t : TypeId} {r : Reach} {b0 : Nat} {v : Value} {x : DataW H} {ps : List MemPlace} (hd : deepT P d t = true) (hval : Value.okWide P W r b0 t v) (h : DataW.Trod enc' P W 0 spare held t v x ps) (hw : ∀ k ∈ x.weights P t, k ≤ reachBytes) :
    ∃ ds : List DV, Rep Any W [] (elOf (isAgT P t) ds) v ∧ Shp P d t ds := by
  obtain ⟨fuel, hf⟩ := h
  obtain ⟨ds, h1, h2, h3, h4⟩ := open_cells d fuel t v.cells.toList _ hd hf hw
  refine ⟨ds, ?_, h2⟩
  have one : isAgT P t = false → v.cells.toList = [v] → Rep Any W [] (elOf (isAgT P t) ds) v := by
    intro hA hv
    rw [hv] at h1
    match ds, h1 with
    | [q], h1 =>
      simp only [RepL] at h1
      obtain ⟨v', _, e1, h1, rfl⟩ := h1
      cases e1
      simpa [elOf, hA] using h1
    | [], h1 => simp [RepL] at h1
    | _ :: _ :: _, h1 => have := h1.length; simp at this
  cases d with
  | zero => cases hd
  | succ d =>
    unfold deepT at hd
    split at hd
    · rename_i k hu
      obtain ⟨m, rfl⟩ := okWide_int hu hval
      exact one (by unfold isAgT; rw [hu]) rfl
    · rename_i hu
      obtain ⟨m, rfl⟩ := okWide_bool hu hval
      exact one (by unfold isAgT; rw [hu]) rfl
    · rename_i hu
      obtain ⟨m, rfl⟩ := okWide_string hu hval
      exact one (by unfold isAgT; rw [hu]) rfl
    · rename_i e hu
      obtain ⟨_, _, _, rfl⟩ := okWide_slice hu hval
      exact one (by unfold isAgT; rw [hu]) rfl
    · rename_i fs hu
      obtain ⟨cs, rfl, _⟩ := okWide_struct hu hval
      have hA : isAgT P t = true := by unfold isAgT; rw [hu]
      simp only [elOf, hA, if_true, Rep]
      exact ⟨cs, rfl, h1⟩
    · rename_i n e hu
      have hA : isAgT P t = true := by unfold isAgT; rw [hu]
      unfold Value.okWide at hval
      rw [hu] at hval
      obtain ⟨cs, rfl, _⟩ := hval
      simp only [elOf, hA, if_true, Rep]
      exact ⟨cs, rfl, h1⟩
    · cases hd
end
attribute [irreducible] Shp isAgT
end Go.Proofs.Ytbhnkdnfmlnajaa

/- Shapes of arguments, word by word; and the way from a run of the front evaluator to a law's row. -/
namespace Go.Proofs.Ytbhnkdnfmlnajaa
open Go Go.RowKit

theorem wf_u8 {n : Int} (h : (Lit.int .u8 n).wf = true) : 0 ≤ n ∧ n < 256 := by
  simp [Lit.wf, IntKind.min, IntKind.max, IntKind.signed, IntKind.bits] at h; omega
theorem wf_u16 {n : Int} (h : (Lit.int .u16 n).wf = true) : 0 ≤ n ∧ n < 65536 := by
  simp [Lit.wf, IntKind.min, IntKind.max, IntKind.signed, IntKind.bits] at h; omega
theorem wf_i64 {n : Int} (h : (Lit.int .i64 n).wf = true) : -9223372036854775808 ≤ n ∧ n < 9223372036854775808 := by
  simp [Lit.wf, IntKind.min, IntKind.max, IntKind.signed, IntKind.bits] at h; omega
section
variable {P : Program} {d : Nat} {t e : TypeId} {ds : List DV}
theorem shp_int {k : IntKind} (hu : P.underlying t = some (.int k)) (h : Shp P (d + 1) t ds) : ∃ n, ds = [.flat (.int k n)] ∧ (Lit.int k n).wf = true := by
  unfold Shp at h; rw [hu] at h; exact h
theorem shp_bool (hu : P.underlying t = some .bool) (h : Shp P (d + 1) t ds) : ∃ b, ds = [.flat (.bool b)] := by
  unfold Shp at h; rw [hu] at h; exact h
theorem shp_string (hu : P.underlying t = some .string) (h : Shp P (d + 1) t ds) : ∃ s : ByteArray, ds = [.flat (.string s)] ∧ s.size ≤ reachBytes := by
  unfold Shp at h; rw [hu] at h; exact h
theorem shp_struct {fs : Array Field} (hu : P.underlying t = some (.struct fs)) (h : Shp P (d + 1) t ds) : ShpFs (Shp P d) (fs.toList.map (·.type)) ds := by
  unfold Shp at h; rw [hu] at h; exact h
theorem pick_list {α β : Type} (f : α → β → Prop) (l : List α) (h : ∀ x ∈ l, ∃ a, f x a) : ∃ L : List β, L.length = l.length ∧ ∀ i (h1 : i < l.length) (h2 : i < L.length), f l[i] L[i] := by
  induction l with
  | nil => exact ⟨[], rfl, fun i h => by simp at h⟩
  | cons x l ih =>
    obtain ⟨a, ha⟩ := h x (by simp)
    obtain ⟨L, h1, h2⟩ := ih (fun x hx => h x (by simp [hx]))
    refine ⟨a :: L, by simp [h1], fun i hi hi2 => ?_⟩
    cases i with
    | zero => exact ha
    | succ i => exact h2 i (by simpa using hi) (by simpa using hi2)
theorem shp_slice {α : Type} (enc : α → DV) (Q : α → Prop) {sz : Nat} (hu : P.underlying t = some (.slice e)) (hsz : P.cellsOf e = sz) (hel : ∀ x, Shp P d e x → ∃ a, elOf (isAgT P e) x = enc a ∧ Q a) (h : Shp P (d + 1) t ds) :
    ∃ l : List α, ds = [LV sz enc l .sh] ∧ l.length * P.bytesOf e ≤ reachBytes ∧ ∀ a ∈ l, Q a := by
  unfold Shp at h; rw [hu] at h
  obtain ⟨l, h1, h2, h3⟩ := h
  obtain ⟨L, hL, hLc⟩ := pick_list (fun (x : List DV) (a : α) => elOf (isAgT P e) x = enc a ∧ Q a) l (fun x hx => hel x (h3 x hx))
  refine ⟨L, ?_, by rw [hL]; exact h2, fun a ha => ?_⟩
  · rw [h1, hsz]
    congr 2
    refine List.ext_getElem (by simp [hL]) fun i h4 h5 => ?_
    simp only [List.getElem_map]
    exact (hLc i (by simpa using h4) (by simpa using h5)).1
  · obtain ⟨i, hi, rfl⟩ := List.mem_iff_getElem.mp ha
    exact (hLc i (by omega) hi).2
theorem shp_array {α : Type} (enc : α → List DV) (Q : α → Prop) {n : Nat} (hu : P.underlying t = some (.array n e)) (hel : ∀ x, Shp P d e x → ∃ a, x = enc a ∧ Q a) (h : Shp P (d + 1) t ds) :
    ∃ l : List α, l.length = n ∧ ds = (l.map enc).flatten ∧ ∀ a ∈ l, Q a := by
  unfold Shp at h; rw [hu] at h
  obtain ⟨l, h1, h2, h3⟩ := h
  obtain ⟨L, hL, hLc⟩ := pick_list (fun (x : List DV) (a : α) => x = enc a ∧ Q a) l (fun x hx => hel x (h3 x hx))
  refine ⟨L, by omega, ?_, fun a ha => ?_⟩
  · rw [h2]
    congr 1
    refine List.ext_getElem (by simp [hL]) fun i h4 h5 => ?_
    simp only [List.getElem_map]
    exact (hLc i (by simpa using h4) (by simpa using h5)).1
  · obtain ⟨i, hi, rfl⟩ := List.mem_iff_getElem.mp ha
    exact (hLc i (by omega) hi).2
theorem shp_ints {k : IntKind} (hu : P.underlying t = some (.slice e)) (he : P.underlying e = some (.int k)) (hsz : P.cellsOf e = 1) (h : Shp P (d + 2) t ds) :
    ∃ l : List Int, ds = [LV 1 (I k) l .sh] ∧ l.length * P.bytesOf e ≤ reachBytes ∧ ∀ a ∈ l, (Lit.int k a).wf = true :=
  shp_slice (I k) _ hu hsz (fun x hx => by
    obtain ⟨n, rfl, hn⟩ := shp_int he hx
    refine ⟨n, ?_, hn⟩
    simp [elOf, isAgT, he]) h
end
theorem mixed : Try.prog.follows .mixedOrders = true := by kernel_rfl
theorem noOwn : NoOwn Try.prog := by unfold NoOwn; kernel_rfl
theorem primSound : PrimSound Try.prog ENV := fun f g args H d H' h h2 => primOk f g args H d H' h h2
/-- a law that the front evaluator answers with true -/
theorem law_call {n f : Nat} {args : List DV} {H' : Heap} (h : callG Try.prog ENV n f args [] 0 = some (.flat (.bool true), H')) {w : World} {vs : Array Value} (hr : RepL Any w [] args vs.toList) :
    Calls Try.prog f vs w fun e w' => e = .returned (.bool true) ∧ Below w.heap.size w w' :=
  (pure_call mixed noOwn primSound (callG_ok _ _ _ _ _ _ _ _ h) hr).mono fun e w' ⟨V, he, hb, I, G, hV⟩ => by
    simp only [Rep] at hV
    subst hV
    exact ⟨he, hb⟩
end Go.Proofs.Ytbhnkdnfmlnajaa

/- The judge's laws: the arguments' shapes. -/
namespace Go.Proofs.Ytbhnkdnfmlnajaa
open Go
set_option linter.unusedSimpArgs false
set_option linter.unusedVariables false
theorem jwf_u16 {n : Int} (h : (Lit.int .u16 n).wf = true) : 0 ≤ n ∧ n < 65536 := by
  simp [Lit.wf, IntKind.min, IntKind.max, IntKind.signed, IntKind.bits] at h
  omega
theorem jshp_pt {d : Nat} {e : List DV} (h : Shp Try.prog (d + 2) 87 e) : ∃ p : Pt, elOf (isAgT Try.prog 87) e = ptE p ∧ True := by
  have h := shp_struct Try.underlying87 h
  simp only [List.map_cons, List.map_nil, ShpFs] at h
  obtain ⟨a, _, rfl, ha, b, _, rfl, hb, c, _, rfl, hc, d, _, rfl, hd, f, _, rfl, hf, rfl⟩ := h
  obtain ⟨a, rfl, _⟩ := shp_int (k := .i64) Try.underlying3 ha
  obtain ⟨b, rfl, _⟩ := shp_int (k := .i64) Try.underlying3 hb
  obtain ⟨c, rfl, _⟩ := shp_int (k := .i64) Try.underlying3 hc
  obtain ⟨d, rfl, _⟩ := shp_int (k := .i64) Try.underlying3 hd
  obtain ⟨f, rfl, _⟩ := shp_int (k := .i64) Try.underlying3 hf
  exact ⟨⟨a, b, c, d, f⟩, by kernel_rfl, trivial⟩
theorem jshp_pts {d : Nat} {e : List DV} (h : Shp Try.prog (d + 3) 41 e) : ∃ l : List Pt, elOf (isAgT Try.prog 41) e = LV 5 ptE l .sh ∧ l.length ≤ 140737488355328 := by
  obtain ⟨l, rfl, hl, _⟩ := shp_slice (e := 87) ptE (fun _ => True) (sz := 5) Try.underlying41 (by kernel_rfl) (fun x hx => jshp_pt (d := d) hx) h
  have hb : Try.prog.bytesOf 87 = 40 := by kernel_rfl
  rw [hb] at hl
  simp only [reachBytes] at hl
  exact ⟨l, by kernel_rfl, by omega⟩
theorem jshp_cl {d : Nat} {e : List DV} (h : Shp Try.prog (d + 2) 121 e) : ∃ c : Int × Int, elOf (isAgT Try.prog 121) e = clE c ∧ (0 ≤ c.1 ∧ c.1 < 65536) := by
  have h := shp_struct Try.underlying121 h
  simp only [List.map_cons, List.map_nil, ShpFs] at h
  obtain ⟨a, _, rfl, ha, b, _, rfl, hb, rfl⟩ := h
  obtain ⟨a, rfl, hw⟩ := shp_int (k := .u16) Try.underlying75 ha
  obtain ⟨b, rfl, _⟩ := shp_int (k := .i64) Try.underlying3 hb
  exact ⟨(a, b), by kernel_rfl, jwf_u16 hw⟩
theorem jshp_cls {d : Nat} {e : List DV} (h : Shp Try.prog (d + 3) 103 e) : ∃ l : List (Int × Int), e = [LV 2 clE l .sh] ∧ (Wd l ∧ l.length ≤ 140737488355328) := by
  obtain ⟨l, rfl, hl, hw⟩ := shp_slice (e := 121) clE (fun c => 0 ≤ c.1 ∧ c.1 < 65536) (sz := 2) Try.underlying103 (by kernel_rfl) (fun x hx => jshp_cl (d := d) hx) h
  have hb : Try.prog.bytesOf 121 = 16 := by kernel_rfl
  rw [hb] at hl
  simp only [reachBytes] at hl
  exact ⟨l, rfl, hw, by omega⟩
theorem jshp_c3 {d : Nat} {e : List DV} (h : Shp Try.prog (d + 4) 104 e) : ∃ c0 c1 c2 : List (Int × Int), elOf (isAgT Try.prog 104) e = .agg [LV 2 clE c0 .sh, LV 2 clE c1 .sh, LV 2 clE c2 .sh] ∧ (Wd c0 ∧ c0.length ≤ 140737488355328) ∧ (Wd c1 ∧ c1.length ≤ 140737488355328) ∧ (Wd c2 ∧ c2.length ≤ 140737488355328) := by
  obtain ⟨ns, hn, rfl, hw⟩ := shp_array (e := 103) (fun l : List (Int × Int) => [LV 2 clE l .sh]) (fun l => Wd l ∧ l.length ≤ 140737488355328) Try.underlying104 (fun x hx => jshp_cls (d := d) hx) h
  match ns, hn, hw with
  | [a, b, c], _, hw => exact ⟨a, b, c, by kernel_rfl, hw a (by simp), hw b (by simp), hw c (by simp)⟩
theorem jshp_ws {d : Nat} {e : List DV} (h : Shp Try.prog (d + 2) 56 e) : ∃ l : List Int, elOf (isAgT Try.prog 56) e = LV 1 (I .u16) l .sh ∧ Words l ∧ l.length ≤ 140737488355328 := by
  obtain ⟨l, rfl, hl, hw⟩ := shp_ints (k := .u16) Try.underlying56 Try.underlying75 (by kernel_rfl) h
  have hb : Try.prog.bytesOf 75 = 2 := by kernel_rfl
  rw [hb] at hl
  simp only [reachBytes] at hl
  exact ⟨l, by kernel_rfl, fun x hx => jwf_u16 (hw x hx), by omega⟩
theorem jshp_b3 {d : Nat} {e : List DV} (h : Shp Try.prog (d + 2) 52 e) : ∃ a b c : Bool, elOf (isAgT Try.prog 52) e = .agg [Bo a, Bo b, Bo c] := by
  obtain ⟨ns, hn, rfl, _⟩ := shp_array (e := 4) (fun b : Bool => [Bo b]) (fun _ => True) Try.underlying52 (fun x hx => by obtain ⟨b, rfl⟩ := shp_bool Try.underlying4 hx; exact ⟨b, rfl, trivial⟩) h
  match ns, hn with
  | [a, b, c], _ => exact ⟨a, b, c, by kernel_rfl⟩
end Go.Proofs.Ytbhnkdnfmlnajaa

/- Go functions as Lean functions on deep values; printed by a program of mine. -/
namespace Go.Proofs.Ytbhnkdnfmlnajaa
open Go
set_option maxRecDepth 100000
set_option linter.unusedVariables false
/-! triune/triuneref13.Round -/
def s_triuneref13_Round_I4 (x0 x1 x2 x7 x8 x10 x11 x12 x14 x15 x20 x22 : DV) : List DV := [x0, x1, x2, .any, .any, .any, .any, x7, x8, .any, x10, x11, x12, .any, x14, x15, .any, .any, .any, .any, x20, .any, x22, .any, .any, .any, .any, .any, .any, .any, .any, .any, .any, .any, .any, .any, .any, .any, .any, .any, .any, .any, .any, .any, .any, .any, .any, .any, .any, .any, .any, .any, .any, .any, .any, .any, .any, .any, .any, .any, .any, .any, .any, .any, .any, .any, .any, .any, .any, .any, .any, .any, .any, .any, .any, .any, .any, .any, .any, .any, .any, .any, .any, .any, .any, .any, .any, .any, .any, .any, .any, .any, .any, .any, .any, .any, .any, .any, .any, .any, .any, .any, .any, .any, .any, .any, .any, .any, .any, .any, .any, .any, .any, .any, .any, .any, .any, .any, .any, .any, .any, .any, .any, .any, .any, .any, .any, .any, .any, .any, .any, .any, .any, .any, .any, .any, .any, .any, .any, .any]
def s_triuneref13_Round_O4 (x0 x1 x2 x7 x8 x10 x11 x12 x14 x15 : DV) : List DV := [x0, x1, x2, .any, .any, .any, .any, x7, x8, .any, x10, x11, x12, .any, x14, x15, .any, .any, .any, .any, .any, .any, .any, .any, .any, .any, .any, .any, .any, .any, .any, .any, .any, .any, .any, .any, .any, .any, .any, .any, .any, .any, .any, .any, .any, .any, .any, .any, .any, .any, .any, .any, .any, .any, .any, .any, .any, .any, .any, .any, .any, .any, .any, .any, .any, .any, .any, .any, .any, .any, .any, .any, .any, .any, .any, .any, .any, .any, .any, .any, .any, .any, .any, .any, .any, .any, .any, .any, .any, .any, .any, .any, .any, .any, .any, .any, .any, .any, .any, .any, .any, .any, .any, .any, .any, .any, .any, .any, .any, .any, .any, .any, .any, .any, .any, .any, .any, .any, .any, .any, .any, .any, .any, .any, .any, .any, .any, .any, .any, .any, .any, .any, .any, .any, .any, .any, .any, .any, .any, .any]
noncomputable abbrev s_triuneref13_Round_b4 (n fl : Nat) : List DV → Heap → (Ex → KF) → R := execG ⟨Try.prog, callG Try.prog ENV n, ENV.md, fl, 140⟩ n (loopAt (bodyOf Try.f47) 4) []
noncomputable def s_triuneref13_Round_B4 (n fl : Nat) (rec : DV → DV → DV → DV → DV → DV → DV → DV → DV → DV → DV → DV → Heap → R) (k : Ex → KF) (x0 x1 x2 x7 x8 x10 x11 x12 x14 x15 x20 x22 : DV) (H : Heap) : R :=
  bi (ltK .i64 x22 (I .i64 3)) fun d0 =>
  condR d0 (
  bi (idxArr 3 1 x10 x22) fun d1 =>
  bi (loadG false 1 d1 H) fun d2 =>
  bi (wantF d2 false (some x0)) fun d3 =>
  bi (wantF d2 false (some x14)) fun d4 =>
  bi (wantF d2 false (idxSl 5 d3 d4)) fun d5 =>
  bi (wantF d2 false (loadG true 5 d5 H)) fun d6 =>
  bi (wantF d2 false (some x15)) fun d7 =>
  bi (wantF d2 false (some x22)) fun d8 =>
  bi (wantF d2 false (idxSl 1 d7 d8)) fun d9 =>
  bi (wantF d2 false (loadG false 1 d9 H)) fun d10 =>
  bi (wantF d2 false (some x20)) fun d11 =>
  bi (wantF d2 false (cP n 83 false [d6, d10, d11])) fun d12 =>
  bi (pickD d2 (Bo true) d12) fun d13 =>
  bi (idxArr 3 1 x10 x22) fun d14 =>
  bi (storeG 1 d14 d13 H fl) fun h15 =>
  bi (addK .i64 x22 (I .i64 1)) fun d16 =>
  rec x0 x1 x2 x7 x8 x10 x11 x12 x14 x15 x20 d16 h15) (
  k (.exit 8) (s_triuneref13_Round_O4 x0 x1 x2 x7 x8 x10 x11 x12 x14 x15) H)
noncomputable def s_triuneref13_Round_L4 (n fl : Nat) (k : Ex → KF) : Nat → DV → DV → DV → DV → DV → DV → DV → DV → DV → DV → DV → DV → Heap → R
  | 0, _, _, _, _, _, _, _, _, _, _, _, _, _ => none
  | m + 1, x0, x1, x2, x7, x8, x10, x11, x12, x14, x15, x20, x22, H => s_triuneref13_Round_B4 n fl (s_triuneref13_Round_L4 n fl k m) k x0 x1 x2 x7 x8 x10 x11 x12 x14 x15 x20 x22 H
theorem s_triuneref13_Round_S4 (n fl m : Nat) (k : Ex → KF) (x0 x1 x2 x7 x8 x10 x11 x12 x14 x15 x20 x22 : DV) (H : Heap) : loopG [0, 1, 2, 7, 8, 10, 11, 12, 14, 15, 20, 22] [0, 1, 2, 7, 8, 10, 11, 12, 14, 15] 140 (s_triuneref13_Round_b4 n fl) (m + 1) (s_triuneref13_Round_I4 x0 x1 x2 x7 x8 x10 x11 x12 x14 x15 x20 x22) H k = s_triuneref13_Round_B4 n fl (fun x0 x1 x2 x7 x8 x10 x11 x12 x14 x15 x20 x22 H => loopG [0, 1, 2, 7, 8, 10, 11, 12, 14, 15, 20, 22] [0, 1, 2, 7, 8, 10, 11, 12, 14, 15] 140 (s_triuneref13_Round_b4 n fl) m (s_triuneref13_Round_I4 x0 x1 x2 x7 x8 x10 x11 x12 x14 x15 x20 x22) H k) k x0 x1 x2 x7 x8 x10 x11 x12 x14 x15 x20 x22 H := by kernel_rfl
theorem s_triuneref13_Round_L4_eq (n fl : Nat) (k : Ex → KF) : ∀ (m : Nat) (x0 x1 x2 x7 x8 x10 x11 x12 x14 x15 x20 x22 : DV) (H : Heap), loopG [0, 1, 2, 7, 8, 10, 11, 12, 14, 15, 20, 22] [0, 1, 2, 7, 8, 10, 11, 12, 14, 15] 140 (s_triuneref13_Round_b4 n fl) m (s_triuneref13_Round_I4 x0 x1 x2 x7 x8 x10 x11 x12 x14 x15 x20 x22) H k = s_triuneref13_Round_L4 n fl k m x0 x1 x2 x7 x8 x10 x11 x12 x14 x15 x20 x22 H := by
  intro m
  induction m with
  | zero => intros; rfl
  | succ m ih =>
    intro x0 x1 x2 x7 x8 x10 x11 x12 x14 x15 x20 x22 H
    rw [s_triuneref13_Round_S4, show (fun x0 x1 x2 x7 x8 x10 x11 x12 x14 x15 x20 x22 H => loopG [0, 1, 2, 7, 8, 10, 11, 12, 14, 15, 20, 22] [0, 1, 2, 7, 8, 10, 11, 12, 14, 15] 140 (s_triuneref13_Round_b4 n fl) m (s_triuneref13_Round_I4 x0 x1 x2 x7 x8 x10 x11 x12 x14 x15 x20 x22) H k) = s_triuneref13_Round_L4 n fl k m from by funext x0 x1 x2 x7 x8 x10 x11 x12 x14 x15 x20 x22 H; exact ih _ _ _ _ _ _ _ _ _ _ _ _ _]
    rw [s_triuneref13_Round_L4]
def s_triuneref13_Round_I3 (x0 x1 x2 x7 x8 x10 x11 x12 x14 x15 x16 x17 x18 x19 : DV) : List DV := [x0, x1, x2, .any, .any, .any, .any, x7, x8, .any, x10, x11, x12, .any, x14, x15, x16, x17, x18, x19, .any, .any, .any, .any, .any, .any, .any, .any, .any, .any, .any, .any, .any, .any, .any, .any, .any, .any, .any, .any, .any, .any, .any, .any, .any, .any, .any, .any, .any, .any, .any, .any, .any, .any, .any, .any, .any, .any, .any, .any, .any, .any, .any, .any, .any, .any, .any, .any, .any, .any, .any, .any, .any, .any, .any, .any, .any, .any, .any, .any, .any, .any, .any, .any, .any, .any, .any, .any, .any, .any, .any, .any, .any, .any, .any, .any, .any, .any, .any, .any, .any, .any, .any, .any, .any, .any, .any, .any, .any, .any, .any, .any, .any, .any, .any, .any, .any, .any, .any, .any, .any, .any, .any, .any, .any, .any, .any, .any, .any, .any, .any, .any, .any, .any, .any, .any, .any, .any, .any, .any]
def s_triuneref13_Round_O3 (x0 x1 x2 x7 x8 x10 x11 x12 x14 x15 x16 x17 x18 : DV) : List DV := [x0, x1, x2, .any, .any, .any, .any, x7, x8, .any, x10, x11, x12, .any, x14, x15, x16, x17, x18, .any, .any, .any, .any, .any, .any, .any, .any, .any, .any, .any, .any, .any, .any, .any, .any, .any, .any, .any, .any, .any, .any, .any, .any, .any, .any, .any, .any, .any, .any, .any, .any, .any, .any, .any, .any, .any, .any, .any, .any, .any, .any, .any, .any, .any, .any, .any, .any, .any, .any, .any, .any, .any, .any, .any, .any, .any, .any, .any, .any, .any, .any, .any, .any, .any, .any, .any, .any, .any, .any, .any, .any, .any, .any, .any, .any, .any, .any, .any, .any, .any, .any, .any, .any, .any, .any, .any, .any, .any, .any, .any, .any, .any, .any, .any, .any, .any, .any, .any, .any, .any, .any, .any, .any, .any, .any, .any, .any, .any, .any, .any, .any, .any, .any, .any, .any, .any, .any, .any, .any, .any]
noncomputable abbrev s_triuneref13_Round_b3 (n fl : Nat) : List DV → Heap → (Ex → KF) → R := execG ⟨Try.prog, callG Try.prog ENV n, ENV.md, fl, 140⟩ n (loopAt (bodyOf Try.f47) 3) []
noncomputable def s_triuneref13_Round_B3 (n fl : Nat) (rec : DV → DV → DV → DV → DV → DV → DV → DV → DV → DV → DV → DV → DV → DV → Heap → R) (k : Ex → KF) (x0 x1 x2 x7 x8 x10 x11 x12 x14 x15 x16 x17 x18 x19 : DV) (H : Heap) : R :=
  bi (lenD x16) fun d0 =>
  bi (ltK .i64 x19 d0) fun d1 =>
  condR d1 (
  bi (wantF x18 false (some x16)) fun d2 =>
  bi (wantF x18 false (some x19)) fun d3 =>
  bi (wantF x18 false (idxSl 1 d2 d3)) fun d4 =>
  bi (wantF x18 false (loadG false 1 d4 H)) fun d5 =>
  bi (wantF x18 false (some x17)) fun d6 =>
  bi (wantF x18 false (eqK .i64 d5 d6)) fun d7 =>
  bi (pickD x18 (Bo true) d7) fun d8 =>
  bi (addK .i64 x19 (I .i64 1)) fun d9 =>
  rec x0 x1 x2 x7 x8 x10 x11 x12 x14 x15 x16 x17 d8 d9 H) (
  k (.exit 6) (s_triuneref13_Round_O3 x0 x1 x2 x7 x8 x10 x11 x12 x14 x15 x16 x17 x18) H)
noncomputable def s_triuneref13_Round_L3 (n fl : Nat) (k : Ex → KF) : Nat → DV → DV → DV → DV → DV → DV → DV → DV → DV → DV → DV → DV → DV → DV → Heap → R
  | 0, _, _, _, _, _, _, _, _, _, _, _, _, _, _, _ => none
  | m + 1, x0, x1, x2, x7, x8, x10, x11, x12, x14, x15, x16, x17, x18, x19, H => s_triuneref13_Round_B3 n fl (s_triuneref13_Round_L3 n fl k m) k x0 x1 x2 x7 x8 x10 x11 x12 x14 x15 x16 x17 x18 x19 H
theorem s_triuneref13_Round_S3 (n fl m : Nat) (k : Ex → KF) (x0 x1 x2 x7 x8 x10 x11 x12 x14 x15 x16 x17 x18 x19 : DV) (H : Heap) : loopG [0, 1, 2, 7, 8, 10, 11, 12, 14, 15, 16, 17, 18, 19] [0, 1, 2, 7, 8, 10, 11, 12, 14, 15, 16, 17, 18] 140 (s_triuneref13_Round_b3 n fl) (m + 1) (s_triuneref13_Round_I3 x0 x1 x2 x7 x8 x10 x11 x12 x14 x15 x16 x17 x18 x19) H k = s_triuneref13_Round_B3 n fl (fun x0 x1 x2 x7 x8 x10 x11 x12 x14 x15 x16 x17 x18 x19 H => loopG [0, 1, 2, 7, 8, 10, 11, 12, 14, 15, 16, 17, 18, 19] [0, 1, 2, 7, 8, 10, 11, 12, 14, 15, 16, 17, 18] 140 (s_triuneref13_Round_b3 n fl) m (s_triuneref13_Round_I3 x0 x1 x2 x7 x8 x10 x11 x12 x14 x15 x16 x17 x18 x19) H k) k x0 x1 x2 x7 x8 x10 x11 x12 x14 x15 x16 x17 x18 x19 H := by kernel_rfl
theorem s_triuneref13_Round_L3_eq (n fl : Nat) (k : Ex → KF) : ∀ (m : Nat) (x0 x1 x2 x7 x8 x10 x11 x12 x14 x15 x16 x17 x18 x19 : DV) (H : Heap), loopG [0, 1, 2, 7, 8, 10, 11, 12, 14, 15, 16, 17, 18, 19] [0, 1, 2, 7, 8, 10, 11, 12, 14, 15, 16, 17, 18] 140 (s_triuneref13_Round_b3 n fl) m (s_triuneref13_Round_I3 x0 x1 x2 x7 x8 x10 x11 x12 x14 x15 x16 x17 x18 x19) H k = s_triuneref13_Round_L3 n fl k m x0 x1 x2 x7 x8 x10 x11 x12 x14 x15 x16 x17 x18 x19 H := by
  intro m
  induction m with
  | zero => intros; rfl
  | succ m ih =>
    intro x0 x1 x2 x7 x8 x10 x11 x12 x14 x15 x16 x17 x18 x19 H
    rw [s_triuneref13_Round_S3, show (fun x0 x1 x2 x7 x8 x10 x11 x12 x14 x15 x16 x17 x18 x19 H => loopG [0, 1, 2, 7, 8, 10, 11, 12, 14, 15, 16, 17, 18, 19] [0, 1, 2, 7, 8, 10, 11, 12, 14, 15, 16, 17, 18] 140 (s_triuneref13_Round_b3 n fl) m (s_triuneref13_Round_I3 x0 x1 x2 x7 x8 x10 x11 x12 x14 x15 x16 x17 x18 x19) H k) = s_triuneref13_Round_L3 n fl k m from by funext x0 x1 x2 x7 x8 x10 x11 x12 x14 x15 x16 x17 x18 x19 H; exact ih _ _ _ _ _ _ _ _ _ _ _ _ _ _ _]
    rw [s_triuneref13_Round_L3]
def s_triuneref13_Round_I2 (x0 x1 x2 x7 x8 x10 x11 x12 x14 x15 x16 x17 : DV) : List DV := [x0, x1, x2, .any, .any, .any, .any, x7, x8, .any, x10, x11, x12, .any, x14, x15, x16, x17, .any, .any, .any, .any, .any, .any, .any, .any, .any, .any, .any, .any, .any, .any, .any, .any, .any, .any, .any, .any, .any, .any, .any, .any, .any, .any, .any, .any, .any, .any, .any, .any, .any, .any, .any, .any, .any, .any, .any, .any, .any, .any, .any, .any, .any, .any, .any, .any, .any, .any, .any, .any, .any, .any, .any, .any, .any, .any, .any, .any, .any, .any, .any, .any, .any, .any, .any, .any, .any, .any, .any, .any, .any, .any, .any, .any, .any, .any, .any, .any, .any, .any, .any, .any, .any, .any, .any, .any, .any, .any, .any, .any, .any, .any, .any, .any, .any, .any, .any, .any, .any, .any, .any, .any, .any, .any, .any, .any, .any, .any, .any, .any, .any, .any, .any, .any, .any, .any, .any, .any, .any, .any]
def s_triuneref13_Round_O2 (x0 x1 x2 x7 x8 x10 x11 x12 x14 x15 : DV) : List DV := [x0, x1, x2, .any, .any, .any, .any, x7, x8, .any, x10, x11, x12, .any, x14, x15, .any, .any, .any, .any, .any, .any, .any, .any, .any, .any, .any, .any, .any, .any, .any, .any, .any, .any, .any, .any, .any, .any, .any, .any, .any, .any, .any, .any, .any, .any, .any, .any, .any, .any, .any, .any, .any, .any, .any, .any, .any, .any, .any, .any, .any, .any, .any, .any, .any, .any, .any, .any, .any, .any, .any, .any, .any, .any, .any, .any, .any, .any, .any, .any, .any, .any, .any, .any, .any, .any, .any, .any, .any, .any, .any, .any, .any, .any, .any, .any, .any, .any, .any, .any, .any, .any, .any, .any, .any, .any, .any, .any, .any, .any, .any, .any, .any, .any, .any, .any, .any, .any, .any, .any, .any, .any, .any, .any, .any, .any, .any, .any, .any, .any, .any, .any, .any, .any, .any, .any, .any, .any, .any, .any]
noncomputable abbrev s_triuneref13_Round_b2 (n fl : Nat) : List DV → Heap → (Ex → KF) → R := execG ⟨Try.prog, callG Try.prog ENV n, ENV.md, fl, 140⟩ n (loopAt (bodyOf Try.f47) 2) [([0, 1, 2, 7, 8, 10, 11, 12, 14, 15, 16, 17, 18, 19], [0, 1, 2, 7, 8, 10, 11, 12, 14, 15, 16, 17, 18])]
noncomputable def s_triuneref13_Round_B2 (n fl : Nat) (rec : DV → DV → DV → DV → DV → DV → DV → DV → DV → DV → DV → DV → Heap → R) (k : Ex → KF) (x0 x1 x2 x7 x8 x10 x11 x12 x14 x15 x16 x17 : DV) (H : Heap) : R :=
  bi (ltK .i64 x17 (I .i64 3)) fun d0 =>
  condR d0 (
  loopG [0, 1, 2, 7, 8, 10, 11, 12, 14, 15, 16, 17, 18, 19] [0, 1, 2, 7, 8, 10, 11, 12, 14, 15, 16, 17, 18] 140 (s_triuneref13_Round_b3 n fl) n (s_triuneref13_Round_I3 x0 x1 x2 x7 x8 x10 x11 x12 x14 x15 x16 x17 (Bo false) (I .i64 0)) H fun x S1 h1 => match x with
  | .normal => none
  | .exit i1 => (
  if i1 = 6 then (
  bi (idxArr 3 1 (S1.getD 10 .any) (S1.getD 17 .any)) fun d2 =>
  bi (loadG false 1 d2 h1) fun d3 =>
  bi (wantF d3 false (some (S1.getD 17 .any))) fun d4 =>
  bi (wantF d3 false (idxArr 3 1 (S1.getD 7 .any) d4)) fun d5 =>
  bi (wantF d3 false (loadG false 1 d5 h1)) fun d6 =>
  bi (wantF d3 false (some d6)) fun d7 =>
  bi (wantF d7 true (some (S1.getD 18 .any))) fun d8 =>
  bi (wantF d7 true (notD d8)) fun d9 =>
  bi (wantF d3 false (pickD d7 d9 (Bo false))) fun d10 =>
  bi (pickD d3 (Bo true) d10) fun d11 =>
  bi (idxArr 3 1 (S1.getD 10 .any) (S1.getD 17 .any)) fun d12 =>
  bi (storeG 1 d12 d11 h1 fl) fun h13 =>
  bi (addK .i64 (S1.getD 17 .any) (I .i64 1)) fun d14 =>
  rec (S1.getD 0 .any) (S1.getD 1 .any) (S1.getD 2 .any) (S1.getD 7 .any) (S1.getD 8 .any) (S1.getD 10 .any) (S1.getD 11 .any) (S1.getD 12 .any) (S1.getD 14 .any) (S1.getD 15 .any) (S1.getD 16 .any) d14 h13) else (
  if i1 = 5 then (
  bi (addK .i64 (S1.getD 17 .any) (I .i64 1)) fun d15 =>
  rec (S1.getD 0 .any) (S1.getD 1 .any) (S1.getD 2 .any) (S1.getD 7 .any) (S1.getD 8 .any) (S1.getD 10 .any) (S1.getD 11 .any) (S1.getD 12 .any) (S1.getD 14 .any) (S1.getD 15 .any) (S1.getD 16 .any) d15 h1) else (
  k (.exit i1) (s_triuneref13_Round_O2 (S1.getD 0 .any) (S1.getD 1 .any) (S1.getD 2 .any) (S1.getD 7 .any) (S1.getD 8 .any) (S1.getD 10 .any) (S1.getD 11 .any) (S1.getD 12 .any) (S1.getD 14 .any) (S1.getD 15 .any)) h1)))
  | .ret => (
  k .ret (s_triuneref13_Round_O2 (S1.getD 0 .any) (S1.getD 1 .any) (S1.getD 2 .any) (S1.getD 7 .any) (S1.getD 8 .any) (S1.getD 10 .any) (S1.getD 11 .any) (S1.getD 12 .any) (S1.getD 14 .any) (S1.getD 15 .any)) h1)) (
  k (.exit 4) (s_triuneref13_Round_O2 x0 x1 x2 x7 x8 x10 x11 x12 x14 x15) H)
noncomputable def s_triuneref13_Round_L2 (n fl : Nat) (k : Ex → KF) : Nat → DV → DV → DV → DV → DV → DV → DV → DV → DV → DV → DV → DV → Heap → R
  | 0, _, _, _, _, _, _, _, _, _, _, _, _, _ => none
  | m + 1, x0, x1, x2, x7, x8, x10, x11, x12, x14, x15, x16, x17, H => s_triuneref13_Round_B2 n fl (s_triuneref13_Round_L2 n fl k m) k x0 x1 x2 x7 x8 x10 x11 x12 x14 x15 x16 x17 H
theorem s_triuneref13_Round_S2 (n fl m : Nat) (k : Ex → KF) (x0 x1 x2 x7 x8 x10 x11 x12 x14 x15 x16 x17 : DV) (H : Heap) : loopG [0, 1, 2, 7, 8, 10, 11, 12, 14, 15, 16, 17] [0, 1, 2, 7, 8, 10, 11, 12, 14, 15] 140 (s_triuneref13_Round_b2 n fl) (m + 1) (s_triuneref13_Round_I2 x0 x1 x2 x7 x8 x10 x11 x12 x14 x15 x16 x17) H k = s_triuneref13_Round_B2 n fl (fun x0 x1 x2 x7 x8 x10 x11 x12 x14 x15 x16 x17 H => loopG [0, 1, 2, 7, 8, 10, 11, 12, 14, 15, 16, 17] [0, 1, 2, 7, 8, 10, 11, 12, 14, 15] 140 (s_triuneref13_Round_b2 n fl) m (s_triuneref13_Round_I2 x0 x1 x2 x7 x8 x10 x11 x12 x14 x15 x16 x17) H k) k x0 x1 x2 x7 x8 x10 x11 x12 x14 x15 x16 x17 H := by kernel_rfl
theorem s_triuneref13_Round_L2_eq (n fl : Nat) (k : Ex → KF) : ∀ (m : Nat) (x0 x1 x2 x7 x8 x10 x11 x12 x14 x15 x16 x17 : DV) (H : Heap), loopG [0, 1, 2, 7, 8, 10, 11, 12, 14, 15, 16, 17] [0, 1, 2, 7, 8, 10, 11, 12, 14, 15] 140 (s_triuneref13_Round_b2 n fl) m (s_triuneref13_Round_I2 x0 x1 x2 x7 x8 x10 x11 x12 x14 x15 x16 x17) H k = s_triuneref13_Round_L2 n fl k m x0 x1 x2 x7 x8 x10 x11 x12 x14 x15 x16 x17 H := by
  intro m
  induction m with
  | zero => intros; rfl
  | succ m ih =>
    intro x0 x1 x2 x7 x8 x10 x11 x12 x14 x15 x16 x17 H
    rw [s_triuneref13_Round_S2, show (fun x0 x1 x2 x7 x8 x10 x11 x12 x14 x15 x16 x17 H => loopG [0, 1, 2, 7, 8, 10, 11, 12, 14, 15, 16, 17] [0, 1, 2, 7, 8, 10, 11, 12, 14, 15] 140 (s_triuneref13_Round_b2 n fl) m (s_triuneref13_Round_I2 x0 x1 x2 x7 x8 x10 x11 x12 x14 x15 x16 x17) H k) = s_triuneref13_Round_L2 n fl k m from by funext x0 x1 x2 x7 x8 x10 x11 x12 x14 x15 x16 x17 H; exact ih _ _ _ _ _ _ _ _ _ _ _ _ _]
    rw [s_triuneref13_Round_L2]
def s_triuneref13_Round_I1 (x0 x1 x2 x7 x8 x10 x11 x12 x14 : DV) : List DV := [x0, x1, x2, .any, .any, .any, .any, x7, x8, .any, x10, x11, x12, .any, x14, .any, .any, .any, .any, .any, .any, .any, .any, .any, .any, .any, .any, .any, .any, .any, .any, .any, .any, .any, .any, .any, .any, .any, .any, .any, .any, .any, .any, .any, .any, .any, .any, .any, .any, .any, .any, .any, .any, .any, .any, .any, .any, .any, .any, .any, .any, .any, .any, .any, .any, .any, .any, .any, .any, .any, .any, .any, .any, .any, .any, .any, .any, .any, .any, .any, .any, .any, .any, .any, .any, .any, .any, .any, .any, .any, .any, .any, .any, .any, .any, .any, .any, .any, .any, .any, .any, .any, .any, .any, .any, .any, .any, .any, .any, .any, .any, .any, .any, .any, .any, .any, .any, .any, .any, .any, .any, .any, .any, .any, .any, .any, .any, .any, .any, .any, .any, .any, .any, .any, .any, .any, .any, .any, .any, .any]
def s_triuneref13_Round_O1 (x8 x10 x11 : DV) : List DV := [.any, .any, .any, .any, .any, .any, .any, .any, x8, .any, x10, x11, .any, .any, .any, .any, .any, .any, .any, .any, .any, .any, .any, .any, .any, .any, .any, .any, .any, .any, .any, .any, .any, .any, .any, .any, .any, .any, .any, .any, .any, .any, .any, .any, .any, .any, .any, .any, .any, .any, .any, .any, .any, .any, .any, .any, .any, .any, .any, .any, .any, .any, .any, .any, .any, .any, .any, .any, .any, .any, .any, .any, .any, .any, .any, .any, .any, .any, .any, .any, .any, .any, .any, .any, .any, .any, .any, .any, .any, .any, .any, .any, .any, .any, .any, .any, .any, .any, .any, .any, .any, .any, .any, .any, .any, .any, .any, .any, .any, .any, .any, .any, .any, .any, .any, .any, .any, .any, .any, .any, .any, .any, .any, .any, .any, .any, .any, .any, .any, .any, .any, .any, .any, .any, .any, .any, .any, .any, .any, .any]
noncomputable abbrev s_triuneref13_Round_b1 (n fl : Nat) : List DV → Heap → (Ex → KF) → R := execG ⟨Try.prog, callG Try.prog ENV n, ENV.md, fl, 140⟩ n (loopAt (bodyOf Try.f47) 1) [([0, 1, 2, 7, 8, 10, 11, 12, 14, 15, 16, 17], [0, 1, 2, 7, 8, 10, 11, 12, 14, 15]), ([0, 1, 2, 7, 8, 10, 11, 12, 14, 15, 16, 17, 18, 19], [0, 1, 2, 7, 8, 10, 11, 12, 14, 15, 16, 17, 18]), ([0, 1, 2, 7, 8, 10, 11, 12, 14, 15, 20, 22], [0, 1, 2, 7, 8, 10, 11, 12, 14, 15])]
noncomputable def s_triuneref13_Round_B1 (n fl : Nat) (rec : DV → DV → DV → DV → DV → DV → DV → DV → DV → Heap → R) (k : Ex → KF) (x0 x1 x2 x7 x8 x10 x11 x12 x14 : DV) (H : Heap) : R :=
  bi (lenD x0) fun d0 =>
  bi (ltK .i64 x14 d0) fun d1 =>
  condR d1 (
  bi (loadG true 3 x7 H) fun d2 =>
  bi (cO n 81 [x1, x14, x2, d2] H) fun d3 =>
  bi (extD 0 d3) fun d4 =>
  bi (extD 1 d3) fun d5 =>
  loopG [0, 1, 2, 7, 8, 10, 11, 12, 14, 15, 16, 17] [0, 1, 2, 7, 8, 10, 11, 12, 14, 15] 140 (s_triuneref13_Round_b2 n fl) n (s_triuneref13_Round_I2 x0 x1 x2 x7 x8 x10 x11 x12 x14 d4 d5 (I .i64 0)) H fun x S6 h6 => match x with
  | .normal => none
  | .exit i6 => (
  if i6 = 4 then (
  bi (eqK .i64 (S6.getD 12 .any) (I .i64 3)) fun d7 =>
  bi (wantF d7 true (some (S6.getD 15 .any))) fun d8 =>
  bi (wantF d7 true (lenD d8)) fun d9 =>
  bi (wantF d7 true (eqK .i64 d9 (I .i64 3))) fun d10 =>
  bi (pickD d7 d10 (Bo false)) fun d11 =>
  condR d11 (
   bi (idxSl 5 (S6.getD 0 .any) (S6.getD 14 .any)) fun d12 =>
   bi (loadG true 5 d12 h6) fun d13 =>
   bi (cP n 82 false [d13, (S6.getD 15 .any)]) fun d14 =>
   bi (extD 0 d14) fun d15 =>
   bi (extD 1 d14) fun d16 =>
   loopG [0, 1, 2, 7, 8, 10, 11, 12, 14, 15, 20, 22] [0, 1, 2, 7, 8, 10, 11, 12, 14, 15] 140 (s_triuneref13_Round_b4 n fl) n (s_triuneref13_Round_I4 (S6.getD 0 .any) (S6.getD 1 .any) (S6.getD 2 .any) (S6.getD 7 .any) (S6.getD 8 .any) (S6.getD 10 .any) (S6.getD 11 .any) (S6.getD 12 .any) (S6.getD 14 .any) (S6.getD 15 .any) d15 (I .i64 0)) h6 fun x S17 h17 => match x with
   | .normal => none
   | .exit i17 => (
   if i17 = 8 then (
  bi (eqK .i64 (S17.getD 12 .any) (I .i64 2)) fun d18 =>
  bi (wantF d18 true (some (S17.getD 15 .any))) fun d19 =>
  bi (wantF d18 true (lenD d19)) fun d20 =>
  bi (wantF d18 true (eqK .i64 d20 (I .i64 2))) fun d21 =>
  bi (pickD d18 d21 (Bo false)) fun d22 =>
  condR d22 (
   bi (wantF (S17.getD 11 .any) false (some (S17.getD 0 .any))) fun d23 =>
   bi (wantF (S17.getD 11 .any) false (some (S17.getD 14 .any))) fun d24 =>
   bi (wantF (S17.getD 11 .any) false (idxSl 5 d23 d24)) fun d25 =>
   bi (wantF (S17.getD 11 .any) false (loadG true 5 d25 h17)) fun d26 =>
   bi (wantF (S17.getD 11 .any) false (some (S17.getD 15 .any))) fun d27 =>
   bi (wantF (S17.getD 11 .any) false (idxSl 1 d27 (I .i64 0))) fun d28 =>
   bi (wantF (S17.getD 11 .any) false (loadG false 1 d28 h17)) fun d29 =>
   bi (wantF (S17.getD 11 .any) false (some (S17.getD 15 .any))) fun d30 =>
   bi (wantF (S17.getD 11 .any) false (idxSl 1 d30 (I .i64 1))) fun d31 =>
   bi (wantF (S17.getD 11 .any) false (loadG false 1 d31 h17)) fun d32 =>
   bi (wantF (S17.getD 11 .any) false (cP n 83 false [d26, d29, d32])) fun d33 =>
   bi (pickD (S17.getD 11 .any) (Bo true) d33) fun d34 =>
  bi (addK .i64 (S17.getD 14 .any) (I .i64 1)) fun d35 =>
  rec (S17.getD 0 .any) (S17.getD 1 .any) (S17.getD 2 .any) (S17.getD 7 .any) (S17.getD 8 .any) (S17.getD 10 .any) d34 (S17.getD 12 .any) d35 h17) (
  bi (addK .i64 (S17.getD 14 .any) (I .i64 1)) fun d36 =>
  rec (S17.getD 0 .any) (S17.getD 1 .any) (S17.getD 2 .any) (S17.getD 7 .any) (S17.getD 8 .any) (S17.getD 10 .any) (S17.getD 11 .any) (S17.getD 12 .any) d36 h17)) else (
  if i17 = 3 then (
  bi (addK .i64 (S17.getD 14 .any) (I .i64 1)) fun d37 =>
  rec (S17.getD 0 .any) (S17.getD 1 .any) (S17.getD 2 .any) (S17.getD 7 .any) (S17.getD 8 .any) (S17.getD 10 .any) (S17.getD 11 .any) (S17.getD 12 .any) d37 h17) else (
  k (.exit i17) (s_triuneref13_Round_O1 (S17.getD 8 .any) (S17.getD 10 .any) (S17.getD 11 .any)) h17)))
   | .ret => (
  k .ret (s_triuneref13_Round_O1 (S17.getD 8 .any) (S17.getD 10 .any) (S17.getD 11 .any)) h17)) (
  bi (eqK .i64 (S6.getD 12 .any) (I .i64 2)) fun d38 =>
  bi (wantF d38 true (some (S6.getD 15 .any))) fun d39 =>
  bi (wantF d38 true (lenD d39)) fun d40 =>
  bi (wantF d38 true (eqK .i64 d40 (I .i64 2))) fun d41 =>
  bi (pickD d38 d41 (Bo false)) fun d42 =>
  condR d42 (
   bi (wantF (S6.getD 11 .any) false (some (S6.getD 0 .any))) fun d43 =>
   bi (wantF (S6.getD 11 .any) false (some (S6.getD 14 .any))) fun d44 =>
   bi (wantF (S6.getD 11 .any) false (idxSl 5 d43 d44)) fun d45 =>
   bi (wantF (S6.getD 11 .any) false (loadG true 5 d45 h6)) fun d46 =>
   bi (wantF (S6.getD 11 .any) false (some (S6.getD 15 .any))) fun d47 =>
   bi (wantF (S6.getD 11 .any) false (idxSl 1 d47 (I .i64 0))) fun d48 =>
   bi (wantF (S6.getD 11 .any) false (loadG false 1 d48 h6)) fun d49 =>
   bi (wantF (S6.getD 11 .any) false (some (S6.getD 15 .any))) fun d50 =>
   bi (wantF (S6.getD 11 .any) false (idxSl 1 d50 (I .i64 1))) fun d51 =>
   bi (wantF (S6.getD 11 .any) false (loadG false 1 d51 h6)) fun d52 =>
   bi (wantF (S6.getD 11 .any) false (cP n 83 false [d46, d49, d52])) fun d53 =>
   bi (pickD (S6.getD 11 .any) (Bo true) d53) fun d54 =>
  bi (addK .i64 (S6.getD 14 .any) (I .i64 1)) fun d55 =>
  rec (S6.getD 0 .any) (S6.getD 1 .any) (S6.getD 2 .any) (S6.getD 7 .any) (S6.getD 8 .any) (S6.getD 10 .any) d54 (S6.getD 12 .any) d55 h6) (
  bi (addK .i64 (S6.getD 14 .any) (I .i64 1)) fun d56 =>
  rec (S6.getD 0 .any) (S6.getD 1 .any) (S6.getD 2 .any) (S6.getD 7 .any) (S6.getD 8 .any) (S6.getD 10 .any) (S6.getD 11 .any) (S6.getD 12 .any) d56 h6))) else (
  if i6 = 3 then (
  bi (addK .i64 (S6.getD 14 .any) (I .i64 1)) fun d57 =>
  rec (S6.getD 0 .any) (S6.getD 1 .any) (S6.getD 2 .any) (S6.getD 7 .any) (S6.getD 8 .any) (S6.getD 10 .any) (S6.getD 11 .any) (S6.getD 12 .any) d57 h6) else (
  k (.exit i6) (s_triuneref13_Round_O1 (S6.getD 8 .any) (S6.getD 10 .any) (S6.getD 11 .any)) h6)))
  | .ret => (
  k .ret (s_triuneref13_Round_O1 (S6.getD 8 .any) (S6.getD 10 .any) (S6.getD 11 .any)) h6)) (
  k (.exit 2) (s_triuneref13_Round_O1 x8 x10 x11) H)
noncomputable def s_triuneref13_Round_L1 (n fl : Nat) (k : Ex → KF) : Nat → DV → DV → DV → DV → DV → DV → DV → DV → DV → Heap → R
  | 0, _, _, _, _, _, _, _, _, _, _ => none
  | m + 1, x0, x1, x2, x7, x8, x10, x11, x12, x14, H => s_triuneref13_Round_B1 n fl (s_triuneref13_Round_L1 n fl k m) k x0 x1 x2 x7 x8 x10 x11 x12 x14 H
theorem s_triuneref13_Round_S1 (n fl m : Nat) (k : Ex → KF) (x0 x1 x2 x7 x8 x10 x11 x12 x14 : DV) (H : Heap) : loopG [0, 1, 2, 7, 8, 10, 11, 12, 14] [8, 10, 11] 140 (s_triuneref13_Round_b1 n fl) (m + 1) (s_triuneref13_Round_I1 x0 x1 x2 x7 x8 x10 x11 x12 x14) H k = s_triuneref13_Round_B1 n fl (fun x0 x1 x2 x7 x8 x10 x11 x12 x14 H => loopG [0, 1, 2, 7, 8, 10, 11, 12, 14] [8, 10, 11] 140 (s_triuneref13_Round_b1 n fl) m (s_triuneref13_Round_I1 x0 x1 x2 x7 x8 x10 x11 x12 x14) H k) k x0 x1 x2 x7 x8 x10 x11 x12 x14 H := by kernel_rfl
theorem s_triuneref13_Round_L1_eq (n fl : Nat) (k : Ex → KF) : ∀ (m : Nat) (x0 x1 x2 x7 x8 x10 x11 x12 x14 : DV) (H : Heap), loopG [0, 1, 2, 7, 8, 10, 11, 12, 14] [8, 10, 11] 140 (s_triuneref13_Round_b1 n fl) m (s_triuneref13_Round_I1 x0 x1 x2 x7 x8 x10 x11 x12 x14) H k = s_triuneref13_Round_L1 n fl k m x0 x1 x2 x7 x8 x10 x11 x12 x14 H := by
  intro m
  induction m with
  | zero => intros; rfl
  | succ m ih =>
    intro x0 x1 x2 x7 x8 x10 x11 x12 x14 H
    rw [s_triuneref13_Round_S1, show (fun x0 x1 x2 x7 x8 x10 x11 x12 x14 H => loopG [0, 1, 2, 7, 8, 10, 11, 12, 14] [8, 10, 11] 140 (s_triuneref13_Round_b1 n fl) m (s_triuneref13_Round_I1 x0 x1 x2 x7 x8 x10 x11 x12 x14) H k) = s_triuneref13_Round_L1 n fl k m from by funext x0 x1 x2 x7 x8 x10 x11 x12 x14 H; exact ih _ _ _ _ _ _ _ _ _ _]
    rw [s_triuneref13_Round_L1]
def s_triuneref13_Round_I0 (x0 x1 x2 x7 x8 x10 x11 x12 x13 : DV) : List DV := [x0, x1, x2, .any, .any, .any, .any, x7, x8, .any, x10, x11, x12, x13, .any, .any, .any, .any, .any, .any, .any, .any, .any, .any, .any, .any, .any, .any, .any, .any, .any, .any, .any, .any, .any, .any, .any, .any, .any, .any, .any, .any, .any, .any, .any, .any, .any, .any, .any, .any, .any, .any, .any, .any, .any, .any, .any, .any, .any, .any, .any, .any, .any, .any, .any, .any, .any, .any, .any, .any, .any, .any, .any, .any, .any, .any, .any, .any, .any, .any, .any, .any, .any, .any, .any, .any, .any, .any, .any, .any, .any, .any, .any, .any, .any, .any, .any, .any, .any, .any, .any, .any, .any, .any, .any, .any, .any, .any, .any, .any, .any, .any, .any, .any, .any, .any, .any, .any, .any, .any, .any, .any, .any, .any, .any, .any, .any, .any, .any, .any, .any, .any, .any, .any, .any, .any, .any, .any, .any, .any]
def s_triuneref13_Round_O0 (x0 x1 x2 x7 x8 x10 x11 x12 : DV) : List DV := [x0, x1, x2, .any, .any, .any, .any, x7, x8, .any, x10, x11, x12, .any, .any, .any, .any, .any, .any, .any, .any, .any, .any, .any, .any, .any, .any, .any, .any, .any, .any, .any, .any, .any, .any, .any, .any, .any, .any, .any, .any, .any, .any, .any, .any, .any, .any, .any, .any, .any, .any, .any, .any, .any, .any, .any, .any, .any, .any, .any, .any, .any, .any, .any, .any, .any, .any, .any, .any, .any, .any, .any, .any, .any, .any, .any, .any, .any, .any, .any, .any, .any, .any, .any, .any, .any, .any, .any, .any, .any, .any, .any, .any, .any, .any, .any, .any, .any, .any, .any, .any, .any, .any, .any, .any, .any, .any, .any, .any, .any, .any, .any, .any, .any, .any, .any, .any, .any, .any, .any, .any, .any, .any, .any, .any, .any, .any, .any, .any, .any, .any, .any, .any, .any, .any, .any, .any, .any, .any, .any]
noncomputable abbrev s_triuneref13_Round_b0 (n fl : Nat) : List DV → Heap → (Ex → KF) → R := execG ⟨Try.prog, callG Try.prog ENV n, ENV.md, fl, 140⟩ n (loopAt (bodyOf Try.f47) 0) []
noncomputable def s_triuneref13_Round_B0 (n fl : Nat) (rec : DV → DV → DV → DV → DV → DV → DV → DV → DV → Heap → R) (k : Ex → KF) (x0 x1 x2 x7 x8 x10 x11 x12 x13 : DV) (H : Heap) : R :=
  bi (ltK .i64 x13 (I .i64 3)) fun d0 =>
  condR d0 (
  bi (idxArr 3 1 x7 x13) fun d1 =>
  bi (loadG false 1 d1 H) fun d2 =>
  condR d2 (
   bi (addK .i64 x12 (I .i64 1)) fun d3 =>
  bi (addK .i64 x13 (I .i64 1)) fun d4 =>
  rec x0 x1 x2 x7 x8 x10 x11 d3 d4 H) (
  bi (addK .i64 x13 (I .i64 1)) fun d5 =>
  rec x0 x1 x2 x7 x8 x10 x11 x12 d5 H)) (
  k (.exit 0) (s_triuneref13_Round_O0 x0 x1 x2 x7 x8 x10 x11 x12) H)
noncomputable def s_triuneref13_Round_L0 (n fl : Nat) (k : Ex → KF) : Nat → DV → DV → DV → DV → DV → DV → DV → DV → DV → Heap → R
  | 0, _, _, _, _, _, _, _, _, _, _ => none
  | m + 1, x0, x1, x2, x7, x8, x10, x11, x12, x13, H => s_triuneref13_Round_B0 n fl (s_triuneref13_Round_L0 n fl k m) k x0 x1 x2 x7 x8 x10 x11 x12 x13 H
theorem s_triuneref13_Round_S0 (n fl m : Nat) (k : Ex → KF) (x0 x1 x2 x7 x8 x10 x11 x12 x13 : DV) (H : Heap) : loopG [0, 1, 2, 7, 8, 10, 11, 12, 13] [0, 1, 2, 7, 8, 10, 11, 12] 140 (s_triuneref13_Round_b0 n fl) (m + 1) (s_triuneref13_Round_I0 x0 x1 x2 x7 x8 x10 x11 x12 x13) H k = s_triuneref13_Round_B0 n fl (fun x0 x1 x2 x7 x8 x10 x11 x12 x13 H => loopG [0, 1, 2, 7, 8, 10, 11, 12, 13] [0, 1, 2, 7, 8, 10, 11, 12] 140 (s_triuneref13_Round_b0 n fl) m (s_triuneref13_Round_I0 x0 x1 x2 x7 x8 x10 x11 x12 x13) H k) k x0 x1 x2 x7 x8 x10 x11 x12 x13 H := by kernel_rfl
theorem s_triuneref13_Round_L0_eq (n fl : Nat) (k : Ex → KF) : ∀ (m : Nat) (x0 x1 x2 x7 x8 x10 x11 x12 x13 : DV) (H : Heap), loopG [0, 1, 2, 7, 8, 10, 11, 12, 13] [0, 1, 2, 7, 8, 10, 11, 12] 140 (s_triuneref13_Round_b0 n fl) m (s_triuneref13_Round_I0 x0 x1 x2 x7 x8 x10 x11 x12 x13) H k = s_triuneref13_Round_L0 n fl k m x0 x1 x2 x7 x8 x10 x11 x12 x13 H := by
  intro m
  induction m with
  | zero => intros; rfl
  | succ m ih =>
    intro x0 x1 x2 x7 x8 x10 x11 x12 x13 H
    rw [s_triuneref13_Round_S0, show (fun x0 x1 x2 x7 x8 x10 x11 x12 x13 H => loopG [0, 1, 2, 7, 8, 10, 11, 12, 13] [0, 1, 2, 7, 8, 10, 11, 12] 140 (s_triuneref13_Round_b0 n fl) m (s_triuneref13_Round_I0 x0 x1 x2 x7 x8 x10 x11 x12 x13) H k) = s_triuneref13_Round_L0 n fl k m from by funext x0 x1 x2 x7 x8 x10 x11 x12 x13 H; exact ih _ _ _ _ _ _ _ _ _ _]
    rw [s_triuneref13_Round_L0]
noncomputable def s_triuneref13_Round (n : Nat) (H : Heap) (fl : Nat) (a0 a1 a2 a3 : DV) : R :=
  bi (allocG 52 a3 (List.length H) (H ++ [.hole, .hole])) fun h0 =>
  bi (allocG 52 (.agg [(Bo false), (Bo false), (Bo false)]) (List.length H + 1) h0) fun h1 =>
  bi (buildA (.agg [(Bo false), (Bo false), (Bo false)]) 1 []) fun d2 =>
  bi (allocG 52 (.agg [(Bo false), (Bo false), (Bo false)]) (List.length h1) (h1 ++ [.hole])) fun h3 =>
  bi (storeG 3 (.ptr (List.length h1) 0) d2 h3 fl) fun h4 =>
  loopG [0, 1, 2, 7, 8, 10, 11, 12, 13] [0, 1, 2, 7, 8, 10, 11, 12] 140 (s_triuneref13_Round_b0 n fl) n (s_triuneref13_Round_I0 a0 a1 a2 (.ptr (List.length H) 0) (.ptr (List.length H + 1) 0) (.ptr (List.length h1) 0) (Bo false) (I .i64 0) (I .i64 0)) h4 fun x S5 h5 => match x with
  | .normal => none
  | .exit i5 => (
  if i5 = 0 then (
  loopG [0, 1, 2, 7, 8, 10, 11, 12, 14] [8, 10, 11] 140 (s_triuneref13_Round_b1 n fl) n (s_triuneref13_Round_I1 (S5.getD 0 .any) (S5.getD 1 .any) (S5.getD 2 .any) (S5.getD 7 .any) (S5.getD 8 .any) (S5.getD 10 .any) (S5.getD 11 .any) (S5.getD 12 .any) (I .i64 0)) h5 fun x S6 h6 => match x with
  | .normal => none
  | .exit i6 => (
  if i6 = 2 then (
  bi (loadG true 3 (S6.getD 10 .any) h6) fun d7 =>
  bi (storeG 3 (S6.getD 8 .any) d7 h6 fl) fun h8 =>
  bi (cellR true 3 (S6.getD 8 .any) h8) fun r0 =>
  some ((.tup [r0, (S6.getD 11 .any)]), h8)) else (
  none))
  | .ret => (
  bi (cellR true 3 (S6.getD 8 .any) h6) fun r0 =>
  some ((.tup [r0, .any]), h6))) else (
  none))
  | .ret => (
  bi (cellR true 3 (S5.getD 8 .any) h5) fun r0 =>
  some ((.tup [r0, .any]), h5))
theorem s_triuneref13_Round_eq (n : Nat) (H : Heap) (fl : Nat) (a0 a1 a2 a3 : DV) : callG Try.prog ENV (n + 1) 47 [a0, a1, a2, a3] H fl = s_triuneref13_Round n H fl a0 a1 a2 a3 := by kernel_rfl

/-! triune/triuneref13.Fine -/
def s_triuneref13_Fine_I1 (x0 x1 x2 x6 x7 x8 x9 x10 : DV) : List DV := [x0, x1, x2, .any, .any, .any, x6, x7, x8, x9, x10, .any, .any, .any, .any, .any, .any, .any, .any, .any, .any, .any, .any, .any, .any, .any, .any, .any, .any, .any, .any, .any, .any, .any, .any, .any, .any, .any, .any, .any, .any, .any, .any, .any, .any, .any, .any, .any, .any, .any, .any, .any, .any, .any, .any, .any, .any, .any, .any, .any, .any, .any, .any, .any, .any, .any, .any, .any, .any, .any, .any, .any, .any, .any, .any, .any, .any, .any, .any, .any, .any, .any, .any, .any, .any, .any, .any, .any, .any, .any, .any, .any, .any, .any, .any, .any, .any, .any, .any, .any, .any, .any, .any, .any, .any, .any, .any, .any]
def s_triuneref13_Fine_O1 (x0 x1 x2 x6 x7 x8 x9 : DV) : List DV := [x0, x1, x2, .any, .any, .any, x6, x7, x8, x9, .any, .any, .any, .any, .any, .any, .any, .any, .any, .any, .any, .any, .any, .any, .any, .any, .any, .any, .any, .any, .any, .any, .any, .any, .any, .any, .any, .any, .any, .any, .any, .any, .any, .any, .any, .any, .any, .any, .any, .any, .any, .any, .any, .any, .any, .any, .any, .any, .any, .any, .any, .any, .any, .any, .any, .any, .any, .any, .any, .any, .any, .any, .any, .any, .any, .any, .any, .any, .any, .any, .any, .any, .any, .any, .any, .any, .any, .any, .any, .any, .any, .any, .any, .any, .any, .any, .any, .any, .any, .any, .any, .any, .any, .any, .any, .any, .any, .any]
noncomputable abbrev s_triuneref13_Fine_b1 (n fl : Nat) : List DV → Heap → (Ex → KF) → R := execG ⟨Try.prog, callG Try.prog ENV n, ENV.md, fl, 108⟩ n (loopAt (bodyOf Try.f52) 1) []
noncomputable def s_triuneref13_Fine_B1 (n fl : Nat) (rec : DV → DV → DV → DV → DV → DV → DV → DV → Heap → R) (k : Ex → KF) (x0 x1 x2 x6 x7 x8 x9 x10 : DV) (H : Heap) : R :=
  bi (lenD x0) fun d0 =>
  bi (ltK .i64 x10 d0) fun d1 =>
  condR d1 (
  bi (cO n 88 [x1, x9, x10] (H ++ [.hole])) fun d2 =>
  bi (extD 0 d2) fun d3 =>
  bi (extD 1 d2) fun d4 =>
  bi (allocG 177 (.agg [(I .u16 0), (I .i64 0), (Bo false)]) (List.length H) (H ++ [.hole])) fun h5 =>
  bi (storeG 3 (.ptr (List.length H) 0) d3 h5 fl) fun h6 =>
  bi (loadG false 1 (.ptr (List.length H) 2) h6) fun d7 =>
  bi (notD d7) fun d8 =>
  bi (wantF d8 false (some (.ptr (List.length H) 1))) fun d9 =>
  bi (wantF d8 false (loadG false 1 d9 h6)) fun d10 =>
  bi (wantF d8 false (some x2)) fun d11 =>
  bi (wantF d8 false (neK .i64 d10 d11)) fun d12 =>
  bi (pickD d8 (Bo true) d12) fun d13 =>
  condR d13 (
   bi (idxArr 3 1 x7 x9) fun d14 =>
   bi (storeG 1 d14 (Bo false) h6 fl) fun h15 =>
  bi (addK .i64 x10 (I .i64 1)) fun d16 =>
  rec x0 x1 x2 x6 x7 x8 x9 d16 h15) (
  bi (loadG true 3 x8 h6) fun d17 =>
  bi (cO n 81 [x1, x10, x2, d17] h6) fun d18 =>
  bi (extD 0 d18) fun d19 =>
  bi (extD 1 d18) fun d20 =>
  bi (lenD d19) fun d21 =>
  bi (eqK .i64 d21 (I .i64 3)) fun d22 =>
  condR d22 (
   bi (idxSl 5 x0 x10) fun d23 =>
   bi (loadG true 5 d23 h6) fun d24 =>
   bi (cP n 82 false [d24, d19]) fun d25 =>
   bi (extD 0 d25) fun d26 =>
   bi (extD 1 d25) fun d27 =>
   bi (idxArr 3 1 x7 x9) fun d28 =>
   bi (loadG false 1 d28 h6) fun d29 =>
   bi (wantF d29 true (some x0)) fun d30 =>
   bi (wantF d29 true (some x10)) fun d31 =>
   bi (wantF d29 true (idxSl 5 d30 d31)) fun d32 =>
   bi (wantF d29 true (loadG true 5 d32 h6)) fun d33 =>
   bi (wantF d29 true (some (.ptr (List.length H) 0))) fun d34 =>
   bi (wantF d29 true (loadG false 1 d34 h6)) fun d35 =>
   bi (wantF d29 true (some d26)) fun d36 =>
   bi (wantF d29 true (cP n 83 false [d33, d35, d36])) fun d37 =>
   bi (wantF d29 true (notD d37)) fun d38 =>
   bi (pickD d29 d38 (Bo false)) fun d39 =>
   bi (idxArr 3 1 x7 x9) fun d40 =>
   bi (storeG 1 d40 d39 h6 fl) fun h41 =>
  bi (lenD d19) fun d42 =>
  bi (eqK .i64 d42 (I .i64 2)) fun d43 =>
  condR d43 (
   bi (idxArr 3 1 x7 x9) fun d44 =>
   bi (loadG false 1 d44 h41) fun d45 =>
   bi (wantF d45 true (some x0)) fun d46 =>
   bi (wantF d45 true (some x10)) fun d47 =>
   bi (wantF d45 true (idxSl 5 d46 d47)) fun d48 =>
   bi (wantF d45 true (loadG true 5 d48 h41)) fun d49 =>
   bi (wantF d45 true (some d19)) fun d50 =>
   bi (wantF d45 true (idxSl 1 d50 (I .i64 0))) fun d51 =>
   bi (wantF d45 true (loadG false 1 d51 h41)) fun d52 =>
   bi (wantF d45 true (some d19)) fun d53 =>
   bi (wantF d45 true (idxSl 1 d53 (I .i64 1))) fun d54 =>
   bi (wantF d45 true (loadG false 1 d54 h41)) fun d55 =>
   bi (wantF d45 true (cP n 83 false [d49, d52, d55])) fun d56 =>
   bi (wantF d45 true (notD d56)) fun d57 =>
   bi (pickD d45 d57 (Bo false)) fun d58 =>
   bi (idxArr 3 1 x7 x9) fun d59 =>
   bi (storeG 1 d59 d58 h41 fl) fun h60 =>
  bi (addK .i64 x10 (I .i64 1)) fun d61 =>
  rec x0 x1 x2 x6 x7 x8 x9 d61 h60) (
  bi (addK .i64 x10 (I .i64 1)) fun d62 =>
  rec x0 x1 x2 x6 x7 x8 x9 d62 h41)) (
  bi (lenD d19) fun d63 =>
  bi (eqK .i64 d63 (I .i64 2)) fun d64 =>
  condR d64 (
   bi (idxArr 3 1 x7 x9) fun d65 =>
   bi (loadG false 1 d65 h6) fun d66 =>
   bi (wantF d66 true (some x0)) fun d67 =>
   bi (wantF d66 true (some x10)) fun d68 =>
   bi (wantF d66 true (idxSl 5 d67 d68)) fun d69 =>
   bi (wantF d66 true (loadG true 5 d69 h6)) fun d70 =>
   bi (wantF d66 true (some d19)) fun d71 =>
   bi (wantF d66 true (idxSl 1 d71 (I .i64 0))) fun d72 =>
   bi (wantF d66 true (loadG false 1 d72 h6)) fun d73 =>
   bi (wantF d66 true (some d19)) fun d74 =>
   bi (wantF d66 true (idxSl 1 d74 (I .i64 1))) fun d75 =>
   bi (wantF d66 true (loadG false 1 d75 h6)) fun d76 =>
   bi (wantF d66 true (cP n 83 false [d70, d73, d76])) fun d77 =>
   bi (wantF d66 true (notD d77)) fun d78 =>
   bi (pickD d66 d78 (Bo false)) fun d79 =>
   bi (idxArr 3 1 x7 x9) fun d80 =>
   bi (storeG 1 d80 d79 h6 fl) fun h81 =>
  bi (addK .i64 x10 (I .i64 1)) fun d82 =>
  rec x0 x1 x2 x6 x7 x8 x9 d82 h81) (
  bi (addK .i64 x10 (I .i64 1)) fun d83 =>
  rec x0 x1 x2 x6 x7 x8 x9 d83 h6)))) (
  k (.exit 2) (s_triuneref13_Fine_O1 x0 x1 x2 x6 x7 x8 x9) H)
noncomputable def s_triuneref13_Fine_L1 (n fl : Nat) (k : Ex → KF) : Nat → DV → DV → DV → DV → DV → DV → DV → DV → Heap → R
  | 0, _, _, _, _, _, _, _, _, _ => none
  | m + 1, x0, x1, x2, x6, x7, x8, x9, x10, H => s_triuneref13_Fine_B1 n fl (s_triuneref13_Fine_L1 n fl k m) k x0 x1 x2 x6 x7 x8 x9 x10 H
theorem s_triuneref13_Fine_S1 (n fl m : Nat) (k : Ex → KF) (x0 x1 x2 x6 x7 x8 x9 x10 : DV) (H : Heap) : loopG [0, 1, 2, 6, 7, 8, 9, 10] [0, 1, 2, 6, 7, 8, 9] 108 (s_triuneref13_Fine_b1 n fl) (m + 1) (s_triuneref13_Fine_I1 x0 x1 x2 x6 x7 x8 x9 x10) H k = s_triuneref13_Fine_B1 n fl (fun x0 x1 x2 x6 x7 x8 x9 x10 H => loopG [0, 1, 2, 6, 7, 8, 9, 10] [0, 1, 2, 6, 7, 8, 9] 108 (s_triuneref13_Fine_b1 n fl) m (s_triuneref13_Fine_I1 x0 x1 x2 x6 x7 x8 x9 x10) H k) k x0 x1 x2 x6 x7 x8 x9 x10 H := by kernel_rfl
theorem s_triuneref13_Fine_L1_eq (n fl : Nat) (k : Ex → KF) : ∀ (m : Nat) (x0 x1 x2 x6 x7 x8 x9 x10 : DV) (H : Heap), loopG [0, 1, 2, 6, 7, 8, 9, 10] [0, 1, 2, 6, 7, 8, 9] 108 (s_triuneref13_Fine_b1 n fl) m (s_triuneref13_Fine_I1 x0 x1 x2 x6 x7 x8 x9 x10) H k = s_triuneref13_Fine_L1 n fl k m x0 x1 x2 x6 x7 x8 x9 x10 H := by
  intro m
  induction m with
  | zero => intros; rfl
  | succ m ih =>
    intro x0 x1 x2 x6 x7 x8 x9 x10 H
    rw [s_triuneref13_Fine_S1, show (fun x0 x1 x2 x6 x7 x8 x9 x10 H => loopG [0, 1, 2, 6, 7, 8, 9, 10] [0, 1, 2, 6, 7, 8, 9] 108 (s_triuneref13_Fine_b1 n fl) m (s_triuneref13_Fine_I1 x0 x1 x2 x6 x7 x8 x9 x10) H k) = s_triuneref13_Fine_L1 n fl k m from by funext x0 x1 x2 x6 x7 x8 x9 x10 H; exact ih _ _ _ _ _ _ _ _ _]
    rw [s_triuneref13_Fine_L1]
def s_triuneref13_Fine_I0 (x0 x1 x2 x6 x7 x8 x9 : DV) : List DV := [x0, x1, x2, .any, .any, .any, x6, x7, x8, x9, .any, .any, .any, .any, .any, .any, .any, .any, .any, .any, .any, .any, .any, .any, .any, .any, .any, .any, .any, .any, .any, .any, .any, .any, .any, .any, .any, .any, .any, .any, .any, .any, .any, .any, .any, .any, .any, .any, .any, .any, .any, .any, .any, .any, .any, .any, .any, .any, .any, .any, .any, .any, .any, .any, .any, .any, .any, .any, .any, .any, .any, .any, .any, .any, .any, .any, .any, .any, .any, .any, .any, .any, .any, .any, .any, .any, .any, .any, .any, .any, .any, .any, .any, .any, .any, .any, .any, .any, .any, .any, .any, .any, .any, .any, .any, .any, .any, .any]
def s_triuneref13_Fine_O0 (x6 x7 : DV) : List DV := [.any, .any, .any, .any, .any, .any, x6, x7, .any, .any, .any, .any, .any, .any, .any, .any, .any, .any, .any, .any, .any, .any, .any, .any, .any, .any, .any, .any, .any, .any, .any, .any, .any, .any, .any, .any, .any, .any, .any, .any, .any, .any, .any, .any, .any, .any, .any, .any, .any, .any, .any, .any, .any, .any, .any, .any, .any, .any, .any, .any, .any, .any, .any, .any, .any, .any, .any, .any, .any, .any, .any, .any, .any, .any, .any, .any, .any, .any, .any, .any, .any, .any, .any, .any, .any, .any, .any, .any, .any, .any, .any, .any, .any, .any, .any, .any, .any, .any, .any, .any, .any, .any, .any, .any, .any, .any, .any, .any]
noncomputable abbrev s_triuneref13_Fine_b0 (n fl : Nat) : List DV → Heap → (Ex → KF) → R := execG ⟨Try.prog, callG Try.prog ENV n, ENV.md, fl, 108⟩ n (loopAt (bodyOf Try.f52) 0) [([0, 1, 2, 6, 7, 8, 9, 10], [0, 1, 2, 6, 7, 8, 9])]
noncomputable def s_triuneref13_Fine_B0 (n fl : Nat) (rec : DV → DV → DV → DV → DV → DV → DV → Heap → R) (k : Ex → KF) (x0 x1 x2 x6 x7 x8 x9 : DV) (H : Heap) : R :=
  bi (ltK .i64 x9 (I .i64 3)) fun d0 =>
  condR d0 (
  bi (idxArr 3 1 x7 x9) fun d1 =>
  bi (storeG 1 d1 (Bo true) H fl) fun h2 =>
  loopG [0, 1, 2, 6, 7, 8, 9, 10] [0, 1, 2, 6, 7, 8, 9] 108 (s_triuneref13_Fine_b1 n fl) n (s_triuneref13_Fine_I1 x0 x1 x2 x6 x7 x8 x9 (I .i64 0)) h2 fun x S3 h3 => match x with
  | .normal => none
  | .exit i3 => (
  if i3 = 2 then (
  bi (addK .i64 (S3.getD 9 .any) (I .i64 1)) fun d4 =>
  rec (S3.getD 0 .any) (S3.getD 1 .any) (S3.getD 2 .any) (S3.getD 6 .any) (S3.getD 7 .any) (S3.getD 8 .any) d4 h3) else (
  if i3 = 1 then (
  bi (addK .i64 (S3.getD 9 .any) (I .i64 1)) fun d5 =>
  rec (S3.getD 0 .any) (S3.getD 1 .any) (S3.getD 2 .any) (S3.getD 6 .any) (S3.getD 7 .any) (S3.getD 8 .any) d5 h3) else (
  k (.exit i3) (s_triuneref13_Fine_O0 (S3.getD 6 .any) (S3.getD 7 .any)) h3)))
  | .ret => (
  k .ret (s_triuneref13_Fine_O0 (S3.getD 6 .any) (S3.getD 7 .any)) h3)) (
  k (.exit 0) (s_triuneref13_Fine_O0 x6 x7) H)
noncomputable def s_triuneref13_Fine_L0 (n fl : Nat) (k : Ex → KF) : Nat → DV → DV → DV → DV → DV → DV → DV → Heap → R
  | 0, _, _, _, _, _, _, _, _ => none
  | m + 1, x0, x1, x2, x6, x7, x8, x9, H => s_triuneref13_Fine_B0 n fl (s_triuneref13_Fine_L0 n fl k m) k x0 x1 x2 x6 x7 x8 x9 H
theorem s_triuneref13_Fine_S0 (n fl m : Nat) (k : Ex → KF) (x0 x1 x2 x6 x7 x8 x9 : DV) (H : Heap) : loopG [0, 1, 2, 6, 7, 8, 9] [6, 7] 108 (s_triuneref13_Fine_b0 n fl) (m + 1) (s_triuneref13_Fine_I0 x0 x1 x2 x6 x7 x8 x9) H k = s_triuneref13_Fine_B0 n fl (fun x0 x1 x2 x6 x7 x8 x9 H => loopG [0, 1, 2, 6, 7, 8, 9] [6, 7] 108 (s_triuneref13_Fine_b0 n fl) m (s_triuneref13_Fine_I0 x0 x1 x2 x6 x7 x8 x9) H k) k x0 x1 x2 x6 x7 x8 x9 H := by kernel_rfl
theorem s_triuneref13_Fine_L0_eq (n fl : Nat) (k : Ex → KF) : ∀ (m : Nat) (x0 x1 x2 x6 x7 x8 x9 : DV) (H : Heap), loopG [0, 1, 2, 6, 7, 8, 9] [6, 7] 108 (s_triuneref13_Fine_b0 n fl) m (s_triuneref13_Fine_I0 x0 x1 x2 x6 x7 x8 x9) H k = s_triuneref13_Fine_L0 n fl k m x0 x1 x2 x6 x7 x8 x9 H := by
  intro m
  induction m with
  | zero => intros; rfl
  | succ m ih =>
    intro x0 x1 x2 x6 x7 x8 x9 H
    rw [s_triuneref13_Fine_S0, show (fun x0 x1 x2 x6 x7 x8 x9 H => loopG [0, 1, 2, 6, 7, 8, 9] [6, 7] 108 (s_triuneref13_Fine_b0 n fl) m (s_triuneref13_Fine_I0 x0 x1 x2 x6 x7 x8 x9) H k) = s_triuneref13_Fine_L0 n fl k m from by funext x0 x1 x2 x6 x7 x8 x9 H; exact ih _ _ _ _ _ _ _ _]
    rw [s_triuneref13_Fine_L0]
noncomputable def s_triuneref13_Fine (n : Nat) (H : Heap) (fl : Nat) (a0 a1 a2 : DV) : R :=
  bi (allocG 52 (.agg [(Bo false), (Bo false), (Bo false)]) (List.length H) (H ++ [.hole])) fun h0 =>
  bi (buildA (.agg [(Bo false), (Bo false), (Bo false)]) 1 []) fun d1 =>
  bi (allocG 52 (.agg [(Bo false), (Bo false), (Bo false)]) (List.length h0) (h0 ++ [.hole])) fun h2 =>
  bi (storeG 3 (.ptr (List.length h0) 0) d1 h2 fl) fun h3 =>
  bi (buildA (.agg [(Bo false), (Bo false), (Bo false)]) 1 [(0, (Bo true)), (1, (Bo true)), (2, (Bo true))]) fun d4 =>
  bi (allocG 52 (.agg [(Bo false), (Bo false), (Bo false)]) (List.length h3) (h3 ++ [.hole])) fun h5 =>
  bi (storeG 3 (.ptr (List.length h3) 0) d4 h5 fl) fun h6 =>
  loopG [0, 1, 2, 6, 7, 8, 9] [6, 7] 108 (s_triuneref13_Fine_b0 n fl) n (s_triuneref13_Fine_I0 a0 a1 a2 (.ptr (List.length H) 0) (.ptr (List.length h0) 0) (.ptr (List.length h3) 0) (I .i64 0)) h6 fun x S7 h7 => match x with
  | .normal => none
  | .exit i7 => (
  if i7 = 0 then (
  bi (loadG true 3 (S7.getD 7 .any) h7) fun d8 =>
  bi (storeG 3 (S7.getD 6 .any) d8 h7 fl) fun h9 =>
  bi (cellR true 3 (S7.getD 6 .any) h9) fun r0 =>
  some (r0, h9)) else (
  none))
  | .ret => (
  bi (cellR true 3 (S7.getD 6 .any) h7) fun r0 =>
  some (r0, h7))
theorem s_triuneref13_Fine_eq (n : Nat) (H : Heap) (fl : Nat) (a0 a1 a2 : DV) : callG Try.prog ENV (n + 1) 52 [a0, a1, a2] H fl = s_triuneref13_Fine n H fl a0 a1 a2 := by kernel_rfl

/-! triune/triuneref13.Voted -/
def s_triuneref13_Voted_I0 (x0 x1 x2 x7 x9 x10 : DV) : List DV := [x0, x1, x2, .any, .any, .any, .any, x7, .any, x9, x10, .any, .any, .any, .any, .any, .any, .any, .any, .any, .any, .any, .any, .any, .any, .any, .any, .any, .any, .any, .any, .any, .any, .any, .any, .any, .any, .any, .any, .any, .any, .any, .any]
def s_triuneref13_Voted_O0 (x9 : DV) : List DV := [.any, .any, .any, .any, .any, .any, .any, .any, .any, x9, .any, .any, .any, .any, .any, .any, .any, .any, .any, .any, .any, .any, .any, .any, .any, .any, .any, .any, .any, .any, .any, .any, .any, .any, .any, .any, .any, .any, .any, .any, .any, .any, .any]
noncomputable abbrev s_triuneref13_Voted_b0 (n fl : Nat) : List DV → Heap → (Ex → KF) → R := execG ⟨Try.prog, callG Try.prog ENV n, ENV.md, fl, 43⟩ n (loopAt (bodyOf Try.f50) 0) []
noncomputable def s_triuneref13_Voted_B0 (n fl : Nat) (rec : DV → DV → DV → DV → DV → DV → Heap → R) (k : Ex → KF) (x0 x1 x2 x7 x9 x10 : DV) (H : Heap) : R :=
  bi (lenD x0) fun d0 =>
  bi (ltK .i64 x10 d0) fun d1 =>
  condR d1 (
  bi (loadG true 3 x7 H) fun d2 =>
  bi (cO n 81 [x1, x10, x2, d2] H) fun d3 =>
  bi (extD 0 d3) fun d4 =>
  bi (extD 1 d3) fun d5 =>
  bi (idxSl 5 x0 x10) fun d6 =>
  bi (loadG true 5 d6 H) fun d7 =>
  bi (cP n 82 false [d7, d4]) fun d8 =>
  bi (extD 0 d8) fun d9 =>
  bi (extD 1 d8) fun d10 =>
  bi (buildL false 1 1 (I .u16 0) [(0, d9)]) fun d11 =>
  bi (appG 75 false 1 2 x9 d11 H fl) fun p12 =>
  bi (addK .i64 x10 (I .i64 1)) fun d13 =>
  rec x0 x1 x2 x7 p12.1 d13 p12.2) (
  k (.exit 0) (s_triuneref13_Voted_O0 x9) H)
noncomputable def s_triuneref13_Voted_L0 (n fl : Nat) (k : Ex → KF) : Nat → DV → DV → DV → DV → DV → DV → Heap → R
  | 0, _, _, _, _, _, _, _ => none
  | m + 1, x0, x1, x2, x7, x9, x10, H => s_triuneref13_Voted_B0 n fl (s_triuneref13_Voted_L0 n fl k m) k x0 x1 x2 x7 x9 x10 H
theorem s_triuneref13_Voted_S0 (n fl m : Nat) (k : Ex → KF) (x0 x1 x2 x7 x9 x10 : DV) (H : Heap) : loopG [0, 1, 2, 7, 9, 10] [9] 43 (s_triuneref13_Voted_b0 n fl) (m + 1) (s_triuneref13_Voted_I0 x0 x1 x2 x7 x9 x10) H k = s_triuneref13_Voted_B0 n fl (fun x0 x1 x2 x7 x9 x10 H => loopG [0, 1, 2, 7, 9, 10] [9] 43 (s_triuneref13_Voted_b0 n fl) m (s_triuneref13_Voted_I0 x0 x1 x2 x7 x9 x10) H k) k x0 x1 x2 x7 x9 x10 H := by kernel_rfl
theorem s_triuneref13_Voted_L0_eq (n fl : Nat) (k : Ex → KF) : ∀ (m : Nat) (x0 x1 x2 x7 x9 x10 : DV) (H : Heap), loopG [0, 1, 2, 7, 9, 10] [9] 43 (s_triuneref13_Voted_b0 n fl) m (s_triuneref13_Voted_I0 x0 x1 x2 x7 x9 x10) H k = s_triuneref13_Voted_L0 n fl k m x0 x1 x2 x7 x9 x10 H := by
  intro m
  induction m with
  | zero => intros; rfl
  | succ m ih =>
    intro x0 x1 x2 x7 x9 x10 H
    rw [s_triuneref13_Voted_S0, show (fun x0 x1 x2 x7 x9 x10 H => loopG [0, 1, 2, 7, 9, 10] [9] 43 (s_triuneref13_Voted_b0 n fl) m (s_triuneref13_Voted_I0 x0 x1 x2 x7 x9 x10) H k) = s_triuneref13_Voted_L0 n fl k m from by funext x0 x1 x2 x7 x9 x10 H; exact ih _ _ _ _ _ _ _]
    rw [s_triuneref13_Voted_L0]
noncomputable def s_triuneref13_Voted (n : Nat) (H : Heap) (fl : Nat) (a0 a1 a2 a3 : DV) : R :=
  bi (allocG 52 a3 (List.length H) (H ++ [.hole])) fun h0 =>
  loopG [0, 1, 2, 7, 9, 10] [9] 43 (s_triuneref13_Voted_b0 n fl) n (s_triuneref13_Voted_I0 a0 a1 a2 (.ptr (List.length H) 0) (.list 0 [] .ti) (I .i64 0)) h0 fun x S1 h1 => match x with
  | .normal => none
  | .exit i1 => (
  if i1 = 0 then (
  some ((S1.getD 9 .any), h1)) else (
  none))
  | .ret => (
  some (.any, h1))
theorem s_triuneref13_Voted_eq (n : Nat) (H : Heap) (fl : Nat) (a0 a1 a2 a3 : DV) : callG Try.prog ENV (n + 1) 50 [a0, a1, a2, a3] H fl = s_triuneref13_Voted n H fl a0 a1 a2 a3 := by kernel_rfl

end Go.Proofs.Ytbhnkdnfmlnajaa

/- The document's judge: rounds, and what is voted. -/
namespace Go.Proofs.Ytbhnkdnfmlnajaa
open Go
set_option linter.unusedSimpArgs false
set_option linter.unusedVariables false
set_option maxRecDepth 100000
theorem RA.same {H G : Heap} {k n k0 k1 k2 : Nat} {s0 s1 s2 : List Sm} (h : RA H k n k0 k1 k2 s0 s1 s2) (e : ∀ j, j = k ∨ j = k0 ∨ j = k1 ∨ j = k2 → G[j]? = H[j]?) : RA G k n k0 k1 k2 s0 s1 s2 :=
  ⟨(e k (.inl rfl)).trans h.b, (e k0 (.inr (.inl rfl))).trans h.r0, (e k1 (.inr (.inr (.inl rfl)))).trans h.r1, (e k2 (.inr (.inr (.inr rfl)))).trans h.r2, h.l0, h.l1, h.l2⟩
theorem RA.oth {H : Heap} {k n k0 k1 k2 : Nat} {s0 s1 s2 : List Sm} (h : RA H k n k0 k1 k2 s0 s1 s2) (kk : Nat) (b : DBlk) (hk : k ≠ kk ∧ k0 ≠ kk ∧ k1 ≠ kk ∧ k2 ≠ kk) : RA (H.set kk b) k n k0 k1 k2 s0 s1 s2 :=
  ⟨by rw [hp_set_ne _ _ _ _ hk.1]; exact h.b, by rw [hp_set_ne _ _ _ _ hk.2.1]; exact h.r0, by rw [hp_set_ne _ _ _ _ hk.2.2.1]; exact h.r1, by rw [hp_set_ne _ _ _ _ hk.2.2.2]; exact h.r2, h.l0, h.l1, h.l2⟩
theorem rv_L (n fl : Nat) (hn : 1100 ≤ n) (L : List Q) (hL : L.length ≤ 100) (hq : ∀ q ∈ L, QOk q) (tl : Tag) (r : Int) (i0 i1 i2 : Bool) {k k0 k1 k2 N : Nat} (hfl : fl ≤ N) (eb : TypeId) {H0 : Heap} (hA : RA H0 k L.length k0 k1 k2 (L.map Q.x0) (L.map Q.x1) (L.map Q.x2)) (hb : H0[N]? = some (.cells eb [Bo i0, Bo i1, Bo i2])) (hN : H0.length = N + 1) : ∀ (q i : Nat) (t : Tag) (G : Heap), L.length < q + i → i ≤ L.length → TgOk t 75 1 (N + 1) i G → (∀ j, j < N + 1 → G[j]? = H0[j]?) → N + 1 ≤ G.length →
    ∃ t' G', (∀ K, s_triuneref13_Voted_L0 n fl K q (LV 5 ptE (L.map Q.p) tl) (.ptr k 0) (I .i64 r) (.ptr N 0) (LV 1 (I .u16) ((L.map (Q.vot r i0 i1 i2)).take i) t) (I .i64 i) G = K (.exit 0) (s_triuneref13_Voted_O0 (LV 1 (I .u16) (L.map (Q.vot r i0 i1 i2)) t')) G') ∧ TgOk t' 75 1 (N + 1) L.length G' := by
  intro q
  have hlen : (L.map (Q.vot r i0 i1 i2)).length = L.length := by simp
  induction q with
  | zero => intro i t G h; omega
  | succ q ih =>
    intro i t G hq' hi ht hj hG
    by_cases h : i < L.length
    · have hA' : RA G k L.length k0 k1 k2 (L.map Q.x0) (L.map Q.x1) (L.map Q.x2) := hA.same fun j h => by
        have c1 := hp_lt hA.b
        have c2 := hp_lt hA.r0
        have c3 := hp_lt hA.r1
        have c4 := hp_lt hA.r2
        exact hj j (by omega)
      have hbG : G[N]? = some (.cells eb [Bo i0, Bo i1, Bo i2]) := by rw [hj N (by omega)]; exact hb
      obtain ⟨ta, tb, hta, htb, hF⟩ := ref11_Fresh_c n (by omega) hA' i h L[i].x0 L[i].x1 L[i].x2 (by simp [h]) (by simp [h]) (by simp [h]) r i0 i1 i2
      have hqi := hq _ (List.getElem_mem h)
      obtain ⟨w1, w2⟩ := Q.vl_words hqi r i0 i1 i2
      have hV := ref12_Vote_c n (by omega) L[i].p (L[i].vl r i0 i1 i2) w1 (by omega) ta
      have ev : (voteV L[i].p (L[i].vl r i0 i1 i2)).1 = L[i].vot r i0 i1 i2 := rfl
      rw [ev] at hV
      unfold Q.vl at hV
      generalize vals (i0 && fr L[i].x0 r) (i1 && fr L[i].x1 r) (i2 && fr L[i].x2 r) L[i].x0.v L[i].x1.v L[i].x2.v = vs at *
      generalize vals (i0 && fr L[i].x0 r) (i1 && fr L[i].x1 r) (i2 && fr L[i].x2 r) 0 1 2 = ws at *
      generalize (voteV L[i].p vs).2 = v2 at *
      obtain ⟨t3, H3, ha, ht3, hl3, hj3, hw3, _⟩ := appG_fr (e := 75) (ag := false) (sz := 1) (by_ := 2) (n0 := N + 1) (enc := I .u16) (xs := (L.map (Q.vot r i0 i1 i2)).take i) (ys := [L[i].vot r i0 i1 i2]) (t := t) (t' := .ti) (H := G) (fl := fl) (by omega) hG (by simpa [Nat.min_eq_left (by omega : i ≤ L.length)] using ht) (by simp) rfl (by simp; omega) (by simp; omega)
      have htk : (L.map (Q.vot r i0 i1 i2)).take i ++ [L[i].vot r i0 i1 i2] = (L.map (Q.vot r i0 i1 i2)).take (i + 1) := by
        rw [List.take_succ_eq_append_getElem (by omega)]
        simp
      rw [htk] at ha ht3
      obtain ⟨t', G', g1, g2⟩ := ih (i + 1) t3 H3 (by omega) (by omega) (by simpa [Nat.min_eq_left (by omega : i + 1 ≤ L.length)] using ht3) (fun j h => by rw [hj3 j h, hj j h]) (by omega)
      refine ⟨t', G', fun K => ?_, g2⟩
      have g1' := g1 K
      have hi2 : ((i + 1 : Nat) : Int) = (i : Int) + 1 := by omega
      rw [hi2] at g1'
      have hlt : (i : Int) < (L.length : Int) := by omega
      unfold ptE at hV
      rw [s_triuneref13_Voted_L0, s_triuneref13_Voted_B0]
      simp -implicitDefEqProofs (disch := first | omega | (simp only [List.length_set, List.length_append, List.length_cons, List.length_nil, List.length_take, List.length_drop, List.length_map]; omega) | simp) [wrap_i64, wrap_u16_id, wrap_u8_id, tdiv_pos, tmod_pos, -getElem?_pos, -getElem?_neg, -List.length_eq_zero_iff, -List.getElem_cons_drop, h, hlt, hbG, hF, ptE_cells, hV, ha, g1']
    · have hi' : i = L.length := by omega
      subst hi'
      refine ⟨t, G, fun K => ?_, ht⟩
      rw [s_triuneref13_Voted_L0, s_triuneref13_Voted_B0, ← hlen, List.take_length, hlen]
      simp -implicitDefEqProofs (disch := first | omega | (simp only [List.length_set, List.length_append, List.length_cons, List.length_nil, List.length_take, List.length_drop, List.length_map]; omega) | simp) [wrap_i64, wrap_u16_id, wrap_u8_id, tdiv_pos, tmod_pos, -getElem?_pos, -getElem?_neg, -List.length_eq_zero_iff, -List.getElem_cons_drop]
theorem ref13_Voted_c (n : Nat) (hn : 1400 ≤ n) (L : List Q) (hL : L.length ≤ 100) (hq : ∀ q ∈ L, QOk q) (tl : Tag) (r : Int) (i0 i1 i2 : Bool) {H : Heap} {k k0 k1 k2 : Nat} (hA : RA H k L.length k0 k1 k2 (L.map Q.x0) (L.map Q.x1) (L.map Q.x2)) :
    ∃ t, okT t ∧ cO n 50 [LV 5 ptE (L.map Q.p) tl, .ptr k 0, I .i64 r, .agg [Bo i0, Bo i1, Bo i2]] H = some (LV 1 (I .u16) (L.map (Q.vot r i0 i1 i2)) t) := by
  obtain ⟨n, rfl⟩ : ∃ m, n = m + 1 := ⟨n - 1, by omega⟩
  obtain ⟨t', G', g1, g2⟩ := rv_L n H.length (by omega) L hL hq tl r i0 i1 i2 (N := H.length) (by omega) 52 (H0 := H ++ [.cells 52 [Bo i0, Bo i1, Bo i2]]) (hA.app _) (hp_get_0 _ _ _ _ rfl) (by simp) n 0 .ti (H ++ [.cells 52 [Bo i0, Bo i1, Bo i2]]) (by omega) (by omega) (.inl rfl) (fun j _ => rfl) (by simp)
  have g1' : ∀ K, s_triuneref13_Voted_L0 n H.length K n (LV 5 ptE (L.map Q.p) tl) (.ptr k 0) (I .i64 r) (.ptr H.length 0) (.list 0 [] .ti) (I .i64 0) (H ++ [DBlk.cells 52 [Bo i0, Bo i1, Bo i2]]) = K (.exit 0) (s_triuneref13_Voted_O0 (LV 1 (I .u16) (L.map (Q.vot r i0 i1 i2)) t')) G' := fun K => by
    have := g1 K
    rw [List.take_zero] at this
    exact this
  have lq : ∀ K, loopG [0, 1, 2, 7, 9, 10] [9] 43 (s_triuneref13_Voted_b0 n H.length) n (s_triuneref13_Voted_I0 (LV 5 ptE (L.map Q.p) tl) (.ptr k 0) (I .i64 r) (.ptr H.length 0) (.list 0 [] .ti) (I .i64 0)) (H ++ [DBlk.cells 52 [Bo i0, Bo i1, Bo i2]]) K = K (.exit 0) (s_triuneref13_Voted_O0 (LV 1 (I .u16) (L.map (Q.vot r i0 i1 i2)) t')) G' := fun K => (s_triuneref13_Voted_L0_eq n H.length K n (LV 5 ptE (L.map Q.p) tl) (.ptr k 0) (I .i64 r) (.ptr H.length 0) (.list 0 [] .ti) (I .i64 0) (H ++ [DBlk.cells 52 [Bo i0, Bo i1, Bo i2]])).trans (g1' K)
  have hoT : oT H.length t' := by
    rcases g2 with rfl | ⟨k2, rfl, h1, h2⟩
    · exact .inl rfl
    · exact .inr ⟨k2, rfl, by omega⟩
  obtain ⟨t2, ht2, et⟩ := oldLeaf_oT hoT G' 1 (I .u16) (L.map (Q.vot r i0 i1 i2))
  exact ⟨t2, ht2, cO_of ((s_triuneref13_Voted_eq _ _ _ _ _ _ _).trans (by unfold s_triuneref13_Voted; simp -implicitDefEqProofs (disch := first | omega | (simp only [List.length_set, List.length_append, List.length_cons, List.length_nil, List.length_take, List.length_drop, List.length_map]; omega) | simp) [wrap_i64, wrap_u16_id, wrap_u8_id, tdiv_pos, tmod_pos, -getElem?_pos, -getElem?_neg, -List.length_eq_zero_iff, -List.getElem_cons_drop, lq, s_triuneref13_Voted_O0]; first | rfl | exact ⟨rfl, rfl⟩)) (by simp [et])⟩
end Go.Proofs.Ytbhnkdnfmlnajaa

/- The document's judge: which are bad. -/
namespace Go.Proofs.Ytbhnkdnfmlnajaa
open Go
set_option linter.unusedSimpArgs false
set_option linter.unusedVariables false
set_option maxRecDepth 100000
theorem rr_L3 (n fl m : Nat) (x0 x1 x2 x7 x8 x10 x11 x12 x14 x15 : DV) (H : Heap) (b0 b1 b2 : Bool) (tw : Tag) :
    (∀ K, s_triuneref13_Round_L3 n fl K (m + 4) x0 x1 x2 x7 x8 x10 x11 x12 x14 x15 (LV 1 (I .i64) (vals b0 b1 b2 0 1 2) tw) (I .i64 0) (Bo false) (I .i64 0) H = K (.exit 6) (s_triuneref13_Round_O3 x0 x1 x2 x7 x8 x10 x11 x12 x14 x15 (LV 1 (I .i64) (vals b0 b1 b2 0 1 2) tw) (I .i64 0) (Bo b0)) H) ∧
    (∀ K, s_triuneref13_Round_L3 n fl K (m + 4) x0 x1 x2 x7 x8 x10 x11 x12 x14 x15 (LV 1 (I .i64) (vals b0 b1 b2 0 1 2) tw) (I .i64 1) (Bo false) (I .i64 0) H = K (.exit 6) (s_triuneref13_Round_O3 x0 x1 x2 x7 x8 x10 x11 x12 x14 x15 (LV 1 (I .i64) (vals b0 b1 b2 0 1 2) tw) (I .i64 1) (Bo b1)) H) ∧
    (∀ K, s_triuneref13_Round_L3 n fl K (m + 4) x0 x1 x2 x7 x8 x10 x11 x12 x14 x15 (LV 1 (I .i64) (vals b0 b1 b2 0 1 2) tw) (I .i64 2) (Bo false) (I .i64 0) H = K (.exit 6) (s_triuneref13_Round_O3 x0 x1 x2 x7 x8 x10 x11 x12 x14 x15 (LV 1 (I .i64) (vals b0 b1 b2 0 1 2) tw) (I .i64 2) (Bo b2)) H) := by
  cases b0 <;> cases b1 <;> cases b2 <;> refine ⟨fun K => ?_, fun K => ?_, fun K => ?_⟩ <;> simp -implicitDefEqProofs (disch := first | omega | (simp only [List.length_set, List.length_append, List.length_cons, List.length_nil, List.length_take, List.length_drop, List.length_map]; omega) | simp) [wrap_i64, wrap_u16_id, wrap_u8_id, tdiv_pos, tmod_pos, -getElem?_pos, -getElem?_neg, -List.length_eq_zero_iff, -List.getElem_cons_drop, vals, s_triuneref13_Round_L3, s_triuneref13_Round_B3]
theorem rr_L2 (n fl m : Nat) (x0 x1 x2 x8 x11 x12 x14 x15 : DV) (H : Heap) (ki kb : Nat) (e1 : TypeId) (i0 i1 i2 y0 y1 y2 b0 b1 b2 : Bool) (hi : H[ki]? = some (.cells e1 [Bo i0, Bo i1, Bo i2])) (hb : H[kb]? = some (.cells 52 [Bo y0, Bo y1, Bo y2])) (hne : ki ≠ kb) (hfl : fl ≤ kb) (tw : Tag) (K : Ex → KF) :
    s_triuneref13_Round_L2 (n + 4) fl K (m + 4) x0 x1 x2 (.ptr ki 0) x8 (.ptr kb 0) x11 x12 x14 x15 (LV 1 (I .i64) (vals b0 b1 b2 0 1 2) tw) (I .i64 0) H = K (.exit 4) (s_triuneref13_Round_O2 x0 x1 x2 (.ptr ki 0) x8 (.ptr kb 0) x11 x12 x14 x15) (H.set kb (.cells 52 [Bo (y0 || (i0 && !b0)), Bo (y1 || (i1 && !b1)), Bo (y2 || (i2 && !b2))])) := by
  have l0 := fun K H => (s_triuneref13_Round_L3_eq (n + 4) fl K (n + 4) x0 x1 x2 (.ptr ki 0) x8 (.ptr kb 0) x11 x12 x14 x15 (LV 1 (I .i64) (vals b0 b1 b2 0 1 2) tw) (I .i64 0) (Bo false) (I .i64 0) H).trans ((rr_L3 (n + 4) fl n x0 x1 x2 (.ptr ki 0) x8 (.ptr kb 0) x11 x12 x14 x15 H b0 b1 b2 tw).1 K)
  have l1 := fun K H => (s_triuneref13_Round_L3_eq (n + 4) fl K (n + 4) x0 x1 x2 (.ptr ki 0) x8 (.ptr kb 0) x11 x12 x14 x15 (LV 1 (I .i64) (vals b0 b1 b2 0 1 2) tw) (I .i64 1) (Bo false) (I .i64 0) H).trans ((rr_L3 (n + 4) fl n x0 x1 x2 (.ptr ki 0) x8 (.ptr kb 0) x11 x12 x14 x15 H b0 b1 b2 tw).2.1 K)
  have l2 := fun K H => (s_triuneref13_Round_L3_eq (n + 4) fl K (n + 4) x0 x1 x2 (.ptr ki 0) x8 (.ptr kb 0) x11 x12 x14 x15 (LV 1 (I .i64) (vals b0 b1 b2 0 1 2) tw) (I .i64 2) (Bo false) (I .i64 0) H).trans ((rr_L3 (n + 4) fl n x0 x1 x2 (.ptr ki 0) x8 (.ptr kb 0) x11 x12 x14 x15 H b0 b1 b2 tw).2.2 K)
  have c1 := hp_lt hi
  have c2 := hp_lt hb
  generalize vals b0 b1 b2 0 1 2 = ws at *
  simp -implicitDefEqProofs (disch := first | omega | (simp only [List.length_set, List.length_append, List.length_cons, List.length_nil, List.length_take, List.length_drop, List.length_map]; omega) | simp) [wrap_i64, wrap_u16_id, wrap_u8_id, tdiv_pos, tmod_pos, -getElem?_pos, -getElem?_neg, -List.length_eq_zero_iff, -List.getElem_cons_drop, -Bool.not_and, -Bool.not_or, -wantF_n, wantF_sy, wantF_sn, gO_some, gO_loadG, gO_lenD, gO_notD, gO_eqK1, gO_neK1, gO_ltK1, gO_leK1, gO_gtK1, gO_geK1, gO_max1, gO_addK1, gO_mulK1, gO_addK2, gO_ltK2, gO_leK2, gO_max2, gO_cvK, gO_idx, gO_pick, gO_pick2, gO_cP1, gO_cP1b, gO_cP2, gO_cP2a, gO_eqB, pick_t, pick_t2, pick_f, pick_f2, gd_gd, wantF_gt, wantF_gf, gO_pkf, gO_pkt, gO_pktn, gO_eqK2, gO_neK2, gO_gtK2, gO_geK2, gO_subK1, gO_subK2, gO_min1, gO_min2, gO_remK1, gO_cP3, gO_nilD, gO_fieldD, gO_idxArr1, gO_idxArr2, gO_idx2, gO_extD, s_triuneref13_Round_L2, s_triuneref13_Round_B2, l0, l1, l2, s_triuneref13_Round_O3, idxArr_k, hi, hb, hne, List.set_set]
theorem rr_L4 (n fl m : Nat) (hn : 1 ≤ n) (ps : List Pt) (tl : Tag) (i : Nat) (hi : i < ps.length) (x1 x2 x7 x8 x11 x12 : DV) (H : Heap) (kb : Nat) (y0 y1 y2 : Bool) (hb : H[kb]? = some (.cells 52 [Bo y0, Bo y1, Bo y2])) (hfl : fl ≤ kb) (a b c w : Int) (h0 : 0 ≤ a ∧ a < 65536) (h1 : 0 ≤ b ∧ b < 65536) (h2 : 0 ≤ c ∧ c < 65536) (h3 : 0 ≤ w ∧ w < 65536) (tv : Tag) (K : Ex → KF) :
    s_triuneref13_Round_L4 n fl K (m + 4) (LV 5 ptE ps tl) x1 x2 x7 x8 (.ptr kb 0) x11 x12 (I .i64 i) (LV 1 (I .u16) [a, b, c] tv) (I .u16 w) (I .i64 0) H = K (.exit 8) (s_triuneref13_Round_O4 (LV 5 ptE ps tl) x1 x2 x7 x8 (.ptr kb 0) x11 x12 (I .i64 i) (LV 1 (I .u16) [a, b, c] tv)) (H.set kb (.cells 52 [Bo (y0 || apartV ps[i].band a w), Bo (y1 || apartV ps[i].band b w), Bo (y2 || apartV ps[i].band c w)])) := by
  have a0 := ref12_Apart_c n hn ps[i] a w h0 h3
  have a1 := ref12_Apart_c n hn ps[i] b w h1 h3
  have a2 := ref12_Apart_c n hn ps[i] c w h2 h3
  have c2 := hp_lt hb
  unfold ptE at a0 a1 a2
  generalize apartV ps[i].band a w = z0 at *
  generalize apartV ps[i].band b w = z1 at *
  generalize apartV ps[i].band c w = z2 at *
  simp -implicitDefEqProofs (disch := first | omega | (simp only [List.length_set, List.length_append, List.length_cons, List.length_nil, List.length_take, List.length_drop, List.length_map]; omega) | simp) [wrap_i64, wrap_u16_id, wrap_u8_id, tdiv_pos, tmod_pos, -getElem?_pos, -getElem?_neg, -List.length_eq_zero_iff, -List.getElem_cons_drop, -Bool.not_and, -Bool.not_or, -wantF_n, wantF_sy, wantF_sn, gO_some, gO_loadG, gO_lenD, gO_notD, gO_eqK1, gO_neK1, gO_ltK1, gO_leK1, gO_gtK1, gO_geK1, gO_max1, gO_addK1, gO_mulK1, gO_addK2, gO_ltK2, gO_leK2, gO_max2, gO_cvK, gO_idx, gO_pick, gO_pick2, gO_cP1, gO_cP1b, gO_cP2, gO_cP2a, gO_eqB, pick_t, pick_t2, pick_f, pick_f2, gd_gd, wantF_gt, wantF_gf, gO_pkf, gO_pkt, gO_pktn, gO_eqK2, gO_neK2, gO_gtK2, gO_geK2, gO_subK1, gO_subK2, gO_min1, gO_min2, gO_remK1, gO_cP3, gO_nilD, gO_fieldD, gO_idxArr1, gO_idxArr2, gO_idx2, gO_extD, s_triuneref13_Round_L4, s_triuneref13_Round_B4, idxArr_k, hb, hi, ptE_cells, a0, a1, a2, List.set_set]
end Go.Proofs.Ytbhnkdnfmlnajaa
