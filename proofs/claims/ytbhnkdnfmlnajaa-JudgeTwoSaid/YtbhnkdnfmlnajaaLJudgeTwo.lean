/- The law JudgeTwo. -/
import Derived.Test.YtbhnkdnfmlnajaaFLJudgeTwo
import Derived.Test.YtbhnkdnfmlnajaaKJ7
-- NEEDS: triunelaw13.JudgeTwo
namespace Go.Proofs.Ytbhnkdnfmlnajaa
open Go
set_option linter.unusedSimpArgs false
set_option linter.unusedVariables false
set_option maxRecDepth 100000
theorem buildL_cl2 (a b : Int) : buildL true 2 1 (.agg [I .u16 0, I .i64 0]) [(0, .agg [I .u16 a, I .i64 b])] = some (LV 2 clE [(a, b)] .ti) := by kernel_rfl
theorem goodT_L (n fl n0 : Nat) (hn0 : fl ≤ n0) (ps : List Pt) (vs : List Int) (hw : Words vs) (hpv : ps.length ≤ vs.length) (hv : vs.length ≤ 100) (tp tv : Tag) (x2 x7 : DV) : ∀ (q i : Nat) (t : Tag) (H : Heap), ps.length < q + i → i ≤ ps.length → TgOk t 121 2 n0 i H → n0 ≤ H.length → WfH H →
    ∃ t' H', (∀ K, s_triunelaw13_JudgeTwo_L0 n fl K q (LV 5 ptE ps tp) (LV 1 (I .u16) vs tv) x2 x7 (LV 2 clE ((goodL ps vs).take i) t) (I .i64 i) H = K (.exit 0) (s_triunelaw13_JudgeTwo_O0 (LV 5 ptE ps tp) x2 x7 (LV 2 clE (goodL ps vs) t')) H') ∧ TgOk t' 121 2 n0 ps.length H' ∧ H.length ≤ H'.length ∧ (∀ j, j < n0 → H'[j]? = H[j]?) ∧ WfH H' := by
  intro q
  have hgl := goodL_len ps vs hpv
  induction q with
  | zero => intro i t H h; omega
  | succ q ih =>
    intro i t H hq hi ht hfl hwf
    by_cases h : i < ps.length
    · have hvi : i < vs.length := by omega
      have hg : i < (goodL ps vs).length := by omega
      have eg := goodL_get ps vs i h hvi hg
      have hwv := hw _ (List.getElem_mem hvi)
      obtain ⟨t3, H3, ha, ht3, hl3, hj3, hw3, _⟩ := appG_fr (e := 121) (ag := true) (sz := 2) (by_ := 16) (n0 := n0) (enc := clE) (xs := (goodL ps vs).take i) (ys := [(goodL ps vs)[i]]) (t := t) (t' := .ti) (H := H) (fl := fl) hn0 hfl (by simpa [Nat.min_eq_left (by omega : i ≤ (goodL ps vs).length)] using ht) (by simp) rfl (by simp; omega) (by simp; omega)
      have htk : (goodL ps vs).take i ++ [(goodL ps vs)[i]] = (goodL ps vs).take (i + 1) := by rw [List.take_succ_eq_append_getElem hg]
      rw [htk] at ha ht3
      obtain ⟨t', H', g1, g2, g3, g4, g5⟩ := ih (i + 1) t3 H3 (by omega) (by omega) (by simpa [Nat.min_eq_left (by omega : i + 1 ≤ (goodL ps vs).length)] using ht3) (by omega) (hw3 hwf)
      refine ⟨t', H', fun K => ?_, g2, by omega, fun j hj => by rw [g4 j hj, hj3 j hj], g5⟩
      have g1' := g1 K
      have hi2 : ((i + 1 : Nat) : Int) = (i : Int) + 1 := by omega
      rw [hi2] at g1'
      rw [eg] at ha
      have hlt : (i : Int) < (ps.length : Int) := by omega
      have b1 := buildL_cl2 vs[i] 0
      have b2 := buildL_cl2 (vs[i] % 2) 0
      rw [s_triunelaw13_JudgeTwo_L0, s_triunelaw13_JudgeTwo_B0]
      by_cases hk : 2 ≤ ps[i].kind
      · have e : gv ps[i] vs[i] = vs[i] % 2 := if_pos hk
        rw [e] at ha
        simp -implicitDefEqProofs (disch := first | omega | (simp only [List.length_set, List.length_append, List.length_cons, List.length_nil, List.length_take, List.length_drop, List.length_map]; omega) | simp) [wrap_i64, wrap_u16_id, wrap_u8_id, tdiv_pos, tmod_pos, -getElem?_pos, -getElem?_neg, -List.length_eq_zero_iff, -List.getElem_cons_drop, h, hvi, hlt, ptE_cells, hk, b1, b2, ha, g1']
      · have e : gv ps[i] vs[i] = vs[i] := if_neg hk
        rw [e] at ha
        simp -implicitDefEqProofs (disch := first | omega | (simp only [List.length_set, List.length_append, List.length_cons, List.length_nil, List.length_take, List.length_drop, List.length_map]; omega) | simp) [wrap_i64, wrap_u16_id, wrap_u8_id, tdiv_pos, tmod_pos, -getElem?_pos, -getElem?_neg, -List.length_eq_zero_iff, -List.getElem_cons_drop, h, hvi, hlt, ptE_cells, hk, b1, b2, ha, g1']
    · have hi' : i = ps.length := by omega
      subst hi'
      refine ⟨t, H, fun K => ?_, ht, Nat.le_refl _, fun _ _ => rfl, hwf⟩
      rw [s_triunelaw13_JudgeTwo_L0, s_triunelaw13_JudgeTwo_B0, ← hgl, List.take_length, hgl]
      simp -implicitDefEqProofs (disch := first | omega | (simp only [List.length_set, List.length_append, List.length_cons, List.length_nil, List.length_take, List.length_drop, List.length_map]; omega) | simp) [wrap_i64, wrap_u16_id, wrap_u8_id, tdiv_pos, tmod_pos, -getElem?_pos, -getElem?_neg, -List.length_eq_zero_iff, -List.getElem_cons_drop]
def tg (who d : Nat) (a b : Tag) : Tag := if who = d then a else b
def bx3 (who : Nat) (a g : List (Int × Int)) (ta tg_ : Tag) : DBlk := .cells 104 [LV 2 clE (cl who 0 a g) (tg who 0 ta tg_), LV 2 clE (cl who 1 a g) (tg who 1 ta tg_), LV 2 clE (cl who 2 a g) (tg who 2 ta tg_)]
theorem leaf_cl (c : List (Int × Int)) (t : Tag) : (LV 2 clE c t).leaf = true := by cases c <;> rfl
theorem cells_cl (c : List (Int × Int)) (t : Tag) : (LV 2 clE c t).cells = [LV 2 clE c t] := by cases c <;> rfl
theorem thirdT_L (n fl N : Nat) (hfl : fl ≤ N) (who : Nat) (hwho : who < 3) (ps : List Pt) (cs : List (Int × Int)) (hw : Wd cs) (hcs : cs.length ≤ 100) (tp tc : Tag) (x7 : DV) (g : List (Int × Int)) (tgd : Tag) (X : DV) : ∀ (q i : Nat) (t : Tag) (H : Heap), cs.length < q + i → i ≤ cs.length → TgOk t 121 2 (N + 1) i H → N + 1 ≤ H.length → WfH H → H[N]? = some (bx3 who ((thL ps cs).take i) g t tgd) → inSc (N + 1) (LV 2 clE g tgd) = true →
    ∃ t' H', (∀ K, s_triunelaw13_JudgeTwo_L2 n fl K q (LV 5 ptE ps tp) (LV 2 clE cs tc) x7 X (I .i64 who) (.ptr N 0) (I .i64 i) H = K (.exit 4) (s_triunelaw13_JudgeTwo_O2 (LV 5 ptE ps tp) (LV 2 clE cs tc) x7 X (I .i64 who) (.ptr N 0)) H') ∧ TgOk t' 121 2 (N + 1) cs.length H' ∧ H.length ≤ H'.length ∧ (∀ j, j < N → H'[j]? = H[j]?) ∧ WfH H' ∧ H'[N]? = some (bx3 who (thL ps cs) g t' tgd) := by
  intro q
  have hgl := thL_len ps cs
  induction q with
  | zero => intro i t H h; omega
  | succ q ih =>
    intro i t H hq hi ht hl hwf hb hsc
    by_cases h : i < cs.length
    · have hg : i < (thL ps cs).length := by omega
      have hwv := hw _ (List.getElem_mem h)
      have hwx : ∀ a b : Int, WfH (H ++ [DBlk.cells 121 [I .u16 a, I .i64 b]]) := fun a b => hwf.app fun bb hb => by
        simp only [List.mem_singleton] at hb
        subst hb
        intro d hd
        simp only [List.mem_cons, List.not_mem_nil, or_false] at hd
        rcases hd with rfl | rfl <;> rfl
      have cN : N < H.length := by omega
      have htx : TgOk t 121 2 (N + 1) ((thL ps cs).take i).length (H ++ [DBlk.cells 121 [I .u16 (thL ps cs)[i].1, I .i64 (thL ps cs)[i].2]]) := by
        have e : ((thL ps cs).take i).length = i := by simp; omega
        rw [e]
        rcases ht with rfl | ⟨k2, rfl, h1, h2⟩
        · exact .inl rfl
        · exact .inr ⟨k2, rfl, by rw [hp_get_left _ _ _ (hp_lt h1)]; exact h1, h2⟩
      obtain ⟨t3, H3, ha, ht3, hl3, hj3, hw3, _⟩ := appG_fr (e := 121) (ag := true) (sz := 2) (by_ := 16) (n0 := N + 1) (enc := clE) (xs := (thL ps cs).take i) (ys := [(thL ps cs)[i]]) (t := t) (t' := .ti) (H := H ++ [DBlk.cells 121 [I .u16 (thL ps cs)[i].1, I .i64 (thL ps cs)[i].2]]) (fl := fl) (by omega) (by simp; omega) htx (by simp) rfl (by simp; omega) (by simp; omega)
      have htk : (thL ps cs).take i ++ [(thL ps cs)[i]] = (thL ps cs).take (i + 1) := by rw [List.take_succ_eq_append_getElem hg]
      rw [htk] at ha ht3
      have hlen3 : H.length < H3.length := by have := hl3; simp at this; omega
      have h3N : H3[N]? = some (bx3 who ((thL ps cs).take i) g t tgd) := by rw [hj3 N (by omega), hp_get_left _ _ _ cN]; exact hb
      have ht3' : TgOk t3 121 2 (N + 1) (i + 1) (H3.set N (bx3 who ((thL ps cs).take (i + 1)) g t3 tgd)) := by
        have e : ((thL ps cs).take (i + 1)).length = i + 1 := by simp; omega
        rw [e] at ht3
        rcases ht3 with rfl | ⟨k2, rfl, h1, h2⟩
        · exact .inl rfl
        · exact .inr ⟨k2, rfl, by rw [hp_set_ne _ _ _ _ (by omega)]; exact h1, h2⟩
      have hsc3 : inSc H3.length (LV 2 clE ((thL ps cs).take (i + 1)) t3) = true := inSc_tg ht3 _
      have hscg : inSc H3.length (LV 2 clE g tgd) = true := inSc_mono (by omega) _ hsc
      have hwb : WfB H3.length (bx3 who ((thL ps cs).take (i + 1)) g t3 tgd) := by
        intro d hd
        have hd' : ∃ e, d = LV 2 clE (cl who e ((thL ps cs).take (i + 1)) g) (tg who e t3 tgd) := by
          simp only [List.mem_cons, List.not_mem_nil, or_false] at hd
          rcases hd with rfl | rfl | rfl
          · exact ⟨0, rfl⟩
          · exact ⟨1, rfl⟩
          · exact ⟨2, rfl⟩
        obtain ⟨e, rfl⟩ := hd'
        rw [leaf_cl]
        unfold cl tg
        split
        · rw [hsc3]; rfl
        · rw [hscg]; rfl
      obtain ⟨t', H', g1, g2, g3, g4, g5, g6⟩ := ih (i + 1) t3 (H3.set N (bx3 who ((thL ps cs).take (i + 1)) g t3 tgd)) (by omega) (by omega) ht3' (by simp; omega) ((hw3 (hwx _ _)).set N hwb) (hp_set_get _ _ _ (by omega)) hsc
      refine ⟨t', H', fun K => ?_, g2, by simp at g3; omega, fun j hj => by rw [g4 j hj, hp_set_ne _ _ _ _ (by omega), hj3 j (by omega), hp_get_left _ _ _ (by omega)], g5, g6⟩
      have g1' := g1 K
      have hi2 : ((i + 1 : Nat) : Int) = (i : Int) + 1 := by omega
      rw [hi2] at g1'
      have hlt : (i : Int) < (cs.length : Int) := by omega
      have b1 := buildL_cl2 (thL ps cs)[i].1 (thL ps cs)[i].2
      have eta : ((thL ps cs)[i].1, (thL ps cs)[i].2) = (thL ps cs)[i] := rfl
      rw [eta] at b1
      have hx := idxArr_k 3 1 N 0 who ⟨by omega, by omega⟩
      have hx' : idxArr 3 1 (.ptr N 0) (I .i64 who) = some (.ptr N who) := by rw [hx]; simp
      have hldN : ∀ X, loadG false 1 (.ptr N who) (H ++ X) = some (LV 2 clE ((thL ps cs).take i) t) := by
        intro X
        rw [loadG_ptr, hp_get_left _ _ _ cN, hb]
        have hw' : who = 0 ∨ who = 1 ∨ who = 2 := by omega
        rcases hw' with rfl | rfl | rfl <;> rfl
      have hst : storeG 1 (.ptr N who) (LV 2 clE ((thL ps cs).take (i + 1)) t3) H3 fl = some (H3.set N (bx3 who ((thL ps cs).take (i + 1)) g t3 tgd)) := by
        rw [storeG_s _ _ _ _ _ _ hfl, h3N]
        have hw' : who = 0 ∨ who = 1 ∨ who = 2 := by omega
        rcases hw' with rfl | rfl | rfl <;> simp [bx3, cl, tg, cells_cl, leaf_cl]
      have hx0 : ∀ a b : Int, loadG false 1 (.ptr H.length 0) (H ++ [DBlk.cells 121 [I .u16 a, I .i64 b]]) = some (I .u16 a) := fun a b => by rw [loadG_ptr, hp_get_0 _ _ _ _ rfl]; rfl
      have hxa : ∀ a b : Int, loadG true 2 (.ptr H.length 0) (H ++ [DBlk.cells 121 [I .u16 a, I .i64 b]]) = some (.agg [I .u16 a, I .i64 b]) := fun a b => by rw [loadG_ptr, hp_get_0 _ _ _ _ rfl]; rfl
      rw [s_triunelaw13_JudgeTwo_L2, s_triunelaw13_JudgeTwo_B2]
      by_cases hp : i < ps.length
      · have hpi : (i : Int) < (ps.length : Int) := by omega
        have eg := thL_get ps cs i hp h hg
        have k0 : ∀ X, loadG false 1 (.elem (ptE ps[i]) 0) X = some (I .i64 ps[i].kind) := fun X => rfl
        by_cases hk : 2 ≤ ps[i].kind
        · have e : gv ps[i] cs[i].1 = cs[i].1 % 2 := if_pos hk
          rw [e] at eg
          rw [eg] at ha b1
          simp -implicitDefEqProofs (disch := first | omega | (simp only [List.length_set, List.length_append, List.length_cons, List.length_nil, List.length_take, List.length_drop, List.length_map]; omega) | simp) [wrap_i64, wrap_u16_id, wrap_u8_id, tdiv_pos, tmod_pos, -getElem?_pos, -getElem?_neg, -List.length_eq_zero_iff, -List.getElem_cons_drop, -List.set_append_right, -loadG_ptr, hlt, h, hp, hpi, k0, clE_cells, hk, hx', hldN, hx0, hxa, b1, ha, hst, g1']
        · have e : gv ps[i] cs[i].1 = cs[i].1 := if_neg hk
          rw [e] at eg
          rw [eg] at ha b1
          simp -implicitDefEqProofs (disch := first | omega | (simp only [List.length_set, List.length_append, List.length_cons, List.length_nil, List.length_take, List.length_drop, List.length_map]; omega) | simp) [wrap_i64, wrap_u16_id, wrap_u8_id, tdiv_pos, tmod_pos, -getElem?_pos, -getElem?_neg, -List.length_eq_zero_iff, -List.getElem_cons_drop, -List.set_append_right, -loadG_ptr, hlt, h, hp, hpi, k0, clE_cells, hk, hx', hldN, hx0, hxa, b1, ha, hst, g1']
      · have hpi : ¬ (i : Int) < (ps.length : Int) := by omega
        have eg := thL_get2 ps cs i (by omega) h hg
        rw [eg] at ha b1
        simp -implicitDefEqProofs (disch := first | omega | (simp only [List.length_set, List.length_append, List.length_cons, List.length_nil, List.length_take, List.length_drop, List.length_map]; omega) | simp) [wrap_i64, wrap_u16_id, wrap_u8_id, tdiv_pos, tmod_pos, -getElem?_pos, -getElem?_neg, -List.length_eq_zero_iff, -List.getElem_cons_drop, -List.set_append_right, -loadG_ptr, hlt, h, hp, hpi, clE_cells, hx', hldN, hx0, hxa, b1, ha, hst, g1']
    · have hi' : i = cs.length := by omega
      subst hi'
      rw [← hgl, List.take_length] at hb
      refine ⟨t, H, fun K => ?_, ht, Nat.le_refl _, fun _ _ => rfl, hwf, hb⟩
      rw [s_triunelaw13_JudgeTwo_L2, s_triunelaw13_JudgeTwo_B2]
      simp -implicitDefEqProofs (disch := first | omega | (simp only [List.length_set, List.length_append, List.length_cons, List.length_nil, List.length_take, List.length_drop, List.length_map]; omega) | simp) [wrap_i64, wrap_u16_id, wrap_u8_id, tdiv_pos, tmod_pos, -getElem?_pos, -getElem?_neg, -List.length_eq_zero_iff, -List.getElem_cons_drop]
theorem twoB_step (n fl : Nat) (K : Ex → KF) (q : Nat) (x0 x2 x7 x9 x20 : DV) (H : Heap) (who : Nat) (kv : Nat) (c : Nat) (hc : c < 3) (b : Bool) (hb : who ≠ c → b = false) (lv : loadG false 1 (.ptr kv c) H = some (Bo b)) :
    s_triunelaw13_JudgeTwo_L3 n fl K (q + 1) x0 x2 x7 x9 (I .i64 who) (.ptr kv 0) x20 (I .i64 c) H = s_triunelaw13_JudgeTwo_L3 n fl K q x0 x2 x7 x9 (I .i64 who) (.ptr kv 0) x20 (I .i64 (c + 1)) H := by
  rw [s_triunelaw13_JudgeTwo_L3, s_triunelaw13_JudgeTwo_B3]
  have hc' : (c : Int) < 3 := by omega
  have hx := idxArr_k 3 1 kv 0 c ⟨by omega, by omega⟩
  have hx' : idxArr 3 1 (.ptr kv 0) (I .i64 c) = some (.ptr kv c) := by rw [hx]; simp
  by_cases h : who = c
  · have h2 : ¬ ((c : Int) ≠ (who : Int)) := by omega
    have h3 : (c : Int) = (who : Int) := by omega
    subst h
    simp -implicitDefEqProofs (disch := first | omega | (simp only [List.length_set, List.length_append, List.length_cons, List.length_nil, List.length_take, List.length_drop, List.length_map]; omega) | simp) [wrap_i64, wrap_u16_id, wrap_u8_id, tdiv_pos, tmod_pos, -getElem?_pos, -getElem?_neg, -List.length_eq_zero_iff, -List.getElem_cons_drop, -loadG_ptr, hc']
  · have h2 : (c : Int) ≠ (who : Int) := by omega
    rw [hb h] at lv
    simp -implicitDefEqProofs (disch := first | omega | (simp only [List.length_set, List.length_append, List.length_cons, List.length_nil, List.length_take, List.length_drop, List.length_map]; omega) | simp) [wrap_i64, wrap_u16_id, wrap_u8_id, tdiv_pos, tmod_pos, -getElem?_pos, -getElem?_neg, -List.length_eq_zero_iff, -List.getElem_cons_drop, -loadG_ptr, hc', h2, hx', lv]
theorem twoW_L (n fl : Nat) (K : Ex → KF) (x0 x2 x7 x12 : DV) (H : Heap) (g : List (Int × Int)) (tgd tw : Tag) (hg : g.length ≤ 100) : ∀ (q i : Nat), g.length < q + i → i ≤ g.length →
    s_triunelaw13_JudgeTwo_L4 n fl K q x0 x2 x7 (LV 2 clE g tgd) x12 (LV 1 (I .u16) (g.map Prod.fst) tw) (I .i64 i) H = K (.exit 8) (s_triunelaw13_JudgeTwo_O4 x0 x2 .any x7 (LV 2 clE g tgd) x12) H := by
  intro q
  induction q with
  | zero => intro i h; omega
  | succ q ih =>
    intro i hq hi
    rw [s_triunelaw13_JudgeTwo_L4, s_triunelaw13_JudgeTwo_B4]
    by_cases h : i < g.length
    · have ih' := ih (i + 1) (by omega) (by omega)
      have hi2 : ((i + 1 : Nat) : Int) = (i : Int) + 1 := by omega
      rw [hi2] at ih'
      have hlt : (i : Int) < (g.length : Int) := by omega
      simp -implicitDefEqProofs (disch := first | omega | (simp only [List.length_set, List.length_append, List.length_cons, List.length_nil, List.length_take, List.length_drop, List.length_map]; omega) | simp) [wrap_i64, wrap_u16_id, wrap_u8_id, tdiv_pos, tmod_pos, -getElem?_pos, -getElem?_neg, -List.length_eq_zero_iff, -List.getElem_cons_drop, h, hlt, clE_cells, ih']
    · have hi' : i = g.length := by omega
      subst hi'
      simp -implicitDefEqProofs (disch := first | omega | (simp only [List.length_set, List.length_append, List.length_cons, List.length_nil, List.length_take, List.length_drop, List.length_map]; omega) | simp) [wrap_i64, wrap_u16_id, wrap_u8_id, tdiv_pos, tmod_pos, -getElem?_pos, -getElem?_neg, -List.length_eq_zero_iff, -List.getElem_cons_drop]
theorem two_round (n : Nat) (hn : 3000 ≤ n) (ps : List Pt) (hp1 : 1 ≤ ps.length) (hp48 : ps.length ≤ 48) (hpm : ∀ p ∈ ps, PtMay p) (vs : List Int) (hv : Words vs) (hpv : ps.length ≤ vs.length) (cs : List (Int × Int)) (hw : Wd cs) (hcs : cs.length ≤ 100) (tc tgd : Tag) (x7 : DV) (who : Nat) (hwho : who < 3) (H : Heap) (hwf : WfH H) (hsc : inSc H.length (LV 2 clE (goodL ps vs) tgd) = true) (q : Nat) :
    ∃ H', (∀ K, s_triunelaw13_JudgeTwo_L1 n 0 K (q + 1) (LV 5 ptE ps .sh) (LV 2 clE cs tc) x7 (LV 2 clE (goodL ps vs) tgd) (I .i64 who) H = s_triunelaw13_JudgeTwo_L1 n 0 K q (LV 5 ptE ps .sh) (LV 2 clE cs tc) x7 (LV 2 clE (goodL ps vs) tgd) (I .i64 (who + 1)) H') ∧ WfH H' ∧ H.length ≤ H'.length := by
  obtain ⟨n, rfl⟩ : ∃ n', n = n' + 4 := ⟨n - 4, by omega⟩
  have hw5 : WfH (H ++ [bx3 who ((thL ps cs).take 0) (goodL ps vs) .ti tgd]) := hwf.app fun b hb => by
    simp only [List.mem_singleton] at hb
    subst hb
    intro d hd
    have hd' : ∃ e, d = LV 2 clE (cl who e ((thL ps cs).take 0) (goodL ps vs)) (tg who e .ti tgd) := by
      simp only [List.mem_cons, List.not_mem_nil, or_false] at hd
      rcases hd with rfl | rfl | rfl
      · exact ⟨0, rfl⟩
      · exact ⟨1, rfl⟩
      · exact ⟨2, rfl⟩
    obtain ⟨e, rfl⟩ := hd'
    rw [leaf_cl]
    unfold cl tg
    split
    · rw [inSc_LV_ti]; rfl
    · rw [inSc_mono (by simp) _ hsc]; rfl
  obtain ⟨t', H6, g1, g2, g3, g4, g5, g6⟩ := thirdT_L (n + 4) 0 H.length (by omega) who hwho ps cs hw hcs .sh tc x7 (goodL ps vs) tgd (LV 2 clE (goodL ps vs) tgd) (n + 4) 0 .ti (H ++ [bx3 who ((thL ps cs).take 0) (goodL ps vs) .ti tgd]) (by omega) (by omega) (.inl rfl) (by simp) hw5 (hp_get_0 _ _ _ _ rfl) (inSc_mono (by omega) _ hsc)
  have l6 : H.length + 1 ≤ H6.length := by simp at g3; omega
  have s6 : ∀ d, inSc H6.length (LV 2 clE (cl who d (thL ps cs) (goodL ps vs)) (tg who d t' tgd)) = true := by
    intro d
    unfold cl tg
    split
    · exact inSc_tg g2 _
    · exact inSc_mono (by omega) _ hsc
  obtain ⟨G, i1, i2⟩ := images_c (n + 4) (by omega) g5 0 ps.length (by omega) hp1 hp48 ps rfl .sh 7 (cl who 0 (thL ps cs) (goodL ps vs)) (cl who 1 (thL ps cs) (goodL ps vs)) (cl who 2 (thL ps cs) (goodL ps vs)) (tg who 0 t' tgd) (tg who 1 t' tgd) (tg who 2 t' tgd) (s6 0) (s6 1) (s6 2)
  obtain ⟨q1, q2, q3, q4, q5⟩ := twoQ_maps who ps vs cs hpv
  obtain ⟨qo, qv⟩ := twoQ_ok who hwho ps vs cs hpm hv hw hpv
  have hgl := goodL_len ps vs hpv
  have hvl : ((twoQ who ps vs cs).map (Q.vot 7 true true true)).length = ps.length := by rw [qv, List.length_map, hgl]
  have hA : IA G (H6.length + 1) (twoQ who ps vs cs).length (H6.length + 2) (H6.length + 3) (H6.length + 4) ((twoQ who ps vs cs).map Q.x0) ((twoQ who ps vs cs).map Q.x1) ((twoQ who ps vs cs).map Q.x2) := by rw [q1, q3, q4, q5]; exact i2.ia
  have wf14 := wf_bools i2.wf 52 [true, true, true]
  have hA14 := hA.app [.cells 52 ([true, true, true].map Bo)]
  have hR := Round_c (n + 4) (by omega) (twoQ who ps vs cs) (by omega) (fun q hq => (qo q hq).1) .sh 7 true true true (wf_hole wf14) (hA14.app [.hole])
  have hsp : (twoQ who ps vs cs).any (Q.spl 7 true true true) = false := by
    rw [List.any_eq_false]
    intro q hq
    unfold Q.spl
    simp
  have b0 : who ≠ 0 → (twoQ who ps vs cs).any (Q.bad0 7 true true true) = false := fun h => by
    rw [List.any_eq_false]
    intro q hq
    simpa using (qo q hq).2.1 h
  have b1 : who ≠ 1 → (twoQ who ps vs cs).any (Q.bad1 7 true true true) = false := fun h => by
    rw [List.any_eq_false]
    intro q hq
    simpa using (qo q hq).2.2.1 h
  have b2 : who ≠ 2 → (twoQ who ps vs cs).any (Q.bad2 7 true true true) = false := fun h => by
    rw [List.any_eq_false]
    intro q hq
    simpa using (qo q hq).2.2.2 h
  rw [hsp, q2] at hR
  generalize (twoQ who ps vs cs).any (Q.bad0 7 true true true) = B0 at *
  generalize (twoQ who ps vs cs).any (Q.bad1 7 true true true) = B1 at *
  generalize (twoQ who ps vs cs).any (Q.bad2 7 true true true) = B2 at *
  have wf18 := wf_bools wf14 110 [B0, B1, B2, false]
  obtain ⟨tw, htw, hV⟩ := Voted_c (n + 4) (by omega) (twoQ who ps vs cs) (by omega) (fun q hq => (qo q hq).1) .sh 7 true true true wf18 (hA14.app [.cells 110 ([B0, B1, B2, false].map Bo)])
  rw [q2, qv] at hV
  simp only [List.map_cons, List.map_nil, List.append_assoc, List.cons_append, List.nil_append] at hR hV wf18
  have lG := i2.len
  generalize hH : G ++ [.cells 52 [Bo true, Bo true, Bo true], .cells 110 [Bo B0, Bo B1, Bo B2, Bo false]] = H18 at *
  have hkv : H18[G.length + 1]? = some (.cells 110 [Bo B0, Bo B1, Bo B2, Bo false]) := by rw [← hH]; exact hp_get_1 _ _ _ _ _ rfl
  have hk0 : H18[G.length]? = some (.cells 52 [Bo true, Bo true, Bo true]) := by rw [← hH]; exact hp_get_0 _ _ _ _ rfl
  have ld : ∀ k o, loadG false 1 (.ptr k o) H18 = match H18[k]? with | some (.cells _ cs) => cs[o]? | _ => none := fun k o => rfl
  have s0 := fun K q => twoB_step (n + 4) 0 K q (LV 5 ptE ps .sh) (LV 2 clE cs tc) x7 (LV 2 clE (goodL ps vs) tgd) (LV 1 (I .u16) ((goodL ps vs).map Prod.fst) tw) H18 who (G.length + 1) 0 (by omega) B0 b0 (by rw [ld, hkv]; rfl)
  have s1 := fun K q => twoB_step (n + 4) 0 K q (LV 5 ptE ps .sh) (LV 2 clE cs tc) x7 (LV 2 clE (goodL ps vs) tgd) (LV 1 (I .u16) ((goodL ps vs).map Prod.fst) tw) H18 who (G.length + 1) 1 (by omega) B1 b1 (by rw [ld, hkv]; rfl)
  have s2 := fun K q => twoB_step (n + 4) 0 K q (LV 5 ptE ps .sh) (LV 2 clE cs tc) x7 (LV 2 clE (goodL ps vs) tgd) (LV 1 (I .u16) ((goodL ps vs).map Prod.fst) tw) H18 who (G.length + 1) 2 (by omega) B2 b2 (by rw [ld, hkv]; rfl)
  have s3 : ∀ K, s_triunelaw13_JudgeTwo_L3 (n + 4) 0 K (n + 1) (LV 5 ptE ps .sh) (LV 2 clE cs tc) x7 (LV 2 clE (goodL ps vs) tgd) (I .i64 who) (.ptr (G.length + 1) 0) (LV 1 (I .u16) ((goodL ps vs).map Prod.fst) tw) (I .i64 3) H18 = K (.exit 6) (s_triunelaw13_JudgeTwo_O3 (LV 5 ptE ps .sh) (LV 2 clE cs tc) .any x7 (LV 2 clE (goodL ps vs) tgd) (I .i64 who) (LV 1 (I .u16) ((goodL ps vs).map Prod.fst) tw)) H18 := fun K => by
    rw [s_triunelaw13_JudgeTwo_L3, s_triunelaw13_JudgeTwo_B3]
    simp -implicitDefEqProofs (disch := first | omega | (simp only [List.length_set, List.length_append, List.length_cons, List.length_nil, List.length_take, List.length_drop, List.length_map]; omega) | simp) [wrap_i64, wrap_u16_id, wrap_u8_id, tdiv_pos, tmod_pos, -getElem?_pos, -getElem?_neg, -List.length_eq_zero_iff, -List.getElem_cons_drop]
  have lq3 := fun K => (s_triunelaw13_JudgeTwo_L3_eq (n + 4) 0 K (n + 4) (LV 5 ptE ps .sh) (LV 2 clE cs tc) x7 (LV 2 clE (goodL ps vs) tgd) (I .i64 who) (.ptr (G.length + 1) 0) (LV 1 (I .u16) ((goodL ps vs).map Prod.fst) tw) (I .i64 0) H18).trans ((s0 K (n + 3)).trans ((s1 K (n + 2)).trans ((s2 K (n + 1)).trans (s3 K))))
  have lq4 := fun K => (s_triunelaw13_JudgeTwo_L4_eq (n + 4) 0 K (n + 4) (LV 5 ptE ps .sh) (LV 2 clE cs tc) x7 (LV 2 clE (goodL ps vs) tgd) (I .i64 who) (LV 1 (I .u16) ((goodL ps vs).map Prod.fst) tw) (I .i64 0) H18).trans (twoW_L (n + 4) 0 K (LV 5 ptE ps .sh) (LV 2 clE cs tc) x7 (I .i64 who) H18 (goodL ps vs) tgd tw (by omega) (n + 4) 0 (by omega) (by omega))
  have lq2 := fun K => (s_triunelaw13_JudgeTwo_L2_eq (n + 4) 0 K (n + 4) (LV 5 ptE ps .sh) (LV 2 clE cs tc) x7 (LV 2 clE (goodL ps vs) tgd) (I .i64 who) (.ptr H.length 0) (I .i64 0) (H ++ [bx3 who ((thL ps cs).take 0) (goodL ps vs) .ti tgd])).trans (g1 K)
  have h6 : H6[H.length]? = some (.cells 104 [LV 2 clE (cl who 0 (thL ps cs) (goodL ps vs)) (tg who 0 t' tgd), LV 2 clE (cl who 1 (thL ps cs) (goodL ps vs)) (tg who 1 t' tgd), LV 2 clE (cl who 2 (thL ps cs) (goodL ps vs)) (tg who 2 t' tgd)]) := g6
  have p1 := fun x y k o => binD_ptr_nil (t := 105) (e := 186) Try.underlying105 x y k o
  refine ⟨H18, fun K => ?_, wf18, by rw [← hH]; simp; omega⟩
  have wlt : (who : Int) < 3 := by omega
  have hbx : ∀ (X : DBlk) , X = bx3 who ((thL ps cs).take 0) (goodL ps vs) .ti tgd → X = bx3 who ((thL ps cs).take 0) (goodL ps vs) .ti tgd := fun X h => h
  have hw' : who = 0 ∨ who = 1 ∨ who = 2 := by omega
  have z0 : ((0 : Nat) : Int) = 0 := rfl
  have z1 : ((1 : Nat) : Int) = 1 := rfl
  have z2 : ((2 : Nat) : Int) = 2 := rfl
  generalize goodL ps vs = g at *
  rw [s_triunelaw13_JudgeTwo_L1, s_triunelaw13_JudgeTwo_B1]
  rcases hw' with rfl | rfl | rfl
  · have e : bx3 0 ((thL ps cs).take 0) g .ti tgd = .cells 104 [.list 0 [] .ti, LV 2 clE g tgd, LV 2 clE g tgd] := rfl
    rw [e] at lq2
    simp only [z0] at lq2 lq3 lq4 ⊢
    simp -implicitDefEqProofs (disch := first | omega | (simp only [List.length_set, List.length_append, List.length_cons, List.length_nil, List.length_take, List.length_drop, List.length_map]; omega) | simp) [wrap_i64, wrap_u16_id, wrap_u8_id, tdiv_pos, tmod_pos, -getElem?_pos, -getElem?_neg, -List.length_eq_zero_iff, -List.getElem_cons_drop, -List.set_append_right, leaf_cl, cells_cl, idxArr_k, lq2, s_triunelaw13_JudgeTwo_O2, h6, i1, p1, hR, hH, hk0, hkv, hV, hgl, lq3, s_triunelaw13_JudgeTwo_O3, lq4, s_triunelaw13_JudgeTwo_O4]
  · have e : bx3 1 ((thL ps cs).take 0) g .ti tgd = .cells 104 [LV 2 clE g tgd, .list 0 [] .ti, LV 2 clE g tgd] := rfl
    rw [e] at lq2
    simp only [z1] at lq2 lq3 lq4 ⊢
    simp -implicitDefEqProofs (disch := first | omega | (simp only [List.length_set, List.length_append, List.length_cons, List.length_nil, List.length_take, List.length_drop, List.length_map]; omega) | simp) [wrap_i64, wrap_u16_id, wrap_u8_id, tdiv_pos, tmod_pos, -getElem?_pos, -getElem?_neg, -List.length_eq_zero_iff, -List.getElem_cons_drop, -List.set_append_right, leaf_cl, cells_cl, idxArr_k, lq2, s_triunelaw13_JudgeTwo_O2, h6, i1, p1, hR, hH, hk0, hkv, hV, hgl, lq3, s_triunelaw13_JudgeTwo_O3, lq4, s_triunelaw13_JudgeTwo_O4]
  · have e : bx3 2 ((thL ps cs).take 0) g .ti tgd = .cells 104 [LV 2 clE g tgd, LV 2 clE g tgd, .list 0 [] .ti] := rfl
    rw [e] at lq2
    simp only [z2] at lq2 lq3 lq4 ⊢
    simp -implicitDefEqProofs (disch := first | omega | (simp only [List.length_set, List.length_append, List.length_cons, List.length_nil, List.length_take, List.length_drop, List.length_map]; omega) | simp) [wrap_i64, wrap_u16_id, wrap_u8_id, tdiv_pos, tmod_pos, -getElem?_pos, -getElem?_neg, -List.length_eq_zero_iff, -List.getElem_cons_drop, -List.set_append_right, leaf_cl, cells_cl, idxArr_k, lq2, s_triunelaw13_JudgeTwo_O2, h6, i1, p1, hR, hH, hk0, hkv, hV, hgl, lq3, s_triunelaw13_JudgeTwo_O3, lq4, s_triunelaw13_JudgeTwo_O4]
theorem JudgeTwo_run (n : Nat) (up : cP n 44 false [] = some (Bo true)) (hn : 3000 ≤ n) (ps : List Pt) (hpl : ps.length ≤ 140737488355328) (vs : List Int) (hv : Words vs) (cs : List (Int × Int)) (hw : Wd cs) :
    ∃ H', s_triunelaw13_JudgeTwo n [] 0 (LV 5 ptE ps .sh) (LV 1 (I .u16) vs .sh) (LV 2 clE cs .sh) = some (Bo true, H') := by
  obtain ⟨B, m1, m2⟩ := May_c n ps .sh hpl (by omega)
  cases B with
  | false => exact ⟨_, by unfold s_triunelaw13_JudgeTwo; simp -implicitDefEqProofs (disch := first | omega | (simp only [List.length_set, List.length_append, List.length_cons, List.length_nil, List.length_take, List.length_drop, List.length_map]; omega) | simp) [wrap_i64, wrap_u16_id, wrap_u8_id, tdiv_pos, tmod_pos, -getElem?_pos, -getElem?_neg, -List.length_eq_zero_iff, -List.getElem_cons_drop, up, m1]; first | rfl | exact ⟨rfl, rfl⟩⟩
  | true =>
    obtain ⟨⟨hp1, hp48⟩, hpm, _⟩ := m2 rfl
    clear m2
    by_cases e1 : (vs.length : Int) < (ps.length : Int)
    · exact ⟨_, by unfold s_triunelaw13_JudgeTwo; simp -implicitDefEqProofs (disch := first | omega | (simp only [List.length_set, List.length_append, List.length_cons, List.length_nil, List.length_take, List.length_drop, List.length_map]; omega) | simp) [wrap_i64, wrap_u16_id, wrap_u8_id, tdiv_pos, tmod_pos, -getElem?_pos, -getElem?_neg, -List.length_eq_zero_iff, -List.getElem_cons_drop, up, m1, e1]; first | rfl | exact ⟨rfl, rfl⟩⟩
    · by_cases e2 : (100 : Int) < (vs.length : Int)
      · exact ⟨_, by unfold s_triunelaw13_JudgeTwo; simp -implicitDefEqProofs (disch := first | omega | (simp only [List.length_set, List.length_append, List.length_cons, List.length_nil, List.length_take, List.length_drop, List.length_map]; omega) | simp) [wrap_i64, wrap_u16_id, wrap_u8_id, tdiv_pos, tmod_pos, -getElem?_pos, -getElem?_neg, -List.length_eq_zero_iff, -List.getElem_cons_drop, up, m1, e1, e2]; first | rfl | exact ⟨rfl, rfl⟩⟩
      · by_cases e3 : (100 : Int) < (cs.length : Int)
        · exact ⟨_, by unfold s_triunelaw13_JudgeTwo; simp -implicitDefEqProofs (disch := first | omega | (simp only [List.length_set, List.length_append, List.length_cons, List.length_nil, List.length_take, List.length_drop, List.length_map]; omega) | simp) [wrap_i64, wrap_u16_id, wrap_u8_id, tdiv_pos, tmod_pos, -getElem?_pos, -getElem?_neg, -List.length_eq_zero_iff, -List.getElem_cons_drop, up, m1, e1, e2, e3]; first | rfl | exact ⟨rfl, rfl⟩⟩
        · obtain ⟨n', rfl⟩ : ∃ n', n = n' + 4 := ⟨n - 4, by omega⟩
          obtain ⟨t', G, k1, k2, k3, k4, k5⟩ := goodT_L (n' + 4) 0 0 (by omega) ps vs hv (by omega) (by omega) .sh .sh (LV 2 clE cs .sh) (Bo true) (n' + 4) 0 .ti [] (by omega) (by omega) (.inl rfl) (by omega) wf_nil
          have lq0 := fun K => (s_triunelaw13_JudgeTwo_L0_eq (n' + 4) 0 K (n' + 4) (LV 5 ptE ps .sh) (LV 1 (I .u16) vs .sh) (LV 2 clE cs .sh) (Bo true) (.list 0 [] .ti) (I .i64 0) []).trans (k1 K)
          have hs0 := inSc_tg k2 (goodL ps vs)
          obtain ⟨H1, r1, f1, l1⟩ := two_round (n' + 4) (by omega) ps hp1 hp48 hpm vs hv (by omega) cs hw (by omega) .sh t' (Bo true) 0 (by omega) G k5 hs0 (n' + 3)
          obtain ⟨H2, r2, f2, l2⟩ := two_round (n' + 4) (by omega) ps hp1 hp48 hpm vs hv (by omega) cs hw (by omega) .sh t' (Bo true) 1 (by omega) H1 f1 (inSc_mono l1 _ hs0) (n' + 2)
          obtain ⟨H3, r3, f3, l3⟩ := two_round (n' + 4) (by omega) ps hp1 hp48 hpm vs hv (by omega) cs hw (by omega) .sh t' (Bo true) 2 (by omega) H2 f2 (inSc_mono (by omega) _ hs0) (n' + 1)
          have r4 : ∀ K, s_triunelaw13_JudgeTwo_L1 (n' + 4) 0 K (n' + 1) (LV 5 ptE ps .sh) (LV 2 clE cs .sh) (Bo true) (LV 2 clE (goodL ps vs) t') (I .i64 3) H3 = K (.exit 2) (s_triunelaw13_JudgeTwo_O1 .any (Bo true)) H3 := fun K => by
            rw [s_triunelaw13_JudgeTwo_L1, s_triunelaw13_JudgeTwo_B1]
            simp -implicitDefEqProofs (disch := first | omega | (simp only [List.length_set, List.length_append, List.length_cons, List.length_nil, List.length_take, List.length_drop, List.length_map]; omega) | simp) [wrap_i64, wrap_u16_id, wrap_u8_id, tdiv_pos, tmod_pos, -getElem?_pos, -getElem?_neg, -List.length_eq_zero_iff, -List.getElem_cons_drop]
          have lq1 := fun K => (s_triunelaw13_JudgeTwo_L1_eq (n' + 4) 0 K (n' + 4) (LV 5 ptE ps .sh) (LV 2 clE cs .sh) (Bo true) (LV 2 clE (goodL ps vs) t') (I .i64 0) G).trans ((r1 K).trans ((r2 K).trans ((r3 K).trans (r4 K))))
          exact ⟨_, by unfold s_triunelaw13_JudgeTwo; simp -implicitDefEqProofs (disch := first | omega | (simp only [List.length_set, List.length_append, List.length_cons, List.length_nil, List.length_take, List.length_drop, List.length_map]; omega) | simp) [wrap_i64, wrap_u16_id, wrap_u8_id, tdiv_pos, tmod_pos, -getElem?_pos, -getElem?_neg, -List.length_eq_zero_iff, -List.getElem_cons_drop, up, m1, e1, e2, e3, lq0, s_triunelaw13_JudgeTwo_O0, lq1, s_triunelaw13_JudgeTwo_O1]; first | rfl | exact ⟨rfl, rfl⟩⟩
theorem JudgeTwo_all (e0 e1 e2 : List DV) (h0 : Shp Try.prog 8 41 e0) (h1 : Shp Try.prog 8 56 e1) (h2 : Shp Try.prog 8 103 e2) :
    ∃ H', callG Try.prog ENV 20000 9 [elOf (isAgT Try.prog 41) e0, elOf (isAgT Try.prog 56) e1, elOf (isAgT Try.prog 103) e2] [] 0 = some (.flat (.bool true), H') := by
  obtain ⟨ps, r0, hl⟩ := jshp_pts h0
  obtain ⟨vs, r1, hv, _⟩ := jshp_ws h1
  obtain ⟨cs, rfl, hw, _⟩ := jshp_cls h2
  have r2 : elOf (isAgT Try.prog 103) [LV 2 clE cs .sh] = LV 2 clE cs .sh := by kernel_rfl
  obtain ⟨H', h⟩ := JudgeTwo_run 19999 awake13 (by omega) ps hl vs hv cs hw
  rw [r0, r1, r2]
  exact ⟨H', (s_triunelaw13_JudgeTwo_eq 19999 [] 0 _ _ _).trans h⟩
end Go.Proofs.Ytbhnkdnfmlnajaa
