/- The reference of the stream. -/
import Derived.Test.YtigfninpflemnaaFRef05
import Derived.Test.YtigfninpflemnaaGStream
import Derived.Test.YtigfninpflemnaaGRef04
-- NEEDS: (*triuneref05.Stream).Take
namespace Go.Proofs.Ytigfninpflemnaa
open Go
set_option linter.unusedSimpArgs false
set_option linter.unusedVariables false
def rfB (b : List Int) (t : Tag) (br : Bool) : DBlk := .cells 87 [LV 1 (I .u8) b t, Bo br]
def gT (n0 : Nat) (t : Tag) : Prop := okT t ∨ oT n0 t
theorem oldLeaf_gT {α : Type} {n : Nat} {t : Tag} (h : gT n t) (H : Heap) (sz : Nat) (enc : α → DV) (l : List α) : ∃ t', okT t' ∧ oldLeaf n H (LV sz enc l t) = some (LV sz enc l t') := by
  rcases h with h | h
  · exact ⟨t, h, oldLeaf_okT h _ _ _ _⟩
  · exact oldLeaf_oT h _ _ _ _
theorem ref_loop (n fl kk n0 : Nat) (K : Ex → KF) (hfl : fl ≤ kk) (hkk : kk < n0) (hfn : fl ≤ n0) : ∀ (m : Nat) (b : List Int) (acc : List Fr) (t tb : Tag) (H : Heap), b.length < m → b.length + 40 ≤ n → b.length ≤ 100000 → Bytes b → acc.length + b.length ≤ 200000 →
    H[kk]? = some (rfB b tb false) → gT n0 tb → n0 ≤ H.length → TgOk t 72 3 n0 acc.length H →
    ∃ t' tb' H', s___triuneref05_Stream__Take_L0 n fl K m (.ptr kk 0) (LV 3 frE acc t) H = K .ret (s___triuneref05_Stream__Take_O0 (LV 3 frE (acc ++ (takeF b).1) t') (I .i64 (takeF b).2.2)) H' ∧
      H'[kk]? = some (rfB (takeF b).2.1 tb' (decide ((takeF b).2.2 = 2))) ∧ gT n0 tb' ∧ (∀ j, j < n0 → j ≠ kk → H'[j]? = H[j]?) ∧ n0 ≤ H'.length ∧ oT n0 t' := by
  intro m
  induction m with
  | zero => intro b acc t tb H h; omega
  | succ m ih =>
    intro b acc t tb H hm hn hl hB hacc hk htb hn0 ht
    have hkl : kk < H.length := by omega
    have hR := ref04_Read_c n b tb hB (by omega) (by omega)
    unfold rdV frameV at hR
    have hk' := hk
    unfold rfB at hk
    unfold s___triuneref05_Stream__Take_L0 s___triuneref05_Stream__Take_B0
    by_cases c0 : rdErr b = 0
    · have hr := rdN_lo c0
      have hLen : rdLen b = 6 + rdN b := by unfold rdLen; rw [if_pos c0]
      obtain ⟨t3, H3, ha, ht3, hl3, hj3, hw3, hx3⟩ := appG_fr (e := 72) (ag := true) (sz := 3) (by_ := 32) (n0 := n0) (enc := frE) (xs := acc) (ys := [rdFr b]) (t := t) (t' := .ti) (H := H ++ [DBlk.cells 72 [I .u16 (rdTid b), I .u8 (rdUnit b), LV 1 (I .u8) (rdPdu b) .sh]]) (fl := fl) hfn (by simp; omega) (by
        rcases ht with rfl | ⟨q, rfl, hq, hqn⟩
        · exact .inl rfl
        · have hql := hp_lt hq
          exact .inr ⟨q, rfl, by rw [hp_get_left _ _ _ hql]; exact hq, hqn⟩) (by simp) rfl (by simp; omega) (by simp; omega)
      have hb1 := buildL_fr (rdTid b) (rdUnit b) (rdPdu b)
      have hfr : (rdTid b, rdUnit b, rdPdu b) = rdFr b := rfl
      rw [hfr] at hb1
      have hk3 : H3[kk]? = some (.cells 87 [LV 1 (I .u8) b tb, Bo false]) := by rw [hj3 kk hkk, hp_get_left _ _ _ hkl]; exact hk
      have hk3l := hp_lt hk3
      have hdl : (b.drop (rdLen b).toNat).length = b.length - (rdLen b).toNat := by simp
      have hgt : gT n0 (slT tb true) := by
        unfold slT
        split
        · exact .inl (.inr rfl)
        · exact .inl (.inl rfl)
      obtain ⟨t', tb', H', q1, q2, q3, q4, q5, q6⟩ := ih (b.drop (rdLen b).toNat) (acc ++ [rdFr b]) t3 (slT tb true) (H3.set kk (rfB (b.drop (rdLen b).toNat) (slT tb true) false)) (by omega) (by omega) (by omega) (hB.drop _) (by simp; omega) (hp_set_get _ _ _ hk3l) hgt (by simp at hl3 ⊢; omega) (by
        rcases ht3 with rfl | ⟨q, rfl, hq, hqn⟩
        · exact .inl rfl
        · exact .inr ⟨q, rfl, by rw [hp_set_ne _ _ _ _ (by omega)]; exact hq, hqn⟩)
      unfold rfB at q1
      refine ⟨t', tb', H', ?_, ?_, q3, fun j hj hjk => ?_, q5, q6⟩
      · rw [takeF_0 c0]
        simp -implicitDefEqProofs (disch := first | omega | (simp only [List.length_set, List.length_append, List.length_cons, List.length_nil, List.length_take, List.length_drop, List.length_map]; omega) | simp) [wrap_i64, wrap_u16_id, wrap_u8_id, tdiv_pos, tmod_pos, -getElem?_pos, -getElem?_neg, -List.length_eq_zero_iff, -List.getElem_cons_drop, hk, hR, c0, hb1, ha, hk3, q1]
      · rw [takeF_0 c0]; exact q2
      · rw [q4 j hj hjk, hp_set_ne _ _ _ _ hjk, hj3 j hj, hp_get_left _ _ _ (by omega)]
    by_cases c2 : rdErr b = 2
    · rw [takeF_2 c2]
      refine ⟨t, .ti, H.set kk (rfB [] .ti true) ++ [.cells 72 [I .u16 (rdTid b), I .u8 (rdUnit b), LV 1 (I .u8) (rdPdu b) .sh]], ?_, ?_, .inl (.inr rfl), fun j hj hjk => ?_, by simp; omega, ht.oT⟩
      · simp -implicitDefEqProofs (disch := first | omega | (simp only [List.length_set, List.length_append, List.length_cons, List.length_nil, List.length_take, List.length_drop, List.length_map]; omega) | simp) [wrap_i64, wrap_u16_id, wrap_u8_id, tdiv_pos, tmod_pos, -getElem?_pos, -getElem?_neg, -List.length_eq_zero_iff, -List.getElem_cons_drop, hk, hR, c2, rfB, LV_nil]; rfl
      · rw [hp_get_left _ _ _ (by simpa using hkl), hp_set_get _ _ _ hkl]; rfl
      · rw [hp_get_left _ _ _ (by simp; omega), hp_set_ne _ _ _ _ hjk]
    · rw [takeF_3 c0 c2]
      refine ⟨t, tb, H ++ [.cells 72 [I .u16 (rdTid b), I .u8 (rdUnit b), LV 1 (I .u8) (rdPdu b) .sh]], ?_, ?_, htb, fun j hj hjk => ?_, by simp; omega, ht.oT⟩
      · simp -implicitDefEqProofs (disch := first | omega | (simp only [List.length_set, List.length_append, List.length_cons, List.length_nil, List.length_take, List.length_drop, List.length_map]; omega) | simp) [wrap_i64, wrap_u16_id, wrap_u8_id, tdiv_pos, tmod_pos, -getElem?_pos, -getElem?_neg, -List.length_eq_zero_iff, -List.getElem_cons_drop, hk, hR, c0, c2, rfB]
      · rw [hp_get_left _ _ _ hkl]; exact hk'
      · rw [hp_get_left _ _ _ (by omega)]
theorem ref05_Take_c (n kk fl : Nat) (H : Heap) (b c : List Int) (tb tc : Tag) (br : Bool) (hn : b.length + c.length + 50 ≤ n) (hk : H[kk]? = some (rfB b tb br)) (hw : WfH H) (htb : okT tb) (hfl : fl ≤ kk) (hb : Bytes b) (hc : Bytes c) (hl : b.length + c.length ≤ 100000) :
    ∃ tb' to, okT tb' ∧ okT to ∧ cW n 62 [.ptr kk 0, LV 1 (I .u8) c tc] H fl = some (.tup [LV 3 frE (stOut b c br).1 to, I .i64 (stOut b c br).2], H.set kk (rfB (stNext b c br).1 tb' (stNext b c br).2)) := by
  obtain ⟨n, rfl⟩ : ∃ m, n = m + 1 := ⟨n - 1, by omega⟩
  have hkl := hp_lt hk
  cases br with
  | true =>
    have hs : H.set kk (rfB b tb true) = H := by
      apply List.ext_getElem?
      intro j
      by_cases hj : j = kk
      · subst hj; rw [hp_set_get _ _ _ hkl, hk]
      · rw [hp_set_ne _ _ _ _ hj]
    refine ⟨tb, .ti, htb, .inr rfl, ?_⟩
    simp only [stNext, stOut, if_true, hs]
    exact cW_of ((s___triuneref05_Stream__Take_eq _ _ _ _ _).trans (by unfold s___triuneref05_Stream__Take; unfold rfB at hk; simp -implicitDefEqProofs (disch := first | omega | (simp only [List.length_set, List.length_append, List.length_cons, List.length_nil, List.length_take, List.length_drop, List.length_map]; omega) | simp) [wrap_i64, wrap_u16_id, wrap_u8_id, tdiv_pos, tmod_pos, -getElem?_pos, -getElem?_neg, -List.length_eq_zero_iff, -List.getElem_cons_drop, hk]; first | exact rfl | exact ⟨rfl, rfl⟩)) (by simp; rfl) (cutH_same hw fun j hj => rfl)
  | false =>
    have e2 : buildL false 1 0 (I .u8 0) [] = some (LV 1 (I .u8) [] .ti) := rfl
    obtain ⟨t1, H1, ha1, ht1, hl1, hj1, hw1, _⟩ := appG_all (e := 5) (ag := false) (sz := 1) (by_ := 1) (n0 := H.length) (enc := I .u8) (xs := []) (ys := b) (t := .ti) (t' := tb) (H := H) (fl := fl) (by omega) (Nat.le_refl _) (.inl rfl) rfl (by simp; omega) (by simp; omega)
    rw [List.nil_append] at ha1 ht1
    obtain ⟨t2, H2, ha2, ht2, hl2, hj2, hw2, _⟩ := appG_all (e := 5) (ag := false) (sz := 1) (by_ := 1) (n0 := H.length) (enc := I .u8) (xs := b) (ys := c) (t := t1) (t' := tc) (H := H1) (fl := fl) (by omega) hl1 ht1 rfl (by omega) (by omega)
    have hk2 : H2[kk]? = some (.cells 87 [LV 1 (I .u8) b tb, Bo false]) := by rw [hj2 kk hkl, hj1 kk hkl]; exact hk
    have hk2l := hp_lt hk2
    obtain ⟨t', tb', H', q1, q2, q3, q4, q5, q6⟩ := ref_loop n fl kk H.length (fun x S6 h6 => match x with
      | .normal => none
      | .exit i6 => if i6 = 0 then some (.tup [S6.getD 4 .any, S6.getD 5 .any], h6) else none
      | .ret => some (.tup [S6.getD 4 .any, S6.getD 5 .any], h6)) hfl hkl (by omega) n (b ++ c) [] .ti t2 (H2.set kk (rfB (b ++ c) t2 false)) (by simp; omega) (by simp; omega) (by simp; omega)
      (fun x hx => by rcases List.mem_append.mp hx with h | h; exact hb x h; exact hc x h) (by simp; omega) (hp_set_get _ _ _ hk2l) (.inr ht2.oT) (by simp; omega) (.inl rfl)
    rw [List.nil_append] at q1
    obtain ⟨to, hto, hold⟩ := oldLeaf_oT q6 H' 3 frE (takeF (b ++ c)).1
    obtain ⟨tb2, htb2, hold2⟩ := oldLeaf_gT q3 H' 1 (I .u8) (takeF (b ++ c)).2.1
    refine ⟨tb2, to, htb2, hto, ?_⟩
    simp only [stNext, stOut, Bool.false_eq_true, if_false]
    unfold rfB at hk q1
    refine cW_of ((s___triuneref05_Stream__Take_eq _ _ _ _ _).trans (by unfold s___triuneref05_Stream__Take; simp -implicitDefEqProofs (disch := first | omega | (simp only [List.length_set, List.length_append, List.length_cons, List.length_nil, List.length_take, List.length_drop, List.length_map]; omega) | simp) [wrap_i64, wrap_u16_id, wrap_u8_id, tdiv_pos, tmod_pos, -getElem?_pos, -getElem?_neg, -List.length_eq_zero_iff, -List.getElem_cons_drop, hk, e2, ha1, ha2, hk2]; rw [s___triuneref05_Stream__Take_L0_eq, LV_nil 3 frE]; exact q1)) (by simp [s___triuneref05_Stream__Take_O0, hold]) (cutH_set hw (k := kk) hkl q2 (fun j hj hjk => (q4 j hj hjk).trans ((hp_set_ne _ _ _ _ hjk).trans ((hj2 j hj).trans (hj1 j hj)))) (by unfold rfB; simp [hold2]))
end Go.Proofs.Ytigfninpflemnaa
