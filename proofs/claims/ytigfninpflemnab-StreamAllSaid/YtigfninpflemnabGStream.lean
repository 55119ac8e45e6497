/- The stream: what its methods leave and answer. -/
import Derived.Test.YtigfninpflemnabFStream
import Derived.Test.YtigfninpflemnabHp
import Derived.Test.YtigfninpflemnabGMbapR
-- NEEDS: stream.New; (*stream.Stream).Take; (*stream.held).put; (*stream.held).next; slices.Clip[[]byte,byte]; (*stream.Stream).Held; (*stream.Stream).Broken
namespace Go.Proofs.Ytigfninpflemnab
open Go
set_option linter.unusedSimpArgs false
set_option linter.unusedVariables false
def stB (b : List Int) (t : Tag) (br : Bool) : DBlk := .cells 127 [LV 1 (I .u8) b t, Bo br]
theorem stream_Clip_c (n : Nat) (hn : 1 ≤ n) (l : List Int) (t : Tag) (hl : l.length ≤ 1000000) : cP n 80 true [LV 1 (I .u8) l t] = some (LV 1 (I .u8) l .ti) := by
  obtain ⟨n, rfl⟩ : ∃ m, n = m + 1 := ⟨n - 1, by omega⟩
  refine cP_of (args' := [LV 1 (I .u8) l .sh]) (by simp [argEl_eq]) ((s_slices_Clip___byte_byte__eq _ _ _ _).trans (by unfold s_slices_Clip___byte_byte_; simp -implicitDefEqProofs (disch := first | omega | (simp only [List.length_set, List.length_append, List.length_cons, List.length_nil, List.length_take, List.length_drop, List.length_map]; omega) | simp) [wrap_i64, wrap_u16_id, wrap_u8_id, tdiv_pos, tmod_pos, -getElem?_pos, -getElem?_neg, -List.length_eq_zero_iff, -List.getElem_cons_drop]; first | exact rfl | exact ⟨rfl, rfl⟩)) ?_
  simp
theorem stream_put_c (n : Nat) (hn : 3 ≤ n) (k fl : Nat) (H : Heap) (b c : List Int) (t t' : Tag) (br : Bool) (hk : H[k]? = some (stB b t br)) (hw : WfH H) (hfl : fl ≤ k) (hb : b.length ≤ 100000) (hc : c.length ≤ 100000) :
    ∃ t2, okT t2 ∧ cW n 65 [.ptr k 0, LV 1 (I .u8) c t'] H fl = some (.tup [], H.set k (stB (b ++ c) t2 br)) := by
  obtain ⟨n, rfl⟩ : ∃ m, n = m + 1 := ⟨n - 1, by omega⟩
  have hkl := hp_lt hk
  have hC := stream_Clip_c n (by omega) b t (by omega)
  unfold stB at hk ⊢
  by_cases h0 : c = []
  · subst h0
    have hA : ∀ H, appG 5 false 1 1 (LV 1 (I .u8) b .ti) (LV 1 (I .u8) ([] : List Int) t') H fl = some (LV 1 (I .u8) b .ti, H) := by
      intro H
      obtain ⟨s, h1, h2⟩ := LV_list 1 (I .u8) b .ti
      rw [h1]; rfl
    refine ⟨.ti, .inr rfl, cW_of ((s___stream_held__put_eq _ _ _ _ _).trans (by unfold s___stream_held__put; simp -implicitDefEqProofs (disch := first | omega | (simp only [List.length_set, List.length_append, List.length_cons, List.length_nil, List.length_take, List.length_drop, List.length_map]; omega) | simp) [wrap_i64, wrap_u16_id, wrap_u8_id, tdiv_pos, tmod_pos, -getElem?_pos, -getElem?_neg, -List.length_eq_zero_iff, -List.getElem_cons_drop, hk, hC, hA]; first | exact rfl | exact ⟨rfl, rfl⟩)) (by simp) (cutH_set hw (k := k) hkl (by simp [hkl]; rfl) (fun j hj hjk => by simp [hjk]) (by simp))⟩
  · have hA := appG_ti (e := 5) (ag := false) (sz := 1) (by_ := 1) (enc := I .u8) (xs := b) (ys := c) (t' := t') (H := H) (fl := fl) h0 rfl (by omega) (by omega)
    refine ⟨.sh, .inl rfl, cW_of ((s___stream_held__put_eq _ _ _ _ _).trans (by unfold s___stream_held__put; simp -implicitDefEqProofs (disch := first | omega | (simp only [List.length_set, List.length_append, List.length_cons, List.length_nil, List.length_take, List.length_drop, List.length_map]; omega) | simp) [wrap_i64, wrap_u16_id, wrap_u8_id, tdiv_pos, tmod_pos, -getElem?_pos, -getElem?_neg, -List.length_eq_zero_iff, -List.getElem_cons_drop, hk, hC, hA]; first | exact rfl | exact ⟨rfl, rfl⟩)) (by simp) (cutH_set hw (k := k) hkl (by simp -implicitDefEqProofs (disch := first | omega | (simp only [List.length_set, List.length_append, List.length_cons, List.length_nil, List.length_take, List.length_drop, List.length_map]; omega) | simp) [wrap_i64, wrap_u16_id, wrap_u8_id, tdiv_pos, tmod_pos, -getElem?_pos, -getElem?_neg, -List.length_eq_zero_iff, -List.getElem_cons_drop, hkl]; rfl) (fun j hj hjk => by simp -implicitDefEqProofs (disch := first | omega | (simp only [List.length_set, List.length_append, List.length_cons, List.length_nil, List.length_take, List.length_drop, List.length_map]; omega) | simp) [wrap_i64, wrap_u16_id, wrap_u8_id, tdiv_pos, tmod_pos, -getElem?_pos, -getElem?_neg, -List.length_eq_zero_iff, -List.getElem_cons_drop, hj, hjk]) (by simp [oldLeaf_own]))⟩

theorem rdN_lo {l : List Int} (h : rdErr l = 0) : 2 ≤ rdN l ∧ rdN l ≤ 254 ∧ 6 + rdN l ≤ l.length := by
  unfold rdErr at h
  split at h
  · omega
  split at h
  · omega
  split at h
  · omega
  omega
theorem rdLen_ok (l : List Int) : 0 ≤ rdLen l ∧ rdLen l ≤ l.length := by
  unfold rdLen
  split
  · rename_i h; have := rdN_lo h; omega
  · omega
theorem stream_next_c (n k fl : Nat) (H : Heap) (b : List Int) (t : Tag) (br : Bool) (hn : b.length + 30 ≤ n) (hk : H[k]? = some (stB b t br)) (hw : WfH H) (ht : okT t) (hfl : fl ≤ k) (hb : Bytes b) (hl : b.length ≤ 100000) :
    ∃ t2, okT t2 ∧ cW n 66 [.ptr k 0] H fl = some (.tup [frameV (rdTid b) (rdUnit b) (rdPdu b) .sh, I .i64 (rdErr b)], H.set k (stB (b.drop (rdLen b).toNat) t2 br)) := by
  obtain ⟨n, rfl⟩ : ∃ m, n = m + 1 := ⟨n - 1, by omega⟩
  have hkl := hp_lt hk
  have hR := mbap_Read_c n b t hb hl (by omega)
  have hL := rdLen_ok b
  unfold stB at hk ⊢
  unfold rdV frameV at hR
  refine ⟨slT t true, by rcases ht with rfl | rfl <;> simp [okT, slT], cW_of ((s___stream_held__next_eq _ _ _ _).trans (by unfold s___stream_held__next; simp -implicitDefEqProofs (disch := first | omega | (simp only [List.length_set, List.length_append, List.length_cons, List.length_nil, List.length_take, List.length_drop, List.length_map]; omega) | simp) [wrap_i64, wrap_u16_id, wrap_u8_id, tdiv_pos, tmod_pos, -getElem?_pos, -getElem?_neg, -List.length_eq_zero_iff, -List.getElem_cons_drop, hk, hR]; first | exact rfl | exact ⟨rfl, rfl⟩)) (by simp [frameV]) (cutH_set hw (k := k) hkl (by simp -implicitDefEqProofs (disch := first | omega | (simp only [List.length_set, List.length_append, List.length_cons, List.length_nil, List.length_take, List.length_drop, List.length_map]; omega) | simp) [wrap_i64, wrap_u16_id, wrap_u8_id, tdiv_pos, tmod_pos, -getElem?_pos, -getElem?_neg, -List.length_eq_zero_iff, -List.getElem_cons_drop]; rfl) (fun j hj hjk => by simp -implicitDefEqProofs (disch := first | omega | (simp only [List.length_set, List.length_append, List.length_cons, List.length_nil, List.length_take, List.length_drop, List.length_map]; omega) | simp) [wrap_i64, wrap_u16_id, wrap_u8_id, tdiv_pos, tmod_pos, -getElem?_pos, -getElem?_neg, -List.length_eq_zero_iff, -List.getElem_cons_drop, hjk]) (by rcases ht with rfl | rfl <;> simp [slT]))⟩

abbrev Fr := Int × Int × List Int
def frE (f : Fr) : DV := frameV f.1 f.2.1 f.2.2 .sh
def rdFr (b : List Int) : Fr := (rdTid b, rdUnit b, rdPdu b)
/-- the frames that bytes have, one behind the other; what is left; whether they are broken (2) -/
def takeF (b : List Int) : List Fr × List Int × Int :=
  if h : rdErr b = 0 then (rdFr b :: (takeF (b.drop (rdLen b).toNat)).1, (takeF (b.drop (rdLen b).toNat)).2)
  else if rdErr b = 2 then ([], [], 2) else ([], b, 0)
termination_by b.length
decreasing_by all_goals (have := rdN_lo h; simp only [List.length_drop, rdLen, if_pos h]; omega)
theorem takeF_0 {b : List Int} (h : rdErr b = 0) : takeF b = (rdFr b :: (takeF (b.drop (rdLen b).toNat)).1, (takeF (b.drop (rdLen b).toNat)).2) := by rw [takeF, dif_pos h]
theorem takeF_2 {b : List Int} (h : rdErr b = 2) : takeF b = ([], [], 2) := by rw [takeF, dif_neg (by omega), if_pos h]
theorem takeF_3 {b : List Int} (h : rdErr b ≠ 0) (h2 : rdErr b ≠ 2) : takeF b = ([], b, 0) := by rw [takeF, dif_neg h, if_neg h2]
theorem buildL_fr (t u : Int) (p : List Int) : buildL true 3 1 (.agg [.flat (.int .u16 0), .flat (.int .u8 0), .list 0 [] .ti]) [(0, .agg [.flat (.int .u16 t), .flat (.int .u8 u), LV 1 (I .u8) p .sh])] = some (LV 3 frE [(t, u, p)] .ti) := by
  cases p <;> rfl
theorem Bytes.drop {l : List Int} (h : Bytes l) (n : Nat) : Bytes (l.drop n) := fun x hx => h x (List.mem_of_mem_drop hx)
theorem take_loop (n fl kk n0 : Nat) (K : Ex → KF) (hfl : fl ≤ kk) (hkk : kk < n0) (hfn : fl ≤ n0) : ∀ (m : Nat) (b : List Int) (acc : List Fr) (t tb : Tag) (H : Heap), b.length < m → b.length + 40 ≤ n → b.length ≤ 100000 → Bytes b → acc.length + b.length ≤ 200000 →
    H[kk]? = some (stB b tb false) → okT tb → WfH H → n0 ≤ H.length → TgOk t 84 3 n0 acc.length H →
    ∃ t' tb' H', s___stream_Stream__Take_L0 n fl K m (.ptr kk 0) (LV 3 frE acc t) H = K .ret (s___stream_Stream__Take_O0 (LV 3 frE (acc ++ (takeF b).1) t') (I .i64 (takeF b).2.2)) H' ∧
      H'[kk]? = some (stB (takeF b).2.1 tb' (decide ((takeF b).2.2 = 2))) ∧ okT tb' ∧ (∀ j, j < n0 → j ≠ kk → H'[j]? = H[j]?) ∧ n0 ≤ H'.length ∧ oT n0 t' := by
  intro m
  induction m with
  | zero => intro b acc t tb H h; omega
  | succ m ih =>
    intro b acc t tb H hm hn hl hB hacc hk htb hw hn0 ht
    have hkl : kk < H.length := by omega
    have hw1 : WfH (H ++ [.hole]) := hw.app (fun x hx => by simp at hx; subst hx; trivial)
    obtain ⟨t2, ht2, hN⟩ := stream_next_c n kk fl (H ++ [.hole]) b tb false (by omega) (by rw [hp_get_left _ _ _ hkl]; exact hk) hw1 htb hfl hB hl
    unfold s___stream_Stream__Take_L0 s___stream_Stream__Take_B0
    unfold frameV stB at hN
    by_cases c0 : rdErr b = 0
    · have hr := rdN_lo c0
      have hLen : rdLen b = 6 + rdN b := by unfold rdLen; rw [if_pos c0]
      generalize hX : DBlk.cells 127 [LV 1 (I .u8) (b.drop (rdLen b).toNat) t2, Bo false] = X at hN
      have hwX : WfB H.length X := by subst hX; intro d hd; simp at hd; rcases hd with rfl | rfl; rcases ht2 with rfl | rfl <;> simp; rfl
      have hwH : WfH (H.set kk X ++ [DBlk.cells 84 [I .u16 (rdTid b), I .u8 (rdUnit b), LV 1 (I .u8) (rdPdu b) .sh]]) := (hw.set kk hwX).app (fun x hx => by simp at hx; subst hx; intro d hd; simp at hd; rcases hd with rfl | rfl | rfl <;> simp)
      obtain ⟨t3, H3, ha, ht3, hl3, hj3, hw3, hx3⟩ := appG_fr (e := 84) (ag := true) (sz := 3) (by_ := 32) (n0 := n0) (enc := frE) (xs := acc) (ys := [rdFr b]) (t := t) (t' := .ti) (H := H.set kk X ++ [DBlk.cells 84 [I .u16 (rdTid b), I .u8 (rdUnit b), LV 1 (I .u8) (rdPdu b) .sh]]) (fl := fl) hfn (by simp; omega) (by
        rcases ht with rfl | ⟨q, rfl, hq, hqn⟩
        · exact .inl rfl
        · have hql := hp_lt hq
          exact .inr ⟨q, rfl, by rw [hp_get_left _ _ _ (by simpa using hql), hp_set_ne _ _ _ _ (by omega)]; exact hq, hqn⟩) (by simp) rfl (by simp; omega) (by simp; omega)
      have hb1 := buildL_fr (rdTid b) (rdUnit b) (rdPdu b)
      have hfr : (rdTid b, rdUnit b, rdPdu b) = rdFr b := rfl
      rw [hfr] at hb1
      have hk3 : H3[kk]? = some (stB (b.drop (rdLen b).toNat) t2 false) := by rw [hj3 kk hkk, hp_get_left _ _ _ (by simpa using hkl), hp_set_get _ _ _ hkl, ← hX]; rfl
      have hdl : (b.drop (rdLen b).toNat).length = b.length - (rdLen b).toNat := by simp
      obtain ⟨t', tb', H', q1, q2, q3, q4, q5⟩ := ih (b.drop (rdLen b).toNat) (acc ++ [rdFr b]) t3 t2 H3 (by omega) (by omega) (by omega) (hB.drop _) (by simp; omega) hk3 ht2 (hw3 hwH) (by simp at hl3; omega) ht3
      refine ⟨t', tb', H', ?_, ?_, q3, fun j hj hjk => ?_, q5⟩
      · rw [takeF_0 c0]
        simp -implicitDefEqProofs (disch := first | omega | (simp only [List.length_set, List.length_append, List.length_cons, List.length_nil, List.length_take, List.length_drop, List.length_map]; omega) | simp) [wrap_i64, wrap_u16_id, wrap_u8_id, tdiv_pos, tmod_pos, -getElem?_pos, -getElem?_neg, -List.length_eq_zero_iff, -List.getElem_cons_drop, hN, c0, hb1, ha, q1]
      · rw [takeF_0 c0]; exact q2
      · rw [q4 j hj hjk, hj3 j hj, hp_get_left _ _ _ (by simp; omega), hp_set_ne _ _ _ _ hjk]
    have hL0 : (rdLen b).toNat = 0 := by unfold rdLen; rw [if_neg c0]; rfl
    rw [hL0, List.drop_zero] at hN
    by_cases c2 : rdErr b = 2
    · rw [takeF_2 c2]
      refine ⟨t, .ti, H.set kk (stB [] .ti true) ++ [.cells 84 [I .u16 (rdTid b), I .u8 (rdUnit b), LV 1 (I .u8) (rdPdu b) .sh]], ?_, ?_, .inr rfl, fun j hj hjk => ?_, by simp; omega, ht.oT⟩
      · simp -implicitDefEqProofs (disch := first | omega | (simp only [List.length_set, List.length_append, List.length_cons, List.length_nil, List.length_take, List.length_drop, List.length_map]; omega) | simp) [wrap_i64, wrap_u16_id, wrap_u8_id, tdiv_pos, tmod_pos, -getElem?_pos, -getElem?_neg, -List.length_eq_zero_iff, -List.getElem_cons_drop, hN, c2, stB, LV_nil]; rfl
      · rw [hp_get_left _ _ _ (by simpa using hkl), hp_set_get _ _ _ hkl]; rfl
      · rw [hp_get_left _ _ _ (by simp; omega), hp_set_ne _ _ _ _ hjk]
    · rw [takeF_3 c0 c2]
      refine ⟨t, t2, H.set kk (stB b t2 false) ++ [.cells 84 [I .u16 (rdTid b), I .u8 (rdUnit b), LV 1 (I .u8) (rdPdu b) .sh]], ?_, ?_, ht2, fun j hj hjk => ?_, by simp; omega, ht.oT⟩
      · simp -implicitDefEqProofs (disch := first | omega | (simp only [List.length_set, List.length_append, List.length_cons, List.length_nil, List.length_take, List.length_drop, List.length_map]; omega) | simp) [wrap_i64, wrap_u16_id, wrap_u8_id, tdiv_pos, tmod_pos, -getElem?_pos, -getElem?_neg, -List.length_eq_zero_iff, -List.getElem_cons_drop, hN, c0, c2, stB]
      · rw [hp_get_left _ _ _ (by simpa using hkl), hp_set_get _ _ _ hkl]; rfl
      · rw [hp_get_left _ _ _ (by simp; omega), hp_set_ne _ _ _ _ hjk]
/-- what Take leaves: bytes held, broken; and answers -/
def stNext (b c : List Int) (br : Bool) : List Int × Bool := if br then (b, true) else ((takeF (b ++ c)).2.1, decide ((takeF (b ++ c)).2.2 = 2))
def stOut (b c : List Int) (br : Bool) : List Fr × Int := if br then ([], 8) else ((takeF (b ++ c)).1, (takeF (b ++ c)).2.2)
theorem stream_Take_c (n kk fl : Nat) (H : Heap) (b c : List Int) (tb tc : Tag) (br : Bool) (hn : b.length + c.length + 50 ≤ n) (hk : H[kk]? = some (stB b tb br)) (hw : WfH H) (htb : okT tb) (hfl : fl ≤ kk) (hb : Bytes b) (hc : Bytes c) (hl : b.length + c.length ≤ 100000) :
    ∃ tb' to, okT tb' ∧ okT to ∧ cW n 38 [.ptr kk 0, LV 1 (I .u8) c tc] H fl = some (.tup [LV 3 frE (stOut b c br).1 to, I .i64 (stOut b c br).2], H.set kk (stB (stNext b c br).1 tb' (stNext b c br).2)) := by
  obtain ⟨n, rfl⟩ : ∃ m, n = m + 1 := ⟨n - 1, by omega⟩
  have hkl := hp_lt hk
  cases br with
  | true =>
    have hs : H.set kk (stB b tb true) = H := by
      apply List.ext_getElem?
      intro j
      by_cases hj : j = kk
      · subst hj; rw [hp_set_get _ _ _ hkl, hk]
      · rw [hp_set_ne _ _ _ _ hj]
    refine ⟨tb, .ti, htb, .inr rfl, ?_⟩
    simp only [stNext, stOut, if_true, hs]
    exact cW_of ((s___stream_Stream__Take_eq _ _ _ _ _).trans (by unfold s___stream_Stream__Take; unfold stB at hk; simp -implicitDefEqProofs (disch := first | omega | (simp only [List.length_set, List.length_append, List.length_cons, List.length_nil, List.length_take, List.length_drop, List.length_map]; omega) | simp) [wrap_i64, wrap_u16_id, wrap_u8_id, tdiv_pos, tmod_pos, -getElem?_pos, -getElem?_neg, -List.length_eq_zero_iff, -List.getElem_cons_drop, hk]; first | exact rfl | exact ⟨rfl, rfl⟩)) (by simp; rfl) (cutH_same hw fun j hj => rfl)
  | false =>
    obtain ⟨t1, ht1, hP⟩ := stream_put_c n (by omega) kk fl H b c tb tc false hk hw hfl (by omega) (by omega)
    have hk1 : (H.set kk (stB (b ++ c) t1 false))[kk]? = some (stB (b ++ c) t1 false) := hp_set_get _ _ _ hkl
    have hw1 : WfH (H.set kk (stB (b ++ c) t1 false)) := hw.set kk (by intro d hd; simp at hd; rcases hd with rfl | rfl; simp [inSc_okT ht1]; rfl)
    obtain ⟨t', tb', H', q1, q2, q3, q4, q5, q6⟩ := take_loop n fl kk H.length (fun x S6 h6 => match x with
      | .normal => none
      | .exit i6 => if i6 = 0 then some (.tup [S6.getD 4 .any, S6.getD 5 .any], h6) else none
      | .ret => some (.tup [S6.getD 4 .any, S6.getD 5 .any], h6)) hfl hkl (by omega) n (b ++ c) [] .ti t1 (H.set kk (stB (b ++ c) t1 false)) (by simp; omega) (by simp; omega) (by simp; omega)
      (fun x hx => by rcases List.mem_append.mp hx with h | h; exact hb x h; exact hc x h) (by simp; omega) hk1 ht1 hw1 (by simp) (.inl rfl)
    rw [List.nil_append] at q1
    obtain ⟨to, hto, hold⟩ := oldLeaf_oT q6 H' 3 frE (takeF (b ++ c)).1
    refine ⟨tb', to, q3, hto, ?_⟩
    simp only [stNext, stOut, Bool.false_eq_true, if_false]
    unfold stB at hk
    refine cW_of ((s___stream_Stream__Take_eq _ _ _ _ _).trans (by unfold s___stream_Stream__Take; simp -implicitDefEqProofs (disch := first | omega | (simp only [List.length_set, List.length_append, List.length_cons, List.length_nil, List.length_take, List.length_drop, List.length_map]; omega) | simp) [wrap_i64, wrap_u16_id, wrap_u8_id, tdiv_pos, tmod_pos, -getElem?_pos, -getElem?_neg, -List.length_eq_zero_iff, -List.getElem_cons_drop, hk, hP]; rw [s___stream_Stream__Take_L0_eq, LV_nil 3 frE]; exact q1)) (by simp [s___stream_Stream__Take_O0, hold]) (cutH_set hw (k := kk) hkl q2 (fun j hj hjk => (q4 j hj hjk).trans (hp_set_ne _ _ _ _ hjk)) (by unfold stB; simp [oldLeaf_okT q3]))
theorem stream_Held_c (n kk : Nat) (H : Heap) (b : List Int) (tb : Tag) (br : Bool) (hn : 1 ≤ n) (hk : H[kk]? = some (stB b tb br)) : cO n 41 [.ptr kk 0] H = some (I .i64 b.length) := by
  obtain ⟨n, rfl⟩ : ∃ m, n = m + 1 := ⟨n - 1, by omega⟩
  unfold stB at hk
  exact cO_of ((s___stream_Stream__Held_eq _ _ _ _).trans (by unfold s___stream_Stream__Held; simp -implicitDefEqProofs (disch := first | omega | (simp only [List.length_set, List.length_append, List.length_cons, List.length_nil, List.length_take, List.length_drop, List.length_map]; omega) | simp) [wrap_i64, wrap_u16_id, wrap_u8_id, tdiv_pos, tmod_pos, -getElem?_pos, -getElem?_neg, -List.length_eq_zero_iff, -List.getElem_cons_drop, hk]; first | exact rfl | exact ⟨rfl, rfl⟩)) (by simp)
theorem stream_Broken_c (n kk : Nat) (H : Heap) (b : List Int) (tb : Tag) (br : Bool) (hn : 1 ≤ n) (hk : H[kk]? = some (stB b tb br)) : cO n 63 [.ptr kk 0] H = some (Bo br) := by
  obtain ⟨n, rfl⟩ : ∃ m, n = m + 1 := ⟨n - 1, by omega⟩
  unfold stB at hk
  exact cO_of ((s___stream_Stream__Broken_eq _ _ _ _).trans (by unfold s___stream_Stream__Broken; simp -implicitDefEqProofs (disch := first | omega | (simp only [List.length_set, List.length_append, List.length_cons, List.length_nil, List.length_take, List.length_drop, List.length_map]; omega) | simp) [wrap_i64, wrap_u16_id, wrap_u8_id, tdiv_pos, tmod_pos, -getElem?_pos, -getElem?_neg, -List.length_eq_zero_iff, -List.getElem_cons_drop, hk]; first | exact rfl | exact ⟨rfl, rfl⟩)) (by simp)
theorem stream_New_c (n fl : Nat) (H : Heap) (hn : 1 ≤ n) : cK n 37 [] H fl = some (.ptr H.length 0, H ++ [stB [] .ti false]) := by
  obtain ⟨n, rfl⟩ : ∃ m, n = m + 1 := ⟨n - 1, by omega⟩
  unfold cK
  exact (s_stream_New_eq _ _ _).trans (by unfold s_stream_New; simp -implicitDefEqProofs (disch := first | omega | (simp only [List.length_set, List.length_append, List.length_cons, List.length_nil, List.length_take, List.length_drop, List.length_map]; omega) | simp) [wrap_i64, wrap_u16_id, wrap_u8_id, tdiv_pos, tmod_pos, -getElem?_pos, -getElem?_neg, -List.length_eq_zero_iff, -List.getElem_cons_drop]; rfl)
end Go.Proofs.Ytigfninpflemnab
