/- Texts of mine, laid together: GAskB, GAskR, GAskT, GAskU, GAns, GAnsB, FRef06, FSame01, GSame01, GRef06, GRef6T, GRef6G, GRef6P, GRef6Q, GAnsC, GAskZ, GAskY, GAnsP, GAnsQ, RdrA. -/
import Derived.Test.YtcpgmbpndpcmdaaKN5
namespace Go.Proofs.Ytcpgmbpndpcmdaa
open Go
set_option linter.unusedSimpArgs false
set_option linter.unusedVariables false
set_option maxRecDepth 100000
theorem fits_c (n : Nat) (hn : 1 ≤ n) (x m : Int) (hx : 0 ≤ x) (hm : 0 ≤ m) : cP n 55 false [I .i64 x, I .i64 m] = some (Bo (fitV x m)) := by
  obtain ⟨n, rfl⟩ : ∃ m, n = m + 1 := ⟨n - 1, by omega⟩
  refine cP_of (r := Bo (decide (x ≤ m) && (decide (0 < x) == decide (0 < m)))) (args' := [I .i64 x, I .i64 m]) (by simp [argEl_eq]) ((s_ask_fits_eq _ _ _ _ _).trans (by unfold s_ask_fits; simp -implicitDefEqProofs (disch := first | omega | (simp only [List.length_set, List.length_append, List.length_cons, List.length_nil, List.length_take, List.length_drop, List.length_map]; omega) | simp) [wrap_i64, wrap_u16_id, wrap_u8_id, tdiv_pos, tmod_pos, -getElem?_pos, -getElem?_neg, -List.length_eq_zero_iff, -List.getElem_cons_drop, -Bool.not_and, -Bool.not_or, -wantF_n, wantF_sy, wantF_sn, gO_some, gO_loadG, gO_lenD, gO_notD, gO_eqK1, gO_neK1, gO_ltK1, gO_leK1, gO_gtK1, gO_geK1, gO_max1, gO_addK1, gO_mulK1, gO_addK2, gO_ltK2, gO_leK2, gO_max2, gO_cvK, gO_idx, gO_pick, gO_pick2, gO_cP1, gO_cP1b, gO_cP2, gO_cP2a, gO_eqB, pick_t, pick_t2, pick_f, pick_f2, gd_gd, wantF_gt, wantF_gf, gO_pkf, gO_pkt, gO_pktn, gO_eqK2, gO_neK2, gO_gtK2, gO_geK2, gO_subK1, gO_subK2, gO_min1, gO_min2, gO_remK1, gO_cP3, gO_nilD, gO_fieldD, gO_idxArr1, gO_idxArr2, gO_idx2, gO_extD]; first | done | rfl)) ?_
  simp only [outD_flat, Option.some.injEq, DV.flat.injEq, Value.bool.injEq]
  unfold fitV
  rw [Bool.eq_iff_iff]
  simp
  omega
theorem formed_c (n : Nat) (hn : 3 ≤ n) (a : Rq) (t1 t2 : Tag) : cP n 43 false [rqE a t1 t2] = some (Bo (decide (FormedP a))) := by
  obtain ⟨n, rfl⟩ : ∃ m, n = m + 1 := ⟨n - 1, by omega⟩
  obtain ⟨c, ad, k, t, w, b, an, o⟩ := a
  have e1 := formOf_c n (by omega) c
  have f1 := fits_c n (by omega) (max k 0) (cntV c) (by omega) (cntV_le c).1
  have f2 := fits_c n (by omega) w.length (wrdV c) (by omega) (wrdV_le c).1
  have f3 := fits_c n (by omega) b.length (bitV c) (by omega) (bitV_le c).1
  unfold formD at e1
  have l1 := (layD_leaf c).1
  have l2 := (rdD_leaf c).1
  have fin : ∀ B, (∃ H', s__ask_Ask__formed n [] 0 (rqE ⟨c, ad, k, t, w, b, an, o⟩ .sh .sh) = some (Bo B, H')) → B = decide (FormedP ⟨c, ad, k, t, w, b, an, o⟩) → cP (n + 1) 43 false [rqE ⟨c, ad, k, t, w, b, an, o⟩ t1 t2] = some (Bo (decide (FormedP ⟨c, ad, k, t, w, b, an, o⟩))) := by
    rintro B ⟨H', h1⟩ h2
    rw [← h2]
    exact cP_of (r := Bo B) (args' := [rqE ⟨c, ad, k, t, w, b, an, o⟩ .sh .sh]) (by simp [arg_rq]) ((s__ask_Ask__formed_eq _ _ _ _).trans h1) (by simp)
  by_cases h : c = 43
  · have hd : decide (c = 43) = true := by simp [h]
    refine fin _ ⟨_, by unfold s__ask_Ask__formed rqE; simp -implicitDefEqProofs (disch := first | omega | (simp only [List.length_set, List.length_append, List.length_cons, List.length_nil, List.length_take, List.length_drop, List.length_map]; omega) | simp) [wrap_i64, wrap_u16_id, wrap_u8_id, tdiv_pos, tmod_pos, -getElem?_pos, -getElem?_neg, -List.length_eq_zero_iff, -List.getElem_cons_drop, -Bool.not_and, -Bool.not_or, -wantF_n, wantF_sy, wantF_sn, gO_some, gO_loadG, gO_lenD, gO_notD, gO_eqK1, gO_neK1, gO_ltK1, gO_leK1, gO_gtK1, gO_geK1, gO_max1, gO_addK1, gO_mulK1, gO_addK2, gO_ltK2, gO_leK2, gO_max2, gO_cvK, gO_idx, gO_pick, gO_pick2, gO_cP1, gO_cP1b, gO_cP2, gO_cP2a, gO_eqB, pick_t, pick_t2, pick_f, pick_f2, gd_gd, wantF_gt, wantF_gf, gO_pkf, gO_pkt, gO_pktn, gO_eqK2, gO_neK2, gO_gtK2, gO_geK2, gO_subK1, gO_subK2, gO_min1, gO_min2, gO_remK1, gO_cP3, gO_nilD, gO_fieldD, gO_idxArr1, gO_idxArr2, gO_idx2, gO_extD, e1, l1, l2, f1, f2, f3, hd]; first | done | exact ⟨rfl, rfl⟩⟩ ?_
    clear e1 f1 f2 f3
    rw [Bool.eq_iff_iff]
    by_cases hk : 0 ≤ k
    · rw [show max k 0 = k by omega]
      simp only [FormedP, Bool.and_eq_true, Bool.or_eq_true, decide_eq_true_eq]
      grind
    · simp [FormedP, fitV, hk]
      omega
  · refine fin _ ⟨_, by unfold s__ask_Ask__formed rqE; simp -implicitDefEqProofs (disch := first | omega | (simp only [List.length_set, List.length_append, List.length_cons, List.length_nil, List.length_take, List.length_drop, List.length_map]; omega) | simp) [wrap_i64, wrap_u16_id, wrap_u8_id, tdiv_pos, tmod_pos, -getElem?_pos, -getElem?_neg, -List.length_eq_zero_iff, -List.getElem_cons_drop, -Bool.not_and, -Bool.not_or, -wantF_n, wantF_sy, wantF_sn, gO_some, gO_loadG, gO_lenD, gO_notD, gO_eqK1, gO_neK1, gO_ltK1, gO_leK1, gO_gtK1, gO_geK1, gO_max1, gO_addK1, gO_mulK1, gO_addK2, gO_ltK2, gO_leK2, gO_max2, gO_cvK, gO_idx, gO_pick, gO_pick2, gO_cP1, gO_cP1b, gO_cP2, gO_cP2a, gO_eqB, pick_t, pick_t2, pick_f, pick_f2, gd_gd, wantF_gt, wantF_gf, gO_pkf, gO_pkt, gO_pktn, gO_eqK2, gO_neK2, gO_gtK2, gO_geK2, gO_subK1, gO_subK2, gO_min1, gO_min2, gO_remK1, gO_cP3, gO_nilD, gO_fieldD, gO_idxArr1, gO_idxArr2, gO_idx2, gO_extD, e1, l1, l2, f1, f2, f3, h]; first | done | exact ⟨rfl, rfl⟩ | trace_state⟩ ?_
    clear e1 f1 f2 f3
    rw [Bool.eq_iff_iff]
    by_cases hk : 0 ≤ k
    · rw [show max k 0 = k by omega]
      simp only [FormedP, Bool.and_eq_true, Bool.or_eq_true, decide_eq_true_eq]
      grind
    · simp [FormedP, fitV, hk]
      omega
theorem formed_le (a : Rq) (h : FormedP a) : 0 ≤ a.cnt ∧ a.cnt ≤ 2000 ∧ 0 ≤ a.addr ∧ a.addr ≤ 65535 ∧ 0 ≤ a.to_ ∧ a.to_ ≤ 65535 ∧ a.words.length ≤ 123 ∧ a.bits.length ≤ 1968 := by
  obtain ⟨_, h2, h3, h4, _, _, h7, h8, _, h10, h11⟩ := h
  have := fit_pos h2 (cntV_le _).1
  have := fit_pos h3 (wrdV_le _).1
  have := fit_pos h4 (bitV_le _).1
  have := cntV_le a.code
  have := wrdV_le a.code
  have := bitV_le a.code
  omega
theorem placed_c (n : Nat) (hn : 3 ≤ n) (a : Rq) (t1 t2 : Tag) (h : FormedP a) : cP n 44 false [rqE a t1 t2] = some (Bo (decide (PlacedP a))) := by
  obtain ⟨n, rfl⟩ : ∃ m, n = m + 1 := ⟨n - 1, by omega⟩
  obtain ⟨h1, h2, h3, h4, h5, h6, h7, h8⟩ := formed_le a h
  have hc : isV a.code = true := h.1
  obtain ⟨c, ad, k, t, w, b, an, o⟩ := a
  simp only at h1 h2 h3 h4 h5 h6 h7 h8 hc
  clear h
  have fin : ∀ B, (∃ H', s__ask_Ask__placed n [] 0 (rqE ⟨c, ad, k, t, w, b, an, o⟩ .sh .sh) = some (Bo B, H')) → B = decide (PlacedP ⟨c, ad, k, t, w, b, an, o⟩) → cP (n + 1) 44 false [rqE ⟨c, ad, k, t, w, b, an, o⟩ t1 t2] = some (Bo (decide (PlacedP ⟨c, ad, k, t, w, b, an, o⟩))) := by
    rintro B ⟨H', h1⟩ h2
    rw [← h2]
    exact cP_of (r := Bo B) (args' := [rqE ⟨c, ad, k, t, w, b, an, o⟩ .sh .sh]) (by simp [arg_rq]) ((s__ask_Ask__placed_eq _ _ _ _).trans h1) (by simp)
  rcases code_cases c with rfl | rfl | rfl | rfl | rfl | rfl | rfl | rfl | rfl | rfl | rfl | h
  case inr.inr.inr.inr.inr.inr.inr.inr.inr.inl =>
    by_cases hp : t + w.length ≤ 65536
    · exact fin _ ⟨_, by unfold s__ask_Ask__placed rqE; simp -implicitDefEqProofs (disch := first | omega | (simp only [List.length_set, List.length_append, List.length_cons, List.length_nil, List.length_take, List.length_drop, List.length_map]; omega) | simp) [wrap_i64, wrap_u16_id, wrap_u8_id, tdiv_pos, tmod_pos, -getElem?_pos, -getElem?_neg, -List.length_eq_zero_iff, -List.getElem_cons_drop]; first | done | exact ⟨rfl, rfl⟩⟩ (by rw [Bool.eq_iff_iff]; simp [PlacedP, placesV, hp])
    · exact fin _ ⟨_, by unfold s__ask_Ask__placed rqE; simp -implicitDefEqProofs (disch := first | omega | (simp only [List.length_set, List.length_append, List.length_cons, List.length_nil, List.length_take, List.length_drop, List.length_map]; omega) | simp) [wrap_i64, wrap_u16_id, wrap_u8_id, tdiv_pos, tmod_pos, -getElem?_pos, -getElem?_neg, -List.length_eq_zero_iff, -List.getElem_cons_drop]; first | done | exact ⟨rfl, rfl⟩⟩ (by rw [Bool.eq_iff_iff]; simp [PlacedP, placesV, hp])
  case inr.inr.inr.inr.inr.inr.inr.inr.inr.inr.inr => exact absurd hc (by unfold isV; simp [h])
  all_goals exact fin _ ⟨_, by unfold s__ask_Ask__placed rqE; simp -implicitDefEqProofs (disch := first | omega | (simp only [List.length_set, List.length_append, List.length_cons, List.length_nil, List.length_take, List.length_drop, List.length_map]; omega) | simp) [wrap_i64, wrap_u16_id, wrap_u8_id, tdiv_pos, tmod_pos, -getElem?_pos, -getElem?_neg, -List.length_eq_zero_iff, -List.getElem_cons_drop]; first | done | exact ⟨rfl, rfl⟩⟩ (by rw [Bool.eq_iff_iff]; simp [PlacedP, placesV])
def RightP (a : Rq) : Prop := FormedP a ∧ PlacedP a
instance (a : Rq) : Decidable (RightP a) := by unfold RightP; infer_instance
theorem Right_c (n : Nat) (hn : 5 ≤ n) (a : Rq) (t1 t2 : Tag) : cP n 21 false [rqE a t1 t2] = some (Bo (decide (RightP a))) := by
  obtain ⟨n, rfl⟩ : ∃ m, n = m + 1 := ⟨n - 1, by omega⟩
  have e1 := formed_c n (by omega) a .sh .sh
  by_cases h : FormedP a
  · have e2 := placed_c n (by omega) a .sh .sh h
    have hr : decide (RightP a) = decide (PlacedP a) := by simp [RightP, h]
    rw [hr]
    unfold rqE at e1 e2
    rw [decide_eq_true h] at e1
    exact cP_of (r := Bo (decide (PlacedP a))) (args' := [rqE a .sh .sh]) (by simp [arg_rq]) ((s_ask_Right_eq _ _ _ _).trans (by unfold s_ask_Right rqE; simp -implicitDefEqProofs (disch := first | omega | (simp only [List.length_set, List.length_append, List.length_cons, List.length_nil, List.length_take, List.length_drop, List.length_map]; omega) | simp) [wrap_i64, wrap_u16_id, wrap_u8_id, tdiv_pos, tmod_pos, -getElem?_pos, -getElem?_neg, -List.length_eq_zero_iff, -List.getElem_cons_drop, e1, e2]; first | exact rfl | exact ⟨rfl, rfl⟩)) (by simp)
  · have hr : decide (RightP a) = false := by simp [RightP, h]
    rw [hr]
    unfold rqE at e1
    rw [decide_eq_false h] at e1
    exact cP_of (r := Bo false) (args' := [rqE a .sh .sh]) (by simp [arg_rq]) ((s_ask_Right_eq _ _ _ _).trans (by unfold s_ask_Right rqE; simp -implicitDefEqProofs (disch := first | omega | (simp only [List.length_set, List.length_append, List.length_cons, List.length_nil, List.length_take, List.length_drop, List.length_map]; omega) | simp) [wrap_i64, wrap_u16_id, wrap_u8_id, tdiv_pos, tmod_pos, -getElem?_pos, -getElem?_neg, -List.length_eq_zero_iff, -List.getElem_cons_drop, e1]; first | exact rfl | exact ⟨rfl, rfl⟩)) (by simp)
theorem cVP_fn (n i : Nat) (args : List DV) (h : ENV.md i = .pure false) : cVP n (fnD i) args = cP n i false args := by
  unfold cVP callVP
  have : fnOf (fnD i) = some (i, []) := rfl
  rw [this]
  simp only [h, List.append_nil]
  rfl
theorem lay_c (n : Nat) (hn : 30 ≤ n) (a : Rq) (h : FormedP a) (ho : RqOk a) (h43 : a.code ≠ 43) : cVP n (layD a.code) [rqE a .sh .sh] = some (LV 1 (I .u8) (tailV a) .sh) := by
  have hc : isV a.code = true := h.1
  rcases code_cases a.code with e | e | e | e | e | e | e | e | e | e | e | e
  case inr.inr.inr.inr.inr.inr.inr.inr.inr.inr.inl => exact absurd e h43
  case inr.inr.inr.inr.inr.inr.inr.inr.inr.inr.inr => exact absurd hc (by unfold isV; simp [e])
  case inr.inr.inr.inr.inl =>
    have hb : a.bits ≠ [] := by
      have := fit_pos h.2.2.2.1 (bitV_le _).1
      rw [e] at this
      intro hx
      rw [hx] at this
      have e2 : bitV 5 = 1 := rfl
      rw [e2] at this
      simp at this
    have : layD a.code = fnD 58 := by rw [e]; rfl
    rw [this, cVP_fn _ _ _ (by kernel_rfl), layBit_c n (by omega) a .sh .sh hb]
    simp [tailV, e]
  case inr.inr.inr.inr.inr.inl =>
    have : layD a.code = fnD 60 := by rw [e]; rfl
    rw [this, cVP_fn _ _ _ (by kernel_rfl), layWord_c n (by omega) a ho .sh .sh]
    simp [tailV, e]
  case inr.inr.inr.inr.inr.inr.inl =>
    have : layD a.code = fnD 62 := by rw [e]; rfl
    rw [this, cVP_fn _ _ _ (by kernel_rfl), layBits_c n (by omega) a ho .sh .sh]
    simp [tailV, e]
  case inr.inr.inr.inr.inr.inr.inr.inl =>
    have : layD a.code = fnD 64 := by rw [e]; rfl
    rw [this, cVP_fn _ _ _ (by kernel_rfl), layWords_c n (by omega) a ho .sh .sh]
    simp [tailV, e]
  case inr.inr.inr.inr.inr.inr.inr.inr.inl =>
    have : layD a.code = fnD 66 := by rw [e]; rfl
    rw [this, cVP_fn _ _ _ (by kernel_rfl), layMasks_c n (by omega) a ho .sh .sh]
    simp [tailV, e]
  case inr.inr.inr.inr.inr.inr.inr.inr.inr.inl =>
    have : layD a.code = fnD 68 := by rw [e]; rfl
    rw [this, cVP_fn _ _ _ (by kernel_rfl), layBoth_c n (by omega) a ho .sh .sh]
    simp [tailV, e]
  all_goals
    have : layD a.code = fnD 56 := by rw [e]; rfl
    rw [this, cVP_fn _ _ _ (by kernel_rfl), layCount_c n (by omega) a .sh .sh]
    simp [tailV, e]
theorem tail_len (a : Rq) (ho : RqOk a) : (tailV a).length ≤ 7000 := by
  have h1 := wb_len a ho
  have h2 := pkl_le a ho
  unfold tailV btV wtV twoV
  repeat' split
  all_goals simp
  all_goals omega
theorem text_c (n : Nat) (hn : 40 ≤ n) (a : Rq) (h : FormedP a) (ho : RqOk a) (t1 t2 : Tag) : cP n 25 false [rqE a t1 t2] = some (LV 1 (I .u8) (textV a) .sh) := by
  obtain ⟨n, rfl⟩ : ∃ m, n = m + 1 := ⟨n - 1, by omega⟩
  by_cases h43 : a.code = 43
  · have ht : textV a = [43, 14, a.cnt % 256, a.addr % 256] := by simp [textV, h43]
    rw [ht]
    have e1 := buildL_u4 a.code 14 (a.cnt % 256) (a.addr % 256)
    have hd : decide (a.code = 43) = true := by simp [h43]
    exact cP_of (r := LV 1 (I .u8) [a.code, 14, a.cnt % 256, a.addr % 256] .ti) (args' := [rqE a .sh .sh]) (by simp [arg_rq]) ((s__ask_Ask__text_eq _ _ _ _).trans (by unfold s__ask_Ask__text rqE; simp -implicitDefEqProofs (disch := first | omega | (simp only [List.length_set, List.length_append, List.length_cons, List.length_nil, List.length_take, List.length_drop, List.length_map]; omega) | simp) [wrap_i64, wrap_u16_id, wrap_u8_id, tdiv_pos, tmod_pos, -getElem?_pos, -getElem?_neg, -List.length_eq_zero_iff, -List.getElem_cons_drop, hd, wrap_u8, e1]; first | exact rfl | exact ⟨rfl, rfl⟩)) (by simp [h43])
  · have e1 := formOf_c n (by omega) a.code
    have e2 := ask_two_c n (by omega) a.addr
    have e3 := lay_c n (by omega) a h ho h43
    have e4 := buildL_bt3 [a.code % 256] (twoV a.addr) (tailV a) .ti .sh .sh
    simp only [plT] at e4
    have ht : textV a = a.code % 256 :: twoV a.addr ++ tailV a := by simp [textV, h43]
    have hc : catB [([a.code % 256], Tag.ti), (twoV a.addr, Tag.sh), (tailV a, Tag.sh)] = textV a := by rw [ht]; simp [catB]
    have e5 := concat_c n [([a.code % 256], .ti), (twoV a.addr, .sh), (tailV a, .sh)] .ti (by rw [hc, ht]; have := tail_len a ho; simp [twoV]; omega) (by simp) (by simp; omega)
    rw [hc] at e5
    unfold formD at e1
    unfold rqE at e3
    have l1 := (layD_leaf a.code).1
    have l2 := (rdD_leaf a.code).1
    exact cP_of (r := LV 1 (I .u8) (textV a) .sh) (args' := [rqE a .sh .sh]) (by simp [arg_rq]) ((s__ask_Ask__text_eq _ _ _ _).trans (by unfold s__ask_Ask__text rqE; simp -implicitDefEqProofs (disch := first | omega | (simp only [List.length_set, List.length_append, List.length_cons, List.length_nil, List.length_take, List.length_drop, List.length_map]; omega) | simp) [wrap_i64, wrap_u16_id, wrap_u8_id, tdiv_pos, tmod_pos, -getElem?_pos, -getElem?_neg, -List.length_eq_zero_iff, -List.getElem_cons_drop, h43, wrap_u8, e1, e2, e3, e4, e5, l1, l2]; first | exact rfl | exact ⟨rfl, rfl⟩)) (by simp)
theorem Bytes_c (n : Nat) (hn : 50 ≤ n) (a : Rq) (ho : RqOk a) (t1 t2 : Tag) : cP n 10 false [rqE a t1 t2] = some (if RightP a then .tup [LV 1 (I .u8) (textV a) .sh, I .i64 0] else .tup [LV 1 (I .u8) [] .sh, I .i64 2]) := by
  obtain ⟨n, rfl⟩ : ∃ m, n = m + 1 := ⟨n - 1, by omega⟩
  have e1 := Right_c n (by omega) a .sh .sh
  by_cases h : RightP a
  · rw [if_pos h]
    rw [decide_eq_true h] at e1
    have e2 := text_c n (by omega) a h.1 ho .sh .sh
    unfold rqE at e1 e2
    exact cP_of (r := .tup [LV 1 (I .u8) (textV a) .sh, I .i64 0]) (args' := [rqE a .sh .sh]) (by simp [arg_rq]) ((s_ask_Bytes_eq _ _ _ _).trans (by unfold s_ask_Bytes rqE; simp -implicitDefEqProofs (disch := first | omega | (simp only [List.length_set, List.length_append, List.length_cons, List.length_nil, List.length_take, List.length_drop, List.length_map]; omega) | simp) [wrap_i64, wrap_u16_id, wrap_u8_id, tdiv_pos, tmod_pos, -getElem?_pos, -getElem?_neg, -List.length_eq_zero_iff, -List.getElem_cons_drop, e1, e2]; first | exact rfl | exact ⟨rfl, rfl⟩)) (by simp)
  · rw [if_neg h]
    rw [decide_eq_false h] at e1
    unfold rqE at e1
    exact cP_of (r := .tup [LV 1 (I .u8) [] .ti, I .i64 2]) (args' := [rqE a .sh .sh]) (by simp [arg_rq]) ((s_ask_Bytes_eq _ _ _ _).trans (by unfold s_ask_Bytes rqE; simp -implicitDefEqProofs (disch := first | omega | (simp only [List.length_set, List.length_append, List.length_cons, List.length_nil, List.length_take, List.length_drop, List.length_map]; omega) | simp) [wrap_i64, wrap_u16_id, wrap_u8_id, tdiv_pos, tmod_pos, -getElem?_pos, -getElem?_neg, -List.length_eq_zero_iff, -List.getElem_cons_drop, e1, LV_nil 1 (I .u8)]; first | exact rfl | exact ⟨rfl, rfl⟩)) (by simp)
end Go.Proofs.Ytcpgmbpndpcmdaa
namespace Go.Proofs.Ytcpgmbpndpcmdaa
open Go
set_option linter.unusedSimpArgs false
set_option linter.unusedVariables false
set_option maxRecDepth 100000
set_option linter.unusedSectionVars false
def Pl2 (t : Tag) : Prop := t = .sh ∨ t = .ti
theorem bytes_drop {l : List Int} (h : Bytes l) (i : Nat) : Bytes (l.drop i) := fun x hx => h x (List.mem_of_mem_drop hx)
section
variable (n : Nat) (hn : 5 ≤ n) (l : List Int) (h : Bytes l) (hl : l.length ≤ 10000) (c : Int) (a : Rq)
include hn h hl
end
section
variable (n : Nat) (hn : 10 ≤ n) (l : List Int) (h : Bytes l) (hl : l.length ≤ 10000) (c : Int) (a : Rq) (t1 t2 : Tag) (p1 : Pl2 t1) (p2 : Pl2 t2)
include hn h hl p1 p2
end
end Go.Proofs.Ytcpgmbpndpcmdaa
namespace Go.Proofs.Ytcpgmbpndpcmdaa
open Go
set_option linter.unusedSimpArgs false
set_option linter.unusedVariables false
set_option maxRecDepth 100000
set_option linter.unusedSectionVars false
def headV (b : List Int) : Bool := isV (b.getD 0 0) && !(decide (b.getD 0 0 = 43) && decide (1 < b.length) && decide (¬ b.getD 1 0 = 14))
end Go.Proofs.Ytcpgmbpndpcmdaa
namespace Go.Proofs.Ytcpgmbpndpcmdaa
open Go
set_option linter.unusedSimpArgs false
set_option linter.unusedVariables false
set_option maxRecDepth 100000
theorem two_bytes (n : Int) : Bytes (twoV n) := by
  intro x hx
  simp [twoV] at hx
  omega
theorem cons_bytes {x : Int} {l : List Int} (hx : 0 ≤ x ∧ x < 256) (hl : Bytes l) : Bytes (x :: l) := by
  intro y hy
  rcases List.mem_cons.1 hy with rfl | hy
  · exact hx
  · exact hl y hy
theorem wb_bytes (l : List Int) : Bytes (wbI l) := ofB_bytes _
theorem pk_bytes (l : List Bool) : Bytes (pkI l) := ofB_bytes _
theorem bt_bytes (a : Rq) : Bytes (btV a) := bytes_app (two_bytes _) (cons_bytes (by omega) (pk_bytes _))
theorem wt_bytes (a : Rq) : Bytes (wtV a) := bytes_app (two_bytes _) (cons_bytes (by omega) (wb_bytes _))
theorem nil_bytes : Bytes [] := fun x hx => by simp at hx
theorem text_bytes (a : Rq) : Bytes (textV a) := by
  unfold textV
  split
  · exact cons_bytes (by omega) (cons_bytes (by omega) (cons_bytes (by omega) (cons_bytes (by omega) nil_bytes)))
  · refine bytes_app (cons_bytes (by omega) (two_bytes _)) ?_
    unfold tailV
    split
    · split
      · exact cons_bytes (by omega) (cons_bytes (by omega) nil_bytes)
      · exact cons_bytes (by omega) (cons_bytes (by omega) nil_bytes)
    · split
      · exact wb_bytes _
      · split
        · exact bt_bytes a
        · split
          · exact wt_bytes a
          · split
            · exact bytes_app (two_bytes _) (two_bytes _)
            · split
              · exact bytes_app (bytes_app (two_bytes _) (two_bytes _)) (wt_bytes a)
              · exact two_bytes _
end Go.Proofs.Ytcpgmbpndpcmdaa
namespace Go.Proofs.Ytcpgmbpndpcmdaa
open Go
set_option linter.unusedSimpArgs false
set_option linter.unusedVariables false
def Sg (s : ByteArray) : DV := .flat (.string s)
@[simp] theorem cells_Sg (s : ByteArray) : (Sg s).cells = [Sg s] := rfl
@[simp] theorem leaf_Sg (s : ByteArray) : (Sg s).leaf = true := rfl
structure An where
  exc : Int
  bits : List Bool
  words : List Int
  texts : List ByteArray
def anE (x : An) (t t2 t3 : Tag) : DV := .agg [I .i64 x.exc, LV 1 Bo x.bits t, LV 1 (I .u16) x.words t2, LV 1 Sg x.texts t3]
def rdBits (c : Int) : Bool := decide (c = 1 ∨ c = 2)
def rdWords (c : Int) : Bool := decide (c = 3 ∨ c = 4 ∨ c = 23)
def rdTexts (c : Int) : Bool := decide (c = 43)
theorem reads_c (n : Nat) (hn : 1 ≤ n) (c : Int) : cP n 32 false [I .i64 c] = some (.tup [Bo (rdBits c), Bo (rdWords c), Bo (rdTexts c)]) := by
  obtain ⟨n, rfl⟩ : ∃ m, n = m + 1 := ⟨n - 1, by omega⟩
  have go : ∀ r, .tup [Bo (rdBits c), Bo (rdWords c), Bo (rdTexts c)] = r → (∀ H', outD false H' r = some r) → (∃ H', s_answer_reads n [] 0 (I .i64 c) = some (r, H')) → cP (n + 1) 32 false [I .i64 c] = some (.tup [Bo (rdBits c), Bo (rdWords c), Bo (rdTexts c)]) := by
    intro r h1 h2 ⟨H', h⟩
    rw [h1]
    exact cP_of (args' := [I .i64 c]) (by simp [argEl_eq]) ((s_answer_reads_eq _ _ _ _).trans h) (h2 H')
  unfold rdBits rdWords rdTexts at *
  by_cases c1 : c = 1 ∨ c = 2
  · refine go (.tup [Bo true, Bo false, Bo false]) (by simp; omega) (fun H' => by simp) ?_
    rcases c1 with rfl | rfl <;> exact ⟨_, by unfold s_answer_reads; simp -implicitDefEqProofs (disch := first | omega | (simp only [List.length_set, List.length_append, List.length_cons, List.length_nil, List.length_take, List.length_drop, List.length_map]; omega) | simp) [wrap_i64, wrap_u16_id, wrap_u8_id, tdiv_pos, tmod_pos, -getElem?_pos, -getElem?_neg, -List.length_eq_zero_iff, -List.getElem_cons_drop]; rfl⟩
  by_cases c2 : c = 3 ∨ c = 4 ∨ c = 23
  · refine go (.tup [Bo false, Bo true, Bo false]) (by simp; omega) (fun H' => by simp) ?_
    rcases c2 with rfl | rfl | rfl <;> exact ⟨_, by unfold s_answer_reads; simp -implicitDefEqProofs (disch := first | omega | (simp only [List.length_set, List.length_append, List.length_cons, List.length_nil, List.length_take, List.length_drop, List.length_map]; omega) | simp) [wrap_i64, wrap_u16_id, wrap_u8_id, tdiv_pos, tmod_pos, -getElem?_pos, -getElem?_neg, -List.length_eq_zero_iff, -List.getElem_cons_drop]; rfl⟩
  have d1 : c ≠ 1 := by omega
  have d2 : c ≠ 2 := by omega
  have d3 : c ≠ 3 := by omega
  have d4 : c ≠ 4 := by omega
  have d5 : c ≠ 23 := by omega
  refine go (.tup [Bo false, Bo false, Bo (decide (c = 43))]) (by simp [d1, d2, d3, d4, d5]) (fun H' => by simp) ?_
  exact ⟨_, by unfold s_answer_reads; simp -implicitDefEqProofs (disch := first | omega | (simp only [List.length_set, List.length_append, List.length_cons, List.length_nil, List.length_take, List.length_drop, List.length_map]; omega) | simp) [wrap_i64, wrap_u16_id, wrap_u8_id, tdiv_pos, tmod_pos, -getElem?_pos, -getElem?_neg, -List.length_eq_zero_iff, -List.getElem_cons_drop, d1, d2, d3, d4, d5]; rfl⟩
theorem many_c (n : Nat) (hn : 1 ≤ n) (b : Bool) (x : Int) : cP n 33 false [Bo b, I .i64 x] = some (I .i64 (if b then x else 0)) := by
  obtain ⟨n, rfl⟩ : ∃ m, n = m + 1 := ⟨n - 1, by omega⟩
  cases b
  · exact cP_of (r := I .i64 0) (args' := [Bo false, I .i64 x]) (by simp [argEl_eq]) ((s_answer_many_eq _ _ _ _ _).trans (by unfold s_answer_many; simp -implicitDefEqProofs (disch := first | omega | (simp only [List.length_set, List.length_append, List.length_cons, List.length_nil, List.length_take, List.length_drop, List.length_map]; omega) | simp) [wrap_i64, wrap_u16_id, wrap_u8_id, tdiv_pos, tmod_pos, -getElem?_pos, -getElem?_neg, -List.length_eq_zero_iff, -List.getElem_cons_drop]; first | exact rfl | exact ⟨rfl, rfl⟩)) (by simp)
  · exact cP_of (r := I .i64 x) (args' := [Bo true, I .i64 x]) (by simp [argEl_eq]) ((s_answer_many_eq _ _ _ _ _).trans (by unfold s_answer_many; simp -implicitDefEqProofs (disch := first | omega | (simp only [List.length_set, List.length_append, List.length_cons, List.length_nil, List.length_take, List.length_drop, List.length_map]; omega) | simp) [wrap_i64, wrap_u16_id, wrap_u8_id, tdiv_pos, tmod_pos, -getElem?_pos, -getElem?_neg, -List.length_eq_zero_iff, -List.getElem_cons_drop]; first | exact rfl | exact ⟨rfl, rfl⟩)) (by simp)
def fitT : Int → List ByteArray → Bool
  | _, [] => true
  | n, s :: r => if 245 < s.size ∨ 253 < n + (2 + (s.size : Int)) then false else fitT (n + (2 + (s.size : Int))) r
theorem txf_L (n fl : Nat) (K : Ex → KF) (x1 x2 : DV) (l : List ByteArray) (t : Tag) (hs : ∀ s ∈ l, s.size ≤ 1000000) (hl : l.length ≤ 1000) : ∀ (m i : Nat) (acc : Int) (H : Heap), l.length < m + i → i ≤ l.length → 0 ≤ acc → acc ≤ 253 →
    s_answer_textsFit_L0 n fl K m x1 x2 (I .i64 acc) (LV 1 Sg l t) (I .i64 l.length) (I .i64 i) H = if fitT acc (l.drop i) = true then K (.exit 0) (s_answer_textsFit_O0 x1 x2 .any) H else K .ret (s_answer_textsFit_O0 x1 x2 (Bo false)) H := by
  intro m
  induction m with
  | zero => intro i acc H h; omega
  | succ m ih =>
    intro i acc H hm hi h0 h1
    unfold s_answer_textsFit_L0 s_answer_textsFit_B0
    by_cases h : i < l.length
    · have hz := hs _ (List.getElem_mem h)
      have hls : lenStr (Sg l[i]) = some (I .i64 (l[i].size : Int)) := rfl
      rw [List.drop_eq_getElem_cons h]
      have hi2 : ((i + 1 : Nat) : Int) = (i : Int) + 1 := by omega
      by_cases c1 : 245 < l[i].size
      · have hf : fitT acc (l[i] :: l.drop (i + 1)) = false := by unfold fitT; rw [if_pos (.inl c1)]
        simp only [hf, Bool.false_eq_true, if_false]
        simp -implicitDefEqProofs (disch := first | omega | (simp only [List.length_set, List.length_append, List.length_cons, List.length_nil, List.length_take, List.length_drop, List.length_map]; omega) | simp) [wrap_i64, wrap_u16_id, wrap_u8_id, tdiv_pos, tmod_pos, -getElem?_pos, -getElem?_neg, -List.length_eq_zero_iff, -List.getElem_cons_drop, h, hls, c1]
      · by_cases c2 : 253 < acc + (2 + (l[i].size : Int))
        · have hf : fitT acc (l[i] :: l.drop (i + 1)) = false := by unfold fitT; rw [if_pos (.inr c2)]
          simp only [hf, Bool.false_eq_true, if_false]
          simp -implicitDefEqProofs (disch := first | omega | (simp only [List.length_set, List.length_append, List.length_cons, List.length_nil, List.length_take, List.length_drop, List.length_map]; omega) | simp) [wrap_i64, wrap_u16_id, wrap_u8_id, tdiv_pos, tmod_pos, -getElem?_pos, -getElem?_neg, -List.length_eq_zero_iff, -List.getElem_cons_drop, h, hls, c1, c2]
        · have hf : fitT acc (l[i] :: l.drop (i + 1)) = fitT (acc + (2 + (l[i].size : Int))) (l.drop (i + 1)) := by conv => lhs; unfold fitT; rw [if_neg (by omega)]
          simp only [hf]
          have ih' := ih (i + 1) (acc + (2 + (l[i].size : Int))) H (by omega) (by omega) (by omega) (by omega)
          rw [hi2] at ih'
          simp -implicitDefEqProofs (disch := first | omega | (simp only [List.length_set, List.length_append, List.length_cons, List.length_nil, List.length_take, List.length_drop, List.length_map]; omega) | simp) [wrap_i64, wrap_u16_id, wrap_u8_id, tdiv_pos, tmod_pos, -getElem?_pos, -getElem?_neg, -List.length_eq_zero_iff, -List.getElem_cons_drop, h, hls, c1, c2, ih']
    · have : i = l.length := by omega
      subst this
      rw [List.drop_length]
      simp only [fitT, if_true]
      simp -implicitDefEqProofs (disch := first | omega | (simp only [List.length_set, List.length_append, List.length_cons, List.length_nil, List.length_take, List.length_drop, List.length_map]; omega) | simp) [wrap_i64, wrap_u16_id, wrap_u8_id, tdiv_pos, tmod_pos, -getElem?_pos, -getElem?_neg, -List.length_eq_zero_iff, -List.getElem_cons_drop]
def fitA (addr : Int) (l : List ByteArray) : Bool := fitT 7 l && decide (0 < l.length) && decide (addr + l.length ≤ 256)
theorem textsFit_c (n : Nat) (a : Rq) (t1 t2 t : Tag) (l : List ByteArray) (ha : 0 ≤ a.addr ∧ a.addr ≤ 65535) (hs : ∀ s ∈ l, s.size ≤ 1000000) (hl : l.length ≤ 1000) (hn : l.length + 4 ≤ n) : cP n 34 false [rqE a t1 t2, LV 1 Sg l t] = some (Bo (fitA a.addr l)) := by
  obtain ⟨n, rfl⟩ : ∃ m, n = m + 1 := ⟨n - 1, by omega⟩
  have q : ∀ K H, loopG [1, 2, 5, 8, 9, 10] [1, 2, 4] 38 (s_answer_textsFit_b0 n 0) n (s_answer_textsFit_I0 (LV 1 Sg l .sh) (.ptr 0 0) (I .i64 7) (LV 1 Sg l .sh) (I .i64 l.length) (I .i64 0)) H K = _ := fun K H => (s_answer_textsFit_L0_eq _ _ _ _ _ _ _ _ _ _ _).trans (txf_L n 0 K (LV 1 Sg l .sh) (.ptr 0 0) l .sh hs hl n 0 7 H (by omega) (by omega) (by omega) (by omega))
  rw [List.drop_zero] at q
  unfold fitA
  have go : ∀ r, (∃ H', s_answer_textsFit n [] 0 (rqE a .sh .sh) (LV 1 Sg l .sh) = some (Bo r, H')) → cP (n + 1) 34 false [rqE a t1 t2, LV 1 Sg l t] = some (Bo r) := by
    intro r ⟨H', h⟩
    exact cP_of (r := Bo r) (args' := [rqE a .sh .sh, LV 1 Sg l .sh]) (by simp [argEl_eq, rqE]) ((s_answer_textsFit_eq _ _ _ _ _).trans h) (by simp)
  obtain ⟨ha0, ha1⟩ := ha
  cases hf : fitT 7 l with
  | false =>
    rw [hf] at q
    refine go false ?_
    exact ⟨_, by unfold s_answer_textsFit rqE; simp -implicitDefEqProofs (disch := first | omega | (simp only [List.length_set, List.length_append, List.length_cons, List.length_nil, List.length_take, List.length_drop, List.length_map]; omega) | simp) [wrap_i64, wrap_u16_id, wrap_u8_id, tdiv_pos, tmod_pos, -getElem?_pos, -getElem?_neg, -List.length_eq_zero_iff, -List.getElem_cons_drop, q, s_answer_textsFit_O0]; rfl⟩
  | true =>
    rw [hf] at q
    by_cases c1 : 0 < l.length
    · by_cases c2 : a.addr + l.length ≤ 256
      · rw [decide_eq_true c1, decide_eq_true c2]
        refine go true ?_
        exact ⟨_, by unfold s_answer_textsFit rqE; simp -implicitDefEqProofs (disch := first | omega | (simp only [List.length_set, List.length_append, List.length_cons, List.length_nil, List.length_take, List.length_drop, List.length_map]; omega) | simp) [wrap_i64, wrap_u16_id, wrap_u8_id, tdiv_pos, tmod_pos, -getElem?_pos, -getElem?_neg, -List.length_eq_zero_iff, -List.getElem_cons_drop, q, s_answer_textsFit_O0, c1, c2]; rfl⟩
      · rw [decide_eq_true c1, decide_eq_false c2]
        refine go false ?_
        exact ⟨_, by unfold s_answer_textsFit rqE; simp -implicitDefEqProofs (disch := first | omega | (simp only [List.length_set, List.length_append, List.length_cons, List.length_nil, List.length_take, List.length_drop, List.length_map]; omega) | simp) [wrap_i64, wrap_u16_id, wrap_u8_id, tdiv_pos, tmod_pos, -getElem?_pos, -getElem?_neg, -List.length_eq_zero_iff, -List.getElem_cons_drop, q, s_answer_textsFit_O0, c1, c2]; rfl⟩
    · rw [decide_eq_false c1]
      refine go false ?_
      exact ⟨_, by unfold s_answer_textsFit rqE; simp -implicitDefEqProofs (disch := first | omega | (simp only [List.length_set, List.length_append, List.length_cons, List.length_nil, List.length_take, List.length_drop, List.length_map]; omega) | simp) [wrap_i64, wrap_u16_id, wrap_u8_id, tdiv_pos, tmod_pos, -getElem?_pos, -getElem?_neg, -List.length_eq_zero_iff, -List.getElem_cons_drop, q, s_answer_textsFit_O0, c1]; rfl⟩
structure AnOk (x : An) : Prop where
  w : Words x.words
  t : ∀ s ∈ x.texts, s.size ≤ 1000000
  l : x.texts.length ≤ 1000
def ansB (rp b1 b2 b3 : Bool) (a : Rq) (x : An) : Bool :=
  rp && decide (0 ≤ x.exc) && decide (x.exc ≤ 255) && decide ((x.bits.length : Int) = if b1 && decide (x.exc = 0) then a.cnt else 0) && decide ((x.words.length : Int) = if b2 && decide (x.exc = 0) then a.cnt else 0) &&
    (if b3 && decide (x.exc = 0) then fitA a.addr x.texts else decide ((x.texts.length : Int) = 0))
def ansV (a : Rq) (x : An) : Bool := ansB (decide (RightP a)) (rdBits a.code) (rdWords a.code) (rdTexts a.code) a x
theorem ansRight_c (n : Nat) (hn : 1100 ≤ n) (a : Rq) (x : An) (ok : AnOk x) (t1 t2 t3 t4 t5 : Tag) : cP n 16 false [rqE a t1 t2, anE x t3 t4 t5] = some (Bo (ansV a x)) := by
  obtain ⟨n, rfl⟩ : ∃ m, n = m + 1 := ⟨n - 1, by omega⟩
  have k1 := Right_c n (by omega) a .sh .sh
  have k2 := reads_c n (by omega) a.code
  have k3 := fun b x => many_c n (by omega) b x
  have hl := ok.l
  obtain ⟨V, hV⟩ : ∃ V, V = ansV a x := ⟨_, rfl⟩
  rw [← hV]
  have go : ∀ r, ansV a x = r → (∃ H', s_answer_Right n [] 0 (rqE a .sh .sh) (anE x .sh .sh .sh) = some (Bo r, H')) → cP (n + 1) 16 false [rqE a t1 t2, anE x t3 t4 t5] = some (Bo V) := by
    intro r h1 ⟨H', h⟩
    rw [hV, h1]
    exact cP_of (r := Bo r) (args' := [rqE a .sh .sh, anE x .sh .sh .sh]) (by simp [argEl_eq, rqE, anE]) ((s_answer_Right_eq _ _ _ _ _).trans h) (by simp)
  clear hV
  unfold ansV ansB at go
  by_cases hr : RightP a
  · obtain ⟨_, _, b1, b2, _⟩ := formed_le a hr.1
    have k4 := textsFit_c n a .sh .sh .sh x.texts ⟨b1, b2⟩ ok.t ok.l (by omega)
    rw [decide_eq_true hr] at k1 go
    by_cases e0 : 0 ≤ x.exc
    · by_cases e1 : x.exc ≤ 255
      · generalize rdBits a.code = r1 at *
        generalize rdWords a.code = r2 at *
        generalize rdTexts a.code = r3 at *
        rw [decide_eq_true e0, decide_eq_true e1] at go
        by_cases z : x.exc = 0
        · rw [decide_eq_true z] at go
          simp only [Bool.and_true, Bool.true_and] at go
          by_cases c1 : (x.bits.length : Int) = if r1 = true then a.cnt else 0
          · by_cases c2 : (x.words.length : Int) = if r2 = true then a.cnt else 0
            · rw [decide_eq_true c1, decide_eq_true c2] at go
              simp only [Bool.true_and] at go
              refine go _ rfl ?_
              cases r3 <;> cases r1 <;> cases r2 <;> simp only [if_true, if_false, Bool.false_eq_true] at c1 c2 ⊢ <;> exact ⟨_, by unfold s_answer_Right rqE anE at *; simp -implicitDefEqProofs (disch := first | omega | (simp only [List.length_set, List.length_append, List.length_cons, List.length_nil, List.length_take, List.length_drop, List.length_map]; omega) | simp) [wrap_i64, wrap_u16_id, wrap_u8_id, tdiv_pos, tmod_pos, -getElem?_pos, -getElem?_neg, -List.length_eq_zero_iff, -List.getElem_cons_drop, k1, k2, k3, k4, z, c1, c2]; rfl⟩
            · rw [decide_eq_true c1, decide_eq_false c2] at go
              simp only [Bool.true_and, Bool.false_and] at go
              refine go false rfl ?_
              cases r1 <;> cases r2 <;> simp only [if_true, if_false, Bool.false_eq_true] at c1 c2 <;> exact ⟨_, by unfold s_answer_Right rqE anE at *; simp -implicitDefEqProofs (disch := first | omega | (simp only [List.length_set, List.length_append, List.length_cons, List.length_nil, List.length_take, List.length_drop, List.length_map]; omega) | simp) [wrap_i64, wrap_u16_id, wrap_u8_id, tdiv_pos, tmod_pos, -getElem?_pos, -getElem?_neg, -List.length_eq_zero_iff, -List.getElem_cons_drop, k1, k2, k3, z, c1, c2]; rfl⟩
          · rw [decide_eq_false c1] at go
            simp only [Bool.false_and] at go
            refine go false rfl ?_
            cases r1
            · simp only [if_false, Bool.false_eq_true] at c1
              have d1 : ¬ x.bits.length = 0 := by omega
              exact ⟨_, by unfold s_answer_Right rqE anE at *; simp -implicitDefEqProofs (disch := first | omega | (simp only [List.length_set, List.length_append, List.length_cons, List.length_nil, List.length_take, List.length_drop, List.length_map]; omega) | simp) [wrap_i64, wrap_u16_id, wrap_u8_id, tdiv_pos, tmod_pos, -getElem?_pos, -getElem?_neg, -List.length_eq_zero_iff, -List.getElem_cons_drop, k1, k2, k3, z, d1]; rfl⟩
            · simp only [if_true] at c1
              exact ⟨_, by unfold s_answer_Right rqE anE at *; simp -implicitDefEqProofs (disch := first | omega | (simp only [List.length_set, List.length_append, List.length_cons, List.length_nil, List.length_take, List.length_drop, List.length_map]; omega) | simp) [wrap_i64, wrap_u16_id, wrap_u8_id, tdiv_pos, tmod_pos, -getElem?_pos, -getElem?_neg, -List.length_eq_zero_iff, -List.getElem_cons_drop, k1, k2, k3, z, c1]; rfl⟩
        · rw [decide_eq_false z] at go
          simp only [Bool.and_false, Bool.true_and, Bool.false_eq_true, if_false] at go
          by_cases c1 : (x.bits.length : Int) = 0
          · by_cases c2 : (x.words.length : Int) = 0
            · rw [decide_eq_true c1, decide_eq_true c2] at go
              simp only [Bool.true_and] at go
              refine go _ rfl ?_
              cases r3 <;> cases r1 <;> cases r2 <;> exact ⟨_, by unfold s_answer_Right rqE anE at *; simp -implicitDefEqProofs (disch := first | omega | (simp only [List.length_set, List.length_append, List.length_cons, List.length_nil, List.length_take, List.length_drop, List.length_map]; omega) | simp) [wrap_i64, wrap_u16_id, wrap_u8_id, tdiv_pos, tmod_pos, -getElem?_pos, -getElem?_neg, -List.length_eq_zero_iff, -List.getElem_cons_drop, k1, k2, k3, z, c1, c2]; rfl⟩
            · rw [decide_eq_true c1, decide_eq_false c2] at go
              simp only [Bool.true_and, Bool.false_and] at go
              refine go false rfl ?_
              cases r1 <;> cases r2 <;> exact ⟨_, by unfold s_answer_Right rqE anE at *; simp -implicitDefEqProofs (disch := first | omega | (simp only [List.length_set, List.length_append, List.length_cons, List.length_nil, List.length_take, List.length_drop, List.length_map]; omega) | simp) [wrap_i64, wrap_u16_id, wrap_u8_id, tdiv_pos, tmod_pos, -getElem?_pos, -getElem?_neg, -List.length_eq_zero_iff, -List.getElem_cons_drop, k1, k2, k3, z, c1, c2]; rfl⟩
          · rw [decide_eq_false c1] at go
            simp only [Bool.false_and] at go
            refine go false rfl ?_
            have d1 : ¬ x.bits.length = 0 := by omega
            cases r1 <;> exact ⟨_, by unfold s_answer_Right rqE anE at *; simp -implicitDefEqProofs (disch := first | omega | (simp only [List.length_set, List.length_append, List.length_cons, List.length_nil, List.length_take, List.length_drop, List.length_map]; omega) | simp) [wrap_i64, wrap_u16_id, wrap_u8_id, tdiv_pos, tmod_pos, -getElem?_pos, -getElem?_neg, -List.length_eq_zero_iff, -List.getElem_cons_drop, k1, k2, k3, z, d1]; rfl⟩
      · rw [decide_eq_true e0, decide_eq_false e1] at go
        simp only [Bool.true_and, Bool.and_false, Bool.false_and] at go
        refine go false rfl ?_
        exact ⟨_, by unfold s_answer_Right rqE anE at *; simp -implicitDefEqProofs (disch := first | omega | (simp only [List.length_set, List.length_append, List.length_cons, List.length_nil, List.length_take, List.length_drop, List.length_map]; omega) | simp) [wrap_i64, wrap_u16_id, wrap_u8_id, tdiv_pos, tmod_pos, -getElem?_pos, -getElem?_neg, -List.length_eq_zero_iff, -List.getElem_cons_drop, k1, e0, e1]; rfl⟩
    · rw [decide_eq_false e0] at go
      simp only [Bool.true_and, Bool.and_false, Bool.false_and] at go
      refine go false rfl ?_
      exact ⟨_, by unfold s_answer_Right rqE anE at *; simp -implicitDefEqProofs (disch := first | omega | (simp only [List.length_set, List.length_append, List.length_cons, List.length_nil, List.length_take, List.length_drop, List.length_map]; omega) | simp) [wrap_i64, wrap_u16_id, wrap_u8_id, tdiv_pos, tmod_pos, -getElem?_pos, -getElem?_neg, -List.length_eq_zero_iff, -List.getElem_cons_drop, k1, e0]; rfl⟩
  · rw [decide_eq_false hr] at k1 go
    simp only [Bool.false_and] at go
    refine go false rfl ?_
    exact ⟨_, by unfold s_answer_Right rqE anE at *; simp -implicitDefEqProofs (disch := first | omega | (simp only [List.length_set, List.length_append, List.length_cons, List.length_nil, List.length_take, List.length_drop, List.length_map]; omega) | simp) [wrap_i64, wrap_u16_id, wrap_u8_id, tdiv_pos, tmod_pos, -getElem?_pos, -getElem?_neg, -List.length_eq_zero_iff, -List.getElem_cons_drop, k1]; rfl⟩
end Go.Proofs.Ytcpgmbpndpcmdaa
namespace Go.Proofs.Ytcpgmbpndpcmdaa
open Go
set_option linter.unusedSimpArgs false
set_option linter.unusedVariables false
def cntI (l : List Int) : List Int := (l.length : Int) % 256 :: l
theorem buildL_y1 (a : Int) : buildL false 1 1 (I .u8 0) [(0, I .u8 a)] = some (LV 1 (I .u8) [a] .ti) := rfl
theorem ansCounted_c (n : Nat) (hn : 1 ≤ n) (l : List Int) (t : Tag) (hl : l.length ≤ 100000) : cP n 36 false [LV 1 (I .u8) l t] = some (LV 1 (I .u8) (cntI l) .sh) := by
  obtain ⟨n, rfl⟩ : ∃ m, n = m + 1 := ⟨n - 1, by omega⟩
  have h1 := buildL_y1 ((l.length : Int) % 256)
  have e1 : IntKind.wrap .u8 (l.length : Int) = (l.length : Int) % 256 := rfl
  obtain ⟨t2, H', ha, _⟩ := appG_all (e := 5) (ag := false) (sz := 1) (by_ := 1) (n0 := 0) (enc := I .u8) (xs := [(l.length : Int) % 256]) (ys := l) (t := .ti) (t' := .sh) (H := []) (fl := 0) (by omega) (by simp) (.inl rfl) rfl (by simp; omega) (by simp; omega)
  rw [List.cons_append, List.nil_append] at ha
  exact cP_of (r := LV 1 (I .u8) (cntI l) t2) (args' := [LV 1 (I .u8) l .sh]) (by simp [argEl_eq]) ((s_answer_counted_eq _ _ _ _).trans (by unfold s_answer_counted cntI; simp -implicitDefEqProofs (disch := first | omega | (simp only [List.length_set, List.length_append, List.length_cons, List.length_nil, List.length_take, List.length_drop, List.length_map]; omega) | simp) [wrap_i64, wrap_u16_id, wrap_u8_id, tdiv_pos, tmod_pos, -getElem?_pos, -getElem?_neg, -List.length_eq_zero_iff, -List.getElem_cons_drop, h1, e1, ha]; first | exact rfl | exact ⟨rfl, rfl⟩)) (by simp)
def strI (s : ByteArray) : List Int := s.data.toList.map fun c => (c.toNat : Int)
theorem strI_len (s : ByteArray) : (strI s).length = s.size := by unfold strI; rw [List.length_map]; exact Array.length_toList
theorem conv_str (s : ByteArray) (h : s.size ≤ 1000000) : convD Try.prog 9 39 (Sg s) = some (LV 1 (I .u8) (strI s) .sh) := by
  have e : bytD Try.prog 9 39 s = some (LV 1 (I .u8) (strI s) .sh) := by
    unfold bytD
    simp only [Try.underlying9, Try.underlying39, Try.underlying5]
    rw [if_pos h]
    unfold LV strI
    rw [List.map_map]
    rfl
  unfold convD Sg
  simp only [e]
def nmI (addr : Int) : Nat → List ByteArray → List Int
  | _, [] => []
  | i, s :: r => (addr + i) % 256 :: (cntI (strI s) ++ nmI addr (i + 1) r)
theorem nm_L (n fl : Nat) (e0 : TypeId) (cs : List DV) (a : Rq) (ha : 0 ≤ a.addr ∧ a.addr ≤ 65535) (l : List ByteArray) (t : Tag) (hs : ∀ s ∈ l, s.size ≤ 245) (hl : l.length ≤ 300) (hcs : cs[1]? = some (I .i64 a.addr)) (hfl : fl ≤ 1) (hn : 1 ≤ n) : ∀ (m i : Nat) (acc : List Int) (tg : Tag) (H : Heap),
    l.length < m + i → i ≤ l.length → acc.length ≤ 10 + 250 * i → TgOk tg 5 1 1 acc.length H → 1 ≤ H.length → H[0]? = some (.cells e0 cs) →
    ∃ t' H', ∀ K, s_answer_named_L0 n fl K m (.ptr 0 0) (LV 1 (I .u8) acc tg) (LV 1 Sg l t) (I .i64 l.length) (I .i64 i) H = K (.exit 0) (s_answer_named_O0 (LV 1 (I .u8) (acc ++ nmI a.addr i (l.drop i)) t')) H' := by
  intro m
  induction m with
  | zero => intro i acc tg H h; omega
  | succ m ih =>
    intro i acc tg H hm hi hacc ht hH h0
    by_cases h : i < l.length
    · have hz := hs _ (List.getElem_mem h)
      have hzl := strI_len l[i]
      have h1 := buildL_y1 ((a.addr + (i : Int)) % 256)
      have e1 : IntKind.wrap .u8 (a.addr + (i : Int)) = (a.addr + (i : Int)) % 256 := rfl
      have hcv := conv_str l[i] (by omega)
      have hcl : (cntI (strI l[i])).length = l[i].size + 1 := by unfold cntI; simp [hzl]
      have hcc := ansCounted_c n hn (strI l[i]) .sh (by omega)
      obtain ⟨t2, H2, ha2, ht2, hH2, hj2, _⟩ := appG_all (e := 5) (ag := false) (sz := 1) (by_ := 1) (n0 := 1) (enc := I .u8) (xs := acc) (ys := [(a.addr + (i : Int)) % 256]) (t := tg) (t' := .ti) (H := H) (fl := fl) hfl hH ht rfl (by simp; omega) (by simp; omega)
      obtain ⟨t3, H3, ha3, ht3, hH3, hj3, _⟩ := appG_all (e := 5) (ag := false) (sz := 1) (by_ := 1) (n0 := 1) (enc := I .u8) (xs := acc ++ [(a.addr + (i : Int)) % 256]) (ys := cntI (strI l[i])) (t := t2) (t' := .sh) (H := H2) (fl := fl) hfl (by omega) ht2 rfl (by simp; omega) (by simp; omega)
      have h03 : H3[0]? = some (.cells e0 cs) := by rw [hj3 0 (by omega), hj2 0 (by omega)]; exact h0
      obtain ⟨t', H', hK⟩ := ih (i + 1) _ t3 H3 (by omega) (by omega) (by simp; omega) ht3 (by omega) h03
      have hi2 : ((i + 1 : Nat) : Int) = (i : Int) + 1 := by omega
      rw [hi2] at hK
      refine ⟨t', H', fun K => ?_⟩
      rw [List.drop_eq_getElem_cons h]
      have hK := hK K
      simp only [List.append_assoc, List.cons_append, List.nil_append] at hK
      unfold s_answer_named_L0 s_answer_named_B0
      have e2 : acc ++ nmI a.addr i (l[i] :: l.drop (i + 1)) = acc ++ [(a.addr + (i : Int)) % 256] ++ cntI (strI l[i]) ++ nmI a.addr (i + 1) (l.drop (i + 1)) := by simp [nmI]
      rw [e2]
      obtain ⟨g0, g1⟩ := ha
      simp -implicitDefEqProofs (disch := first | omega | (simp only [List.length_set, List.length_append, List.length_cons, List.length_nil, List.length_take, List.length_drop, List.length_map]; omega) | simp) [wrap_i64, wrap_u16_id, wrap_u8_id, tdiv_pos, tmod_pos, -getElem?_pos, -getElem?_neg, -List.length_eq_zero_iff, -List.getElem_cons_drop, h, h0, hcs, h1, e1, hcv, hcc, ha2, ha3, hK]
    · have : i = l.length := by omega
      subst this
      refine ⟨tg, H, fun K => ?_⟩
      unfold s_answer_named_L0 s_answer_named_B0
      rw [List.drop_length]
      simp -implicitDefEqProofs (disch := first | omega | (simp only [List.length_set, List.length_append, List.length_cons, List.length_nil, List.length_take, List.length_drop, List.length_map]; omega) | simp) [wrap_i64, wrap_u16_id, wrap_u8_id, tdiv_pos, tmod_pos, -getElem?_pos, -getElem?_neg, -List.length_eq_zero_iff, -List.getElem_cons_drop, nmI]
theorem buildL_y6 (a b : Int) : buildL false 1 6 (I .u8 0) [(0, I .u8 14), (1, I .u8 a), (2, I .u8 1), (3, I .u8 0), (4, I .u8 0), (5, I .u8 b)] = some (LV 1 (I .u8) [14, a, 1, 0, 0, b] .ti) := by kernel_rfl
def namedV (a : Rq) (l : List ByteArray) : List Int := [14, a.cnt % 256, 1, 0, 0, (l.length : Int) % 256] ++ nmI a.addr 0 l
theorem named_c (n : Nat) (a : Rq) (t1 t2 t : Tag) (l : List ByteArray) (ha : 0 ≤ a.addr ∧ a.addr ≤ 65535) (hs : ∀ s ∈ l, s.size ≤ 245) (hl : l.length ≤ 300) (hn : 310 ≤ n) : cP n 39 false [rqE a t1 t2, LV 1 Sg l t] = some (LV 1 (I .u8) (namedV a l) .sh) := by
  obtain ⟨n, rfl⟩ : ∃ m, n = m + 1 := ⟨n - 1, by omega⟩
  have h6 := buildL_y6 (a.cnt % 256) ((l.length : Int) % 256)
  have e1 : IntKind.wrap .u8 (l.length : Int) = (l.length : Int) % 256 := rfl
  have e2 : IntKind.wrap .u8 a.cnt = a.cnt % 256 := rfl
  obtain ⟨t', H', hK⟩ := nm_L n 0 28 [I .i64 a.code, I .i64 a.addr, I .i64 a.cnt, I .i64 a.to_, LV 1 (I .u16) a.words .sh, LV 1 Bo a.bits .sh, I .u16 a.and_, I .u16 a.or_] a ha l .sh hs hl rfl (by omega) (by omega) n 0 [14, a.cnt % 256, 1, 0, 0, (l.length : Int) % 256] .ti
    [.cells 28 [I .i64 a.code, I .i64 a.addr, I .i64 a.cnt, I .i64 a.to_, LV 1 (I .u16) a.words .sh, LV 1 Bo a.bits .sh, I .u16 a.and_, I .u16 a.or_]] (by omega) (by omega) (by simp) (.inl rfl) (by simp) rfl
  have q : ∀ K, loopG [2, 5, 15, 16, 17] [5] 36 (s_answer_named_b0 n 0) n (s_answer_named_I0 (.ptr 0 0) (LV 1 (I .u8) [14, a.cnt % 256, 1, 0, 0, (l.length : Int) % 256] .ti) (LV 1 Sg l .sh) (I .i64 l.length) (I .i64 0)) [.cells 28 [I .i64 a.code, I .i64 a.addr, I .i64 a.cnt, I .i64 a.to_, LV 1 (I .u16) a.words .sh, LV 1 Bo a.bits .sh, I .u16 a.and_, I .u16 a.or_]] K = _ := fun K => (s_answer_named_L0_eq _ _ _ _ _ _ _ _ _ _).trans (hK K)
  rw [List.drop_zero] at q
  unfold namedV
  refine cP_of (r := LV 1 (I .u8) ([14, a.cnt % 256, 1, 0, 0, (l.length : Int) % 256] ++ nmI a.addr 0 l) t') (H' := H') (args' := [rqE a .sh .sh, LV 1 Sg l .sh]) (by simp [argEl_eq, rqE]) ((s_answer_named_eq _ _ _ _ _).trans ?_) (by simp)
  unfold s_answer_named rqE
  simp -implicitDefEqProofs (disch := first | omega | (simp only [List.length_set, List.length_append, List.length_cons, List.length_nil, List.length_take, List.length_drop, List.length_map]; omega) | simp) [wrap_i64, wrap_u16_id, wrap_u8_id, tdiv_pos, tmod_pos, -getElem?_pos, -getElem?_neg, -List.length_eq_zero_iff, -List.getElem_cons_drop, h6, e1, e2, q, s_answer_named_O0]
end Go.Proofs.Ytcpgmbpndpcmdaa
namespace Go.Proofs.Ytcpgmbpndpcmdaa
open Go
set_option maxRecDepth 100000
set_option linter.unusedVariables false
end Go.Proofs.Ytcpgmbpndpcmdaa
namespace Go.Proofs.Ytcpgmbpndpcmdaa
open Go
set_option maxRecDepth 100000
set_option linter.unusedVariables false
def s_triuneref01_Same_I0 (x0 x1 x5 : DV) : List DV := [x0, x1, .any, .any, .any, x5, .any, .any, .any, .any, .any, .any, .any, .any, .any, .any, .any, .any, .any, .any, .any, .any, .any, .any, .any, .any]
def s_triuneref01_Same_O0 (x4 : DV) : List DV := [.any, .any, .any, .any, x4, .any, .any, .any, .any, .any, .any, .any, .any, .any, .any, .any, .any, .any, .any, .any, .any, .any, .any, .any, .any, .any]
noncomputable abbrev s_triuneref01_Same_b0 (n fl : Nat) : List DV → Heap → (Ex → KF) → R := execG ⟨Try.prog, callG Try.prog ENV n, ENV.md, fl, 26⟩ n (loopAt (bodyOf Try.f14) 0) []
noncomputable def s_triuneref01_Same_B0 (n fl : Nat) (rec : DV → DV → DV → Heap → R) (k : Ex → KF) (x0 x1 x5 : DV) (H : Heap) : R :=
  bi (lenD x0) fun d0 =>
  bi (ltK .i64 x5 d0) fun d1 =>
  condR d1 (
  bi (idxSl 1 x0 x5) fun d2 =>
  bi (loadG false 1 d2 H) fun d3 =>
  bi (idxSl 1 x1 x5) fun d4 =>
  bi (loadG false 1 d4 H) fun d5 =>
  bi (neK .u8 d3 d5) fun d6 =>
  condR d6 (
  k .ret (s_triuneref01_Same_O0 (Bo false)) H) (
  bi (addK .i64 x5 (I .i64 1)) fun d7 =>
  rec x0 x1 d7 H)) (
  k (.exit 0) (s_triuneref01_Same_O0 .any) H)
noncomputable def s_triuneref01_Same_L0 (n fl : Nat) (k : Ex → KF) : Nat → DV → DV → DV → Heap → R
  | 0, _, _, _, _ => none
  | m + 1, x0, x1, x5, H => s_triuneref01_Same_B0 n fl (s_triuneref01_Same_L0 n fl k m) k x0 x1 x5 H
theorem s_triuneref01_Same_S0 (n fl m : Nat) (k : Ex → KF) (x0 x1 x5 : DV) (H : Heap) : loopG [0, 1, 5] [4] 26 (s_triuneref01_Same_b0 n fl) (m + 1) (s_triuneref01_Same_I0 x0 x1 x5) H k = s_triuneref01_Same_B0 n fl (fun x0 x1 x5 H => loopG [0, 1, 5] [4] 26 (s_triuneref01_Same_b0 n fl) m (s_triuneref01_Same_I0 x0 x1 x5) H k) k x0 x1 x5 H := by kernel_rfl
theorem s_triuneref01_Same_L0_eq (n fl : Nat) (k : Ex → KF) : ∀ (m : Nat) (x0 x1 x5 : DV) (H : Heap), loopG [0, 1, 5] [4] 26 (s_triuneref01_Same_b0 n fl) m (s_triuneref01_Same_I0 x0 x1 x5) H k = s_triuneref01_Same_L0 n fl k m x0 x1 x5 H := by
  intro m
  induction m with
  | zero => intros; rfl
  | succ m ih =>
    intro x0 x1 x5 H
    rw [s_triuneref01_Same_S0, show (fun x0 x1 x5 H => loopG [0, 1, 5] [4] 26 (s_triuneref01_Same_b0 n fl) m (s_triuneref01_Same_I0 x0 x1 x5) H k) = s_triuneref01_Same_L0 n fl k m from by funext x0 x1 x5 H; exact ih _ _ _ _]
    rw [s_triuneref01_Same_L0]
noncomputable def s_triuneref01_Same (n : Nat) (H : Heap) (fl : Nat) (a0 a1 : DV) : R :=
  bi (lenD a0) fun d0 =>
  bi (lenD a1) fun d1 =>
  bi (neK .i64 d0 d1) fun d2 =>
  condR d2 (
  some ((Bo false), H)) (
  loopG [0, 1, 5] [4] 26 (s_triuneref01_Same_b0 n fl) n (s_triuneref01_Same_I0 a0 a1 (I .i64 0)) H fun x S3 h3 => match x with
  | .normal => none
  | .exit i3 => (
  if i3 = 0 then (
  some ((Bo true), h3)) else (
  none))
  | .ret => (
  some ((S3.getD 4 .any), h3)))
theorem s_triuneref01_Same_eq (n : Nat) (H : Heap) (fl : Nat) (a0 a1 : DV) : callG Try.prog ENV (n + 1) 14 [a0, a1] H fl = s_triuneref01_Same n H fl a0 a1 := by kernel_rfl
end Go.Proofs.Ytcpgmbpndpcmdaa
namespace Go.Proofs.Ytcpgmbpndpcmdaa
open Go
set_option linter.unusedSimpArgs false
theorem ref01_Same_L (n fl : Nat) (k : Ex → KF) (l1 l2 : List Int) (hl : l1.length = l2.length) (hl1 : l1.length ≤ 1000000) : ∀ (m i : Nat) (H : Heap), l1.length < m + i → i ≤ l1.length →
    s_triuneref01_Same_L0 n fl k m (LV 1 (I .u8) l1 .sh) (LV 1 (I .u8) l2 .sh) (I .i64 i) H = if l1.drop i = l2.drop i then k (.exit 0) (s_triuneref01_Same_O0 .any) H else k .ret (s_triuneref01_Same_O0 (Bo false)) H := by
  intro m
  induction m with
  | zero => intro i H h; omega
  | succ m ih =>
    intro i H hm hi
    unfold s_triuneref01_Same_L0 s_triuneref01_Same_B0
    by_cases h : i < l1.length
    · have d1 : l1.drop i = l1[i] :: l1.drop (i + 1) := List.drop_eq_getElem_cons h
      have d2 : l2.drop i = l2[i] :: l2.drop (i + 1) := List.drop_eq_getElem_cons (by omega)
      have h' : i < l2.length := by omega
      rw [d1, d2]
      by_cases e : l1[i] = l2[i]
      · have ih' := ih (i + 1) H (by omega) (by omega)
        have hi2 : ((i + 1 : Nat) : Int) = (i : Int) + 1 := by omega
        rw [hi2] at ih'
        simp -implicitDefEqProofs (disch := first | omega | (simp only [List.length_set, List.length_append, List.length_cons, List.length_nil, List.length_take, List.length_drop, List.length_map]; omega) | simp) [wrap_i64, wrap_u16_id, wrap_u8_id, tdiv_pos, tmod_pos, -getElem?_pos, -getElem?_neg, -List.length_eq_zero_iff, -List.getElem_cons_drop, h, h', e, ih']
      · simp -implicitDefEqProofs (disch := first | omega | (simp only [List.length_set, List.length_append, List.length_cons, List.length_nil, List.length_take, List.length_drop, List.length_map]; omega) | simp) [wrap_i64, wrap_u16_id, wrap_u8_id, tdiv_pos, tmod_pos, -getElem?_pos, -getElem?_neg, -List.length_eq_zero_iff, -List.getElem_cons_drop, h, h', e]
    · have d1 : l1.drop i = [] := by simp; omega
      have d2 : l2.drop i = [] := by simp; omega
      rw [d1, d2, if_pos rfl]
      simp -implicitDefEqProofs (disch := first | omega | (simp only [List.length_set, List.length_append, List.length_cons, List.length_nil, List.length_take, List.length_drop, List.length_map]; omega) | simp) [wrap_i64, wrap_u16_id, wrap_u8_id, tdiv_pos, tmod_pos, -getElem?_pos, -getElem?_neg, -List.length_eq_zero_iff, -List.getElem_cons_drop, h]
theorem ref01_Same_c (n : Nat) (l1 l2 : List Int) (t1 t2 : Tag) (hl1 : l1.length ≤ 1000000) (hn : l1.length + 2 ≤ n) : cP n 14 false [LV 1 (I .u8) l1 t1, LV 1 (I .u8) l2 t2] = some (Bo (decide (l1 = l2))) := by
  obtain ⟨n, rfl⟩ : ∃ m, n = m + 1 := ⟨n - 1, by omega⟩
  by_cases hl : l1.length = l2.length
  · by_cases e : l1 = l2
    · refine cP_of (args' := [LV 1 (I .u8) l1 .sh, LV 1 (I .u8) l2 .sh]) (by simp [argEl_eq]) ((s_triuneref01_Same_eq _ _ _ _ _).trans (by unfold s_triuneref01_Same; simp -implicitDefEqProofs (disch := first | omega | (simp only [List.length_set, List.length_append, List.length_cons, List.length_nil, List.length_take, List.length_drop, List.length_map]; omega) | simp) [wrap_i64, wrap_u16_id, wrap_u8_id, tdiv_pos, tmod_pos, -getElem?_pos, -getElem?_neg, -List.length_eq_zero_iff, -List.getElem_cons_drop, hl]; rw [s_triuneref01_Same_L0_eq]; erw [ref01_Same_L n 0 _ l1 l2 hl hl1 n 0 [] (by omega) (by omega)]; rw [if_pos (by simp [e])]; first | done | exact rfl)) ?_
      simp [e]
    · refine cP_of (args' := [LV 1 (I .u8) l1 .sh, LV 1 (I .u8) l2 .sh]) (by simp [argEl_eq]) ((s_triuneref01_Same_eq _ _ _ _ _).trans (by unfold s_triuneref01_Same; simp -implicitDefEqProofs (disch := first | omega | (simp only [List.length_set, List.length_append, List.length_cons, List.length_nil, List.length_take, List.length_drop, List.length_map]; omega) | simp) [wrap_i64, wrap_u16_id, wrap_u8_id, tdiv_pos, tmod_pos, -getElem?_pos, -getElem?_neg, -List.length_eq_zero_iff, -List.getElem_cons_drop, hl]; rw [s_triuneref01_Same_L0_eq]; erw [ref01_Same_L n 0 _ l1 l2 hl hl1 n 0 [] (by omega) (by omega)]; rw [if_neg (by simpa using e)]; first | done | exact rfl)) ?_
      simp [e, s_triuneref01_Same_O0]
  · have e : ¬ l1 = l2 := fun h => hl (by rw [h])
    refine cP_of (args' := [LV 1 (I .u8) l1 .sh, LV 1 (I .u8) l2 .sh]) (by simp [argEl_eq]) ((s_triuneref01_Same_eq _ _ _ _ _).trans (by unfold s_triuneref01_Same; simp -implicitDefEqProofs (disch := first | omega | (simp only [List.length_set, List.length_append, List.length_cons, List.length_nil, List.length_take, List.length_drop, List.length_map]; omega) | simp) [wrap_i64, wrap_u16_id, wrap_u8_id, tdiv_pos, tmod_pos, -getElem?_pos, -getElem?_neg, -List.length_eq_zero_iff, -List.getElem_cons_drop, hl]; first | exact rfl | exact ⟨rfl, rfl⟩)) ?_
    simp [e]
end Go.Proofs.Ytcpgmbpndpcmdaa
namespace Go.Proofs.Ytcpgmbpndpcmdaa
open Go
set_option linter.unusedSimpArgs false
set_option linter.unusedVariables false
set_option maxRecDepth 100000
end Go.Proofs.Ytcpgmbpndpcmdaa
namespace Go.Proofs.Ytcpgmbpndpcmdaa
open Go
set_option linter.unusedSimpArgs false
set_option linter.unusedVariables false
set_option maxRecDepth 100000
def hT (b0 : DBlk) (xs : List Int) : Heap := [b0, .token 5 1 xs.length]
end Go.Proofs.Ytcpgmbpndpcmdaa
namespace Go.Proofs.Ytcpgmbpndpcmdaa
open Go
set_option linter.unusedSimpArgs false
set_option linter.unusedVariables false
set_option maxRecDepth 100000
def pbit (p : List Int) (i : Nat) : Bool := decide (p.getD (i / 8) 0 / 2 ^ (i % 8) % 2 = 1)
def gBits (n : Int) (p : List Int) : List Bool := (List.range (min n.toNat (8 * p.length))).map (pbit p)
end Go.Proofs.Ytcpgmbpndpcmdaa
namespace Go.Proofs.Ytcpgmbpndpcmdaa
open Go
set_option linter.unusedSimpArgs false
set_option linter.unusedVariables false
set_option maxRecDepth 100000
def guessV (b : List Int) : Rq :=
  let c := b.getD 0 0
  let a : Rq := ⟨c, numV b 1, 0, 0, [], [], 0, 0⟩
  if c = 5 then { a with bits := [decide (¬ numV b 3 = 0)] }
  else if c = 6 then { a with words := [numV b 3] }
  else if c = 15 then { a with bits := gBits (numV b 3) (b.drop 6) }
  else if c = 16 then { a with words := wdI (b.drop 6) }
  else if c = 22 then { a with and_ := numV b 3, or_ := numV b 5 }
  else if c = 23 then { a with cnt := numV b 3, to_ := numV b 5, words := wdI (b.drop 10) }
  else if c = 43 then (if b.length = 4 then ⟨c, b.getD 3 0, b.getD 2 0, 0, [], [], 0, 0⟩ else ⟨c, 0, 0, 0, [], [], 0, 0⟩)
  else { a with cnt := numV b 3 }
section
variable (n : Nat) (hn : 5 ≤ n) (l : List Int) (h : Bytes l) (hl : l.length ≤ 10000)
include hn h hl
end
end Go.Proofs.Ytcpgmbpndpcmdaa
namespace Go.Proofs.Ytcpgmbpndpcmdaa
open Go
set_option linter.unusedSimpArgs false
set_option linter.unusedVariables false
set_option maxRecDepth 100000
theorem text_len (a : Rq) (ho : RqOk a) : (textV a).length ≤ 8000 := by
  have := tail_len a ho
  unfold textV
  split
  · simp
  · simp [twoV]
    omega
end Go.Proofs.Ytcpgmbpndpcmdaa
namespace Go.Proofs.Ytcpgmbpndpcmdaa
open Go
set_option linter.unusedSimpArgs false
set_option linter.unusedVariables false
theorem fitT_all : ∀ (l : List ByteArray) (n : Int), fitT n l = true → ∀ s ∈ l, s.size ≤ 245
  | [], _, _ => by simp
  | x :: l, n, h => by
    unfold fitT at h
    split at h
    · cases h
    · rename_i hc
      intro s hs
      rcases List.mem_cons.1 hs with rfl | hs
      · omega
      · exact fitT_all l _ h s hs
def ansTextV (a : Rq) (x : An) : List Int :=
  if 0 < x.exc then [a.code + 128, x.exc] else if rdBits a.code = true then a.code :: cntI (pkI x.bits) else if rdWords a.code = true then a.code :: cntI (wbI x.words) else if rdTexts a.code = true then a.code :: namedV a x.texts
  else if a.code = 22 then textV a else (textV a).take 5
theorem buildL_y2 (a b : Int) : buildL false 1 2 (I .u8 0) [(0, I .u8 a), (1, I .u8 b)] = some (LV 1 (I .u8) [a, b] .ti) := rfl
theorem text_head (a : Rq) (h : isV a.code = true) : ∃ r, textV a = a.code :: r := by
  unfold isV at h
  have h := of_decide_eq_true h
  unfold textV
  split
  · rename_i e
    exact ⟨_, by rw [e]⟩
  · have : a.code % 256 = a.code := by omega
    exact ⟨_, by rw [this]; rfl⟩
theorem nmI_len (addr : Int) : ∀ (l : List ByteArray) (i : Nat), (∀ s ∈ l, s.size ≤ 245) → (nmI addr i l).length ≤ 250 * l.length
  | [], _, _ => by simp [nmI]
  | s :: l, i, h => by
    have h1 := nmI_len addr l (i + 1) (fun s hs => h s (by simp [hs]))
    have h2 := h s (by simp)
    have h3 := strI_len s
    simp only [nmI, cntI, List.length_cons, List.length_append]
    omega
theorem text_five (a : Rq) (h : FormedP a) (c1 : ¬ rdBits a.code = true) (c2 : ¬ rdWords a.code = true) (c3 : ¬ rdTexts a.code = true) : 5 ≤ (textV a).length ∧ (a.code = 22 → (textV a).length = 7) := by
  have hc := of_decide_eq_true h.1
  unfold rdBits at c1
  unfold rdWords at c2
  unfold rdTexts at c3
  simp only [decide_eq_true_eq] at c1 c2 c3
  have hw := h.2.2.1
  have h5 : a.code = 5 ∨ a.code = 6 ∨ a.code = 15 ∨ a.code = 16 ∨ a.code = 22 := by omega
  have hwl := wbI_length a.words
  unfold textV
  rw [if_neg c3]
  rcases h5 with e | e | e | e | e
  · refine ⟨?_, fun e2 => by omega⟩
    unfold tailV
    rw [if_pos e]
    split <;> simp [twoV]
  · refine ⟨?_, fun e2 => by omega⟩
    have : a.words.length = 1 := by
      rw [e] at hw
      have := of_decide_eq_true hw
      simp [wrdV] at this
      omega
    unfold tailV
    rw [if_neg (by omega), if_pos e]
    simp only [List.length_cons, List.length_append, twoV, List.length_nil]
    omega
  · refine ⟨?_, fun e2 => by omega⟩
    unfold tailV
    rw [if_neg (by omega), if_neg (by omega), if_pos e]
    simp only [List.length_cons, List.length_append, twoV, btV, List.length_nil]
    omega
  · refine ⟨?_, fun e2 => by omega⟩
    unfold tailV
    rw [if_neg (by omega), if_neg (by omega), if_neg (by omega), if_pos e]
    simp only [List.length_cons, List.length_append, twoV, wtV, List.length_nil]
    omega
  · unfold tailV
    rw [if_neg (by omega), if_neg (by omega), if_neg (by omega), if_neg (by omega), if_pos e]
    simp [twoV]
def ansBytV (a : Rq) (x : An) : DV := if RightP a then (if ansV a x = true then .tup [LV 1 (I .u8) (ansTextV a x) .sh, I .i64 0] else .tup [.list 0 [] .sh, I .i64 2]) else .tup [.list 0 [] .sh, I .i64 1]
theorem ansBytes_c (n : Nat) (hn : 1200 ≤ n) (a : Rq) (oa : RqOk a) (x : An) (ok : AnOk x) (t1 t2 t3 t4 t5 : Tag) : cP n 18 false [rqE a t1 t2, anE x t3 t4 t5] = some (ansBytV a x) := by
  obtain ⟨n, rfl⟩ : ∃ m, n = m + 1 := ⟨n - 1, by omega⟩
  have k1 := Bytes_c n (by omega) a oa .sh .sh
  have k2 := ansRight_c n (by omega) a x ok .sh .sh .sh .sh .sh
  have k3 := reads_c n (by omega) a.code
  have k4 := fun b x => many_c n (by omega) b x
  have go : ∀ r r', (∃ H', s_answer_Bytes n [] 0 (rqE a .sh .sh) (anE x .sh .sh .sh) = some (r, H')) → (∀ H', outD false H' r = some r') → ansBytV a x = r' → cP (n + 1) 18 false [rqE a t1 t2, anE x t3 t4 t5] = some (ansBytV a x) := by
    intro r r' ⟨H', h⟩ h2 h3
    rw [h3]
    exact cP_of (args' := [rqE a .sh .sh, anE x .sh .sh .sh]) (by simp [argEl_eq, rqE, anE]) ((s_answer_Bytes_eq _ _ _ _ _).trans h) (h2 H')
  by_cases hr : RightP a
  · rw [if_pos hr] at k1
    cases hv : ansV a x with
    | false =>
      rw [hv] at k2
      refine go (.tup [.list 0 [] .ti, I .i64 2]) (.tup [.list 0 [] .sh, I .i64 2]) ?_ (fun H' => by simp <;> rfl) (by unfold ansBytV; rw [if_pos hr, hv]; rfl)
      exact ⟨_, by unfold s_answer_Bytes rqE anE at *; simp -implicitDefEqProofs (disch := first | omega | (simp only [List.length_set, List.length_append, List.length_cons, List.length_nil, List.length_take, List.length_drop, List.length_map]; omega) | simp) [wrap_i64, wrap_u16_id, wrap_u8_id, tdiv_pos, tmod_pos, -getElem?_pos, -getElem?_neg, -List.length_eq_zero_iff, -List.getElem_cons_drop, k1, k2]; rfl⟩
    | true =>
      rw [hv] at k2
      have hb : ansBytV a x = .tup [LV 1 (I .u8) (ansTextV a x) .sh, I .i64 0] := by unfold ansBytV; rw [if_pos hr, hv]; rfl
      unfold ansV ansB at hv
      simp only [Bool.and_eq_true, decide_eq_true_eq] at hv
      obtain ⟨⟨⟨⟨⟨_, e0⟩, e1⟩, hbl⟩, hwl⟩, htx⟩ := hv
      obtain ⟨l1, l2, l3, l4, _⟩ := formed_le a hr.1
      obtain ⟨r, htext⟩ := text_head a hr.1.1
      have hcode : 0 ≤ a.code ∧ a.code ≤ 43 := by have := of_decide_eq_true hr.1.1; omega
      have w1 : IntKind.wrap .u8 a.code = a.code := by rw [wrap_u8]; omega
      have w2 : IntKind.wrap .u8 x.exc = x.exc := by rw [wrap_u8]; omega
      by_cases hx : 0 < x.exc
      · have ho : orI .u8 a.code 128 = a.code + 128 := by
          have h := of_decide_eq_true hr.1.1
          rcases h with h | h | h | h | h | h | h | h | h | h | h <;> rw [h] <;> decide
        have h2 := buildL_y2 (a.code + 128) x.exc
        refine go (.tup [LV 1 (I .u8) [a.code + 128, x.exc] .ti, I .i64 0]) (.tup [LV 1 (I .u8) [a.code + 128, x.exc] .sh, I .i64 0]) ?_ (fun H' => by simp) (by rw [hb]; unfold ansTextV; rw [if_pos hx])
        exact ⟨_, by unfold s_answer_Bytes rqE anE at *; simp -implicitDefEqProofs (disch := first | omega | (simp only [List.length_set, List.length_append, List.length_cons, List.length_nil, List.length_take, List.length_drop, List.length_map]; omega) | simp) [wrap_i64, wrap_u16_id, wrap_u8_id, tdiv_pos, tmod_pos, -getElem?_pos, -getElem?_neg, -List.length_eq_zero_iff, -List.getElem_cons_drop, k1, k2, hx, w1, w2, ho, h2]; rfl⟩
      · have hz : x.exc = 0 := by omega
        have hlen : 1 ≤ (textV a).length := by rw [htext]; simp
        have htk : (textV a).take 1 = [a.code] := by rw [htext]; rfl
        by_cases c1 : rdBits a.code = true
        · have hbl' : x.bits.length ≤ 2000 := by rw [if_pos ⟨c1, hz⟩] at hbl; omega
          have hp := word_Pack_c n x.bits .sh (by omega) (by omega)
          have hpl := pkI_length x.bits
          have hc := ansCounted_c n (by omega) (pkI x.bits) .sh (by omega)
          have s0 := fun (H : Heap) => appG_ti (e := 5) (ag := false) (sz := 1) (by_ := 1) (enc := I .u8) (xs := [a.code]) (ys := cntI (pkI x.bits)) (t' := .sh) (H := H) (fl := 0) (by simp [cntI]) rfl (by simp [cntI]; omega) (by simp [cntI]; omega)
          have ht : ansTextV a x = a.code :: cntI (pkI x.bits) := by unfold ansTextV; rw [if_neg hx, if_pos c1]
          rw [ht] at hb
          rw [c1] at k3
          refine go (.tup [LV 1 (I .u8) ([a.code] ++ cntI (pkI x.bits)) (.own 2), I .i64 0]) (.tup [LV 1 (I .u8) (a.code :: cntI (pkI x.bits)) .sh, I .i64 0]) ?_ (fun H' => by simp) hb
          exact ⟨_, by unfold s_answer_Bytes rqE anE at *; simp -implicitDefEqProofs (disch := first | omega | (simp only [List.length_set, List.length_append, List.length_cons, List.length_nil, List.length_take, List.length_drop, List.length_map]; omega) | simp) [wrap_i64, wrap_u16_id, wrap_u8_id, tdiv_pos, tmod_pos, -getElem?_pos, -getElem?_neg, -List.length_eq_zero_iff, -List.getElem_cons_drop, k1, k2, k3, hx, htk, hlen, hp, hc, s0]; rfl⟩
        · have d1 : rdBits a.code = false := by simpa using c1
          rw [d1] at k3
          by_cases c2 : rdWords a.code = true
          · have hwl' : x.words.length ≤ 2000 := by rw [if_pos ⟨c2, hz⟩] at hwl; omega
            have hp := word_Bytes_c n x.words .sh (by omega) ok.w (by omega)
            have hpl := wbI_length x.words
            have hc := ansCounted_c n (by omega) (wbI x.words) .sh (by omega)
            have s0 := fun (H : Heap) => appG_ti (e := 5) (ag := false) (sz := 1) (by_ := 1) (enc := I .u8) (xs := [a.code]) (ys := cntI (wbI x.words)) (t' := .sh) (H := H) (fl := 0) (by simp [cntI]) rfl (by simp [cntI]; omega) (by simp [cntI]; omega)
            have ht : ansTextV a x = a.code :: cntI (wbI x.words) := by unfold ansTextV; rw [if_neg hx, if_neg c1, if_pos c2]
            rw [ht] at hb
            rw [c2] at k3
            refine go (.tup [LV 1 (I .u8) ([a.code] ++ cntI (wbI x.words)) (.own 2), I .i64 0]) (.tup [LV 1 (I .u8) (a.code :: cntI (wbI x.words)) .sh, I .i64 0]) ?_ (fun H' => by simp) hb
            exact ⟨_, by unfold s_answer_Bytes rqE anE at *; simp -implicitDefEqProofs (disch := first | omega | (simp only [List.length_set, List.length_append, List.length_cons, List.length_nil, List.length_take, List.length_drop, List.length_map]; omega) | simp) [wrap_i64, wrap_u16_id, wrap_u8_id, tdiv_pos, tmod_pos, -getElem?_pos, -getElem?_neg, -List.length_eq_zero_iff, -List.getElem_cons_drop, k1, k2, k3, hx, htk, hlen, hp, hc, s0]; rfl⟩
          · have d2 : rdWords a.code = false := by simpa using c2
            rw [d2] at k3
            by_cases c3 : rdTexts a.code = true
            · rw [if_pos ⟨c3, hz⟩] at htx
              unfold fitA at htx
              simp only [Bool.and_eq_true, decide_eq_true_eq] at htx
              obtain ⟨⟨f1, f2⟩, f3⟩ := htx
              have hn3 := named_c n a .sh .sh .sh x.texts ⟨l3, l4⟩ (fitT_all _ _ f1) (by omega) (by omega)
              have hnl : (namedV a x.texts).length ≤ 100000 := by
                have := nmI_len a.addr x.texts 0 (fitT_all _ _ f1)
                unfold namedV
                simp only [List.length_append, List.length_cons, List.length_nil]
                omega
              have s0 := fun (H : Heap) => appG_ti (e := 5) (ag := false) (sz := 1) (by_ := 1) (enc := I .u8) (xs := [a.code]) (ys := namedV a x.texts) (t' := .sh) (H := H) (fl := 0) (by simp [namedV]) rfl (by simp; omega) (by simp; omega)
              have ht : ansTextV a x = a.code :: namedV a x.texts := by unfold ansTextV; rw [if_neg hx, if_neg c1, if_neg c2, if_pos c3]
              rw [ht] at hb
              rw [c3] at k3
              refine go (.tup [LV 1 (I .u8) ([a.code] ++ namedV a x.texts) (.own 2), I .i64 0]) (.tup [LV 1 (I .u8) (a.code :: namedV a x.texts) .sh, I .i64 0]) ?_ (fun H' => by simp) hb
              exact ⟨_, by unfold s_answer_Bytes rqE anE at *; simp -implicitDefEqProofs (disch := first | omega | (simp only [List.length_set, List.length_append, List.length_cons, List.length_nil, List.length_take, List.length_drop, List.length_map]; omega) | simp) [wrap_i64, wrap_u16_id, wrap_u8_id, tdiv_pos, tmod_pos, -getElem?_pos, -getElem?_neg, -List.length_eq_zero_iff, -List.getElem_cons_drop, k1, k2, k3, hx, htk, hlen, hn3, s0]; rfl⟩
            · have d3 : rdTexts a.code = false := by simpa using c3
              rw [d3] at k3
              obtain ⟨h5, h7⟩ := text_five a hr.1 c1 c2 c3
              by_cases h22 : a.code = 22
              · have h7 := h7 h22
                have ht : ansTextV a x = (textV a).take 7 := by unfold ansTextV; rw [if_neg hx, if_neg c1, if_neg c2, if_neg c3, if_pos h22, List.take_of_length_le (by omega)]
                rw [ht] at hb
                have m1 := k4 true 2
                refine go (.tup [LV 1 (I .u8) ((textV a).take 7) .sh, I .i64 0]) (.tup [LV 1 (I .u8) ((textV a).take 7) .sh, I .i64 0]) ?_ (fun H' => by simp) hb
                have h22' : decide (a.code = 22) = true := by simpa using h22
                exact ⟨_, by unfold s_answer_Bytes rqE anE at *; simp -implicitDefEqProofs (disch := first | omega | (simp only [List.length_set, List.length_append, List.length_cons, List.length_nil, List.length_take, List.length_drop, List.length_map]; omega) | simp) [wrap_i64, wrap_u16_id, wrap_u8_id, tdiv_pos, tmod_pos, -getElem?_pos, -getElem?_neg, -List.length_eq_zero_iff, -List.getElem_cons_drop, k1, k2, k3, hx, htk, hlen, h7, m1, h22']; exact ⟨rfl, rfl⟩⟩
              · have ht : ansTextV a x = (textV a).take 5 := by unfold ansTextV; rw [if_neg hx, if_neg c1, if_neg c2, if_neg c3, if_neg h22]
                rw [ht] at hb
                have m1 := k4 false ((textV a).length - 5)
                have tl := text_len a oa
                have mn : min (5 : Int) (textV a).length = 5 := by omega
                refine go (.tup [LV 1 (I .u8) ((textV a).take 5) .sh, I .i64 0]) (.tup [LV 1 (I .u8) ((textV a).take 5) .sh, I .i64 0]) ?_ (fun H' => by simp) hb
                exact ⟨_, by unfold s_answer_Bytes rqE anE at *; simp -implicitDefEqProofs (disch := first | omega | (simp only [List.length_set, List.length_append, List.length_cons, List.length_nil, List.length_take, List.length_drop, List.length_map]; omega) | simp) [wrap_i64, wrap_u16_id, wrap_u8_id, tdiv_pos, tmod_pos, -getElem?_pos, -getElem?_neg, -List.length_eq_zero_iff, -List.getElem_cons_drop, k1, k2, k3, hx, htk, hlen, m1, h22, mn]; rfl⟩
  · rw [if_neg hr] at k1
    refine go (.tup [.list 0 [] .ti, I .i64 1]) (.tup [.list 0 [] .sh, I .i64 1]) ?_ (fun H' => by simp <;> rfl) (by unfold ansBytV; rw [if_neg hr])
    exact ⟨_, by unfold s_answer_Bytes rqE anE at *; simp -implicitDefEqProofs (disch := first | omega | (simp only [List.length_set, List.length_append, List.length_cons, List.length_nil, List.length_take, List.length_drop, List.length_map]; omega) | simp) [wrap_i64, wrap_u16_id, wrap_u8_id, tdiv_pos, tmod_pos, -getElem?_pos, -getElem?_neg, -List.length_eq_zero_iff, -List.getElem_cons_drop, k1]; rfl⟩
end Go.Proofs.Ytcpgmbpndpcmdaa
namespace Go.Proofs.Ytcpgmbpndpcmdaa
open Go
set_option linter.unusedSimpArgs false
set_option linter.unusedVariables false
set_option maxRecDepth 100000
theorem numV_drop (l : List Int) (k i : Nat) : numV (l.drop k) i = numV l (k + i) := by
  unfold numV
  simp only [List.length_drop, List.getD_eq_getElem?_getD, List.getElem?_drop]
  by_cases h : k + i + 2 ≤ l.length
  · rw [if_pos (by omega), if_pos h]
    rfl
  · rw [if_neg (by omega), if_neg h]
theorem two_mod (x : Int) (h : 0 ≤ x ∧ x < 65536) (l : List Int) : numV (twoV x ++ l) 0 = x := numV_two x l h.1 h.2
theorem num_3 (c ad x : Int) (l : List Int) (h : 0 ≤ x ∧ x < 65536) : numV (c :: (twoV ad ++ (twoV x ++ l))) 3 = x := by
  show numV (c :: ad / 256 % 256 :: ad % 256 :: (twoV x ++ l)) 3 = x
  rw [numV_c, numV_c, numV_c, two_mod x h]
theorem num_5 (c ad y x : Int) (l : List Int) (h : 0 ≤ x ∧ x < 65536) : numV (c :: (twoV ad ++ (twoV y ++ (twoV x ++ l)))) 5 = x := by
  show numV (c :: ad / 256 % 256 :: ad % 256 :: y / 256 % 256 :: y % 256 :: (twoV x ++ l)) 5 = x
  rw [numV_c, numV_c, numV_c, numV_c, numV_c, two_mod x h]
theorem num_1 (c x : Int) (l : List Int) (h : 0 ≤ x ∧ x < 65536) : numV (c :: (twoV x ++ l)) 1 = x := by
  rw [numV_c, two_mod x h]
theorem drop_6 (c ad x y : Int) (l : List Int) : (c :: (twoV ad ++ (twoV x ++ y :: l))).drop 6 = l := rfl
theorem drop_10 (c ad x y z : Int) (v : Int) (l : List Int) : (c :: (twoV ad ++ (twoV x ++ (twoV y ++ (twoV z ++ v :: l))))).drop 10 = l := rfl
theorem gBits_pk (l : List Bool) (hl : l.length < 65536) : gBits l.length (pkI l) = l := by
  have h8 : min (l.length : Int).toNat (8 * (pkI l).length) = l.length := by rw [pkI_length]; omega
  unfold gBits
  rw [h8]
  have e : wBitsL (wPack l) l.length = l := wBits_pack l
  conv => rhs; rw [← e]
  unfold wBitsL
  refine List.map_congr_left fun i hi => ?_
  unfold pbit bitsOf pkI ofB
  have hi' : i < l.length := by simpa using hi
  have hw : i / 8 < (wPack l).length := by rw [wPack_len]; omega
  have e1 : ((wPack l).map fun c => (c.toNat : Int)).getD (i / 8) 0 = (((wPack l).getD (i / 8) 0).toNat : Int) := by simp [hw]
  rw [e1]
  have e2 : ((((wPack l).getD (i / 8) 0).toNat : Int) / 2 ^ (i % 8) % 2) = (((((wPack l).getD (i / 8) 0).toNat) / 2 ^ (i % 8) % 2 : Nat) : Int) := by
    rw [Int.natCast_emod, Int.natCast_ediv, Int.natCast_pow]
    rfl
  rw [e2]
  exact decide_eq_decide.2 (by omega)
theorem text_back (a : Rq) (h : FormedP a) (ho : RqOk a) : readV (textV a) = a ∧ guessV (textV a) = a ∧ headV (textV a) = true ∧ textV a ≠ [] := by
  have hle := formed_le a h
  obtain ⟨hc, k2, k3, k4, k5, k6, _, _, k43, _, _⟩ := h
  have q2 := fit_pos k2 (cntV_le _).1
  have q3 := fit_pos k3 (wrdV_le _).1
  have q4 := fit_pos k4 (bitV_le _).1
  obtain ⟨c, ad, k, t, w, b, an, o⟩ := a
  have ow := ho.w
  have oa := ho.a
  have oo := ho.o
  simp only at hle hc k5 k6 k43 q2 q3 q4 ow oa oo
  obtain ⟨h1, h2, h3, h4, h5, h6, h7, h8⟩ := hle
  have wd := fun e => wdI_wb w e
  have bt := btI_pk b
  have gb := gBits_pk b (by omega)
  have adr : 0 ≤ ad ∧ ad < 65536 := by omega
  have kr : 0 ≤ k ∧ k < 65536 := by omega
  have tr : 0 ≤ t ∧ t < 65536 := by omega
  have br : 0 ≤ (b.length : Int) ∧ (b.length : Int) < 65536 := by omega
  have wr : 0 ≤ (w.length : Int) ∧ (w.length : Int) < 65536 := by omega
  clear k2 k3 k4 ho
  rcases code_cases c with rfl | rfl | rfl | rfl | rfl | rfl | rfl | rfl | rfl | rfl | rfl | e
  case inr.inr.inr.inr.inr.inr.inr.inr.inr.inr.inr => exact absurd hc (by unfold isV; simp [e])
  case inl =>
    rw [show cntV 1 = 2000 from rfl] at q2
    rw [show wrdV 1 = 0 from rfl] at q3
    rw [show bitV 1 = 0 from rfl] at q4
    obtain rfl : w = [] := List.eq_nil_of_length_eq_zero (by omega)
    obtain rfl : b = [] := List.eq_nil_of_length_eq_zero (by omega)
    obtain ⟨rfl, rfl⟩ : an = 0 ∧ o = 0 := by omega
    obtain rfl : t = 0 := by omega
    have ht : textV ⟨1, ad, k, 0, [], [], 0, 0⟩ = 1 :: (twoV ad ++ (twoV k ++ [])) := by simp [textV, tailV]
    rw [ht]
    refine ⟨?_, ?_, rfl, by simp⟩
    · simp only [readV, List.getD_cons_zero, numV_drop, List.drop_drop, Nat.add_zero, Nat.reduceAdd, num_1 _ _ _ adr, num_3 _ _ _ _ kr]
      simp
    · simp only [guessV, List.getD_cons_zero, num_1 _ _ _ adr, num_3 _ _ _ _ kr]
      simp
  case inr.inl =>
    rw [show cntV 2 = 2000 from rfl] at q2
    rw [show wrdV 2 = 0 from rfl] at q3
    rw [show bitV 2 = 0 from rfl] at q4
    obtain rfl : w = [] := List.eq_nil_of_length_eq_zero (by omega)
    obtain rfl : b = [] := List.eq_nil_of_length_eq_zero (by omega)
    obtain ⟨rfl, rfl⟩ : an = 0 ∧ o = 0 := by omega
    obtain rfl : t = 0 := by omega
    have ht : textV ⟨2, ad, k, 0, [], [], 0, 0⟩ = 2 :: (twoV ad ++ (twoV k ++ [])) := by simp [textV, tailV]
    rw [ht]
    refine ⟨?_, ?_, rfl, by simp⟩
    · simp only [readV, List.getD_cons_zero, numV_drop, List.drop_drop, Nat.add_zero, Nat.reduceAdd, num_1 _ _ _ adr, num_3 _ _ _ _ kr]
      simp
    · simp only [guessV, List.getD_cons_zero, num_1 _ _ _ adr, num_3 _ _ _ _ kr]
      simp
  case inr.inr.inl =>
    rw [show cntV 3 = 125 from rfl] at q2
    rw [show wrdV 3 = 0 from rfl] at q3
    rw [show bitV 3 = 0 from rfl] at q4
    obtain rfl : w = [] := List.eq_nil_of_length_eq_zero (by omega)
    obtain rfl : b = [] := List.eq_nil_of_length_eq_zero (by omega)
    obtain ⟨rfl, rfl⟩ : an = 0 ∧ o = 0 := by omega
    obtain rfl : t = 0 := by omega
    have ht : textV ⟨3, ad, k, 0, [], [], 0, 0⟩ = 3 :: (twoV ad ++ (twoV k ++ [])) := by simp [textV, tailV]
    rw [ht]
    refine ⟨?_, ?_, rfl, by simp⟩
    · simp only [readV, List.getD_cons_zero, numV_drop, List.drop_drop, Nat.add_zero, Nat.reduceAdd, num_1 _ _ _ adr, num_3 _ _ _ _ kr]
      simp
    · simp only [guessV, List.getD_cons_zero, num_1 _ _ _ adr, num_3 _ _ _ _ kr]
      simp
  case inr.inr.inr.inl =>
    rw [show cntV 4 = 125 from rfl] at q2
    rw [show wrdV 4 = 0 from rfl] at q3
    rw [show bitV 4 = 0 from rfl] at q4
    obtain rfl : w = [] := List.eq_nil_of_length_eq_zero (by omega)
    obtain rfl : b = [] := List.eq_nil_of_length_eq_zero (by omega)
    obtain ⟨rfl, rfl⟩ : an = 0 ∧ o = 0 := by omega
    obtain rfl : t = 0 := by omega
    have ht : textV ⟨4, ad, k, 0, [], [], 0, 0⟩ = 4 :: (twoV ad ++ (twoV k ++ [])) := by simp [textV, tailV]
    rw [ht]
    refine ⟨?_, ?_, rfl, by simp⟩
    · simp only [readV, List.getD_cons_zero, numV_drop, List.drop_drop, Nat.add_zero, Nat.reduceAdd, num_1 _ _ _ adr, num_3 _ _ _ _ kr]
      simp
    · simp only [guessV, List.getD_cons_zero, num_1 _ _ _ adr, num_3 _ _ _ _ kr]
      simp
  case inr.inr.inr.inr.inl =>
    rw [show cntV 5 = 0 from rfl] at q2
    rw [show wrdV 5 = 0 from rfl] at q3
    rw [show bitV 5 = 1 from rfl] at q4
    obtain rfl : k = 0 := by omega
    obtain rfl : w = [] := List.eq_nil_of_length_eq_zero (by omega)
    obtain ⟨rfl, rfl⟩ : an = 0 ∧ o = 0 := by omega
    obtain rfl : t = 0 := by omega
    obtain ⟨x, rfl⟩ : ∃ x, b = [x] := by
      cases b with
      | nil => simp at q4
      | cons x b => cases b with
        | nil => exact ⟨x, rfl⟩
        | cons y b => simp at q4; omega
    have ht : textV ⟨5, ad, 0, 0, [], [x], 0, 0⟩ = 5 :: (twoV ad ++ (twoV (if x = true then 65280 else 0) ++ [])) := by cases x <;> simp [textV, tailV, twoV]
    have xr : 0 ≤ (if x = true then (65280 : Int) else 0) ∧ (if x = true then (65280 : Int) else 0) < 65536 := by split <;> omega
    rw [ht]
    refine ⟨?_, ?_, rfl, by simp⟩
    · simp only [readV, List.getD_cons_zero, numV_drop, List.drop_drop, Nat.add_zero, Nat.reduceAdd, num_1 _ _ _ adr, num_3 _ _ _ _ xr]
      cases x <;> simp
    · simp only [guessV, List.getD_cons_zero, num_1 _ _ _ adr, num_3 _ _ _ _ xr]
      cases x <;> simp
  case inr.inr.inr.inr.inr.inl =>
    rw [show cntV 6 = 0 from rfl] at q2
    rw [show wrdV 6 = 1 from rfl] at q3
    rw [show bitV 6 = 0 from rfl] at q4
    obtain rfl : k = 0 := by omega
    obtain rfl : b = [] := List.eq_nil_of_length_eq_zero (by omega)
    obtain ⟨rfl, rfl⟩ : an = 0 ∧ o = 0 := by omega
    obtain rfl : t = 0 := by omega
    obtain ⟨x, rfl⟩ : ∃ x, w = [x] := by
      cases w with
      | nil => simp at q3
      | cons x w => cases w with
        | nil => exact ⟨x, rfl⟩
        | cons y w => simp at q3; omega
    have xr : 0 ≤ x ∧ x < 65536 := ow x (by simp)
    have ht : textV ⟨6, ad, 0, 0, [x], [], 0, 0⟩ = 6 :: (twoV ad ++ (twoV x ++ [])) := by
      have : x / 256 % 256 = x / 256 := by omega
      simp [textV, tailV, wbI_cons x [] xr, wbI_nil, twoV, this]
    rw [ht]
    refine ⟨?_, ?_, rfl, by simp⟩
    · simp only [readV, List.getD_cons_zero, numV_drop, List.drop_drop, Nat.add_zero, Nat.reduceAdd, num_1 _ _ _ adr, num_3 _ _ _ _ xr]
      simp
    · simp only [guessV, List.getD_cons_zero, num_1 _ _ _ adr, num_3 _ _ _ _ xr]
      simp
  case inr.inr.inr.inr.inr.inr.inl =>
    rw [show cntV 15 = 0 from rfl] at q2
    rw [show wrdV 15 = 0 from rfl] at q3
    rw [show bitV 15 = 1968 from rfl] at q4
    obtain rfl : k = 0 := by omega
    obtain rfl : w = [] := List.eq_nil_of_length_eq_zero (by omega)
    obtain ⟨rfl, rfl⟩ : an = 0 ∧ o = 0 := by omega
    obtain rfl : t = 0 := by omega
    have ht : textV ⟨15, ad, 0, 0, [], b, 0, 0⟩ = 15 :: (twoV ad ++ (twoV b.length ++ ((pkI b).length : Int) % 256 :: pkI b)) := by simp [textV, tailV, btV]
    rw [ht]
    refine ⟨?_, ?_, rfl, by simp⟩
    · simp only [readV, List.getD_cons_zero, numV_drop, List.drop_drop, Nat.add_zero, Nat.reduceAdd, num_1 _ _ _ adr, num_3 _ _ _ _ br, drop_6, bt.1, gb]
      simp
    · simp only [guessV, List.getD_cons_zero, num_1 _ _ _ adr, num_3 _ _ _ _ br, drop_6, bt.1, gb]
      simp
  case inr.inr.inr.inr.inr.inr.inr.inl =>
    rw [show cntV 16 = 0 from rfl] at q2
    rw [show wrdV 16 = 123 from rfl] at q3
    rw [show bitV 16 = 0 from rfl] at q4
    obtain rfl : k = 0 := by omega
    obtain rfl : b = [] := List.eq_nil_of_length_eq_zero (by omega)
    obtain ⟨rfl, rfl⟩ : an = 0 ∧ o = 0 := by omega
    obtain rfl : t = 0 := by omega
    have ht : textV ⟨16, ad, 0, 0, w, [], 0, 0⟩ = 16 :: (twoV ad ++ (twoV w.length ++ ((wbI w).length : Int) % 256 :: wbI w)) := by simp [textV, tailV, wtV]
    rw [ht]
    refine ⟨?_, ?_, rfl, by simp⟩
    · simp only [readV, List.getD_cons_zero, numV_drop, List.drop_drop, Nat.add_zero, Nat.reduceAdd, num_1 _ _ _ adr, drop_6, (wd ow).1]
      simp
    · simp only [guessV, List.getD_cons_zero, num_1 _ _ _ adr, drop_6, (wd ow).1]
      simp
  case inr.inr.inr.inr.inr.inr.inr.inr.inl =>
    rw [show cntV 22 = 0 from rfl] at q2
    rw [show wrdV 22 = 0 from rfl] at q3
    rw [show bitV 22 = 0 from rfl] at q4
    obtain rfl : k = 0 := by omega
    obtain rfl : w = [] := List.eq_nil_of_length_eq_zero (by omega)
    obtain rfl : b = [] := List.eq_nil_of_length_eq_zero (by omega)
    obtain rfl : t = 0 := by omega
    have ht : textV ⟨22, ad, 0, 0, [], [], an, o⟩ = 22 :: (twoV ad ++ (twoV an ++ (twoV o ++ []))) := by simp [textV, tailV]
    rw [ht]
    refine ⟨?_, ?_, rfl, by simp⟩
    · simp only [readV, List.getD_cons_zero, numV_drop, List.drop_drop, Nat.add_zero, Nat.reduceAdd, num_1 _ _ _ adr, num_3 _ _ _ _ oa, num_5 _ _ _ _ _ oo]
      simp
    · simp only [guessV, List.getD_cons_zero, num_1 _ _ _ adr, num_3 _ _ _ _ oa, num_5 _ _ _ _ _ oo]
      simp
  case inr.inr.inr.inr.inr.inr.inr.inr.inr.inl =>
    rw [show cntV 23 = 125 from rfl] at q2
    rw [show wrdV 23 = 121 from rfl] at q3
    rw [show bitV 23 = 0 from rfl] at q4
    obtain rfl : b = [] := List.eq_nil_of_length_eq_zero (by omega)
    obtain ⟨rfl, rfl⟩ : an = 0 ∧ o = 0 := by omega
    have ht : textV ⟨23, ad, k, t, w, [], 0, 0⟩ = 23 :: (twoV ad ++ (twoV k ++ (twoV t ++ (twoV w.length ++ ((wbI w).length : Int) % 256 :: wbI w)))) := by simp [textV, tailV, wtV]
    rw [ht]
    refine ⟨?_, ?_, rfl, by simp⟩
    · simp only [readV, List.getD_cons_zero, numV_drop, List.drop_drop, Nat.add_zero, Nat.reduceAdd, num_1 _ _ _ adr, num_3 _ _ _ _ kr, num_5 _ _ _ _ _ tr, drop_10, (wd ow).1]
      simp
    · simp only [guessV, List.getD_cons_zero, num_1 _ _ _ adr, num_3 _ _ _ _ kr, num_5 _ _ _ _ _ tr, drop_10, (wd ow).1]
      simp
  case inr.inr.inr.inr.inr.inr.inr.inr.inr.inr.inl =>
    rw [show cntV 43 = 4 from rfl] at q2
    rw [show wrdV 43 = 0 from rfl] at q3
    rw [show bitV 43 = 0 from rfl] at q4
    obtain rfl : w = [] := List.eq_nil_of_length_eq_zero (by omega)
    obtain rfl : b = [] := List.eq_nil_of_length_eq_zero (by omega)
    obtain ⟨rfl, rfl⟩ : an = 0 ∧ o = 0 := by omega
    obtain rfl : t = 0 := by omega
    have ad2 : ad ≤ 255 := k43 rfl
    have ht : textV ⟨43, ad, k, 0, [], [], 0, 0⟩ = [43, 14, k, ad] := by
      have e1 : k % 256 = k := by omega
      have e2 : ad % 256 = ad := by omega
      simp [textV, e1, e2]
    have m1 : numV [43, 14, k, ad] 1 % 256 = k := by rw [show numV [43, 14, k, ad] 1 = 256 * 14 + k from rfl]; omega
    have m2 : numV [43, 14, k, ad] 2 % 256 = ad := by rw [show numV [43, 14, k, ad] 2 = 256 * k + ad from rfl]; omega
    rw [ht]
    refine ⟨?_, rfl, rfl, by simp⟩
    show (⟨43, numV [43, 14, k, ad] 2 % 256, numV [43, 14, k, ad] 1 % 256, 0, [], [], 0, 0⟩ : Rq) = _
    rw [m1, m2]
end Go.Proofs.Ytcpgmbpndpcmdaa
namespace Go.Proofs.Ytcpgmbpndpcmdaa
open Go
set_option linter.unusedSimpArgs false
set_option linter.unusedVariables false
set_option maxRecDepth 100000
def lenF (c w b : Nat) : Nat := if c = 43 then 4 else if c = 15 then 6 + (b + 7) / 8 else if c = 16 then 6 + 2 * w else if c = 22 then 7 else if c = 23 then 10 + 2 * w else 5
theorem text_shape (a : Rq) (h : FormedP a) : (textV a).getD 0 0 = a.code ∧ (textV a).length = lenF a.code.toNat a.words.length a.bits.length ∧ (a.code = 15 → numV (textV a) 3 = a.bits.length) ∧ (a.code = 16 → numV (textV a) 3 = a.words.length) ∧ (a.code = 23 → numV (textV a) 7 = a.words.length) := by
  have hle := formed_le a h
  obtain ⟨hc, k2, k3, k4, k5, k6, _, _, k43, _, _⟩ := h
  have q3 := fit_pos k3 (wrdV_le _).1
  obtain ⟨c, ad, k, t, w, b, an, o⟩ := a
  simp only at hle hc q3
  have br : 0 ≤ (b.length : Int) ∧ (b.length : Int) < 65536 := by omega
  have wr : 0 ≤ (w.length : Int) ∧ (w.length : Int) < 65536 := by omega
  rcases code_cases c with rfl | rfl | rfl | rfl | rfl | rfl | rfl | rfl | rfl | rfl | rfl | e
  case inr.inr.inr.inr.inr.inr.inr.inr.inr.inr.inr => exact absurd hc (by unfold isV; simp [e])
  case inr.inr.inr.inr.inr.inl =>
    rw [show wrdV 6 = 1 from rfl] at q3
    have : w.length = 1 := by omega
    refine ⟨by simp [textV], ?_, by simp, by simp, by simp⟩
    simp [textV, tailV, twoV, lenF, wbI_length, this]
  case inr.inr.inr.inr.inr.inr.inl =>
    have ht : textV ⟨15, ad, k, t, w, b, an, o⟩ = 15 :: (twoV ad ++ (twoV b.length ++ ((pkI b).length : Int) % 256 :: pkI b)) := by simp [textV, tailV, btV]
    rw [ht]
    exact ⟨rfl, by simp [twoV, lenF, pkI_length]; omega, fun _ => num_3 _ _ _ _ br, by simp, by simp⟩
  case inr.inr.inr.inr.inr.inr.inr.inl =>
    have ht : textV ⟨16, ad, k, t, w, b, an, o⟩ = 16 :: (twoV ad ++ (twoV w.length ++ ((wbI w).length : Int) % 256 :: wbI w)) := by simp [textV, tailV, wtV]
    rw [ht]
    exact ⟨rfl, by simp [twoV, lenF, wbI_length]; omega, by simp, fun _ => num_3 _ _ _ _ wr, by simp⟩
  case inr.inr.inr.inr.inr.inr.inr.inr.inr.inl =>
    have ht : textV ⟨23, ad, k, t, w, b, an, o⟩ = 23 :: (twoV ad ++ (twoV k ++ (twoV t ++ (twoV w.length ++ ((wbI w).length : Int) % 256 :: wbI w)))) := by simp [textV, tailV, wtV]
    rw [ht]
    refine ⟨rfl, by simp [twoV, lenF, wbI_length]; omega, by simp, by simp, fun _ => ?_⟩
    show numV (23 :: ad / 256 % 256 :: ad % 256 :: k / 256 % 256 :: k % 256 :: t / 256 % 256 :: t % 256 :: (twoV w.length ++ ((wbI w).length : Int) % 256 :: wbI w)) 7 = w.length
    rw [numV_c, numV_c, numV_c, numV_c, numV_c, numV_c, numV_c, two_mod _ wr]
  case inr.inr.inr.inr.inl =>
    refine ⟨by simp [textV], ?_, by simp, by simp, by simp⟩
    simp [textV, tailV, twoV, lenF]
    split <;> rfl
  all_goals
    refine ⟨by simp [textV], ?_, by simp, by simp, by simp⟩
    simp [textV, tailV, twoV, lenF]
theorem text_most (a : Rq) (h : FormedP a) : (textV a).length ≤ 253 := by
  rw [(text_shape a h).2.1]
  have := formed_le a h
  have q3 := fit_pos h.2.2.1 (wrdV_le _).1
  have q4 : wrdV a.code = 121 ∨ a.code ≠ 23 := by
    by_cases e : a.code = 23
    · exact .inl (by rw [e]; rfl)
    · exact .inr e
  have hc : isV a.code = true := h.1
  unfold isV at hc
  have := of_decide_eq_true hc
  unfold lenF
  repeat' split
  all_goals omega
end Go.Proofs.Ytcpgmbpndpcmdaa
namespace Go.Proofs.Ytcpgmbpndpcmdaa
open Go
set_option linter.unusedSimpArgs false
set_option linter.unusedVariables false
def bA (l : List Int) : ByteArray := ⟨(toB l).toArray⟩
theorem strI_eq (s : ByteArray) : strI s = ofB s.data.toList := rfl
theorem bA_str (s : ByteArray) : bA (strI s) = s := by
  unfold bA
  rw [strI_eq, toB_ofB]
theorem strI_mk (l : List UInt8) : strI ⟨l.toArray⟩ = ofB l := by rw [strI_eq]
theorem an_ext {x y : An} (h1 : x.exc = y.exc) (h2 : x.bits = y.bits) (h3 : x.words = y.words) (h4 : x.texts = y.texts) : x = y := by
  cases x
  cases y
  simp_all
def anZ : An := ⟨0, [], [], []⟩
def gTx : Nat → List Int → List ByteArray
  | 0, _ => []
  | _ + 1, [] => []
  | _ + 1, [_] => []
  | m + 1, _ :: n :: r => if n ≤ (r.length : Int) then bA (r.take n.toNat) :: gTx m (r.drop n.toNat) else []
theorem nmI_cons (addr : Int) (i : Nat) (s : ByteArray) (l : List ByteArray) (hs : s.size ≤ 245) : nmI addr i (s :: l) = (addr + i) % 256 :: (s.size : Int) :: (strI s ++ nmI addr (i + 1) l) := by
  have hn : ((strI s).length : Int) % 256 = (s.size : Int) := by rw [strI_len]; omega
  show (addr + i) % 256 :: (((strI s).length : Int) % 256 :: (strI s ++ nmI addr (i + 1) l)) = _
  rw [hn]
theorem gTx_nm (addr : Int) : ∀ (l : List ByteArray) (i m : Nat), (∀ s ∈ l, s.size ≤ 245) → l.length ≤ m → gTx m (nmI addr i l) = l
  | [], i, m, _, _ => by cases m <;> rfl
  | s :: l, i, m, h, hm => by
    obtain ⟨m, rfl⟩ : ∃ k, m = k + 1 := ⟨m - 1, by simp at hm; omega⟩
    have h1 := h s (by simp)
    have hl := strI_len s
    rw [nmI_cons addr i s l h1]
    have hle : (s.size : Int) ≤ ((strI s ++ nmI addr (i + 1) l).length : Int) := by rw [List.length_append]; omega
    have e1 : (strI s ++ nmI addr (i + 1) l).take (s.size : Int).toNat = strI s := by rw [Int.toNat_natCast, ← hl, List.take_left]
    have e2 : (strI s ++ nmI addr (i + 1) l).drop (s.size : Int).toNat = nmI addr (i + 1) l := by rw [Int.toNat_natCast, ← hl, List.drop_left]
    unfold gTx
    rw [if_pos hle, e1, e2, bA_str, gTx_nm addr l (i + 1) m (fun s hs => h s (by simp [hs])) (by simp at hm; omega)]
def guessA (a : Rq) (b : List Int) : An :=
  if b.length = 2 ∧ b.getD 0 0 = 128 + a.code then ⟨b.getD 1 0, [], [], []⟩
  else if rdBits a.code = true then ⟨0, gBits a.cnt (b.drop 2), [], []⟩
  else if rdWords a.code = true then ⟨0, [], wdI (b.drop 2), []⟩
  else if rdTexts a.code = true then ⟨0, [], [], gTx b.length (b.drop 7)⟩
  else anZ
theorem ansV_open {a : Rq} {x : An} (h : ansV a x = true) : RightP a ∧ 0 ≤ x.exc ∧ x.exc ≤ 255 ∧ ((x.bits.length : Int) = if rdBits a.code = true ∧ x.exc = 0 then a.cnt else 0) ∧ ((x.words.length : Int) = if rdWords a.code = true ∧ x.exc = 0 then a.cnt else 0) ∧ (if rdTexts a.code = true ∧ x.exc = 0 then fitA a.addr x.texts = true else x.texts = []) := by
  unfold ansV ansB at h
  simp only [Bool.and_eq_true, decide_eq_true_eq] at h
  obtain ⟨⟨⟨⟨⟨h0, h1⟩, h2⟩, h3⟩, h4⟩, h5⟩ := h
  refine ⟨h0, h1, h2, h3, h4, ?_⟩
  split
  · rename_i c
    rw [if_pos c] at h5
    exact h5
  · rename_i c
    rw [if_neg c] at h5
    exact List.eq_nil_of_length_eq_zero (by have := of_decide_eq_true h5; omega)
theorem fitA_open {addr : Int} {l : List ByteArray} (h : fitA addr l = true) : (∀ s ∈ l, s.size ≤ 245) ∧ 0 < l.length ∧ addr + l.length ≤ 256 ∧ fitT 7 l = true := by
  unfold fitA at h
  simp only [Bool.and_eq_true, decide_eq_true_eq] at h
  exact ⟨fitT_all _ _ h.1.1, h.1.2, h.2, h.1.1⟩
theorem ansV_ok {a : Rq} {x : An} (h : ansV a x = true) (hw : Words x.words) : AnOk x := by
  obtain ⟨h0, h1, h2, h3, h4, h5⟩ := ansV_open h
  have hle := formed_le a h0.1
  obtain ⟨_, _, l3, l4, _⟩ := hle
  split at h5
  · obtain ⟨k1, k2, k3, _⟩ := fitA_open h5
    exact ⟨hw, fun s hs => by have := k1 s hs; omega, by omega⟩
  · rw [show x = ⟨x.exc, x.bits, x.words, []⟩ from an_ext rfl rfl rfl h5]
    exact ⟨hw, by simp, by simp⟩
theorem rd_cases (c : Int) : (rdBits c = true ∧ rdWords c = false ∧ rdTexts c = false) ∨ (rdBits c = false ∧ rdWords c = true ∧ rdTexts c = false) ∨ (rdBits c = false ∧ rdWords c = false ∧ rdTexts c = true) ∨ (rdBits c = false ∧ rdWords c = false ∧ rdTexts c = false) := by
  unfold rdBits rdWords rdTexts
  simp only [decide_eq_true_eq, decide_eq_false_iff_not]
  omega
theorem code_le {a : Rq} (h : RightP a) : 1 ≤ a.code ∧ a.code ≤ 43 := by have := of_decide_eq_true h.1.1; omega
theorem ansText_head (a : Rq) (x : An) (h : RightP a) (hx : ¬ 0 < x.exc) : ∃ r, ansTextV a x = a.code :: r := by
  obtain ⟨r, hr⟩ := text_head a h.1.1
  unfold ansTextV
  rw [if_neg hx, hr]
  split
  · exact ⟨_, rfl⟩
  split
  · exact ⟨_, rfl⟩
  split
  · exact ⟨_, rfl⟩
  split
  · exact ⟨_, rfl⟩
  · exact ⟨r.take 4, rfl⟩
theorem guess_back (a : Rq) (x : An) (ok : AnOk x) (h : ansV a x = true) : guessA a (ansTextV a x) = x := by
  obtain ⟨h0, h1, h2, h3, h4, h5⟩ := ansV_open h
  have hcode := code_le h0
  obtain ⟨_, _, l3, l4, _⟩ := formed_le a h0.1
  by_cases hx : 0 < x.exc
  · rw [if_neg (by omega)] at h3
    rw [if_neg (by omega)] at h4
    rw [if_neg (by omega)] at h5
    have e : ansTextV a x = [a.code + 128, x.exc] := by unfold ansTextV; rw [if_pos hx]
    rw [e]
    unfold guessA
    rw [if_pos ⟨rfl, by simp; omega⟩]
    exact an_ext rfl (List.eq_nil_of_length_eq_zero (by omega)).symm (List.eq_nil_of_length_eq_zero (by omega)).symm h5.symm
  · have hz : x.exc = 0 := by omega
    obtain ⟨r, hr⟩ := ansText_head a x h0 hx
    have hng : ¬ ((ansTextV a x).length = 2 ∧ (ansTextV a x).getD 0 0 = 128 + a.code) := by
      rw [hr]
      rintro ⟨_, e⟩
      simp at e
      omega
    unfold guessA
    rw [if_neg hng]
    unfold ansTextV
    rcases rd_cases a.code with ⟨c1, c2, c3⟩ | ⟨c1, c2, c3⟩ | ⟨c1, c2, c3⟩ | ⟨c1, c2, c3⟩ <;> simp only [c1, c2, c3, hz, and_true, if_true, Bool.false_eq_true, if_false, false_and, true_and] at h3 h4 h5 ⊢
    · rw [if_neg (by omega)]
      have hd : (a.code :: cntI (pkI x.bits)).drop 2 = pkI x.bits := rfl
      rw [hd, ← h3, gBits_pk x.bits (by omega)]
      exact an_ext hz.symm rfl (List.eq_nil_of_length_eq_zero (by omega)).symm h5.symm
    · rw [if_neg (by omega)]
      have hd : (a.code :: cntI (wbI x.words)).drop 2 = wbI x.words := rfl
      rw [hd, (wdI_wb x.words ok.w).1]
      exact an_ext hz.symm (List.eq_nil_of_length_eq_zero (by omega)).symm rfl h5.symm
    · rw [if_neg (by omega)]
      obtain ⟨k1, k2, k3, _⟩ := fitA_open h5
      have hd : (a.code :: namedV a x.texts).drop 7 = nmI a.addr 0 x.texts := rfl
      have hl : x.texts.length ≤ (a.code :: namedV a x.texts).length := by
        have : ∀ (l : List ByteArray) (i : Nat), l.length ≤ (nmI a.addr i l).length := by
          intro l
          induction l with
          | nil => intro i; simp
          | cons s l ih =>
            intro i
            have := ih (i + 1)
            simp only [nmI, cntI, List.length_cons, List.length_append]
            omega
        have := this x.texts 0
        unfold namedV
        simp only [List.length_cons, List.length_append]
        omega
      rw [hd, gTx_nm a.addr x.texts 0 _ k1 hl]
      exact an_ext hz.symm (List.eq_nil_of_length_eq_zero (by omega)).symm (List.eq_nil_of_length_eq_zero (by omega)).symm rfl
    · exact an_ext hz.symm (List.eq_nil_of_length_eq_zero (by omega)).symm (List.eq_nil_of_length_eq_zero (by omega)).symm h5.symm
def ansReadV (a : Rq) (b : List Int) : An × Int := if RightP a then (if ansV a (guessA a b) = true ∧ ansTextV a (guessA a b) = b then (guessA a b, 0) else (anZ, 2)) else (anZ, 1)
def bodyS (a : Rq) (l : List UInt8) : Option An :=
  if rdBits a.code = true then (cntS l).bind fun p => if (bitsTell p.1 a.cnt).1 = true ∧ p.2 = [] ∧ ansV a ⟨0, (bitsTell p.1 a.cnt).2, [], []⟩ = true then some ⟨0, (bitsTell p.1 a.cnt).2, [], []⟩ else none
  else if rdWords a.code = true then (cntS l).bind fun p => if (wordsTell p.1).1 = true ∧ p.2 = [] ∧ ansV a ⟨0, [], ofW (wordsTell p.1).2, []⟩ = true then some ⟨0, [], ofW (wordsTell p.1).2, []⟩ else none
  else if rdTexts a.code = true then (textsS a.addr a.cnt l).bind fun p => if p.2 = [] ∧ ansV a ⟨0, [], [], p.1⟩ = true then some ⟨0, [], [], p.1⟩ else none
  else if l = toB ((ansTextV a anZ).drop 1) ∧ ansV a anZ = true then some anZ else none
def readS (a : Rq) : List UInt8 → Option An
  | [] => none
  | c :: r => if (c.toNat : Int) = a.code + 128 ∧ r.length = 1 ∧ 0 < (r.getD 0 0).toNat then some ⟨((r.getD 0 0).toNat : Int), [], [], []⟩ else if (c.toNat : Int) = a.code then bodyS a r else none
theorem lowB_toNat (c : UInt8) : lowB (c.toNat : Int) = c := by unfold lowB; simp
theorem cntS_cons (c : UInt8) (r : List UInt8) : cntS (c :: r) = if c.toNat ≤ r.length then some (r.take c.toNat, r.drop c.toNat) else none := rfl
theorem cntS_toB (l : List Int) (hl : l.length ≤ 255) : cntS (toB (cntI l)) = some (toB l, []) := by
  have e : toB (cntI l) = lowB ((l.length : Int) % 256) :: toB l := rfl
  have h1 : ((lowB ((l.length : Int) % 256)).toNat : Int) = l.length := by rw [lowB_nat _ (by omega) (by omega)]; omega
  have h2 : (lowB ((l.length : Int) % 256)).toNat = l.length := by omega
  have h3 : (toB l).length = l.length := by simp [toB]
  rw [e, cntS_cons, h2, if_pos (by omega), List.take_of_length_le (by omega), List.drop_of_length_le (by omega)]
theorem cntS_more (l : List UInt8) (q : List UInt8) (hl : l.length ≤ 255) : cntS (lowB ((l.length : Int) % 256) :: (l ++ q)) = some (l, q) := by
  have h1 : ((lowB ((l.length : Int) % 256)).toNat : Int) = l.length := by rw [lowB_nat _ (by omega) (by omega)]; omega
  have h2 : (lowB ((l.length : Int) % 256)).toNat = l.length := by omega
  rw [cntS_cons, h2, if_pos (by simp), List.take_left, List.drop_left]
theorem cntS_open {l p q : List UInt8} (h : cntS l = some (p, q)) : l = lowB ((p.length : Int) % 256) :: (p ++ q) ∧ p.length ≤ 255 := by
  cases l with
  | nil => cases h
  | cons c r =>
    rw [cntS_cons] at h
    split at h
    · rename_i hc
      cases h
      have := c.toNat_lt
      have e : (r.take c.toNat).length = c.toNat := by rw [List.length_take]; omega
      rw [e, List.take_append_drop]
      refine ⟨?_, by omega⟩
      rw [show ((c.toNat : Int) % 256) = (c.toNat : Int) by omega, lowB_toNat]
    · cases h
theorem toB_app (l m : List Int) : toB (l ++ m) = toB l ++ toB m := by unfold toB; rw [List.map_append]
theorem toB_cons (x : Int) (l : List Int) : toB (x :: l) = lowB x :: toB l := rfl
theorem txS_full (addr : Int) : ∀ (l : List ByteArray) (i : Nat), (∀ s ∈ l, s.size ≤ 245) → txS addr i l.length (toB (nmI addr i l)) = some (l, [])
  | [], i, _ => rfl
  | s :: l, i, h => by
    have h1 := h s (by simp)
    have ih := txS_full addr l (i + 1) (fun s hs => h s (by simp [hs]))
    have e : toB (nmI addr i (s :: l)) = lowB ((addr + i) % 256) :: (lowB ((s.data.toList.length : Int) % 256) :: (s.data.toList ++ toB (nmI addr (i + 1) l))) := by
      show toB ((addr + i) % 256 :: (((strI s).length : Int) % 256 :: (strI s ++ nmI addr (i + 1) l))) = _
      rw [toB_cons, toB_cons, toB_app, strI_eq, toB_ofB]
      simp [ofB]
    have hsz : s.data.toList.length = s.size := Array.length_toList
    rw [e]
    show txS addr i (l.length + 1) _ = _
    simp only [txS, if_true]
    rw [cntS_more _ _ (by omega), Option.bind_some, ih]
    rfl
theorem txS_open (addr : Int) : ∀ (m i : Nat) (r : List UInt8) (ts : List ByteArray) (q : List UInt8), txS addr i m r = some (ts, q) → r = toB (nmI addr i ts) ++ q ∧ ts.length = m
  | 0, i, r, ts, q, h => by
    cases h
    exact ⟨rfl, rfl⟩
  | m + 1, i, [], ts, q, h => by cases h
  | m + 1, i, c :: r, ts, q, h => by
    simp only [txS] at h
    split at h
    · rename_i hc
      cases hp : cntS r with
      | none => rw [hp] at h; cases h
      | some p =>
        rw [hp, Option.bind_some] at h
        obtain ⟨p1, p2⟩ := p
        cases ht : txS addr (i + 1) m p2 with
        | none => rw [ht] at h; cases h
        | some u =>
          rw [ht] at h
          cases h
          obtain ⟨u1, u2⟩ := u
          obtain ⟨e1, e2⟩ := txS_open addr m (i + 1) p2 u1 u2 ht
          obtain ⟨e3, e4⟩ := cntS_open hp
          refine ⟨?_, by simp [e2]⟩
          show _ = toB ((addr + i) % 256 :: (((strI ⟨p1.toArray⟩).length : Int) % 256 :: (strI ⟨p1.toArray⟩ ++ nmI addr (i + 1) u1))) ++ u2
          rw [toB_cons, toB_cons, toB_app, strI_mk, toB_ofB, hc, e3, e1]
          simp [ofB]
    · cases h
theorem head_toB (cnt : Int) : headS cnt = toB [14, cnt % 256, 1, 0, 0] := by
  unfold headS toB
  simp only [List.map_cons, List.map_nil]
  rfl
theorem texts_full (a : Rq) (l : List ByteArray) (h : ∀ s ∈ l, s.size ≤ 245) (hl : l.length ≤ 255) : textsS a.addr a.cnt (toB (namedV a l)) = some (l, []) := by
  have e : toB (namedV a l) = headS a.cnt ++ (lowB ((l.length : Int) % 256) :: toB (nmI a.addr 0 l)) := by
    unfold namedV
    rw [toB_app, head_toB]
    rfl
  have h1 : ((lowB ((l.length : Int) % 256)).toNat : Int) = l.length := by rw [lowB_nat _ (by omega) (by omega)]; omega
  have h2 : (lowB ((l.length : Int) % 256)).toNat = l.length := by omega
  have h5 : (headS a.cnt).length = 5 := rfl
  have e1 : (headS a.cnt ++ (lowB ((l.length : Int) % 256) :: toB (nmI a.addr 0 l))).take 5 = headS a.cnt := by rw [← h5, List.take_left]
  have e2 : (headS a.cnt ++ (lowB ((l.length : Int) % 256) :: toB (nmI a.addr 0 l))).drop 5 = lowB ((l.length : Int) % 256) :: toB (nmI a.addr 0 l) := by rw [← h5, List.drop_left]
  rw [e]
  unfold textsS
  rw [e1, if_pos rfl, e2]
  show txS a.addr 0 (lowB ((l.length : Int) % 256)).toNat _ = _
  rw [h2]
  exact txS_full a.addr l 0 h
theorem texts_open (a : Rq) (r : List UInt8) (ts : List ByteArray) (h : textsS a.addr a.cnt r = some (ts, [])) : r = toB (namedV a ts) ∧ ts.length ≤ 255 := by
  unfold textsS at h
  split at h
  · rename_i hd
    cases hr : r.drop 5 with
    | nil => rw [hr] at h; cases h
    | cons c r2 =>
      rw [hr] at h
      obtain ⟨e1, e2⟩ := txS_open _ _ _ _ _ _ h
      have hc := c.toNat_lt
      rw [List.append_nil] at e1
      refine ⟨?_, by omega⟩
      have e : toB (namedV a ts) = headS a.cnt ++ (lowB ((ts.length : Int) % 256) :: toB (nmI a.addr 0 ts)) := by
        unfold namedV
        rw [toB_app, head_toB]
        rfl
      rw [e, ← e1, ← hd, e2, show ((c.toNat : Int) % 256) = (c.toNat : Int) by omega, lowB_toNat, ← hr, List.take_append_drop]
  · cases h
end Go.Proofs.Ytcpgmbpndpcmdaa
namespace Go.Proofs.Ytcpgmbpndpcmdaa
open Go
set_option linter.unusedSimpArgs false
set_option linter.unusedVariables false
theorem bytes_words : ∀ l : List UInt8, l.length % 2 = 0 → wBytes (wWords l) = l
  | [], _ => rfl
  | [_], h => by simp at h
  | a :: b :: l, h => by
    have ih := bytes_words l (by simp at h; omega)
    show wBytes (mkW a b :: wWords l) = _
    unfold wBytes at ih ⊢
    rw [List.flatMap_cons, ih, mkW_nat]
    have ha := a.toNat_lt
    have hb := b.toNat_lt
    rw [show (256 * a.toNat + b.toNat) / 256 = a.toNat by omega, show (256 * a.toNat + b.toNat) % 256 = b.toNat by omega]
    simp
theorem ofB_cons (c : UInt8) (l : List UInt8) : ofB (c :: l) = (c.toNat : Int) :: ofB l := rfl
theorem ofB_cnt (p : List UInt8) (hp : p.length ≤ 255) : ofB (lowB ((p.length : Int) % 256) :: (p ++ [])) = cntI (ofB p) := by
  rw [ofB_cons, List.append_nil, lowB_nat _ (by omega) (by omega)]
  unfold cntI
  rw [show (ofB p).length = p.length by simp [ofB]]
theorem bits_open {p : List UInt8} {n : Int} (h : (bitsTell p n).1 = true) : pkI (bitsTell p n).2 = ofB p := by
  unfold bitsTell at h ⊢
  split at h
  · cases h
  · rename_i hn
    rw [if_neg hn]
    unfold wBits at h ⊢
    split at h
    · rename_i hf
      rw [if_pos hf]
      unfold pkI
      rw [(pack_bits _ _).2 hf]
    · cases h
theorem words_open {p : List UInt8} (h : (wordsTell p).1 = true) : wbI (ofW (wordsTell p).2) = ofB p := by
  unfold wordsTell at h ⊢
  split at h
  · cases h
  · rename_i hn
    rw [if_neg hn]
    unfold wbI
    have e : toW (ofW (wWords p)) = wWords p := by
      unfold toW ofW
      rw [List.map_map]
      conv => rhs; rw [← List.map_id (wWords p)]
      refine List.map_congr_left fun c _ => ?_
      show UInt16.ofNat ((c.toNat : Int)).toNat = c
      simp
    simp only
    rw [e, bytes_words p (by omega)]
theorem ofW_words (l : List UInt16) : Words (ofW l) := by
  intro x hx
  obtain ⟨c, _, rfl⟩ := List.mem_map.1 hx
  have := c.toNat_lt
  omega
theorem ansText_bytes (a : Rq) (x : An) (hr : RightP a) (e0 : 0 ≤ x.exc) (e1 : x.exc ≤ 255) (ok : AnOk x) : Bytes (ansTextV a x) := by
  have hcode := code_le hr
  have hn : Bytes (namedV a x.texts) := by
    have : ∀ (l : List ByteArray) (i : Nat), Bytes (nmI a.addr i l) := by
      intro l
      induction l with
      | nil => intro i x hx; cases hx
      | cons s l ih => intro i; exact cons_bytes (by omega) (bytes_app (cons_bytes (by omega) (by rw [strI_eq]; exact ofB_bytes _)) (ih (i + 1)))
    unfold namedV
    refine bytes_app ?_ (this _ _)
    intro x hx
    simp at hx
    omega
  unfold ansTextV
  split
  · exact cons_bytes (by omega) (cons_bytes (by omega) nil_bytes)
  split
  · exact cons_bytes (by omega) (cons_bytes (by omega) (pk_bytes _))
  split
  · exact cons_bytes (by omega) (cons_bytes (by omega) (wb_bytes _))
  split
  · exact cons_bytes (by omega) hn
  split
  · exact text_bytes a
  · exact fun x hx => text_bytes a x (List.mem_of_mem_take hx)
theorem body_sound (a : Rq) (hr : RightP a) (c : UInt8) (hc : (c.toNat : Int) = a.code) (r : List UInt8) (x : An) (h : bodyS a r = some x) : ansV a x = true ∧ ansTextV a x = ofB (c :: r) ∧ Words x.words := by
  have hcode := code_le hr
  unfold bodyS at h
  rcases rd_cases a.code with ⟨c1, c2, c3⟩ | ⟨c1, c2, c3⟩ | ⟨c1, c2, c3⟩ | ⟨c1, c2, c3⟩ <;> simp only [c1, c2, c3, if_true, Bool.false_eq_true, if_false] at h
  · cases hp : cntS r with
    | none => rw [hp] at h; cases h
    | some p =>
      rw [hp, Option.bind_some] at h
      split at h
      · rename_i hd
        cases h
        obtain ⟨d1, d2, d3⟩ := hd
        obtain ⟨p1, p2⟩ := p
        obtain rfl : p2 = [] := d2
        obtain ⟨e1, e2⟩ := cntS_open hp
        refine ⟨d3, ?_, by intro x hx; cases hx⟩
        unfold ansTextV
        simp only [c1, Int.lt_irrefl, if_true, if_false]
        rw [ofB_cons, hc, e1, ofB_cnt p1 e2, bits_open d1]
      · cases h
  · cases hp : cntS r with
    | none => rw [hp] at h; cases h
    | some p =>
      rw [hp, Option.bind_some] at h
      split at h
      · rename_i hd
        cases h
        obtain ⟨d1, d2, d3⟩ := hd
        obtain ⟨p1, p2⟩ := p
        obtain rfl : p2 = [] := d2
        obtain ⟨e1, e2⟩ := cntS_open hp
        refine ⟨d3, ?_, ofW_words _⟩
        unfold ansTextV
        simp only [c1, c2, Int.lt_irrefl, if_true, if_false, Bool.false_eq_true]
        rw [ofB_cons, hc, e1, ofB_cnt p1 e2, words_open d1]
      · cases h
  · cases hp : textsS a.addr a.cnt r with
    | none => rw [hp] at h; cases h
    | some p =>
      rw [hp, Option.bind_some] at h
      split at h
      · rename_i hd
        cases h
        obtain ⟨d2, d3⟩ := hd
        obtain ⟨p1, p2⟩ := p
        obtain rfl : p2 = [] := d2
        obtain ⟨e1, e2⟩ := texts_open a r p1 hp
        refine ⟨d3, ?_, by intro x hx; cases hx⟩
        unfold ansTextV
        simp only [c1, c2, c3, Int.lt_irrefl, if_true, if_false, Bool.false_eq_true]
        rw [ofB_cons, hc, e1]
        have hb : Bytes (namedV a p1) := by
          have : ∀ (l : List ByteArray) (i : Nat), Bytes (nmI a.addr i l) := by
            intro l
            induction l with
            | nil => intro i x hx; cases hx
            | cons s l ih => intro i; exact cons_bytes (by omega) (bytes_app (cons_bytes (by omega) (by rw [strI_eq]; exact ofB_bytes _)) (ih (i + 1)))
          unfold namedV
          refine bytes_app ?_ (this _ _)
          intro x hx
          simp at hx
          omega
        rw [ofB_toB _ hb]
      · cases h
  · split at h
    · rename_i hd
      cases h
      obtain ⟨d1, d2⟩ := hd
      refine ⟨d2, ?_, by intro x hx; cases hx⟩
      obtain ⟨r2, hr2⟩ := ansText_head a anZ hr (by decide)
      have hb : Bytes ((ansTextV a anZ).drop 1) := by
        refine bytes_drop ?_ 1
        unfold ansTextV
        simp only [c1, c2, c3, if_false, Bool.false_eq_true]
        rw [if_neg (by decide)]
        split
        · exact text_bytes a
        · exact fun x hx => text_bytes a x (List.mem_of_mem_take hx)
      rw [ofB_cons, hc, d1, ofB_toB _ hb, hr2]
      rfl
    · cases h
theorem readS_cons (a : Rq) (c : UInt8) (r : List UInt8) : readS a (c :: r) = if (c.toNat : Int) = a.code + 128 ∧ r.length = 1 ∧ 0 < (r.getD 0 0).toNat then some ⟨((r.getD 0 0).toNat : Int), [], [], []⟩ else if (c.toNat : Int) = a.code then bodyS a r else none := rfl
theorem read_sound (a : Rq) (hr : RightP a) (l : List UInt8) (x : An) (h : readS a l = some x) : ansV a x = true ∧ ansTextV a x = ofB l ∧ Words x.words := by
  cases l with
  | nil => cases h
  | cons c r =>
    rw [readS_cons] at h
    split at h
    · rename_i hd
      obtain ⟨d1, d2, d3⟩ := hd
      cases h
      obtain ⟨y, rfl⟩ : ∃ y, r = [y] := by
        cases r with
        | nil => cases d2
        | cons y r => cases r with
          | nil => exact ⟨y, rfl⟩
          | cons z r => simp at d2
      have hy := y.toNat_lt
      simp only [List.getD_cons_zero] at d3
      refine ⟨?_, ?_, by intro x hx; cases hx⟩
      · unfold ansV ansB
        simp only [List.getD_cons_zero]
        have z : decide ((y.toNat : Int) = 0) = false := by simp; omega
        rw [z]
        simp [hr]
        omega
      · unfold ansTextV
        simp only [List.getD_cons_zero]
        rw [if_pos (by omega), ← d1]
        rfl
    · split at h
      · rename_i hc
        exact body_sound a hr c hc r x h
      · cases h
theorem read_full (a : Rq) (x : An) (ok : AnOk x) (h : ansV a x = true) : readS a (toB (ansTextV a x)) = some x := by
  obtain ⟨h0, h1, h2, h3, h4, h5⟩ := ansV_open h
  have hcode := code_le h0
  obtain ⟨_, _, l3, l4, l5⟩ := formed_le a h0.1
  by_cases hx : 0 < x.exc
  · rw [if_neg (by omega)] at h3
    rw [if_neg (by omega)] at h4
    rw [if_neg (by omega)] at h5
    have e : ansTextV a x = [a.code + 128, x.exc] := by unfold ansTextV; rw [if_pos hx]
    rw [e]
    have q1 := lowB_nat (a.code + 128) (by omega) (by omega)
    have q2 := lowB_nat x.exc (by omega) (by omega)
    show readS a [lowB (a.code + 128), lowB x.exc] = some x
    rw [readS_cons, if_pos ⟨q1, rfl, by simp; omega⟩]
    congr 1
    refine an_ext ?_ (List.eq_nil_of_length_eq_zero (by omega)).symm (List.eq_nil_of_length_eq_zero (by omega)).symm h5.symm
    simp only [List.getD_cons_zero]
    exact q2
  · have hz : x.exc = 0 := by omega
    obtain ⟨r, hr⟩ := ansText_head a x h0 hx
    have q1 := lowB_nat a.code (by omega) (by omega)
    have hdr : toB ((ansTextV a x).drop 1) = toB r := by rw [hr]; rfl
    rw [hr]
    show readS a (lowB a.code :: toB r) = some x
    rw [readS_cons, if_neg (by omega), if_pos q1]
    unfold bodyS
    unfold ansTextV at hr
    rcases rd_cases a.code with ⟨c1, c2, c3⟩ | ⟨c1, c2, c3⟩ | ⟨c1, c2, c3⟩ | ⟨c1, c2, c3⟩ <;> simp only [c1, c2, c3, hz, and_true, if_true, Bool.false_eq_true, if_false, false_and, true_and, Int.lt_irrefl] at h3 h4 h5 hr ⊢
    · injection hr with _ hr
      have hb : x.bits.length ≤ 2000 := by omega
      have hpl := pkI_length x.bits
      have e : x = ⟨0, x.bits, [], []⟩ := an_ext hz rfl (List.eq_nil_of_length_eq_zero (by omega)) h5
      rw [← hr, cntS_toB _ (by omega), Option.bind_some]
      have e1 : bitsTell (toB (pkI x.bits)) a.cnt = (true, x.bits) := by
        unfold pkI
        rw [toB_ofB, ← h3, bitsTell_nat, wBits_yes (fit_pack x.bits), wBits_pack]
      simp only [e1]
      rw [← e, if_pos ⟨trivial, trivial, h⟩]
    · injection hr with _ hr
      have hb : x.words.length ≤ 125 := by
        have q2 := fit_pos h0.1.2.1 (cntV_le _).1
        have : cntV a.code = 125 := by
          unfold rdWords at c2
          have := of_decide_eq_true c2
          unfold cntV
          rw [if_neg (by omega), if_pos this]
        omega
      have hpl := wbI_length x.words
      have e : x = ⟨0, [], x.words, []⟩ := an_ext hz (List.eq_nil_of_length_eq_zero (by omega)) rfl h5
      rw [← hr, cntS_toB _ (by omega), Option.bind_some]
      have e1 : wordsTell (toB (wbI x.words)) = (true, toW x.words) := by
        unfold wbI
        rw [toB_ofB, wordsTell_yes (by rw [wBytes_len]; omega), wWords_bytes]
      simp only [e1]
      rw [ofW_toW _ ok.w, ← e, if_pos ⟨trivial, trivial, h⟩]
    · injection hr with _ hr
      obtain ⟨k1, k2, k3, k4⟩ := fitA_open h5
      have e : x = ⟨0, [], [], x.texts⟩ := an_ext hz (List.eq_nil_of_length_eq_zero (by omega)) (List.eq_nil_of_length_eq_zero (by omega)) rfl
      have hl : x.texts.length ≤ 255 := by
        have : ∀ (l : List ByteArray) (n : Int), fitT n l = true → n ≤ 253 → n + 2 * l.length ≤ 253 := by
          intro l
          induction l with
          | nil => intro n _ h; simpa using h
          | cons s l ih =>
            intro n hn h
            unfold fitT at hn
            split at hn
            · cases hn
            · have := ih _ hn (by omega)
              simp only [List.length_cons]
              omega
        have := this x.texts 7 k4 (by omega)
        omega
      rw [← hr, texts_full a x.texts k1 hl, Option.bind_some]
      simp only
      rw [← e, if_pos ⟨trivial, h⟩]
    · have e : x = anZ := an_ext hz (List.eq_nil_of_length_eq_zero (by omega)) (List.eq_nil_of_length_eq_zero (by omega)) h5
      rw [if_pos ⟨by rw [← hdr, e], by rw [← e]; exact h⟩, e]
theorem read_is (a : Rq) (hr : RightP a) (l : List UInt8) (x : An) (e : Int) (h : (readS a l).elim (anZ, (2 : Int)) (fun x => (x, 0)) = (x, e)) : ansReadV a (ofB l) = (x, e) := by
  unfold ansReadV
  rw [if_pos hr]
  cases hs : readS a l with
  | some y =>
    rw [hs] at h
    obtain ⟨h1, h2, h3⟩ := read_sound a hr l y hs
    have hg := guess_back a y (ansV_ok h1 h3) h1
    rw [h2] at hg
    rw [hg, if_pos ⟨h1, h2⟩]
    exact h
  | none =>
    rw [hs] at h
    rw [if_neg]
    · exact h
    · rintro ⟨h1, h2⟩
      have hw : Words (guessA a (ofB l)).words := by
        unfold guessA
        split
        · intro x hx; cases hx
        split
        · intro x hx; cases hx
        split
        · exact wdI_words _
        split
        · intro x hx; cases hx
        · intro x hx; cases hx
      have := read_full a _ (ansV_ok h1 hw) h1
      rw [h2, toB_ofB, hs] at this
      cases this
end Go.Proofs.Ytcpgmbpndpcmdaa
namespace Go.Proofs.Ytcpgmbpndpcmdaa
open Go Go.RowKit
set_option linter.unusedSimpArgs false
set_option linter.unusedVariables false
def BX (w : World) (b : Nat) (t : TypeId) (cs : Array Value) : Prop := w.heap[b]? = some (.cells cs t)
theorem BX.lt {w : World} {b : Nat} {t : TypeId} {cs : Array Value} (h : BX w b t cs) : b < w.heap.size := by
  unfold BX at h
  exact (Array.getElem?_eq_some_iff.1 h).1
theorem BX.made {w : World} {b : Nat} {t : TypeId} {cs : Array Value} (hb : b = w.heap.size) : BX (w.alloc (.cells cs t)) b t cs := by
  subst hb
  exact heap_alloc_new w _
theorem BX.cell {w : World} {b : Nat} {t : TypeId} {cs : Array Value} (h : BX w b t cs) (k : Nat) {v : Value} (hv : cs[k]? = some v) : w.cell? ⟨b, k, none⟩ = some v := by
  unfold BX at h
  simp only [World.cell?, h]
  exact hv
theorem BX.frozen {w : World} {b : Nat} {t : TypeId} {cs : Array Value} (h : BX w b t cs) (k : Nat) : w.frozen? ⟨b, k, none⟩ = false := by
  unfold World.frozen?
  rw [show w.heap[b]? = some (.cells cs t) from h]
  simp
theorem BX.blk {w w' : World} {b : Nat} {t : TypeId} {cs : Array Value} (h : BX w b t cs) (hw : w'.heap[b]? = w.heap[b]?) : BX w' b t cs := hw.trans h
theorem BX.alloc {w : World} {b : Nat} {t : TypeId} {cs : Array Value} (h : BX w b t cs) (o : Obj) : BX (w.alloc o) b t cs := h.blk (Below.heap_alloc w o b h.lt)
theorem BX.below {w w' : World} {b : Nat} {t : TypeId} {cs : Array Value} (h : BX w b t cs) (hw : Below w.heap.size w w') : BX w' b t cs := h.blk (hw.block b h.lt)
theorem BX.grown {w w' : World} {b : Nat} {t : TypeId} {cs : Array Value} {r : Option Nat} (h : BX w b t cs) (hw : w.grownBy w' r) (hr : some b ≠ r) : BX w' b t cs := by
  obtain ⟨_, _, _, _, h5⟩ := hw
  exact h.blk (h5 b h.lt hr)
theorem BX.drew {w : World} {b : Nat} {t : TypeId} {cs : Array Value} (h : BX w b t cs) : BX w.drew b t cs := h
theorem BX.set {w : World} {b : Nat} {t : TypeId} {cs : Array Value} (h : BX w b t cs) (k : Nat) (v : Value) : BX (w.setCell ⟨b, k, none⟩ v) b t (cs.setIfInBounds k v) := by
  unfold BX at h ⊢
  simp [World.setCell, Array.getElem?_modify, h]
theorem BX.other {w : World} {b c : Nat} {t : TypeId} {cs : Array Value} (h : BX w b t cs) (hne : b ≠ c) (k : Nat) (v : Value) : BX (w.setCell ⟨c, k, none⟩ v) b t cs := h.blk (Below.heap_setCell _ _ _ _ hne)
theorem grown_below {w w' : World} {r : Option Nat} (h : Below w.heap.size w w') : w.grownBy w' r := ⟨h.os, h.tape, h.output, h.size, fun i hi _ => h.block i hi⟩
theorem grown_drew {w w1 : World} {r : Option Nat} (h : w.grownBy w1 r) : w.grownBy w1.drew r := ⟨h.os, h.tape, h.output, h.size, h.block⟩
theorem rd_rep {α : Type} {enc : α → Value} {e' : α → DV} (he : ∀ a, e' a = .flat (enc a)) (h1 : ∀ a, (enc a).cells = #[enc a] ∧ isOne (enc a) = true) {I : Nat → Nat → Prop} {w : World} {G : Gh} {V : Value} {l : List α} (h : RdV enc w V l) (hI : ∀ p n c, V = .slice (some p) n c → l ≠ [] → ∀ j, I p.block j) : Rep I w G (mkl 1 (l.map e') .sh) V := by
  obtain ⟨A, c, rfl, hc, hm, hcl⟩ := h.open
  cases l with
  | nil =>
    simp only [List.map_nil, mkl, Rep, TagOk]
    exact ⟨_, _, rfl, Nat.zero_le _, by simp, .inl trivial, trivial⟩
  | cons x l =>
    obtain ⟨b, o, rfl, hcell⟩ := hcl.resolve_left (by simp)
    have hE := repE_mk he h1 (I := I) (w := w) (b := b) (x :: l) o (fun j hj => ⟨hcell j hj, hI _ _ _ rfl (by simp) _⟩)
    simp only [List.map_cons, mkl, Rep, TagOk]
    exact ⟨_, c, by simp, by simpa using hc, by simpa using hm, .inr ⟨b, o, rfl, by simpa using hE⟩, trivial⟩
theorem rep_blk {I : Nat → Nat → Prop} {w : World} {G : Gh} {x : DV} {xs : List DV} {t : Tag} {V : Value} (h : Rep I w G (.list 1 (x :: xs) t) V) : ∃ p n c j, V = .slice (some p) n c ∧ I p.block j := by
  simp only [Rep] at h
  obtain ⟨A, c, rfl, h2, h3, h4, _⟩ := h
  rcases h4 with h4 | ⟨b, o, rfl, hE⟩
  · cases h4
  · simp only [RepE] at hE
    obtain ⟨⟨_, V, _, hs, hc⟩, _⟩ := hE
    have hl : 0 < V.cells.toList.length := by simp [hs]
    exact ⟨_, _, _, o + 0, rfl, (hc 0 V.cells.toList[0] (by simp [hl])).2.1⟩
theorem cP_open {n : Nat} {f : FuncId} {args : List DV} {r : DV} (h : cP n f false args = some r) : ∃ bs r0 H', mapO argEl args = some bs ∧ callG Try.prog ENV n f bs [] 0 = some (r0, H') ∧ outD false H' r0 = some r := by
  unfold cP callP at h
  obtain ⟨bs, h1, h⟩ := bi_eq h
  obtain ⟨p, h2, h⟩ := bi_eq h
  exact ⟨bs, p.1, p.2, h1, h2, h⟩
def rqW (a : Rq) (vw vb : Value) : Value := .agg #[.int .i64 a.code, .int .i64 a.addr, .int .i64 a.cnt, .int .i64 a.to_, vw, vb, .int .u16 a.and_, .int .u16 a.or_]
def anW (x : An) (v1 v2 v3 : Value) : Value := .agg #[.int .i64 x.exc, v1, v2, v3]
theorem rq_rep {J : Nat → Nat → Prop} {w : World} {G : Gh} {a : Rq} {vw vb : Value} (hw : Words a.words) (h1 : RdV encW w vw (toW a.words)) (h2 : RdV encT w vb a.bits) (i1 : ∀ p n c, vw = .slice (some p) n c → toW a.words ≠ [] → ∀ j, J p.block j) (i2 : ∀ p n c, vb = .slice (some p) n c → a.bits ≠ [] → ∀ j, J p.block j) : Rep J w G (rqE a .sh .sh) (rqW a vw vb) := by
  have e1 := mkl_eW (toW a.words) .sh
  rw [ofW_toW _ hw] at e1
  have r1 : Rep J w G (LV 1 (I .u16) a.words .sh) vw := by rw [← e1]; exact rd_rep (fun _ => rfl) (fun _ => ⟨rfl, rfl⟩) h1 i1
  have r2 : Rep J w G (LV 1 Bo a.bits .sh) vb := rd_rep (fun _ => rfl) (fun _ => ⟨rfl, rfl⟩) h2 i2
  unfold rqE rqW
  simp only [Rep, RepL]
  exact ⟨_, rfl, _, _, rfl, rfl, _, _, rfl, rfl, _, _, rfl, rfl, _, _, rfl, rfl, _, _, rfl, r1, _, _, rfl, r2, _, _, rfl, rfl, _, _, rfl, rfl, rfl⟩
theorem an_rep {J : Nat → Nat → Prop} {w : World} {G : Gh} {x : An} {v1 v2 v3 : Value} (hw : Words x.words) (h1 : RdV encT w v1 x.bits) (h2 : RdV encW w v2 (toW x.words)) (h3 : RdV encS w v3 x.texts) (i1 : ∀ p n c, v1 = .slice (some p) n c → x.bits ≠ [] → ∀ j, J p.block j) (i2 : ∀ p n c, v2 = .slice (some p) n c → toW x.words ≠ [] → ∀ j, J p.block j) (i3 : ∀ p n c, v3 = .slice (some p) n c → x.texts ≠ [] → ∀ j, J p.block j) : Rep J w G (anE x .sh .sh .sh) (anW x v1 v2 v3) := by
  have e1 := mkl_eW (toW x.words) .sh
  rw [ofW_toW _ hw] at e1
  have r1 : Rep J w G (LV 1 Bo x.bits .sh) v1 := rd_rep (fun _ => rfl) (fun _ => ⟨rfl, rfl⟩) h1 i1
  have r2 : Rep J w G (LV 1 (I .u16) x.words .sh) v2 := by rw [← e1]; exact rd_rep (fun _ => rfl) (fun _ => ⟨rfl, rfl⟩) h2 i2
  have r3 : Rep J w G (LV 1 Sg x.texts .sh) v3 := rd_rep (enc := encS) (fun _ => rfl) (fun _ => ⟨rfl, rfl⟩) h3 i3
  unfold anE anW
  simp only [Rep, RepL]
  exact ⟨_, rfl, _, _, rfl, rfl, _, _, rfl, r1, _, _, rfl, r2, _, _, rfl, r3, rfl⟩
theorem cP_calls {n : Nat} {f : FuncId} {args : List DV} {r : DV} (h : cP n f false args = some r) (ha : mapO argEl args = some args) (B : Nat → Nat → Prop) {w : World} {vs : Array Value} (hB : ∀ b j, w.heap.size ≤ b → B b j) (hr : RepL (ImmB B []) w [] args vs.toList) : Calls Try.prog f vs w fun e w' => ∃ V, e = .returned V ∧ Below w.heap.size w w' ∧ Rep B w' [] r V := by
  obtain ⟨bs, r0, H', h1, h2, h3⟩ := cP_open h
  rw [ha] at h1
  obtain rfl := Option.some.inj h1
  refine ((call_sound mixed noOwn primSound n _ _ _ _ _ _ (callG_ok _ _ _ _ _ _ _ _ h2)).1 B [] w vs hB (hr_nil _ w) hr (Nat.zero_le _)).1.mono fun e w' ⟨V, G', he, hK, hH, hd⟩ => ?_
  refine ⟨V, he, ⟨hK.os, hK.tape, hK.output, hK.size, fun b hb => hK.blk b hb fun k hk => ?_⟩, outD_rep h3 hd (fun _ => hH) (fun b j _ hi => hi.1) (fun k b _ h2 j => hH.bb k b (.inl h2) j)⟩
  rcases hk with hk | ⟨_, _, _, hk⟩ <;> simp at hk
theorem reads_w (c : Int) (w : World) : Calls Try.prog 32 #[.int .i64 c] w fun e w' => e = .returned (.tuple #[.bool (rdBits c), .bool (rdWords c), .bool (rdTexts c)]) ∧ Below w.heap.size w w' := by
  refine (cP_calls (reads_c 10 (by omega) c) (by simp [argEl_eq]) (fun _ _ => True) (fun _ _ _ => trivial) (by simp only [RepL, Rep]; exact ⟨_, _, rfl, rfl, rfl⟩)).mono ?_
  rintro e w' ⟨V, rfl, hb, hV⟩
  simp only [Rep, RepL] at hV
  obtain ⟨vs, rfl, v1, r1, h1, h2, v2, r2, h3, h4, v3, r3, h5, h6, h7⟩ := hV
  subst h7; subst h5; subst h3
  subst h2; subst h4; subst h6
  obtain rfl : vs = #[.bool (rdBits c), .bool (rdWords c), .bool (rdTexts c)] := by cases vs; simp_all
  exact ⟨rfl, hb⟩
theorem ansRight_w (a : Rq) (x : An) (ok : AnOk x) (vw vb v1 v2 v3 : Value) (w : World) (hw : Words a.words) (a1 : RdV encW w vw (toW a.words)) (a2 : RdV encT w vb a.bits) (h1 : RdV encT w v1 x.bits) (h2 : RdV encW w v2 (toW x.words)) (h3 : RdV encS w v3 x.texts) :
    Calls Try.prog 16 #[rqW a vw vb, anW x v1 v2 v3] w fun e w' => e = .returned (.bool (ansV a x)) ∧ Below w.heap.size w w' := by
  refine (cP_calls (ansRight_c 1200 (by omega) a x ok .sh .sh .sh .sh .sh) (by simp [argEl_eq, rqE, anE]) (fun _ _ => True) (fun _ _ _ => trivial) ?_).mono ?_
  · simp only [RepL]
    have hI : ∀ (Q : Prop) (V : Value) p n c, V = .slice (some p) n c → Q → ∀ j, ImmB (fun _ _ => True) [] p.block j := fun Q V p n c _ _ j => ⟨trivial, fun k hk => by simp at hk, fun k s c n hk => by simp at hk⟩
    exact ⟨_, _, rfl, rq_rep hw a1 a2 (hI _ _) (hI _ _), _, _, rfl, an_rep ok.w h1 h2 h3 (hI _ _) (hI _ _) (hI _ _), rfl⟩
  · rintro e w' ⟨V, rfl, hb, hV⟩
    simp only [Rep] at hV
    subst hV
    exact ⟨rfl, hb⟩
theorem askRight_w (a : Rq) (vw vb : Value) (w : World) (hw : Words a.words) (a1 : RdV encW w vw (toW a.words)) (a2 : RdV encT w vb a.bits) :
    Calls Try.prog 21 #[rqW a vw vb] w fun e w' => e = .returned (.bool (decide (RightP a))) ∧ Below w.heap.size w w' := by
  refine (cP_calls (Right_c 1200 (by omega) a .sh .sh) (by simp [argEl_eq, rqE]) (fun _ _ => True) (fun _ _ _ => trivial) ?_).mono ?_
  · simp only [RepL]
    have hI : ∀ (Q : Prop) (V : Value) p n c, V = .slice (some p) n c → Q → ∀ j, ImmB (fun _ _ => True) [] p.block j := fun Q V p n c _ _ j => ⟨trivial, fun k hk => by simp at hk, fun k s c n hk => by simp at hk⟩
    exact ⟨_, _, rfl, rq_rep hw a1 a2 (hI _ _) (hI _ _), rfl⟩
  · rintro e w' ⟨V, rfl, hb, hV⟩
    simp only [Rep] at hV
    subst hV
    exact ⟨rfl, hb⟩
theorem anZ_ok : AnOk anZ := ⟨(by intro x hx; cases hx), (by intro x hx; cases hx), (by decide)⟩
theorem mapO_eB : ∀ l : List UInt8, mapO dB (l.map eB) = some l
  | [] => rfl
  | c :: l => by
    have hc := c.toNat_lt
    have e : dB (eB c) = some c := by
      unfold dB eB
      simp only
      rw [if_pos (by omega), lowB_toNat]
    rw [List.map_cons, mapO_cons, mapO_eB l, e]
    rfl
theorem ansBytes_w (a : Rq) (oa : RqOk a) (hr : RightP a) (hz : ansV a anZ = true) (g : Nat) (vw vb : Value) (w : World) (hg : g < w.heap.size) (a1 : RdV encW w vw (toW a.words)) (a2 : RdV encT w vb a.bits) (i1 : ∀ p n c, vw = .slice (some p) n c → toW a.words ≠ [] → p.block ≠ g) (i2 : ∀ p n c, vb = .slice (some p) n c → a.bits ≠ [] → p.block ≠ g) :
    Calls Try.prog 18 #[rqW a vw vb, .agg #[.int .i64 0, .slice none 0 0, .slice none 0 0, .slice none 0 0]] w fun e w' => (∃ p c, e = .returned (.tuple #[.slice (some p) (ansTextV a anZ).length c, .int .i64 0]) ∧ RdV encB w' (.slice (some p) (ansTextV a anZ).length c) (toB (ansTextV a anZ)) ∧ p.block ≠ g) ∧ Below w.heap.size w w' := by
  have hb := ansBytes_c 1300 (by omega) a oa anZ anZ_ok .sh .sh .sh .sh .sh
  unfold ansBytV at hb
  rw [if_pos hr, if_pos hz] at hb
  have hl : (ansTextV a anZ) = ofB (toB (ansTextV a anZ)) := by
    refine (ofB_toB _ ?_).symm
    exact ansText_bytes a anZ hr (by decide) (by decide) anZ_ok
  refine (cP_calls hb (by simp [argEl_eq, rqE, anE]) (fun b _ => b ≠ g) (fun b _ hb e => by omega) ?_).mono ?_
  · simp only [RepL]
    have hI : ∀ (Q : Prop) (V : Value), (∀ p n c, V = .slice (some p) n c → Q → p.block ≠ g) → ∀ p n c, V = .slice (some p) n c → Q → ∀ j, ImmB (fun b _ => b ≠ g) [] p.block j := fun Q V h p n c e q j => ⟨h p n c e q, fun k hk => by simp at hk, fun k s c n hk => by simp at hk⟩
    have hn : ∀ (Q : Prop) p n c, (Value.slice none 0 0) = .slice (some p) n c → Q → ∀ j, ImmB (fun b _ => b ≠ g) [] p.block j := fun Q p n c e => by cases e
    exact ⟨_, _, rfl, rq_rep oa.w a1 a2 (hI _ _ i1) (hI _ _ i2), _, _, rfl, an_rep anZ_ok.w (RdV.nil _ _) (RdV.nil _ _) (RdV.nil _ _) (hn _) (hn _) (hn _), rfl⟩
  · rintro e w' ⟨V, rfl, hb, hV⟩
    refine ⟨?_, hb⟩
    rw [hl, ← mkl_eB] at hV
    clear hl
    simp only [Rep, RepL] at hV
    obtain ⟨vs, rfl, v1, r1, h1, h2, v2, r2, h3, h4, h5⟩ := hV
    subst h5; subst h3; subst h4
    obtain rfl : vs = #[v1, .int .i64 0] := by cases vs; simp_all
    have hrd : RdV encB w' v1 (toB (ansTextV a anZ)) := by
      obtain ⟨sz, e1, e2⟩ : ∃ sz, mkl 1 ((toB (ansTextV a anZ)).map eB) .sh = .list sz ((toB (ansTextV a anZ)).map eB) .sh ∧ True := by cases (toB (ansTextV a anZ)) <;> exact ⟨_, rfl, trivial⟩
      rw [e1] at h2
      exact list_rd dB_some (fun a => rfl) h2 (mapO_eB _)
    obtain ⟨r, hr2⟩ := ansText_head a anZ hr (by decide)
    rw [hr2, toB_cons] at h2
    obtain ⟨p, n, c, j, rfl, hp⟩ := rep_blk h2
    obtain ⟨A, c', e, _⟩ := hrd.open
    injection e with e1 e2 e3
    subst e2
    refine ⟨p, c, ?_, ?_, hp⟩
    · simp [toB]
    · simpa [toB] using hrd
end Go.Proofs.Ytcpgmbpndpcmdaa
