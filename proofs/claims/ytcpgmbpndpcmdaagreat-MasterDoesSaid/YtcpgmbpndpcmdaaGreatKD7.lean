/- Texts of mine, laid together: GAnsC, GAskZ, GAskY, GAnsP, GAnsQ, RdrA, RdrB, RdrC, Pmon, PrimR, FMas. -/
import Derived.Test.YtcpgmbpndpcmdaaGreatKD6
import Derived.Deep.RegionHeld3
import Derived.Deep.CutBlock
import Derived.Deep.DeepCutAuto
import Derived.Recover
import Derived.Defers
namespace Go.Proofs.YtcpgmbpndpcmdaaGreat
open Go
set_option linter.unusedSimpArgs false
set_option linter.unusedVariables false
theorem fitT_all : ∀ (l : List ByteArray) (n : Int), fitT n l = true → ∀ s ∈ l, s.size ≤ 245
  | [], _, _ => by simp
  | x :: l, n, h => by
    unfold fitT at h
    split at h
    · cases h
    · rename_i hc
      intro s hs
      rcases List.mem_cons.1 hs with rfl | hs
      · omega
      · exact fitT_all l _ h s hs
def ansTextV (a : Rq) (x : An) : List Int :=
  if 0 < x.exc then [a.code + 128, x.exc] else if rdBits a.code = true then a.code :: cntI (pkI x.bits) else if rdWords a.code = true then a.code :: cntI (wbI x.words) else if rdTexts a.code = true then a.code :: namedV a x.texts
  else if a.code = 22 then textV a else (textV a).take 5
theorem buildL_y2 (a b : Int) : buildL false 1 2 (I .u8 0) [(0, I .u8 a), (1, I .u8 b)] = some (LV 1 (I .u8) [a, b] .ti) := rfl
theorem text_head (a : Rq) (h : isV a.code = true) : ∃ r, textV a = a.code :: r := by
  unfold isV at h
  have h := of_decide_eq_true h
  unfold textV
  split
  · rename_i e
    exact ⟨_, by rw [e]⟩
  · have : a.code % 256 = a.code := by omega
    exact ⟨_, by rw [this]; rfl⟩
theorem nmI_len (addr : Int) : ∀ (l : List ByteArray) (i : Nat), (∀ s ∈ l, s.size ≤ 245) → (nmI addr i l).length ≤ 250 * l.length
  | [], _, _ => by simp [nmI]
  | s :: l, i, h => by
    have h1 := nmI_len addr l (i + 1) (fun s hs => h s (by simp [hs]))
    have h2 := h s (by simp)
    have h3 := strI_len s
    simp only [nmI, cntI, List.length_cons, List.length_append]
    omega
theorem text_five (a : Rq) (h : FormedP a) (c1 : ¬ rdBits a.code = true) (c2 : ¬ rdWords a.code = true) (c3 : ¬ rdTexts a.code = true) : 5 ≤ (textV a).length ∧ (a.code = 22 → (textV a).length = 7) := by
  have hc := of_decide_eq_true h.1
  unfold rdBits at c1
  unfold rdWords at c2
  unfold rdTexts at c3
  simp only [decide_eq_true_eq] at c1 c2 c3
  have hw := h.2.2.1
  have h5 : a.code = 5 ∨ a.code = 6 ∨ a.code = 15 ∨ a.code = 16 ∨ a.code = 22 := by omega
  have hwl := wbI_length a.words
  unfold textV
  rw [if_neg c3]
  rcases h5 with e | e | e | e | e
  · refine ⟨?_, fun e2 => by omega⟩
    unfold tailV
    rw [if_pos e]
    split <;> simp [twoV]
  · refine ⟨?_, fun e2 => by omega⟩
    have : a.words.length = 1 := by
      rw [e] at hw
      have := of_decide_eq_true hw
      simp [wrdV] at this
      omega
    unfold tailV
    rw [if_neg (by omega), if_pos e]
    simp only [List.length_cons, List.length_append, twoV, List.length_nil]
    omega
  · refine ⟨?_, fun e2 => by omega⟩
    unfold tailV
    rw [if_neg (by omega), if_neg (by omega), if_pos e]
    simp only [List.length_cons, List.length_append, twoV, btV, List.length_nil]
    omega
  · refine ⟨?_, fun e2 => by omega⟩
    unfold tailV
    rw [if_neg (by omega), if_neg (by omega), if_neg (by omega), if_pos e]
    simp only [List.length_cons, List.length_append, twoV, wtV, List.length_nil]
    omega
  · unfold tailV
    rw [if_neg (by omega), if_neg (by omega), if_neg (by omega), if_neg (by omega), if_pos e]
    simp [twoV]
def ansBytV (a : Rq) (x : An) : DV := if RightP a then (if ansV a x = true then .tup [LV 1 (I .u8) (ansTextV a x) .sh, I .i64 0] else .tup [.list 0 [] .sh, I .i64 2]) else .tup [.list 0 [] .sh, I .i64 1]
theorem ansBytes_c (n : Nat) (hn : 1200 ≤ n) (a : Rq) (oa : RqOk a) (x : An) (ok : AnOk x) (t1 t2 t3 t4 t5 : Tag) : cP n 19 false [rqE a t1 t2, anE x t3 t4 t5] = some (ansBytV a x) := by
  obtain ⟨n, rfl⟩ : ∃ m, n = m + 1 := ⟨n - 1, by omega⟩
  have k1 := Bytes_c n (by omega) a oa .sh .sh
  have k2 := ansRight_c n (by omega) a x ok .sh .sh .sh .sh .sh
  have k3 := reads_c n (by omega) a.code
  have k4 := fun b x => many_c n (by omega) b x
  have go : ∀ r r', (∃ H', s_answer_Bytes n [] 0 (rqE a .sh .sh) (anE x .sh .sh .sh) = some (r, H')) → (∀ H', outD false H' r = some r') → ansBytV a x = r' → cP (n + 1) 19 false [rqE a t1 t2, anE x t3 t4 t5] = some (ansBytV a x) := by
    intro r r' ⟨H', h⟩ h2 h3
    rw [h3]
    exact cP_of (args' := [rqE a .sh .sh, anE x .sh .sh .sh]) (by simp [argEl_eq, rqE, anE]) ((s_answer_Bytes_eq _ _ _ _ _).trans h) (h2 H')
  by_cases hr : RightP a
  · rw [if_pos hr] at k1
    cases hv : ansV a x with
    | false =>
      rw [hv] at k2
      refine go (.tup [.list 0 [] .ti, I .i64 2]) (.tup [.list 0 [] .sh, I .i64 2]) ?_ (fun H' => by simp <;> rfl) (by unfold ansBytV; rw [if_pos hr, hv]; rfl)
      exact ⟨_, by unfold s_answer_Bytes rqE anE at *; simp -implicitDefEqProofs (disch := first | omega | (simp only [List.length_set, List.length_append, List.length_cons, List.length_nil, List.length_take, List.length_drop, List.length_map]; omega) | simp) [wrap_i64, wrap_u16_id, wrap_u8_id, tdiv_pos, tmod_pos, -getElem?_pos, -getElem?_neg, -List.length_eq_zero_iff, -List.getElem_cons_drop, k1, k2]; rfl⟩
    | true =>
      rw [hv] at k2
      have hb : ansBytV a x = .tup [LV 1 (I .u8) (ansTextV a x) .sh, I .i64 0] := by unfold ansBytV; rw [if_pos hr, hv]; rfl
      unfold ansV ansB at hv
      simp only [Bool.and_eq_true, decide_eq_true_eq] at hv
      obtain ⟨⟨⟨⟨⟨_, e0⟩, e1⟩, hbl⟩, hwl⟩, htx⟩ := hv
      obtain ⟨l1, l2, l3, l4, _⟩ := formed_le a hr.1
      obtain ⟨r, htext⟩ := text_head a hr.1.1
      have hcode : 0 ≤ a.code ∧ a.code ≤ 43 := by have := of_decide_eq_true hr.1.1; omega
      have w1 : IntKind.wrap .u8 a.code = a.code := by rw [wrap_u8]; omega
      have w2 : IntKind.wrap .u8 x.exc = x.exc := by rw [wrap_u8]; omega
      by_cases hx : 0 < x.exc
      · have ho : orI .u8 a.code 128 = a.code + 128 := by
          have h := of_decide_eq_true hr.1.1
          rcases h with h | h | h | h | h | h | h | h | h | h | h <;> rw [h] <;> decide
        have h2 := buildL_y2 (a.code + 128) x.exc
        refine go (.tup [LV 1 (I .u8) [a.code + 128, x.exc] .ti, I .i64 0]) (.tup [LV 1 (I .u8) [a.code + 128, x.exc] .sh, I .i64 0]) ?_ (fun H' => by simp) (by rw [hb]; unfold ansTextV; rw [if_pos hx])
        exact ⟨_, by unfold s_answer_Bytes rqE anE at *; simp -implicitDefEqProofs (disch := first | omega | (simp only [List.length_set, List.length_append, List.length_cons, List.length_nil, List.length_take, List.length_drop, List.length_map]; omega) | simp) [wrap_i64, wrap_u16_id, wrap_u8_id, tdiv_pos, tmod_pos, -getElem?_pos, -getElem?_neg, -List.length_eq_zero_iff, -List.getElem_cons_drop, k1, k2, hx, w1, w2, ho, h2]; rfl⟩
      · have hz : x.exc = 0 := by omega
        have hlen : 1 ≤ (textV a).length := by rw [htext]; simp
        have htk : (textV a).take 1 = [a.code] := by rw [htext]; rfl
        by_cases c1 : rdBits a.code = true
        · have hbl' : x.bits.length ≤ 2000 := by rw [if_pos ⟨c1, hz⟩] at hbl; omega
          have hp := word_Pack_c n x.bits .sh (by omega) (by omega)
          have hpl := pkI_length x.bits
          have hc := ansCounted_c n (by omega) (pkI x.bits) .sh (by omega)
          have s0 := fun (H : Heap) => appG_ti (e := 5) (ag := false) (sz := 1) (by_ := 1) (enc := I .u8) (xs := [a.code]) (ys := cntI (pkI x.bits)) (t' := .sh) (H := H) (fl := 0) (by simp [cntI]) rfl (by simp [cntI]; omega) (by simp [cntI]; omega)
          have ht : ansTextV a x = a.code :: cntI (pkI x.bits) := by unfold ansTextV; rw [if_neg hx, if_pos c1]
          rw [ht] at hb
          rw [c1] at k3
          refine go (.tup [LV 1 (I .u8) ([a.code] ++ cntI (pkI x.bits)) (.own 2), I .i64 0]) (.tup [LV 1 (I .u8) (a.code :: cntI (pkI x.bits)) .sh, I .i64 0]) ?_ (fun H' => by simp) hb
          exact ⟨_, by unfold s_answer_Bytes rqE anE at *; simp -implicitDefEqProofs (disch := first | omega | (simp only [List.length_set, List.length_append, List.length_cons, List.length_nil, List.length_take, List.length_drop, List.length_map]; omega) | simp) [wrap_i64, wrap_u16_id, wrap_u8_id, tdiv_pos, tmod_pos, -getElem?_pos, -getElem?_neg, -List.length_eq_zero_iff, -List.getElem_cons_drop, k1, k2, k3, hx, htk, hlen, hp, hc, s0]; rfl⟩
        · have d1 : rdBits a.code = false := by simpa using c1
          rw [d1] at k3
          by_cases c2 : rdWords a.code = true
          · have hwl' : x.words.length ≤ 2000 := by rw [if_pos ⟨c2, hz⟩] at hwl; omega
            have hp := word_Bytes_c n x.words .sh (by omega) ok.w (by omega)
            have hpl := wbI_length x.words
            have hc := ansCounted_c n (by omega) (wbI x.words) .sh (by omega)
            have s0 := fun (H : Heap) => appG_ti (e := 5) (ag := false) (sz := 1) (by_ := 1) (enc := I .u8) (xs := [a.code]) (ys := cntI (wbI x.words)) (t' := .sh) (H := H) (fl := 0) (by simp [cntI]) rfl (by simp [cntI]; omega) (by simp [cntI]; omega)
            have ht : ansTextV a x = a.code :: cntI (wbI x.words) := by unfold ansTextV; rw [if_neg hx, if_neg c1, if_pos c2]
            rw [ht] at hb
            rw [c2] at k3
            refine go (.tup [LV 1 (I .u8) ([a.code] ++ cntI (wbI x.words)) (.own 2), I .i64 0]) (.tup [LV 1 (I .u8) (a.code :: cntI (wbI x.words)) .sh, I .i64 0]) ?_ (fun H' => by simp) hb
            exact ⟨_, by unfold s_answer_Bytes rqE anE at *; simp -implicitDefEqProofs (disch := first | omega | (simp only [List.length_set, List.length_append, List.length_cons, List.length_nil, List.length_take, List.length_drop, List.length_map]; omega) | simp) [wrap_i64, wrap_u16_id, wrap_u8_id, tdiv_pos, tmod_pos, -getElem?_pos, -getElem?_neg, -List.length_eq_zero_iff, -List.getElem_cons_drop, k1, k2, k3, hx, htk, hlen, hp, hc, s0]; rfl⟩
          · have d2 : rdWords a.code = false := by simpa using c2
            rw [d2] at k3
            by_cases c3 : rdTexts a.code = true
            · rw [if_pos ⟨c3, hz⟩] at htx
              unfold fitA at htx
              simp only [Bool.and_eq_true, decide_eq_true_eq] at htx
              obtain ⟨⟨f1, f2⟩, f3⟩ := htx
              have hn3 := named_c n a .sh .sh .sh x.texts ⟨l3, l4⟩ (fitT_all _ _ f1) (by omega) (by omega)
              have hnl : (namedV a x.texts).length ≤ 100000 := by
                have := nmI_len a.addr x.texts 0 (fitT_all _ _ f1)
                unfold namedV
                simp only [List.length_append, List.length_cons, List.length_nil]
                omega
              have s0 := fun (H : Heap) => appG_ti (e := 5) (ag := false) (sz := 1) (by_ := 1) (enc := I .u8) (xs := [a.code]) (ys := namedV a x.texts) (t' := .sh) (H := H) (fl := 0) (by simp [namedV]) rfl (by simp; omega) (by simp; omega)
              have ht : ansTextV a x = a.code :: namedV a x.texts := by unfold ansTextV; rw [if_neg hx, if_neg c1, if_neg c2, if_pos c3]
              rw [ht] at hb
              rw [c3] at k3
              refine go (.tup [LV 1 (I .u8) ([a.code] ++ namedV a x.texts) (.own 2), I .i64 0]) (.tup [LV 1 (I .u8) (a.code :: namedV a x.texts) .sh, I .i64 0]) ?_ (fun H' => by simp) hb
              exact ⟨_, by unfold s_answer_Bytes rqE anE at *; simp -implicitDefEqProofs (disch := first | omega | (simp only [List.length_set, List.length_append, List.length_cons, List.length_nil, List.length_take, List.length_drop, List.length_map]; omega) | simp) [wrap_i64, wrap_u16_id, wrap_u8_id, tdiv_pos, tmod_pos, -getElem?_pos, -getElem?_neg, -List.length_eq_zero_iff, -List.getElem_cons_drop, k1, k2, k3, hx, htk, hlen, hn3, s0]; rfl⟩
            · have d3 : rdTexts a.code = false := by simpa using c3
              rw [d3] at k3
              obtain ⟨h5, h7⟩ := text_five a hr.1 c1 c2 c3
              by_cases h22 : a.code = 22
              · have h7 := h7 h22
                have ht : ansTextV a x = (textV a).take 7 := by unfold ansTextV; rw [if_neg hx, if_neg c1, if_neg c2, if_neg c3, if_pos h22, List.take_of_length_le (by omega)]
                rw [ht] at hb
                have m1 := k4 true 2
                refine go (.tup [LV 1 (I .u8) ((textV a).take 7) .sh, I .i64 0]) (.tup [LV 1 (I .u8) ((textV a).take 7) .sh, I .i64 0]) ?_ (fun H' => by simp) hb
                have h22' : decide (a.code = 22) = true := by simpa using h22
                exact ⟨_, by unfold s_answer_Bytes rqE anE at *; simp -implicitDefEqProofs (disch := first | omega | (simp only [List.length_set, List.length_append, List.length_cons, List.length_nil, List.length_take, List.length_drop, List.length_map]; omega) | simp) [wrap_i64, wrap_u16_id, wrap_u8_id, tdiv_pos, tmod_pos, -getElem?_pos, -getElem?_neg, -List.length_eq_zero_iff, -List.getElem_cons_drop, k1, k2, k3, hx, htk, hlen, h7, m1, h22']; exact ⟨rfl, rfl⟩⟩
              · have ht : ansTextV a x = (textV a).take 5 := by unfold ansTextV; rw [if_neg hx, if_neg c1, if_neg c2, if_neg c3, if_neg h22]
                rw [ht] at hb
                have m1 := k4 false ((textV a).length - 5)
                have tl := text_len a oa
                have mn : min (5 : Int) (textV a).length = 5 := by omega
                refine go (.tup [LV 1 (I .u8) ((textV a).take 5) .sh, I .i64 0]) (.tup [LV 1 (I .u8) ((textV a).take 5) .sh, I .i64 0]) ?_ (fun H' => by simp) hb
                exact ⟨_, by unfold s_answer_Bytes rqE anE at *; simp -implicitDefEqProofs (disch := first | omega | (simp only [List.length_set, List.length_append, List.length_cons, List.length_nil, List.length_take, List.length_drop, List.length_map]; omega) | simp) [wrap_i64, wrap_u16_id, wrap_u8_id, tdiv_pos, tmod_pos, -getElem?_pos, -getElem?_neg, -List.length_eq_zero_iff, -List.getElem_cons_drop, k1, k2, k3, hx, htk, hlen, m1, h22, mn]; rfl⟩
  · rw [if_neg hr] at k1
    refine go (.tup [.list 0 [] .ti, I .i64 1]) (.tup [.list 0 [] .sh, I .i64 1]) ?_ (fun H' => by simp <;> rfl) (by unfold ansBytV; rw [if_neg hr])
    exact ⟨_, by unfold s_answer_Bytes rqE anE at *; simp -implicitDefEqProofs (disch := first | omega | (simp only [List.length_set, List.length_append, List.length_cons, List.length_nil, List.length_take, List.length_drop, List.length_map]; omega) | simp) [wrap_i64, wrap_u16_id, wrap_u8_id, tdiv_pos, tmod_pos, -getElem?_pos, -getElem?_neg, -List.length_eq_zero_iff, -List.getElem_cons_drop, k1]; rfl⟩
end Go.Proofs.YtcpgmbpndpcmdaaGreat
namespace Go.Proofs.YtcpgmbpndpcmdaaGreat
open Go
set_option linter.unusedSimpArgs false
set_option linter.unusedVariables false
set_option maxRecDepth 100000
theorem numV_drop (l : List Int) (k i : Nat) : numV (l.drop k) i = numV l (k + i) := by
  unfold numV
  simp only [List.length_drop, List.getD_eq_getElem?_getD, List.getElem?_drop]
  by_cases h : k + i + 2 ≤ l.length
  · rw [if_pos (by omega), if_pos h]
    rfl
  · rw [if_neg (by omega), if_neg h]
theorem two_mod (x : Int) (h : 0 ≤ x ∧ x < 65536) (l : List Int) : numV (twoV x ++ l) 0 = x := numV_two x l h.1 h.2
theorem num_3 (c ad x : Int) (l : List Int) (h : 0 ≤ x ∧ x < 65536) : numV (c :: (twoV ad ++ (twoV x ++ l))) 3 = x := by
  show numV (c :: ad / 256 % 256 :: ad % 256 :: (twoV x ++ l)) 3 = x
  rw [numV_c, numV_c, numV_c, two_mod x h]
theorem num_5 (c ad y x : Int) (l : List Int) (h : 0 ≤ x ∧ x < 65536) : numV (c :: (twoV ad ++ (twoV y ++ (twoV x ++ l)))) 5 = x := by
  show numV (c :: ad / 256 % 256 :: ad % 256 :: y / 256 % 256 :: y % 256 :: (twoV x ++ l)) 5 = x
  rw [numV_c, numV_c, numV_c, numV_c, numV_c, two_mod x h]
theorem num_1 (c x : Int) (l : List Int) (h : 0 ≤ x ∧ x < 65536) : numV (c :: (twoV x ++ l)) 1 = x := by
  rw [numV_c, two_mod x h]
theorem drop_6 (c ad x y : Int) (l : List Int) : (c :: (twoV ad ++ (twoV x ++ y :: l))).drop 6 = l := rfl
theorem drop_10 (c ad x y z : Int) (v : Int) (l : List Int) : (c :: (twoV ad ++ (twoV x ++ (twoV y ++ (twoV z ++ v :: l))))).drop 10 = l := rfl
theorem gBits_pk (l : List Bool) (hl : l.length < 65536) : gBits l.length (pkI l) = l := by
  have h8 : min (l.length : Int).toNat (8 * (pkI l).length) = l.length := by rw [pkI_length]; omega
  unfold gBits
  rw [h8]
  have e : wBitsL (wPack l) l.length = l := wBits_pack l
  conv => rhs; rw [← e]
  unfold wBitsL
  refine List.map_congr_left fun i hi => ?_
  unfold pbit bitsOf pkI ofB
  have hi' : i < l.length := by simpa using hi
  have hw : i / 8 < (wPack l).length := by rw [wPack_len]; omega
  have e1 : ((wPack l).map fun c => (c.toNat : Int)).getD (i / 8) 0 = (((wPack l).getD (i / 8) 0).toNat : Int) := by simp [hw]
  rw [e1]
  have e2 : ((((wPack l).getD (i / 8) 0).toNat : Int) / 2 ^ (i % 8) % 2) = (((((wPack l).getD (i / 8) 0).toNat) / 2 ^ (i % 8) % 2 : Nat) : Int) := by
    rw [Int.natCast_emod, Int.natCast_ediv, Int.natCast_pow]
    rfl
  rw [e2]
  exact decide_eq_decide.2 (by omega)
theorem text_back (a : Rq) (h : FormedP a) (ho : RqOk a) : readV (textV a) = a ∧ guessV (textV a) = a ∧ headV (textV a) = true ∧ textV a ≠ [] := by
  have hle := formed_le a h
  obtain ⟨hc, k2, k3, k4, k5, k6, _, _, k43, _, _⟩ := h
  have q2 := fit_pos k2 (cntV_le _).1
  have q3 := fit_pos k3 (wrdV_le _).1
  have q4 := fit_pos k4 (bitV_le _).1
  obtain ⟨c, ad, k, t, w, b, an, o⟩ := a
  have ow := ho.w
  have oa := ho.a
  have oo := ho.o
  simp only at hle hc k5 k6 k43 q2 q3 q4 ow oa oo
  obtain ⟨h1, h2, h3, h4, h5, h6, h7, h8⟩ := hle
  have wd := fun e => wdI_wb w e
  have bt := btI_pk b
  have gb := gBits_pk b (by omega)
  have adr : 0 ≤ ad ∧ ad < 65536 := by omega
  have kr : 0 ≤ k ∧ k < 65536 := by omega
  have tr : 0 ≤ t ∧ t < 65536 := by omega
  have br : 0 ≤ (b.length : Int) ∧ (b.length : Int) < 65536 := by omega
  have wr : 0 ≤ (w.length : Int) ∧ (w.length : Int) < 65536 := by omega
  clear k2 k3 k4 ho
  rcases code_cases c with rfl | rfl | rfl | rfl | rfl | rfl | rfl | rfl | rfl | rfl | rfl | e
  case inr.inr.inr.inr.inr.inr.inr.inr.inr.inr.inr => exact absurd hc (by unfold isV; simp [e])
  case inl =>
    rw [show cntV 1 = 2000 from rfl] at q2
    rw [show wrdV 1 = 0 from rfl] at q3
    rw [show bitV 1 = 0 from rfl] at q4
    obtain rfl : w = [] := List.eq_nil_of_length_eq_zero (by omega)
    obtain rfl : b = [] := List.eq_nil_of_length_eq_zero (by omega)
    obtain ⟨rfl, rfl⟩ : an = 0 ∧ o = 0 := by omega
    obtain rfl : t = 0 := by omega
    have ht : textV ⟨1, ad, k, 0, [], [], 0, 0⟩ = 1 :: (twoV ad ++ (twoV k ++ [])) := by simp [textV, tailV]
    rw [ht]
    refine ⟨?_, ?_, rfl, by simp⟩
    · simp only [readV, List.getD_cons_zero, numV_drop, List.drop_drop, Nat.add_zero, Nat.reduceAdd, num_1 _ _ _ adr, num_3 _ _ _ _ kr]
      simp
    · simp only [guessV, List.getD_cons_zero, num_1 _ _ _ adr, num_3 _ _ _ _ kr]
      simp
  case inr.inl =>
    rw [show cntV 2 = 2000 from rfl] at q2
    rw [show wrdV 2 = 0 from rfl] at q3
    rw [show bitV 2 = 0 from rfl] at q4
    obtain rfl : w = [] := List.eq_nil_of_length_eq_zero (by omega)
    obtain rfl : b = [] := List.eq_nil_of_length_eq_zero (by omega)
    obtain ⟨rfl, rfl⟩ : an = 0 ∧ o = 0 := by omega
    obtain rfl : t = 0 := by omega
    have ht : textV ⟨2, ad, k, 0, [], [], 0, 0⟩ = 2 :: (twoV ad ++ (twoV k ++ [])) := by simp [textV, tailV]
    rw [ht]
    refine ⟨?_, ?_, rfl, by simp⟩
    · simp only [readV, List.getD_cons_zero, numV_drop, List.drop_drop, Nat.add_zero, Nat.reduceAdd, num_1 _ _ _ adr, num_3 _ _ _ _ kr]
      simp
    · simp only [guessV, List.getD_cons_zero, num_1 _ _ _ adr, num_3 _ _ _ _ kr]
      simp
  case inr.inr.inl =>
    rw [show cntV 3 = 125 from rfl] at q2
    rw [show wrdV 3 = 0 from rfl] at q3
    rw [show bitV 3 = 0 from rfl] at q4
    obtain rfl : w = [] := List.eq_nil_of_length_eq_zero (by omega)
    obtain rfl : b = [] := List.eq_nil_of_length_eq_zero (by omega)
    obtain ⟨rfl, rfl⟩ : an = 0 ∧ o = 0 := by omega
    obtain rfl : t = 0 := by omega
    have ht : textV ⟨3, ad, k, 0, [], [], 0, 0⟩ = 3 :: (twoV ad ++ (twoV k ++ [])) := by simp [textV, tailV]
    rw [ht]
    refine ⟨?_, ?_, rfl, by simp⟩
    · simp only [readV, List.getD_cons_zero, numV_drop, List.drop_drop, Nat.add_zero, Nat.reduceAdd, num_1 _ _ _ adr, num_3 _ _ _ _ kr]
      simp
    · simp only [guessV, List.getD_cons_zero, num_1 _ _ _ adr, num_3 _ _ _ _ kr]
      simp
  case inr.inr.inr.inl =>
    rw [show cntV 4 = 125 from rfl] at q2
    rw [show wrdV 4 = 0 from rfl] at q3
    rw [show bitV 4 = 0 from rfl] at q4
    obtain rfl : w = [] := List.eq_nil_of_length_eq_zero (by omega)
    obtain rfl : b = [] := List.eq_nil_of_length_eq_zero (by omega)
    obtain ⟨rfl, rfl⟩ : an = 0 ∧ o = 0 := by omega
    obtain rfl : t = 0 := by omega
    have ht : textV ⟨4, ad, k, 0, [], [], 0, 0⟩ = 4 :: (twoV ad ++ (twoV k ++ [])) := by simp [textV, tailV]
    rw [ht]
    refine ⟨?_, ?_, rfl, by simp⟩
    · simp only [readV, List.getD_cons_zero, numV_drop, List.drop_drop, Nat.add_zero, Nat.reduceAdd, num_1 _ _ _ adr, num_3 _ _ _ _ kr]
      simp
    · simp only [guessV, List.getD_cons_zero, num_1 _ _ _ adr, num_3 _ _ _ _ kr]
      simp
  case inr.inr.inr.inr.inl =>
    rw [show cntV 5 = 0 from rfl] at q2
    rw [show wrdV 5 = 0 from rfl] at q3
    rw [show bitV 5 = 1 from rfl] at q4
    obtain rfl : k = 0 := by omega
    obtain rfl : w = [] := List.eq_nil_of_length_eq_zero (by omega)
    obtain ⟨rfl, rfl⟩ : an = 0 ∧ o = 0 := by omega
    obtain rfl : t = 0 := by omega
    obtain ⟨x, rfl⟩ : ∃ x, b = [x] := by
      cases b with
      | nil => simp at q4
      | cons x b => cases b with
        | nil => exact ⟨x, rfl⟩
        | cons y b => simp at q4; omega
    have ht : textV ⟨5, ad, 0, 0, [], [x], 0, 0⟩ = 5 :: (twoV ad ++ (twoV (if x = true then 65280 else 0) ++ [])) := by cases x <;> simp [textV, tailV, twoV]
    have xr : 0 ≤ (if x = true then (65280 : Int) else 0) ∧ (if x = true then (65280 : Int) else 0) < 65536 := by split <;> omega
    rw [ht]
    refine ⟨?_, ?_, rfl, by simp⟩
    · simp only [readV, List.getD_cons_zero, numV_drop, List.drop_drop, Nat.add_zero, Nat.reduceAdd, num_1 _ _ _ adr, num_3 _ _ _ _ xr]
      cases x <;> simp
    · simp only [guessV, List.getD_cons_zero, num_1 _ _ _ adr, num_3 _ _ _ _ xr]
      cases x <;> simp
  case inr.inr.inr.inr.inr.inl =>
    rw [show cntV 6 = 0 from rfl] at q2
    rw [show wrdV 6 = 1 from rfl] at q3
    rw [show bitV 6 = 0 from rfl] at q4
    obtain rfl : k = 0 := by omega
    obtain rfl : b = [] := List.eq_nil_of_length_eq_zero (by omega)
    obtain ⟨rfl, rfl⟩ : an = 0 ∧ o = 0 := by omega
    obtain rfl : t = 0 := by omega
    obtain ⟨x, rfl⟩ : ∃ x, w = [x] := by
      cases w with
      | nil => simp at q3
      | cons x w => cases w with
        | nil => exact ⟨x, rfl⟩
        | cons y w => simp at q3; omega
    have xr : 0 ≤ x ∧ x < 65536 := ow x (by simp)
    have ht : textV ⟨6, ad, 0, 0, [x], [], 0, 0⟩ = 6 :: (twoV ad ++ (twoV x ++ [])) := by
      have : x / 256 % 256 = x / 256 := by omega
      simp [textV, tailV, wbI_cons x [] xr, wbI_nil, twoV, this]
    rw [ht]
    refine ⟨?_, ?_, rfl, by simp⟩
    · simp only [readV, List.getD_cons_zero, numV_drop, List.drop_drop, Nat.add_zero, Nat.reduceAdd, num_1 _ _ _ adr, num_3 _ _ _ _ xr]
      simp
    · simp only [guessV, List.getD_cons_zero, num_1 _ _ _ adr, num_3 _ _ _ _ xr]
      simp
  case inr.inr.inr.inr.inr.inr.inl =>
    rw [show cntV 15 = 0 from rfl] at q2
    rw [show wrdV 15 = 0 from rfl] at q3
    rw [show bitV 15 = 1968 from rfl] at q4
    obtain rfl : k = 0 := by omega
    obtain rfl : w = [] := List.eq_nil_of_length_eq_zero (by omega)
    obtain ⟨rfl, rfl⟩ : an = 0 ∧ o = 0 := by omega
    obtain rfl : t = 0 := by omega
    have ht : textV ⟨15, ad, 0, 0, [], b, 0, 0⟩ = 15 :: (twoV ad ++ (twoV b.length ++ ((pkI b).length : Int) % 256 :: pkI b)) := by simp [textV, tailV, btV]
    rw [ht]
    refine ⟨?_, ?_, rfl, by simp⟩
    · simp only [readV, List.getD_cons_zero, numV_drop, List.drop_drop, Nat.add_zero, Nat.reduceAdd, num_1 _ _ _ adr, num_3 _ _ _ _ br, drop_6, bt.1, gb]
      simp
    · simp only [guessV, List.getD_cons_zero, num_1 _ _ _ adr, num_3 _ _ _ _ br, drop_6, bt.1, gb]
      simp
  case inr.inr.inr.inr.inr.inr.inr.inl =>
    rw [show cntV 16 = 0 from rfl] at q2
    rw [show wrdV 16 = 123 from rfl] at q3
    rw [show bitV 16 = 0 from rfl] at q4
    obtain rfl : k = 0 := by omega
    obtain rfl : b = [] := List.eq_nil_of_length_eq_zero (by omega)
    obtain ⟨rfl, rfl⟩ : an = 0 ∧ o = 0 := by omega
    obtain rfl : t = 0 := by omega
    have ht : textV ⟨16, ad, 0, 0, w, [], 0, 0⟩ = 16 :: (twoV ad ++ (twoV w.length ++ ((wbI w).length : Int) % 256 :: wbI w)) := by simp [textV, tailV, wtV]
    rw [ht]
    refine ⟨?_, ?_, rfl, by simp⟩
    · simp only [readV, List.getD_cons_zero, numV_drop, List.drop_drop, Nat.add_zero, Nat.reduceAdd, num_1 _ _ _ adr, drop_6, (wd ow).1]
      simp
    · simp only [guessV, List.getD_cons_zero, num_1 _ _ _ adr, drop_6, (wd ow).1]
      simp
  case inr.inr.inr.inr.inr.inr.inr.inr.inl =>
    rw [show cntV 22 = 0 from rfl] at q2
    rw [show wrdV 22 = 0 from rfl] at q3
    rw [show bitV 22 = 0 from rfl] at q4
    obtain rfl : k = 0 := by omega
    obtain rfl : w = [] := List.eq_nil_of_length_eq_zero (by omega)
    obtain rfl : b = [] := List.eq_nil_of_length_eq_zero (by omega)
    obtain rfl : t = 0 := by omega
    have ht : textV ⟨22, ad, 0, 0, [], [], an, o⟩ = 22 :: (twoV ad ++ (twoV an ++ (twoV o ++ []))) := by simp [textV, tailV]
    rw [ht]
    refine ⟨?_, ?_, rfl, by simp⟩
    · simp only [readV, List.getD_cons_zero, numV_drop, List.drop_drop, Nat.add_zero, Nat.reduceAdd, num_1 _ _ _ adr, num_3 _ _ _ _ oa, num_5 _ _ _ _ _ oo]
      simp
    · simp only [guessV, List.getD_cons_zero, num_1 _ _ _ adr, num_3 _ _ _ _ oa, num_5 _ _ _ _ _ oo]
      simp
  case inr.inr.inr.inr.inr.inr.inr.inr.inr.inl =>
    rw [show cntV 23 = 125 from rfl] at q2
    rw [show wrdV 23 = 121 from rfl] at q3
    rw [show bitV 23 = 0 from rfl] at q4
    obtain rfl : b = [] := List.eq_nil_of_length_eq_zero (by omega)
    obtain ⟨rfl, rfl⟩ : an = 0 ∧ o = 0 := by omega
    have ht : textV ⟨23, ad, k, t, w, [], 0, 0⟩ = 23 :: (twoV ad ++ (twoV k ++ (twoV t ++ (twoV w.length ++ ((wbI w).length : Int) % 256 :: wbI w)))) := by simp [textV, tailV, wtV]
    rw [ht]
    refine ⟨?_, ?_, rfl, by simp⟩
    · simp only [readV, List.getD_cons_zero, numV_drop, List.drop_drop, Nat.add_zero, Nat.reduceAdd, num_1 _ _ _ adr, num_3 _ _ _ _ kr, num_5 _ _ _ _ _ tr, drop_10, (wd ow).1]
      simp
    · simp only [guessV, List.getD_cons_zero, num_1 _ _ _ adr, num_3 _ _ _ _ kr, num_5 _ _ _ _ _ tr, drop_10, (wd ow).1]
      simp
  case inr.inr.inr.inr.inr.inr.inr.inr.inr.inr.inl =>
    rw [show cntV 43 = 4 from rfl] at q2
    rw [show wrdV 43 = 0 from rfl] at q3
    rw [show bitV 43 = 0 from rfl] at q4
    obtain rfl : w = [] := List.eq_nil_of_length_eq_zero (by omega)
    obtain rfl : b = [] := List.eq_nil_of_length_eq_zero (by omega)
    obtain ⟨rfl, rfl⟩ : an = 0 ∧ o = 0 := by omega
    obtain rfl : t = 0 := by omega
    have ad2 : ad ≤ 255 := k43 rfl
    have ht : textV ⟨43, ad, k, 0, [], [], 0, 0⟩ = [43, 14, k, ad] := by
      have e1 : k % 256 = k := by omega
      have e2 : ad % 256 = ad := by omega
      simp [textV, e1, e2]
    have m1 : numV [43, 14, k, ad] 1 % 256 = k := by rw [show numV [43, 14, k, ad] 1 = 256 * 14 + k from rfl]; omega
    have m2 : numV [43, 14, k, ad] 2 % 256 = ad := by rw [show numV [43, 14, k, ad] 2 = 256 * k + ad from rfl]; omega
    rw [ht]
    refine ⟨?_, rfl, rfl, by simp⟩
    show (⟨43, numV [43, 14, k, ad] 2 % 256, numV [43, 14, k, ad] 1 % 256, 0, [], [], 0, 0⟩ : Rq) = _
    rw [m1, m2]
end Go.Proofs.YtcpgmbpndpcmdaaGreat
namespace Go.Proofs.YtcpgmbpndpcmdaaGreat
open Go
set_option linter.unusedSimpArgs false
set_option linter.unusedVariables false
set_option maxRecDepth 100000
def lenF (c w b : Nat) : Nat := if c = 43 then 4 else if c = 15 then 6 + (b + 7) / 8 else if c = 16 then 6 + 2 * w else if c = 22 then 7 else if c = 23 then 10 + 2 * w else 5
theorem text_shape (a : Rq) (h : FormedP a) : (textV a).getD 0 0 = a.code ∧ (textV a).length = lenF a.code.toNat a.words.length a.bits.length ∧ (a.code = 15 → numV (textV a) 3 = a.bits.length) ∧ (a.code = 16 → numV (textV a) 3 = a.words.length) ∧ (a.code = 23 → numV (textV a) 7 = a.words.length) := by
  have hle := formed_le a h
  obtain ⟨hc, k2, k3, k4, k5, k6, _, _, k43, _, _⟩ := h
  have q3 := fit_pos k3 (wrdV_le _).1
  obtain ⟨c, ad, k, t, w, b, an, o⟩ := a
  simp only at hle hc q3
  have br : 0 ≤ (b.length : Int) ∧ (b.length : Int) < 65536 := by omega
  have wr : 0 ≤ (w.length : Int) ∧ (w.length : Int) < 65536 := by omega
  rcases code_cases c with rfl | rfl | rfl | rfl | rfl | rfl | rfl | rfl | rfl | rfl | rfl | e
  case inr.inr.inr.inr.inr.inr.inr.inr.inr.inr.inr => exact absurd hc (by unfold isV; simp [e])
  case inr.inr.inr.inr.inr.inl =>
    rw [show wrdV 6 = 1 from rfl] at q3
    have : w.length = 1 := by omega
    refine ⟨by simp [textV], ?_, by simp, by simp, by simp⟩
    simp [textV, tailV, twoV, lenF, wbI_length, this]
  case inr.inr.inr.inr.inr.inr.inl =>
    have ht : textV ⟨15, ad, k, t, w, b, an, o⟩ = 15 :: (twoV ad ++ (twoV b.length ++ ((pkI b).length : Int) % 256 :: pkI b)) := by simp [textV, tailV, btV]
    rw [ht]
    exact ⟨rfl, by simp [twoV, lenF, pkI_length]; omega, fun _ => num_3 _ _ _ _ br, by simp, by simp⟩
  case inr.inr.inr.inr.inr.inr.inr.inl =>
    have ht : textV ⟨16, ad, k, t, w, b, an, o⟩ = 16 :: (twoV ad ++ (twoV w.length ++ ((wbI w).length : Int) % 256 :: wbI w)) := by simp [textV, tailV, wtV]
    rw [ht]
    exact ⟨rfl, by simp [twoV, lenF, wbI_length]; omega, by simp, fun _ => num_3 _ _ _ _ wr, by simp⟩
  case inr.inr.inr.inr.inr.inr.inr.inr.inr.inl =>
    have ht : textV ⟨23, ad, k, t, w, b, an, o⟩ = 23 :: (twoV ad ++ (twoV k ++ (twoV t ++ (twoV w.length ++ ((wbI w).length : Int) % 256 :: wbI w)))) := by simp [textV, tailV, wtV]
    rw [ht]
    refine ⟨rfl, by simp [twoV, lenF, wbI_length]; omega, by simp, by simp, fun _ => ?_⟩
    show numV (23 :: ad / 256 % 256 :: ad % 256 :: k / 256 % 256 :: k % 256 :: t / 256 % 256 :: t % 256 :: (twoV w.length ++ ((wbI w).length : Int) % 256 :: wbI w)) 7 = w.length
    rw [numV_c, numV_c, numV_c, numV_c, numV_c, numV_c, numV_c, two_mod _ wr]
  case inr.inr.inr.inr.inl =>
    refine ⟨by simp [textV], ?_, by simp, by simp, by simp⟩
    simp [textV, tailV, twoV, lenF]
    split <;> rfl
  all_goals
    refine ⟨by simp [textV], ?_, by simp, by simp, by simp⟩
    simp [textV, tailV, twoV, lenF]
theorem text_most (a : Rq) (h : FormedP a) : (textV a).length ≤ 253 := by
  rw [(text_shape a h).2.1]
  have := formed_le a h
  have q3 := fit_pos h.2.2.1 (wrdV_le _).1
  have q4 : wrdV a.code = 121 ∨ a.code ≠ 23 := by
    by_cases e : a.code = 23
    · exact .inl (by rw [e]; rfl)
    · exact .inr e
  have hc : isV a.code = true := h.1
  unfold isV at hc
  have := of_decide_eq_true hc
  unfold lenF
  repeat' split
  all_goals omega
end Go.Proofs.YtcpgmbpndpcmdaaGreat
namespace Go.Proofs.YtcpgmbpndpcmdaaGreat
open Go
set_option linter.unusedSimpArgs false
set_option linter.unusedVariables false
def bA (l : List Int) : ByteArray := ⟨(toB l).toArray⟩
theorem strI_eq (s : ByteArray) : strI s = ofB s.data.toList := rfl
theorem bA_str (s : ByteArray) : bA (strI s) = s := by
  unfold bA
  rw [strI_eq, toB_ofB]
theorem strI_mk (l : List UInt8) : strI ⟨l.toArray⟩ = ofB l := by rw [strI_eq]
theorem an_ext {x y : An} (h1 : x.exc = y.exc) (h2 : x.bits = y.bits) (h3 : x.words = y.words) (h4 : x.texts = y.texts) : x = y := by
  cases x
  cases y
  simp_all
def anZ : An := ⟨0, [], [], []⟩
def gTx : Nat → List Int → List ByteArray
  | 0, _ => []
  | _ + 1, [] => []
  | _ + 1, [_] => []
  | m + 1, _ :: n :: r => if n ≤ (r.length : Int) then bA (r.take n.toNat) :: gTx m (r.drop n.toNat) else []
theorem nmI_cons (addr : Int) (i : Nat) (s : ByteArray) (l : List ByteArray) (hs : s.size ≤ 245) : nmI addr i (s :: l) = (addr + i) % 256 :: (s.size : Int) :: (strI s ++ nmI addr (i + 1) l) := by
  have hn : ((strI s).length : Int) % 256 = (s.size : Int) := by rw [strI_len]; omega
  show (addr + i) % 256 :: (((strI s).length : Int) % 256 :: (strI s ++ nmI addr (i + 1) l)) = _
  rw [hn]
theorem gTx_nm (addr : Int) : ∀ (l : List ByteArray) (i m : Nat), (∀ s ∈ l, s.size ≤ 245) → l.length ≤ m → gTx m (nmI addr i l) = l
  | [], i, m, _, _ => by cases m <;> rfl
  | s :: l, i, m, h, hm => by
    obtain ⟨m, rfl⟩ : ∃ k, m = k + 1 := ⟨m - 1, by simp at hm; omega⟩
    have h1 := h s (by simp)
    have hl := strI_len s
    rw [nmI_cons addr i s l h1]
    have hle : (s.size : Int) ≤ ((strI s ++ nmI addr (i + 1) l).length : Int) := by rw [List.length_append]; omega
    have e1 : (strI s ++ nmI addr (i + 1) l).take (s.size : Int).toNat = strI s := by rw [Int.toNat_natCast, ← hl, List.take_left]
    have e2 : (strI s ++ nmI addr (i + 1) l).drop (s.size : Int).toNat = nmI addr (i + 1) l := by rw [Int.toNat_natCast, ← hl, List.drop_left]
    unfold gTx
    rw [if_pos hle, e1, e2, bA_str, gTx_nm addr l (i + 1) m (fun s hs => h s (by simp [hs])) (by simp at hm; omega)]
def guessA (a : Rq) (b : List Int) : An :=
  if b.length = 2 ∧ b.getD 0 0 = 128 + a.code then ⟨b.getD 1 0, [], [], []⟩
  else if rdBits a.code = true then ⟨0, gBits a.cnt (b.drop 2), [], []⟩
  else if rdWords a.code = true then ⟨0, [], wdI (b.drop 2), []⟩
  else if rdTexts a.code = true then ⟨0, [], [], gTx b.length (b.drop 7)⟩
  else anZ
theorem ansV_open {a : Rq} {x : An} (h : ansV a x = true) : RightP a ∧ 0 ≤ x.exc ∧ x.exc ≤ 255 ∧ ((x.bits.length : Int) = if rdBits a.code = true ∧ x.exc = 0 then a.cnt else 0) ∧ ((x.words.length : Int) = if rdWords a.code = true ∧ x.exc = 0 then a.cnt else 0) ∧ (if rdTexts a.code = true ∧ x.exc = 0 then fitA a.addr x.texts = true else x.texts = []) := by
  unfold ansV ansB at h
  simp only [Bool.and_eq_true, decide_eq_true_eq] at h
  obtain ⟨⟨⟨⟨⟨h0, h1⟩, h2⟩, h3⟩, h4⟩, h5⟩ := h
  refine ⟨h0, h1, h2, h3, h4, ?_⟩
  split
  · rename_i c
    rw [if_pos c] at h5
    exact h5
  · rename_i c
    rw [if_neg c] at h5
    exact List.eq_nil_of_length_eq_zero (by have := of_decide_eq_true h5; omega)
theorem fitA_open {addr : Int} {l : List ByteArray} (h : fitA addr l = true) : (∀ s ∈ l, s.size ≤ 245) ∧ 0 < l.length ∧ addr + l.length ≤ 256 ∧ fitT 7 l = true := by
  unfold fitA at h
  simp only [Bool.and_eq_true, decide_eq_true_eq] at h
  exact ⟨fitT_all _ _ h.1.1, h.1.2, h.2, h.1.1⟩
theorem ansV_ok {a : Rq} {x : An} (h : ansV a x = true) (hw : Words x.words) : AnOk x := by
  obtain ⟨h0, h1, h2, h3, h4, h5⟩ := ansV_open h
  have hle := formed_le a h0.1
  obtain ⟨_, _, l3, l4, _⟩ := hle
  split at h5
  · obtain ⟨k1, k2, k3, _⟩ := fitA_open h5
    exact ⟨hw, fun s hs => by have := k1 s hs; omega, by omega⟩
  · rw [show x = ⟨x.exc, x.bits, x.words, []⟩ from an_ext rfl rfl rfl h5]
    exact ⟨hw, by simp, by simp⟩
theorem rd_cases (c : Int) : (rdBits c = true ∧ rdWords c = false ∧ rdTexts c = false) ∨ (rdBits c = false ∧ rdWords c = true ∧ rdTexts c = false) ∨ (rdBits c = false ∧ rdWords c = false ∧ rdTexts c = true) ∨ (rdBits c = false ∧ rdWords c = false ∧ rdTexts c = false) := by
  unfold rdBits rdWords rdTexts
  simp only [decide_eq_true_eq, decide_eq_false_iff_not]
  omega
theorem code_le {a : Rq} (h : RightP a) : 1 ≤ a.code ∧ a.code ≤ 43 := by have := of_decide_eq_true h.1.1; omega
theorem ansText_head (a : Rq) (x : An) (h : RightP a) (hx : ¬ 0 < x.exc) : ∃ r, ansTextV a x = a.code :: r := by
  obtain ⟨r, hr⟩ := text_head a h.1.1
  unfold ansTextV
  rw [if_neg hx, hr]
  split
  · exact ⟨_, rfl⟩
  split
  · exact ⟨_, rfl⟩
  split
  · exact ⟨_, rfl⟩
  split
  · exact ⟨_, rfl⟩
  · exact ⟨r.take 4, rfl⟩
theorem guess_back (a : Rq) (x : An) (ok : AnOk x) (h : ansV a x = true) : guessA a (ansTextV a x) = x := by
  obtain ⟨h0, h1, h2, h3, h4, h5⟩ := ansV_open h
  have hcode := code_le h0
  obtain ⟨_, _, l3, l4, _⟩ := formed_le a h0.1
  by_cases hx : 0 < x.exc
  · rw [if_neg (by omega)] at h3
    rw [if_neg (by omega)] at h4
    rw [if_neg (by omega)] at h5
    have e : ansTextV a x = [a.code + 128, x.exc] := by unfold ansTextV; rw [if_pos hx]
    rw [e]
    unfold guessA
    rw [if_pos ⟨rfl, by simp; omega⟩]
    exact an_ext rfl (List.eq_nil_of_length_eq_zero (by omega)).symm (List.eq_nil_of_length_eq_zero (by omega)).symm h5.symm
  · have hz : x.exc = 0 := by omega
    obtain ⟨r, hr⟩ := ansText_head a x h0 hx
    have hng : ¬ ((ansTextV a x).length = 2 ∧ (ansTextV a x).getD 0 0 = 128 + a.code) := by
      rw [hr]
      rintro ⟨_, e⟩
      simp at e
      omega
    unfold guessA
    rw [if_neg hng]
    unfold ansTextV
    rcases rd_cases a.code with ⟨c1, c2, c3⟩ | ⟨c1, c2, c3⟩ | ⟨c1, c2, c3⟩ | ⟨c1, c2, c3⟩ <;> simp only [c1, c2, c3, hz, and_true, if_true, Bool.false_eq_true, if_false, false_and, true_and] at h3 h4 h5 ⊢
    · rw [if_neg (by omega)]
      have hd : (a.code :: cntI (pkI x.bits)).drop 2 = pkI x.bits := rfl
      rw [hd, ← h3, gBits_pk x.bits (by omega)]
      exact an_ext hz.symm rfl (List.eq_nil_of_length_eq_zero (by omega)).symm h5.symm
    · rw [if_neg (by omega)]
      have hd : (a.code :: cntI (wbI x.words)).drop 2 = wbI x.words := rfl
      rw [hd, (wdI_wb x.words ok.w).1]
      exact an_ext hz.symm (List.eq_nil_of_length_eq_zero (by omega)).symm rfl h5.symm
    · rw [if_neg (by omega)]
      obtain ⟨k1, k2, k3, _⟩ := fitA_open h5
      have hd : (a.code :: namedV a x.texts).drop 7 = nmI a.addr 0 x.texts := rfl
      have hl : x.texts.length ≤ (a.code :: namedV a x.texts).length := by
        have : ∀ (l : List ByteArray) (i : Nat), l.length ≤ (nmI a.addr i l).length := by
          intro l
          induction l with
          | nil => intro i; simp
          | cons s l ih =>
            intro i
            have := ih (i + 1)
            simp only [nmI, cntI, List.length_cons, List.length_append]
            omega
        have := this x.texts 0
        unfold namedV
        simp only [List.length_cons, List.length_append]
        omega
      rw [hd, gTx_nm a.addr x.texts 0 _ k1 hl]
      exact an_ext hz.symm (List.eq_nil_of_length_eq_zero (by omega)).symm (List.eq_nil_of_length_eq_zero (by omega)).symm rfl
    · exact an_ext hz.symm (List.eq_nil_of_length_eq_zero (by omega)).symm (List.eq_nil_of_length_eq_zero (by omega)).symm h5.symm
def ansReadV (a : Rq) (b : List Int) : An × Int := if RightP a then (if ansV a (guessA a b) = true ∧ ansTextV a (guessA a b) = b then (guessA a b, 0) else (anZ, 2)) else (anZ, 1)
def bodyS (a : Rq) (l : List UInt8) : Option An :=
  if rdBits a.code = true then (cntS l).bind fun p => if (bitsTell p.1 a.cnt).1 = true ∧ p.2 = [] ∧ ansV a ⟨0, (bitsTell p.1 a.cnt).2, [], []⟩ = true then some ⟨0, (bitsTell p.1 a.cnt).2, [], []⟩ else none
  else if rdWords a.code = true then (cntS l).bind fun p => if (wordsTell p.1).1 = true ∧ p.2 = [] ∧ ansV a ⟨0, [], ofW (wordsTell p.1).2, []⟩ = true then some ⟨0, [], ofW (wordsTell p.1).2, []⟩ else none
  else if rdTexts a.code = true then (textsS a.addr a.cnt l).bind fun p => if p.2 = [] ∧ ansV a ⟨0, [], [], p.1⟩ = true then some ⟨0, [], [], p.1⟩ else none
  else if l = toB ((ansTextV a anZ).drop 1) ∧ ansV a anZ = true then some anZ else none
def readS (a : Rq) : List UInt8 → Option An
  | [] => none
  | c :: r => if (c.toNat : Int) = a.code + 128 ∧ r.length = 1 ∧ 0 < (r.getD 0 0).toNat then some ⟨((r.getD 0 0).toNat : Int), [], [], []⟩ else if (c.toNat : Int) = a.code then bodyS a r else none
theorem lowB_toNat (c : UInt8) : lowB (c.toNat : Int) = c := by unfold lowB; simp
theorem cntS_cons (c : UInt8) (r : List UInt8) : cntS (c :: r) = if c.toNat ≤ r.length then some (r.take c.toNat, r.drop c.toNat) else none := rfl
theorem cntS_toB (l : List Int) (hl : l.length ≤ 255) : cntS (toB (cntI l)) = some (toB l, []) := by
  have e : toB (cntI l) = lowB ((l.length : Int) % 256) :: toB l := rfl
  have h1 : ((lowB ((l.length : Int) % 256)).toNat : Int) = l.length := by rw [lowB_nat _ (by omega) (by omega)]; omega
  have h2 : (lowB ((l.length : Int) % 256)).toNat = l.length := by omega
  have h3 : (toB l).length = l.length := by simp [toB]
  rw [e, cntS_cons, h2, if_pos (by omega), List.take_of_length_le (by omega), List.drop_of_length_le (by omega)]
theorem cntS_more (l : List UInt8) (q : List UInt8) (hl : l.length ≤ 255) : cntS (lowB ((l.length : Int) % 256) :: (l ++ q)) = some (l, q) := by
  have h1 : ((lowB ((l.length : Int) % 256)).toNat : Int) = l.length := by rw [lowB_nat _ (by omega) (by omega)]; omega
  have h2 : (lowB ((l.length : Int) % 256)).toNat = l.length := by omega
  rw [cntS_cons, h2, if_pos (by simp), List.take_left, List.drop_left]
theorem cntS_open {l p q : List UInt8} (h : cntS l = some (p, q)) : l = lowB ((p.length : Int) % 256) :: (p ++ q) ∧ p.length ≤ 255 := by
  cases l with
  | nil => cases h
  | cons c r =>
    rw [cntS_cons] at h
    split at h
    · rename_i hc
      cases h
      have := c.toNat_lt
      have e : (r.take c.toNat).length = c.toNat := by rw [List.length_take]; omega
      rw [e, List.take_append_drop]
      refine ⟨?_, by omega⟩
      rw [show ((c.toNat : Int) % 256) = (c.toNat : Int) by omega, lowB_toNat]
    · cases h
theorem toB_app (l m : List Int) : toB (l ++ m) = toB l ++ toB m := by unfold toB; rw [List.map_append]
theorem toB_cons (x : Int) (l : List Int) : toB (x :: l) = lowB x :: toB l := rfl
theorem txS_full (addr : Int) : ∀ (l : List ByteArray) (i : Nat), (∀ s ∈ l, s.size ≤ 245) → txS addr i l.length (toB (nmI addr i l)) = some (l, [])
  | [], i, _ => rfl
  | s :: l, i, h => by
    have h1 := h s (by simp)
    have ih := txS_full addr l (i + 1) (fun s hs => h s (by simp [hs]))
    have e : toB (nmI addr i (s :: l)) = lowB ((addr + i) % 256) :: (lowB ((s.data.toList.length : Int) % 256) :: (s.data.toList ++ toB (nmI addr (i + 1) l))) := by
      show toB ((addr + i) % 256 :: (((strI s).length : Int) % 256 :: (strI s ++ nmI addr (i + 1) l))) = _
      rw [toB_cons, toB_cons, toB_app, strI_eq, toB_ofB]
      simp [ofB]
    have hsz : s.data.toList.length = s.size := Array.length_toList
    rw [e]
    show txS addr i (l.length + 1) _ = _
    simp only [txS, if_true]
    rw [cntS_more _ _ (by omega), Option.bind_some, ih]
    rfl
theorem txS_open (addr : Int) : ∀ (m i : Nat) (r : List UInt8) (ts : List ByteArray) (q : List UInt8), txS addr i m r = some (ts, q) → r = toB (nmI addr i ts) ++ q ∧ ts.length = m
  | 0, i, r, ts, q, h => by
    cases h
    exact ⟨rfl, rfl⟩
  | m + 1, i, [], ts, q, h => by cases h
  | m + 1, i, c :: r, ts, q, h => by
    simp only [txS] at h
    split at h
    · rename_i hc
      cases hp : cntS r with
      | none => rw [hp] at h; cases h
      | some p =>
        rw [hp, Option.bind_some] at h
        obtain ⟨p1, p2⟩ := p
        cases ht : txS addr (i + 1) m p2 with
        | none => rw [ht] at h; cases h
        | some u =>
          rw [ht] at h
          cases h
          obtain ⟨u1, u2⟩ := u
          obtain ⟨e1, e2⟩ := txS_open addr m (i + 1) p2 u1 u2 ht
          obtain ⟨e3, e4⟩ := cntS_open hp
          refine ⟨?_, by simp [e2]⟩
          show _ = toB ((addr + i) % 256 :: (((strI ⟨p1.toArray⟩).length : Int) % 256 :: (strI ⟨p1.toArray⟩ ++ nmI addr (i + 1) u1))) ++ u2
          rw [toB_cons, toB_cons, toB_app, strI_mk, toB_ofB, hc, e3, e1]
          simp [ofB]
    · cases h
theorem head_toB (cnt : Int) : headS cnt = toB [14, cnt % 256, 1, 0, 0] := by
  unfold headS toB
  simp only [List.map_cons, List.map_nil]
  rfl
theorem texts_full (a : Rq) (l : List ByteArray) (h : ∀ s ∈ l, s.size ≤ 245) (hl : l.length ≤ 255) : textsS a.addr a.cnt (toB (namedV a l)) = some (l, []) := by
  have e : toB (namedV a l) = headS a.cnt ++ (lowB ((l.length : Int) % 256) :: toB (nmI a.addr 0 l)) := by
    unfold namedV
    rw [toB_app, head_toB]
    rfl
  have h1 : ((lowB ((l.length : Int) % 256)).toNat : Int) = l.length := by rw [lowB_nat _ (by omega) (by omega)]; omega
  have h2 : (lowB ((l.length : Int) % 256)).toNat = l.length := by omega
  have h5 : (headS a.cnt).length = 5 := rfl
  have e1 : (headS a.cnt ++ (lowB ((l.length : Int) % 256) :: toB (nmI a.addr 0 l))).take 5 = headS a.cnt := by rw [← h5, List.take_left]
  have e2 : (headS a.cnt ++ (lowB ((l.length : Int) % 256) :: toB (nmI a.addr 0 l))).drop 5 = lowB ((l.length : Int) % 256) :: toB (nmI a.addr 0 l) := by rw [← h5, List.drop_left]
  rw [e]
  unfold textsS
  rw [e1, if_pos rfl, e2]
  show txS a.addr 0 (lowB ((l.length : Int) % 256)).toNat _ = _
  rw [h2]
  exact txS_full a.addr l 0 h
theorem texts_open (a : Rq) (r : List UInt8) (ts : List ByteArray) (h : textsS a.addr a.cnt r = some (ts, [])) : r = toB (namedV a ts) ∧ ts.length ≤ 255 := by
  unfold textsS at h
  split at h
  · rename_i hd
    cases hr : r.drop 5 with
    | nil => rw [hr] at h; cases h
    | cons c r2 =>
      rw [hr] at h
      obtain ⟨e1, e2⟩ := txS_open _ _ _ _ _ _ h
      have hc := c.toNat_lt
      rw [List.append_nil] at e1
      refine ⟨?_, by omega⟩
      have e : toB (namedV a ts) = headS a.cnt ++ (lowB ((ts.length : Int) % 256) :: toB (nmI a.addr 0 ts)) := by
        unfold namedV
        rw [toB_app, head_toB]
        rfl
      rw [e, ← e1, ← hd, e2, show ((c.toNat : Int) % 256) = (c.toNat : Int) by omega, lowB_toNat, ← hr, List.take_append_drop]
  · cases h
end Go.Proofs.YtcpgmbpndpcmdaaGreat
namespace Go.Proofs.YtcpgmbpndpcmdaaGreat
open Go
set_option linter.unusedSimpArgs false
set_option linter.unusedVariables false
theorem bytes_words : ∀ l : List UInt8, l.length % 2 = 0 → wBytes (wWords l) = l
  | [], _ => rfl
  | [_], h => by simp at h
  | a :: b :: l, h => by
    have ih := bytes_words l (by simp at h; omega)
    show wBytes (mkW a b :: wWords l) = _
    unfold wBytes at ih ⊢
    rw [List.flatMap_cons, ih, mkW_nat]
    have ha := a.toNat_lt
    have hb := b.toNat_lt
    rw [show (256 * a.toNat + b.toNat) / 256 = a.toNat by omega, show (256 * a.toNat + b.toNat) % 256 = b.toNat by omega]
    simp
theorem ofB_cons (c : UInt8) (l : List UInt8) : ofB (c :: l) = (c.toNat : Int) :: ofB l := rfl
theorem ofB_cnt (p : List UInt8) (hp : p.length ≤ 255) : ofB (lowB ((p.length : Int) % 256) :: (p ++ [])) = cntI (ofB p) := by
  rw [ofB_cons, List.append_nil, lowB_nat _ (by omega) (by omega)]
  unfold cntI
  rw [show (ofB p).length = p.length by simp [ofB]]
theorem bits_open {p : List UInt8} {n : Int} (h : (bitsTell p n).1 = true) : pkI (bitsTell p n).2 = ofB p := by
  unfold bitsTell at h ⊢
  split at h
  · cases h
  · rename_i hn
    rw [if_neg hn]
    unfold wBits at h ⊢
    split at h
    · rename_i hf
      rw [if_pos hf]
      unfold pkI
      rw [(pack_bits _ _).2 hf]
    · cases h
theorem words_open {p : List UInt8} (h : (wordsTell p).1 = true) : wbI (ofW (wordsTell p).2) = ofB p := by
  unfold wordsTell at h ⊢
  split at h
  · cases h
  · rename_i hn
    rw [if_neg hn]
    unfold wbI
    have e : toW (ofW (wWords p)) = wWords p := by
      unfold toW ofW
      rw [List.map_map]
      conv => rhs; rw [← List.map_id (wWords p)]
      refine List.map_congr_left fun c _ => ?_
      show UInt16.ofNat ((c.toNat : Int)).toNat = c
      simp
    simp only
    rw [e, bytes_words p (by omega)]
theorem ofW_words (l : List UInt16) : Words (ofW l) := by
  intro x hx
  obtain ⟨c, _, rfl⟩ := List.mem_map.1 hx
  have := c.toNat_lt
  omega
theorem ansText_bytes (a : Rq) (x : An) (hr : RightP a) (e0 : 0 ≤ x.exc) (e1 : x.exc ≤ 255) (ok : AnOk x) : Bytes (ansTextV a x) := by
  have hcode := code_le hr
  have hn : Bytes (namedV a x.texts) := by
    have : ∀ (l : List ByteArray) (i : Nat), Bytes (nmI a.addr i l) := by
      intro l
      induction l with
      | nil => intro i x hx; cases hx
      | cons s l ih => intro i; exact cons_bytes (by omega) (bytes_app (cons_bytes (by omega) (by rw [strI_eq]; exact ofB_bytes _)) (ih (i + 1)))
    unfold namedV
    refine bytes_app ?_ (this _ _)
    intro x hx
    simp at hx
    omega
  unfold ansTextV
  split
  · exact cons_bytes (by omega) (cons_bytes (by omega) nil_bytes)
  split
  · exact cons_bytes (by omega) (cons_bytes (by omega) (pk_bytes _))
  split
  · exact cons_bytes (by omega) (cons_bytes (by omega) (wb_bytes _))
  split
  · exact cons_bytes (by omega) hn
  split
  · exact text_bytes a
  · exact fun x hx => text_bytes a x (List.mem_of_mem_take hx)
theorem body_sound (a : Rq) (hr : RightP a) (c : UInt8) (hc : (c.toNat : Int) = a.code) (r : List UInt8) (x : An) (h : bodyS a r = some x) : ansV a x = true ∧ ansTextV a x = ofB (c :: r) ∧ Words x.words := by
  have hcode := code_le hr
  unfold bodyS at h
  rcases rd_cases a.code with ⟨c1, c2, c3⟩ | ⟨c1, c2, c3⟩ | ⟨c1, c2, c3⟩ | ⟨c1, c2, c3⟩ <;> simp only [c1, c2, c3, if_true, Bool.false_eq_true, if_false] at h
  · cases hp : cntS r with
    | none => rw [hp] at h; cases h
    | some p =>
      rw [hp, Option.bind_some] at h
      split at h
      · rename_i hd
        cases h
        obtain ⟨d1, d2, d3⟩ := hd
        obtain ⟨p1, p2⟩ := p
        obtain rfl : p2 = [] := d2
        obtain ⟨e1, e2⟩ := cntS_open hp
        refine ⟨d3, ?_, by intro x hx; cases hx⟩
        unfold ansTextV
        simp only [c1, Int.lt_irrefl, if_true, if_false]
        rw [ofB_cons, hc, e1, ofB_cnt p1 e2, bits_open d1]
      · cases h
  · cases hp : cntS r with
    | none => rw [hp] at h; cases h
    | some p =>
      rw [hp, Option.bind_some] at h
      split at h
      · rename_i hd
        cases h
        obtain ⟨d1, d2, d3⟩ := hd
        obtain ⟨p1, p2⟩ := p
        obtain rfl : p2 = [] := d2
        obtain ⟨e1, e2⟩ := cntS_open hp
        refine ⟨d3, ?_, ofW_words _⟩
        unfold ansTextV
        simp only [c1, c2, Int.lt_irrefl, if_true, if_false, Bool.false_eq_true]
        rw [ofB_cons, hc, e1, ofB_cnt p1 e2, words_open d1]
      · cases h
  · cases hp : textsS a.addr a.cnt r with
    | none => rw [hp] at h; cases h
    | some p =>
      rw [hp, Option.bind_some] at h
      split at h
      · rename_i hd
        cases h
        obtain ⟨d2, d3⟩ := hd
        obtain ⟨p1, p2⟩ := p
        obtain rfl : p2 = [] := d2
        obtain ⟨e1, e2⟩ := texts_open a r p1 hp
        refine ⟨d3, ?_, by intro x hx; cases hx⟩
        unfold ansTextV
        simp only [c1, c2, c3, Int.lt_irrefl, if_true, if_false, Bool.false_eq_true]
        rw [ofB_cons, hc, e1]
        have hb : Bytes (namedV a p1) := by
          have : ∀ (l : List ByteArray) (i : Nat), Bytes (nmI a.addr i l) := by
            intro l
            induction l with
            | nil => intro i x hx; cases hx
            | cons s l ih => intro i; exact cons_bytes (by omega) (bytes_app (cons_bytes (by omega) (by rw [strI_eq]; exact ofB_bytes _)) (ih (i + 1)))
          unfold namedV
          refine bytes_app ?_ (this _ _)
          intro x hx
          simp at hx
          omega
        rw [ofB_toB _ hb]
      · cases h
  · split at h
    · rename_i hd
      cases h
      obtain ⟨d1, d2⟩ := hd
      refine ⟨d2, ?_, by intro x hx; cases hx⟩
      obtain ⟨r2, hr2⟩ := ansText_head a anZ hr (by decide)
      have hb : Bytes ((ansTextV a anZ).drop 1) := by
        refine bytes_drop ?_ 1
        unfold ansTextV
        simp only [c1, c2, c3, if_false, Bool.false_eq_true]
        rw [if_neg (by decide)]
        split
        · exact text_bytes a
        · exact fun x hx => text_bytes a x (List.mem_of_mem_take hx)
      rw [ofB_cons, hc, d1, ofB_toB _ hb, hr2]
      rfl
    · cases h
theorem readS_cons (a : Rq) (c : UInt8) (r : List UInt8) : readS a (c :: r) = if (c.toNat : Int) = a.code + 128 ∧ r.length = 1 ∧ 0 < (r.getD 0 0).toNat then some ⟨((r.getD 0 0).toNat : Int), [], [], []⟩ else if (c.toNat : Int) = a.code then bodyS a r else none := rfl
theorem read_sound (a : Rq) (hr : RightP a) (l : List UInt8) (x : An) (h : readS a l = some x) : ansV a x = true ∧ ansTextV a x = ofB l ∧ Words x.words := by
  cases l with
  | nil => cases h
  | cons c r =>
    rw [readS_cons] at h
    split at h
    · rename_i hd
      obtain ⟨d1, d2, d3⟩ := hd
      cases h
      obtain ⟨y, rfl⟩ : ∃ y, r = [y] := by
        cases r with
        | nil => cases d2
        | cons y r => cases r with
          | nil => exact ⟨y, rfl⟩
          | cons z r => simp at d2
      have hy := y.toNat_lt
      simp only [List.getD_cons_zero] at d3
      refine ⟨?_, ?_, by intro x hx; cases hx⟩
      · unfold ansV ansB
        simp only [List.getD_cons_zero]
        have z : decide ((y.toNat : Int) = 0) = false := by simp; omega
        rw [z]
        simp [hr]
        omega
      · unfold ansTextV
        simp only [List.getD_cons_zero]
        rw [if_pos (by omega), ← d1]
        rfl
    · split at h
      · rename_i hc
        exact body_sound a hr c hc r x h
      · cases h
theorem read_full (a : Rq) (x : An) (ok : AnOk x) (h : ansV a x = true) : readS a (toB (ansTextV a x)) = some x := by
  obtain ⟨h0, h1, h2, h3, h4, h5⟩ := ansV_open h
  have hcode := code_le h0
  obtain ⟨_, _, l3, l4, l5⟩ := formed_le a h0.1
  by_cases hx : 0 < x.exc
  · rw [if_neg (by omega)] at h3
    rw [if_neg (by omega)] at h4
    rw [if_neg (by omega)] at h5
    have e : ansTextV a x = [a.code + 128, x.exc] := by unfold ansTextV; rw [if_pos hx]
    rw [e]
    have q1 := lowB_nat (a.code + 128) (by omega) (by omega)
    have q2 := lowB_nat x.exc (by omega) (by omega)
    show readS a [lowB (a.code + 128), lowB x.exc] = some x
    rw [readS_cons, if_pos ⟨q1, rfl, by simp; omega⟩]
    congr 1
    refine an_ext ?_ (List.eq_nil_of_length_eq_zero (by omega)).symm (List.eq_nil_of_length_eq_zero (by omega)).symm h5.symm
    simp only [List.getD_cons_zero]
    exact q2
  · have hz : x.exc = 0 := by omega
    obtain ⟨r, hr⟩ := ansText_head a x h0 hx
    have q1 := lowB_nat a.code (by omega) (by omega)
    have hdr : toB ((ansTextV a x).drop 1) = toB r := by rw [hr]; rfl
    rw [hr]
    show readS a (lowB a.code :: toB r) = some x
    rw [readS_cons, if_neg (by omega), if_pos q1]
    unfold bodyS
    unfold ansTextV at hr
    rcases rd_cases a.code with ⟨c1, c2, c3⟩ | ⟨c1, c2, c3⟩ | ⟨c1, c2, c3⟩ | ⟨c1, c2, c3⟩ <;> simp only [c1, c2, c3, hz, and_true, if_true, Bool.false_eq_true, if_false, false_and, true_and, Int.lt_irrefl] at h3 h4 h5 hr ⊢
    · injection hr with _ hr
      have hb : x.bits.length ≤ 2000 := by omega
      have hpl := pkI_length x.bits
      have e : x = ⟨0, x.bits, [], []⟩ := an_ext hz rfl (List.eq_nil_of_length_eq_zero (by omega)) h5
      rw [← hr, cntS_toB _ (by omega), Option.bind_some]
      have e1 : bitsTell (toB (pkI x.bits)) a.cnt = (true, x.bits) := by
        unfold pkI
        rw [toB_ofB, ← h3, bitsTell_nat, wBits_yes (fit_pack x.bits), wBits_pack]
      simp only [e1]
      rw [← e, if_pos ⟨trivial, trivial, h⟩]
    · injection hr with _ hr
      have hb : x.words.length ≤ 125 := by
        have q2 := fit_pos h0.1.2.1 (cntV_le _).1
        have : cntV a.code = 125 := by
          unfold rdWords at c2
          have := of_decide_eq_true c2
          unfold cntV
          rw [if_neg (by omega), if_pos this]
        omega
      have hpl := wbI_length x.words
      have e : x = ⟨0, [], x.words, []⟩ := an_ext hz (List.eq_nil_of_length_eq_zero (by omega)) rfl h5
      rw [← hr, cntS_toB _ (by omega), Option.bind_some]
      have e1 : wordsTell (toB (wbI x.words)) = (true, toW x.words) := by
        unfold wbI
        rw [toB_ofB, wordsTell_yes (by rw [wBytes_len]; omega), wWords_bytes]
      simp only [e1]
      rw [ofW_toW _ ok.w, ← e, if_pos ⟨trivial, trivial, h⟩]
    · injection hr with _ hr
      obtain ⟨k1, k2, k3, k4⟩ := fitA_open h5
      have e : x = ⟨0, [], [], x.texts⟩ := an_ext hz (List.eq_nil_of_length_eq_zero (by omega)) (List.eq_nil_of_length_eq_zero (by omega)) rfl
      have hl : x.texts.length ≤ 255 := by
        have : ∀ (l : List ByteArray) (n : Int), fitT n l = true → n ≤ 253 → n + 2 * l.length ≤ 253 := by
          intro l
          induction l with
          | nil => intro n _ h; simpa using h
          | cons s l ih =>
            intro n hn h
            unfold fitT at hn
            split at hn
            · cases hn
            · have := ih _ hn (by omega)
              simp only [List.length_cons]
              omega
        have := this x.texts 7 k4 (by omega)
        omega
      rw [← hr, texts_full a x.texts k1 hl, Option.bind_some]
      simp only
      rw [← e, if_pos ⟨trivial, h⟩]
    · have e : x = anZ := an_ext hz (List.eq_nil_of_length_eq_zero (by omega)) (List.eq_nil_of_length_eq_zero (by omega)) h5
      rw [if_pos ⟨by rw [← hdr, e], by rw [← e]; exact h⟩, e]
theorem read_is (a : Rq) (hr : RightP a) (l : List UInt8) (x : An) (e : Int) (h : (readS a l).elim (anZ, (2 : Int)) (fun x => (x, 0)) = (x, e)) : ansReadV a (ofB l) = (x, e) := by
  unfold ansReadV
  rw [if_pos hr]
  cases hs : readS a l with
  | some y =>
    rw [hs] at h
    obtain ⟨h1, h2, h3⟩ := read_sound a hr l y hs
    have hg := guess_back a y (ansV_ok h1 h3) h1
    rw [h2] at hg
    rw [hg, if_pos ⟨h1, h2⟩]
    exact h
  | none =>
    rw [hs] at h
    rw [if_neg]
    · exact h
    · rintro ⟨h1, h2⟩
      have hw : Words (guessA a (ofB l)).words := by
        unfold guessA
        split
        · intro x hx; cases hx
        split
        · intro x hx; cases hx
        split
        · exact wdI_words _
        split
        · intro x hx; cases hx
        · intro x hx; cases hx
      have := read_full a _ (ansV_ok h1 hw) h1
      rw [h2, toB_ofB, hs] at this
      cases this
end Go.Proofs.YtcpgmbpndpcmdaaGreat
namespace Go.Proofs.YtcpgmbpndpcmdaaGreat
open Go Go.RowKit
set_option linter.unusedSimpArgs false
set_option linter.unusedVariables false
def BX (w : World) (b : Nat) (t : TypeId) (cs : Array Value) : Prop := w.heap[b]? = some (.cells cs t)
theorem BX.lt {w : World} {b : Nat} {t : TypeId} {cs : Array Value} (h : BX w b t cs) : b < w.heap.size := by
  unfold BX at h
  exact (Array.getElem?_eq_some_iff.1 h).1
theorem BX.made {w : World} {b : Nat} {t : TypeId} {cs : Array Value} (hb : b = w.heap.size) : BX (w.alloc (.cells cs t)) b t cs := by
  subst hb
  exact heap_alloc_new w _
theorem BX.cell {w : World} {b : Nat} {t : TypeId} {cs : Array Value} (h : BX w b t cs) (k : Nat) {v : Value} (hv : cs[k]? = some v) : w.cell? ⟨b, k, none⟩ = some v := by
  unfold BX at h
  simp only [World.cell?, h]
  exact hv
theorem BX.frozen {w : World} {b : Nat} {t : TypeId} {cs : Array Value} (h : BX w b t cs) (k : Nat) : w.frozen? ⟨b, k, none⟩ = false := by
  unfold World.frozen?
  rw [show w.heap[b]? = some (.cells cs t) from h]
  simp
theorem BX.blk {w w' : World} {b : Nat} {t : TypeId} {cs : Array Value} (h : BX w b t cs) (hw : w'.heap[b]? = w.heap[b]?) : BX w' b t cs := hw.trans h
theorem BX.alloc {w : World} {b : Nat} {t : TypeId} {cs : Array Value} (h : BX w b t cs) (o : Obj) : BX (w.alloc o) b t cs := h.blk (Below.heap_alloc w o b h.lt)
theorem BX.below {w w' : World} {b : Nat} {t : TypeId} {cs : Array Value} (h : BX w b t cs) (hw : Below w.heap.size w w') : BX w' b t cs := h.blk (hw.block b h.lt)
theorem BX.grown {w w' : World} {b : Nat} {t : TypeId} {cs : Array Value} {r : Option Nat} (h : BX w b t cs) (hw : w.grownBy w' r) (hr : some b ≠ r) : BX w' b t cs := by
  obtain ⟨_, _, _, _, h5⟩ := hw
  exact h.blk (h5 b h.lt hr)
theorem BX.drew {w : World} {b : Nat} {t : TypeId} {cs : Array Value} (h : BX w b t cs) : BX w.drew b t cs := h
theorem BX.set {w : World} {b : Nat} {t : TypeId} {cs : Array Value} (h : BX w b t cs) (k : Nat) (v : Value) : BX (w.setCell ⟨b, k, none⟩ v) b t (cs.setIfInBounds k v) := by
  unfold BX at h ⊢
  simp [World.setCell, Array.getElem?_modify, h]
theorem BX.other {w : World} {b c : Nat} {t : TypeId} {cs : Array Value} (h : BX w b t cs) (hne : b ≠ c) (k : Nat) (v : Value) : BX (w.setCell ⟨c, k, none⟩ v) b t cs := h.blk (Below.heap_setCell _ _ _ _ hne)
theorem grown_below {w w' : World} {r : Option Nat} (h : Below w.heap.size w w') : w.grownBy w' r := ⟨h.os, h.tape, h.output, h.size, fun i hi _ => h.block i hi⟩
theorem grown_drew {w w1 : World} {r : Option Nat} (h : w.grownBy w1 r) : w.grownBy w1.drew r := ⟨h.os, h.tape, h.output, h.size, h.block⟩
theorem rd_rep {α : Type} {enc : α → Value} {e' : α → DV} (he : ∀ a, e' a = .flat (enc a)) (h1 : ∀ a, (enc a).cells = #[enc a] ∧ isOne (enc a) = true) {I : Nat → Nat → Prop} {w : World} {G : Gh} {V : Value} {l : List α} (h : RdV enc w V l) (hI : ∀ p n c, V = .slice (some p) n c → l ≠ [] → ∀ j, I p.block j) : Rep I w G (mkl 1 (l.map e') .sh) V := by
  obtain ⟨A, c, rfl, hc, hm, hcl⟩ := h.open
  cases l with
  | nil =>
    simp only [List.map_nil, mkl, Rep, TagOk]
    exact ⟨_, _, rfl, Nat.zero_le _, by simp, .inl trivial, trivial⟩
  | cons x l =>
    obtain ⟨b, o, rfl, hcell⟩ := hcl.resolve_left (by simp)
    have hE := repE_mk he h1 (I := I) (w := w) (b := b) (x :: l) o (fun j hj => ⟨hcell j hj, hI _ _ _ rfl (by simp) _⟩)
    simp only [List.map_cons, mkl, Rep, TagOk]
    exact ⟨_, c, by simp, by simpa using hc, by simpa using hm, .inr ⟨b, o, rfl, by simpa using hE⟩, trivial⟩
theorem rep_blk {I : Nat → Nat → Prop} {w : World} {G : Gh} {x : DV} {xs : List DV} {t : Tag} {V : Value} (h : Rep I w G (.list 1 (x :: xs) t) V) : ∃ p n c j, V = .slice (some p) n c ∧ I p.block j := by
  simp only [Rep] at h
  obtain ⟨A, c, rfl, h2, h3, h4, _⟩ := h
  rcases h4 with h4 | ⟨b, o, rfl, hE⟩
  · cases h4
  · simp only [RepE] at hE
    obtain ⟨⟨_, V, _, hs, hc⟩, _⟩ := hE
    have hl : 0 < V.cells.toList.length := by simp [hs]
    exact ⟨_, _, _, o + 0, rfl, (hc 0 V.cells.toList[0] (by simp [hl])).2.1⟩
theorem cP_open {n : Nat} {f : FuncId} {args : List DV} {r : DV} (h : cP n f false args = some r) : ∃ bs r0 H', mapO argEl args = some bs ∧ callG Tryz.prog ENV n f bs [] 0 = some (r0, H') ∧ outD false H' r0 = some r := by
  unfold cP callP at h
  obtain ⟨bs, h1, h⟩ := bi_eq h
  obtain ⟨p, h2, h⟩ := bi_eq h
  exact ⟨bs, p.1, p.2, h1, h2, h⟩
def rqW (a : Rq) (vw vb : Value) : Value := .agg #[.int .i64 a.code, .int .i64 a.addr, .int .i64 a.cnt, .int .i64 a.to_, vw, vb, .int .u16 a.and_, .int .u16 a.or_]
def anW (x : An) (v1 v2 v3 : Value) : Value := .agg #[.int .i64 x.exc, v1, v2, v3]
theorem rq_rep {J : Nat → Nat → Prop} {w : World} {G : Gh} {a : Rq} {vw vb : Value} (hw : Words a.words) (h1 : RdV encW w vw (toW a.words)) (h2 : RdV encT w vb a.bits) (i1 : ∀ p n c, vw = .slice (some p) n c → toW a.words ≠ [] → ∀ j, J p.block j) (i2 : ∀ p n c, vb = .slice (some p) n c → a.bits ≠ [] → ∀ j, J p.block j) : Rep J w G (rqE a .sh .sh) (rqW a vw vb) := by
  have e1 := mkl_eW (toW a.words) .sh
  rw [ofW_toW _ hw] at e1
  have r1 : Rep J w G (LV 1 (I .u16) a.words .sh) vw := by rw [← e1]; exact rd_rep (fun _ => rfl) (fun _ => ⟨rfl, rfl⟩) h1 i1
  have r2 : Rep J w G (LV 1 Bo a.bits .sh) vb := rd_rep (fun _ => rfl) (fun _ => ⟨rfl, rfl⟩) h2 i2
  unfold rqE rqW
  simp only [Rep, RepL]
  exact ⟨_, rfl, _, _, rfl, rfl, _, _, rfl, rfl, _, _, rfl, rfl, _, _, rfl, rfl, _, _, rfl, r1, _, _, rfl, r2, _, _, rfl, rfl, _, _, rfl, rfl, rfl⟩
theorem an_rep {J : Nat → Nat → Prop} {w : World} {G : Gh} {x : An} {v1 v2 v3 : Value} (hw : Words x.words) (h1 : RdV encT w v1 x.bits) (h2 : RdV encW w v2 (toW x.words)) (h3 : RdV encS w v3 x.texts) (i1 : ∀ p n c, v1 = .slice (some p) n c → x.bits ≠ [] → ∀ j, J p.block j) (i2 : ∀ p n c, v2 = .slice (some p) n c → toW x.words ≠ [] → ∀ j, J p.block j) (i3 : ∀ p n c, v3 = .slice (some p) n c → x.texts ≠ [] → ∀ j, J p.block j) : Rep J w G (anE x .sh .sh .sh) (anW x v1 v2 v3) := by
  have e1 := mkl_eW (toW x.words) .sh
  rw [ofW_toW _ hw] at e1
  have r1 : Rep J w G (LV 1 Bo x.bits .sh) v1 := rd_rep (fun _ => rfl) (fun _ => ⟨rfl, rfl⟩) h1 i1
  have r2 : Rep J w G (LV 1 (I .u16) x.words .sh) v2 := by rw [← e1]; exact rd_rep (fun _ => rfl) (fun _ => ⟨rfl, rfl⟩) h2 i2
  have r3 : Rep J w G (LV 1 Sg x.texts .sh) v3 := rd_rep (enc := encS) (fun _ => rfl) (fun _ => ⟨rfl, rfl⟩) h3 i3
  unfold anE anW
  simp only [Rep, RepL]
  exact ⟨_, rfl, _, _, rfl, rfl, _, _, rfl, r1, _, _, rfl, r2, _, _, rfl, r3, rfl⟩
theorem cP_calls {n : Nat} {f : FuncId} {args : List DV} {r : DV} (h : cP n f false args = some r) (ha : mapO argEl args = some args) (B : Nat → Nat → Prop) {w : World} {vs : Array Value} (hB : ∀ b j, w.heap.size ≤ b → B b j) (hr : RepL (ImmB B []) w [] args vs.toList) : Calls Tryz.prog f vs w fun e w' => ∃ V, e = .returned V ∧ Below w.heap.size w w' ∧ Rep B w' [] r V := by
  obtain ⟨bs, r0, H', h1, h2, h3⟩ := cP_open h
  rw [ha] at h1
  obtain rfl := Option.some.inj h1
  refine ((call_sound mixed noOwn primSound n _ _ _ _ _ _ (callG_ok _ _ _ _ _ _ _ _ h2)).1 B [] w vs hB (hr_nil _ w) hr (Nat.zero_le _)).1.mono fun e w' ⟨V, G', he, hK, hH, hd⟩ => ?_
  refine ⟨V, he, ⟨hK.os, hK.tape, hK.output, hK.size, fun b hb => hK.blk b hb fun k hk => ?_⟩, outD_rep h3 hd (fun _ => hH) (fun b j _ hi => hi.1) (fun k b _ h2 j => hH.bb k b (.inl h2) j)⟩
  rcases hk with hk | ⟨_, _, _, hk⟩ <;> simp at hk
theorem reads_w (c : Int) (w : World) : Calls Tryz.prog 39 #[.int .i64 c] w fun e w' => e = .returned (.tuple #[.bool (rdBits c), .bool (rdWords c), .bool (rdTexts c)]) ∧ Below w.heap.size w w' := by
  refine (cP_calls (reads_c 10 (by omega) c) (by simp [argEl_eq]) (fun _ _ => True) (fun _ _ _ => trivial) (by simp only [RepL, Rep]; exact ⟨_, _, rfl, rfl, rfl⟩)).mono ?_
  rintro e w' ⟨V, rfl, hb, hV⟩
  simp only [Rep, RepL] at hV
  obtain ⟨vs, rfl, v1, r1, h1, h2, v2, r2, h3, h4, v3, r3, h5, h6, h7⟩ := hV
  subst h7; subst h5; subst h3
  subst h2; subst h4; subst h6
  obtain rfl : vs = #[.bool (rdBits c), .bool (rdWords c), .bool (rdTexts c)] := by cases vs; simp_all
  exact ⟨rfl, hb⟩
theorem ansRight_w (a : Rq) (x : An) (ok : AnOk x) (vw vb v1 v2 v3 : Value) (w : World) (hw : Words a.words) (a1 : RdV encW w vw (toW a.words)) (a2 : RdV encT w vb a.bits) (h1 : RdV encT w v1 x.bits) (h2 : RdV encW w v2 (toW x.words)) (h3 : RdV encS w v3 x.texts) :
    Calls Tryz.prog 38 #[rqW a vw vb, anW x v1 v2 v3] w fun e w' => e = .returned (.bool (ansV a x)) ∧ Below w.heap.size w w' := by
  refine (cP_calls (ansRight_c 1200 (by omega) a x ok .sh .sh .sh .sh .sh) (by simp [argEl_eq, rqE, anE]) (fun _ _ => True) (fun _ _ _ => trivial) ?_).mono ?_
  · simp only [RepL]
    have hI : ∀ (Q : Prop) (V : Value) p n c, V = .slice (some p) n c → Q → ∀ j, ImmB (fun _ _ => True) [] p.block j := fun Q V p n c _ _ j => ⟨trivial, fun k hk => by simp at hk, fun k s c n hk => by simp at hk⟩
    exact ⟨_, _, rfl, rq_rep hw a1 a2 (hI _ _) (hI _ _), _, _, rfl, an_rep ok.w h1 h2 h3 (hI _ _) (hI _ _) (hI _ _), rfl⟩
  · rintro e w' ⟨V, rfl, hb, hV⟩
    simp only [Rep] at hV
    subst hV
    exact ⟨rfl, hb⟩
theorem askRight_w (a : Rq) (vw vb : Value) (w : World) (hw : Words a.words) (a1 : RdV encW w vw (toW a.words)) (a2 : RdV encT w vb a.bits) :
    Calls Tryz.prog 32 #[rqW a vw vb] w fun e w' => e = .returned (.bool (decide (RightP a))) ∧ Below w.heap.size w w' := by
  refine (cP_calls (Right_c 1200 (by omega) a .sh .sh) (by simp [argEl_eq, rqE]) (fun _ _ => True) (fun _ _ _ => trivial) ?_).mono ?_
  · simp only [RepL]
    have hI : ∀ (Q : Prop) (V : Value) p n c, V = .slice (some p) n c → Q → ∀ j, ImmB (fun _ _ => True) [] p.block j := fun Q V p n c _ _ j => ⟨trivial, fun k hk => by simp at hk, fun k s c n hk => by simp at hk⟩
    exact ⟨_, _, rfl, rq_rep hw a1 a2 (hI _ _) (hI _ _), rfl⟩
  · rintro e w' ⟨V, rfl, hb, hV⟩
    simp only [Rep] at hV
    subst hV
    exact ⟨rfl, hb⟩
theorem anZ_ok : AnOk anZ := ⟨(by intro x hx; cases hx), (by intro x hx; cases hx), (by decide)⟩
theorem mapO_eB : ∀ l : List UInt8, mapO dB (l.map eB) = some l
  | [] => rfl
  | c :: l => by
    have hc := c.toNat_lt
    have e : dB (eB c) = some c := by
      unfold dB eB
      simp only
      rw [if_pos (by omega), lowB_toNat]
    rw [List.map_cons, mapO_cons, mapO_eB l, e]
    rfl
theorem ansBytes_w (a : Rq) (oa : RqOk a) (hr : RightP a) (hz : ansV a anZ = true) (g : Nat) (vw vb : Value) (w : World) (hg : g < w.heap.size) (a1 : RdV encW w vw (toW a.words)) (a2 : RdV encT w vb a.bits) (i1 : ∀ p n c, vw = .slice (some p) n c → toW a.words ≠ [] → p.block ≠ g) (i2 : ∀ p n c, vb = .slice (some p) n c → a.bits ≠ [] → p.block ≠ g) :
    Calls Tryz.prog 19 #[rqW a vw vb, .agg #[.int .i64 0, .slice none 0 0, .slice none 0 0, .slice none 0 0]] w fun e w' => (∃ p c, e = .returned (.tuple #[.slice (some p) (ansTextV a anZ).length c, .int .i64 0]) ∧ RdV encB w' (.slice (some p) (ansTextV a anZ).length c) (toB (ansTextV a anZ)) ∧ p.block ≠ g) ∧ Below w.heap.size w w' := by
  have hb := ansBytes_c 1300 (by omega) a oa anZ anZ_ok .sh .sh .sh .sh .sh
  unfold ansBytV at hb
  rw [if_pos hr, if_pos hz] at hb
  have hl : (ansTextV a anZ) = ofB (toB (ansTextV a anZ)) := by
    refine (ofB_toB _ ?_).symm
    exact ansText_bytes a anZ hr (by decide) (by decide) anZ_ok
  refine (cP_calls hb (by simp [argEl_eq, rqE, anE]) (fun b _ => b ≠ g) (fun b _ hb e => by omega) ?_).mono ?_
  · simp only [RepL]
    have hI : ∀ (Q : Prop) (V : Value), (∀ p n c, V = .slice (some p) n c → Q → p.block ≠ g) → ∀ p n c, V = .slice (some p) n c → Q → ∀ j, ImmB (fun b _ => b ≠ g) [] p.block j := fun Q V h p n c e q j => ⟨h p n c e q, fun k hk => by simp at hk, fun k s c n hk => by simp at hk⟩
    have hn : ∀ (Q : Prop) p n c, (Value.slice none 0 0) = .slice (some p) n c → Q → ∀ j, ImmB (fun b _ => b ≠ g) [] p.block j := fun Q p n c e => by cases e
    exact ⟨_, _, rfl, rq_rep oa.w a1 a2 (hI _ _ i1) (hI _ _ i2), _, _, rfl, an_rep anZ_ok.w (RdV.nil _ _) (RdV.nil _ _) (RdV.nil _ _) (hn _) (hn _) (hn _), rfl⟩
  · rintro e w' ⟨V, rfl, hb, hV⟩
    refine ⟨?_, hb⟩
    rw [hl, ← mkl_eB] at hV
    clear hl
    simp only [Rep, RepL] at hV
    obtain ⟨vs, rfl, v1, r1, h1, h2, v2, r2, h3, h4, h5⟩ := hV
    subst h5; subst h3; subst h4
    obtain rfl : vs = #[v1, .int .i64 0] := by cases vs; simp_all
    have hrd : RdV encB w' v1 (toB (ansTextV a anZ)) := by
      obtain ⟨sz, e1, e2⟩ : ∃ sz, mkl 1 ((toB (ansTextV a anZ)).map eB) .sh = .list sz ((toB (ansTextV a anZ)).map eB) .sh ∧ True := by cases (toB (ansTextV a anZ)) <;> exact ⟨_, rfl, trivial⟩
      rw [e1] at h2
      exact list_rd dB_some (fun a => rfl) h2 (mapO_eB _)
    obtain ⟨r, hr2⟩ := ansText_head a anZ hr (by decide)
    rw [hr2, toB_cons] at h2
    obtain ⟨p, n, c, j, rfl, hp⟩ := rep_blk h2
    obtain ⟨A, c', e, _⟩ := hrd.open
    injection e with e1 e2 e3
    subst e2
    refine ⟨p, c, ?_, ?_, hp⟩
    · simp [toB]
    · simpa [toB] using hrd
end Go.Proofs.YtcpgmbpndpcmdaaGreat
namespace Go.Proofs.YtcpgmbpndpcmdaaGreat
open Go Go.RowKit
set_option linter.unusedSimpArgs false
set_option linter.unusedVariables false
theorem bits_w (v : Value) (l : List UInt8) (n : Int) (w : World) (h : RdV encB w v l) (hl : l.length ≤ 100000) (h0 : 0 ≤ n) (h1 : n ≤ 2000) :
    Calls Tryz.prog 106 #[v, .int .i64 n] w fun e w' => ∃ v', e = .returned (.tuple #[v', .bool (bitsTell l n).1]) ∧ Own encT 4 w' w.heap.size v' (bitsTell l n).2 ∧ Below w.heap.size w w' := by
  obtain ⟨m, rfl⟩ := Int.eq_ofNat_of_zero_le h0
  rw [bitsTell_nat]
  by_cases hf : bitsFit l m
  · rw [wBits_yes hf]
    exact word_Bits_yes v l m w h hf (by omega)
  · rw [wBits_no hf]
    exact (word_Bits_no v l m w h (.inr (by simpa using hf)) (by omega) (by omega)).mono fun e w' ⟨h3, h4⟩ => ⟨_, h3, own_nil _ _ _ _, by rw [← h4]; exact Below.refl _ _⟩
theorem words_w (v : Value) (l : List UInt8) (w : World) (h : RdV encB w v l) (hl : l.length ≤ 100000) :
    Calls Tryz.prog 108 #[v] w fun e w' => ∃ v', e = .returned (.tuple #[v', .bool (wordsTell l).1]) ∧ Own encW 38 w' w.heap.size v' (wordsTell l).2 ∧ Below w.heap.size w w' := by
  rcases (by omega : l.length % 2 = 1 ∨ l.length % 2 = 0) with hn | hn
  · rw [wordsTell_no hn]
    exact (word_Words_no v l w h hn).mono fun e w' ⟨h3, h4⟩ => ⟨_, h3, own_nil _ _ _ _, by rw [← h4]; exact Below.refl _ _⟩
  · rw [wordsTell_yes hn]
    exact word_Words_yes v l w h hn hl
theorem rd_grown {α : Type} {enc : α → Value} {w w' : World} {V : Value} {l : List α} {g : Nat} (h : RdV enc w V l) (hw : w.grownBy w' (some g)) (hg : ∀ p n c, V = .slice (some p) n c → l ≠ [] → p.block ≠ g) : RdV enc w' V l := by
  obtain ⟨A', c', rfl, h1, h2, h3, h4⟩ := h
  refine ⟨_, _, rfl, h1, h2, h3, h4.imp id ?_⟩
  rintro ⟨b, o, rfl, hc⟩
  refine ⟨b, o, rfl, fun j u hu => ?_⟩
  have := hc j u hu
  rw [World.cell?_of_block (w := w)]
  · exact this
  · obtain ⟨_, _, _, _, h5⟩ := hw
    exact h5 b (World.block_lt_of_cell? _ _ this) (by
      intro e
      exact hg ⟨b, o, none⟩ _ _ rfl (by rintro rfl; simp at hu) (by simpa using e))
theorem Rr.blk {w : World} {g : Nat} {l : List UInt8} (h : Rr w g l) : g < w.heap.size := by
  obtain ⟨⟨A, c, h1, h2, h3⟩, h4⟩ := h
  exact World.block_lt_of_cell? _ _ h1
theorem Rr.below {w w' : World} {g : Nat} {l : List UInt8} (h : Rr w g l) (hb : Below w.heap.size w w') : Rr w' g l := h.row (row := none) (grown_below hb) (by intro j hj; cases hj)
theorem Rr.drew {w : World} {g : Nat} {l : List UInt8} (h : Rr w g l) : Rr w.drew g l := by
  obtain ⟨⟨A, c, h1, h2, h3⟩, h4⟩ := h
  exact ⟨⟨A, c, (show w.drew.cell? _ = _ from h1), h2.drew, h3⟩, h4⟩
theorem cell_drew' {w : World} {p : Addr} {v : Value} (h : w.cell? p = some v) : w.drew.cell? p = some v := h
theorem own_other {α : Type} {enc : α → Value} {e : TypeId} {w : World} {base b k : Nat} {v u : Value} {l : List α} (h : Own enc e w base v l) (hb : b < base) : Own enc e (w.setCell ⟨b, k, none⟩ u) base v l :=
  h.kept (row := some b) ⟨rfl, rfl, rfl, by simp [World.setCell], fun i _ hi => Below.heap_setCell _ _ _ _ (fun e => hi (by rw [e]))⟩
    (by cases hv : v.ownBlock with
        | none => exact .inl rfl
        | some j => exact .inr (fun hh => by have := (h.base j hv).1; injection hh with hh; omega))
theorem Rr.other {w : World} {g b k : Nat} {l : List UInt8} {v : Value} (h : Rr w g l) (hb : g < b) : Rr (w.setCell ⟨b, k, none⟩ v) g l :=
  h.row (row := some b) ⟨rfl, rfl, rfl, by simp [World.setCell], fun i _ hi => Below.heap_setCell _ _ _ _ (fun e => hi (by rw [e]))⟩ (by rintro j hj; cases hj; exact hb)
theorem grown_set {w w1 : World} {g b k : Nat} {v : Value} (h : w.grownBy w1 (some g)) (hb : w.heap.size ≤ b) : w.grownBy (w1.setCell ⟨b, k, none⟩ v) (some g) :=
  ⟨h.os, h.tape, h.output, by simpa [World.setCell] using h.size, fun i hi hr => (Below.heap_setCell _ _ _ _ (by show i ≠ b; omega)).trans (h.block i hi hr)⟩
theorem toW_ofW (l : List UInt16) : toW (ofW l) = l := by
  unfold toW ofW
  rw [List.map_map]
  conv => rhs; rw [← List.map_id l]
  refine List.map_congr_left fun c _ => ?_
  show UInt16.ofNat ((c.toNat : Int)).toNat = c
  simp
theorem txS_size (addr : Int) : ∀ (m i : Nat) (r : List UInt8) (ts : List ByteArray) (q : List UInt8), txS addr i m r = some (ts, q) → ∀ s ∈ ts, s.size ≤ 255
  | 0, i, r, ts, q, h => by
    cases h
    intro s hs
    cases hs
  | m + 1, i, [], ts, q, h => by cases h
  | m + 1, i, c :: r, ts, q, h => by
    simp only [txS] at h
    split at h
    · cases hp : cntS r with
      | none => rw [hp] at h; cases h
      | some p =>
        rw [hp, Option.bind_some] at h
        obtain ⟨p1, p2⟩ := p
        cases ht : txS addr (i + 1) m p2 with
        | none => rw [ht] at h; cases h
        | some u =>
          rw [ht] at h
          cases h
          obtain ⟨u1, u2⟩ := u
          have h1 := txS_size addr m (i + 1) p2 u1 u2 ht
          have h2 := (cntS_open hp).2
          intro s hs
          rcases List.mem_cons.1 hs with rfl | hs
          · show p1.toArray.size ≤ 255
            simpa using h2
          · exact h1 s hs
    · cases h
theorem texts_size (a : Rq) (r : List UInt8) (ts : List ByteArray) (q : List UInt8) (h : textsS a.addr a.cnt r = some (ts, q)) : (∀ s ∈ ts, s.size ≤ 255) ∧ ts.length ≤ 255 := by
  unfold textsS at h
  split at h
  · cases hr : r.drop 5 with
    | nil => rw [hr] at h; cases h
    | cons c r2 =>
      rw [hr] at h
      have hc := c.toNat_lt
      obtain ⟨_, e2⟩ := txS_open _ _ _ _ _ _ h
      exact ⟨txS_size _ _ _ _ _ _ h, by omega⟩
  · cases h
def Mid (w wx : World) (g : Nat) (a : Rq) (vw vb : Value) (spec : Option An) (x8 : Value) : Prop :=
  ∃ (isv : Bool) (x : An) (rest : List UInt8) (v1 v2 v3 : Value), x8 = .bool isv ∧ x.exc = 0 ∧ AnOk x ∧ BX wx w.heap.size 40 #[.int .i64 a.code, .int .i64 a.addr, .int .i64 a.cnt, .int .i64 a.to_, vw, vb, .int .u16 a.and_, .int .u16 a.or_] ∧ BX wx (w.heap.size + 1) 46 #[.int .i64 0, v1, v2, v3] ∧
    Own encT 4 wx (w.heap.size + 2) v1 x.bits ∧ Own encW 38 wx (w.heap.size + 2) v2 (toW x.words) ∧ Own encS 9 wx (w.heap.size + 2) v3 x.texts ∧ Rr wx g rest ∧ w.grownBy wx (some g) ∧ spec = if isv = true ∧ rest = [] ∧ ansV a x = true then some x else none
set_option maxRecDepth 100000 in
set_option maxHeartbeats 3200000 in
theorem body_w (w : World) (g : Nat) (l : List UInt8) (a : Rq) (hr : RightP a) (oa : RqOk a) (vw vb : Value) (a1 : RdV encW w vw (toW a.words)) (a2 : RdV encT w vb a.bits) (i1 : ∀ p n c, vw = .slice (some p) n c → toW a.words ≠ [] → p.block ≠ g) (i2 : ∀ p n c, vb = .slice (some p) n c → a.bits ≠ [] → p.block ≠ g) (h : Rr w g l) :
    Calls Tryz.prog 88 #[.pointer (some ⟨g, 0, none⟩), rqW a vw vb] w fun e w' =>
      w.grownBy w' (some g) ∧ match bodyS a l with | some x => x.exc = 0 ∧ ∃ v1 v2 v3, e = .returned (anW x v1 v2 v3) ∧ Own encT 4 w' w.heap.size v1 x.bits ∧ Own encW 38 w' w.heap.size v2 (toW x.words) ∧ Own encS 9 w' w.heap.size v3 x.texts | none => e = .panicked PV := by
  have hgl := h.blk
  have hh := Lib.hid h
  have ha1 := Lib.hid a1
  have ha2 := Lib.hid a2
  have hi1 := Lib.hid i1
  have hi2 := Lib.hid i2
  have hoa := Lib.hid oa
  have hrr := Lib.hid hr
  obtain ⟨spec, hspec⟩ : ∃ s, Hid (s = bodyS a l) := ⟨_, Lib.hid rfl⟩
  rw [← hspec.out]
  obtain ⟨b1, hb1⟩ : ∃ b, Hid (b = rdBits a.code) := ⟨_, Lib.hid rfl⟩
  obtain ⟨b2, hb2⟩ : ∃ b, Hid (b = rdWords a.code) := ⟨_, Lib.hid rfl⟩
  obtain ⟨b3, hb3⟩ : ∃ b, Hid (b = rdTexts a.code) := ⟨_, Lib.hid rfl⟩
  clear h a1 a2 i1 i2 oa hr
  unfold rqW
  go_enter Tryz.func88, Tryz.ntmps88
  go_wp2_with fail
  refine (reads_w a.code _).mono ?_
  rintro e w1 ⟨rfl, hB1⟩
  rw [← hb1.out, ← hb2.out, ← hb3.out]
  have hq : BX w1 w.heap.size 40 #[.int .i64 a.code, .int .i64 a.addr, .int .i64 a.cnt, .int .i64 a.to_, vw, vb, .int .u16 a.and_, .int .u16 a.or_] := ((BX.made rfl).alloc _).below hB1
  have hx : BX w1 (w.heap.size + 1) 46 #[.int .i64 0, .slice none 0 0, .slice none 0 0, .slice none 0 0] := (BX.made (by simp)).below hB1
  have hG1 : w.grownBy w1 (some g) := grown_trans (grown_alloc (grown_alloc (grown_same w _) _) _) (grown_below hB1)
  have hR1 : Rr w1 g l := ((hh.out.alloc _).alloc _).below hB1
  have hq := Lib.hid hq
  have hx := Lib.hid hx
  have hG1 := Lib.hid hG1
  have hR1 := Lib.hid hR1
  clear hB1
  go_upto_block 0 with fail
  go_cut [8] (fun x8 wx => Hid (Mid w wx g a vw vb spec x8))
  case first =>
    have q2 := hq.out.cell 2 rfl
    have hok0 : AnOk anZ := anZ_ok
    have hcnt := formed_le a hrr.out.1
    obtain ⟨hc0, hc1, hd0, hd1, _⟩ := hcnt
    have hdd := Lib.hid (show 0 ≤ a.addr ∧ a.addr ≤ 65535 from ⟨hd0, hd1⟩)
    have hcc := Lib.hid (show 0 ≤ a.cnt ∧ a.cnt ≤ 65535 from ⟨hc0, by omega⟩)
    have hc0 := Lib.hid hc0
    have hc1 := Lib.hid hc1
    clear hd0 hd1
    cases b1 with
    | true =>
      cases hp : cntS l with
      | none =>
        have hs2 : spec = none := by rw [hspec.out]; unfold bodyS; rw [if_pos hb1.out.symm, hp]; rfl
        have hcall : ∀ W, Rr W g l → Calls Tryz.prog 107 #[.pointer (some ⟨g, 0, none⟩)] W fun e w' => W.grownBy w' (some g) ∧ e = .panicked PV := fun W hW => by
          have := counted_c W g l hW
          rw [hp] at this
          exact this
        have hcall := Lib.hid hcall
        clear hspec hp
        subst hs2
        go_wp2_with fail
        refine wp_region_held_drew (S := fun w' => w'.cell? ⟨w.heap.size, 2, none⟩ = some (.int .i64 a.cnt)) (by kernel_rfl) (cell_drew' q2) (fun hHeld => ?_)
        refine wpAnyH_take (i := 0) (v := ?_) rfl (by kernel_rfl) (by kernel_rfl) (by kernel_rfl) (fun _ _ _ h => h) (Or.inl ⟨by rfl, ?_⟩) (by assumption) ?_
        rotate_left
        · intro w hSw
          go_simp
          try with_reducible rfl
        simp only [Act.put, List.setIfInBounds_toArray, List.set_cons_zero, List.set_cons_succ]
        refine wpAnyH_take (i := 2) (v := ?_) rfl (by kernel_rfl) (by kernel_rfl) (by kernel_rfl) (fun _ _ _ h => h) (Or.inl ⟨by rfl, ?_⟩) (by assumption) ?_
        rotate_left
        · intro w hSw
          go_simp
          try with_reducible rfl
        simp only [Act.put, List.setIfInBounds_toArray, List.set_cons_zero, List.set_cons_succ]
        refine wpAnyH_take (i := 3) (v := ?_) rfl (by kernel_rfl) (by kernel_rfl) (by kernel_rfl) (fun _ _ _ h => h) (Or.inl ⟨by rfl, ?_⟩) (by assumption) ?_
        rotate_left
        · intro w hSw
          go_simp
          try with_reducible rfl
        simp only [Act.put, List.setIfInBounds_toArray, List.set_cons_zero, List.set_cons_succ]
        refine wpAnyH_ready (rs := [1]) (by kernel_rfl) (by simp) ?_
        refine AllReadyH.cons rfl (fun K hK => ?_) AllReadyH.nil
        go_simp
        go_wp2_with fail
        refine (hcall.out _ hR1.out.drew).mono ?_
        rintro e w2 ⟨hG2, rfl⟩
        exact ⟨rfl, grown_trans (grown_drew hG1.out) hG2, rfl⟩
      | some p =>
        obtain ⟨p1, p2⟩ := p
        have hs2 : Hid (spec = if (bitsTell p1 a.cnt).1 = true ∧ p2 = [] ∧ ansV a ⟨0, (bitsTell p1 a.cnt).2, [], []⟩ = true then some ⟨0, (bitsTell p1 a.cnt).2, [], []⟩ else none) := Lib.hid (by rw [hspec.out]; unfold bodyS; rw [if_pos hb1.out.symm, hp]; rfl)
        have hpl : p1.length ≤ 255 := (cntS_open hp).2
        have hcall : ∀ W, Rr W g l → Calls Tryz.prog 107 #[.pointer (some ⟨g, 0, none⟩)] W fun e w' => W.grownBy w' (some g) ∧ ∃ v, e = .returned v ∧ RdV encB w' v p1 ∧ Rr w' g p2 := fun W hW => by
          have := counted_c W g l hW
          rw [hp] at this
          exact this
        have hcall := Lib.hid hcall
        clear hspec hp
        go_wp2_with fail
        go_region_held3 (fun w' => w'.cell? ⟨w.heap.size, 2, none⟩ = some (.int .i64 a.cnt)) (first | assumption | exact cell_drew' q2 | exact (((hq.out.drew.grown hG2 (by simp; omega)).below hB3).other (by omega) _ _).cell 2 rfl)
          (first | (go_at_call 107; refine (hcall.out _ hR1.out.drew).mono ?_; rintro e w2 ⟨hG2, v2, rfl, hrd, hR2⟩; have q2 := (hq.out.drew.grown hG2 (by simp; omega)).cell 2 rfl) | (go_at_call 106; refine (bits_w _ p1 a.cnt _ hrd (by omega) hc0.out hc1.out).mono ?_; rintro e w3 ⟨v3, rfl, ho, hB3⟩; obtain ⟨A3, k3, rfl, _⟩ := ho.rd.open; have hx3 := (hx.out.drew.grown hG2 (by simp; omega)).below hB3; have y0 := hx3.cell 1 rfl; have f0 := hx3.frozen 1; have q2 := ((hq.out.drew.grown hG2 (by simp; omega)).below hB3).cell 2 rfl))
        have hM : Hid (Mid w (w3.setCell ⟨w.heap.size + 1, 1, none⟩ (.slice A3 (bitsTell p1 a.cnt).2.length k3)) g a vw vb spec (.bool (bitsTell p1 a.cnt).1)) := by
          have hsz : w.heap.size + 2 ≤ w2.heap.size := (hx.out.drew.grown hG2 (by simp; omega)).lt
          exact Lib.hid ⟨_, ⟨0, (bitsTell p1 a.cnt).2, [], []⟩, p2, _, _, _, rfl, rfl, ⟨(by intro x hx; cases hx), by simp, by simp⟩, ((hq.out.drew.grown hG2 (by simp; omega)).below hB3).other (by omega) _ _, hx3.set 1 _, own_other (ho.lower hsz) (by omega), Own.nil _ _ _ _, Own.nil _ _ _ _, (hR2.below hB3).other (by omega), grown_set (grown_trans (grown_trans (grown_drew hG1.out) hG2) (grown_below hB3)) (by omega), hs2.out⟩
        clear hs2 hG2 hR2 hrd ho hB3 hx3 y0 f0
        go_wp2_with fail
        go_meet
        exact hM
    | false =>
    cases b2 with
    | true =>
      have u1 : ¬ rdBits a.code = true := by rw [← hb1.out]; decide
      cases hp : cntS l with
      | none =>
        have hs2 : spec = none := by rw [hspec.out]; unfold bodyS; rw [if_neg u1, if_pos hb2.out.symm, hp]; rfl
        clear hspec
        subst hs2
        go_wp2_with fail
        refine (counted_c _ g l hR1.out).mono ?_
        rw [hp]
        rintro e w2 ⟨hG2, rfl⟩
        exact ⟨rfl, grown_trans hG1.out hG2, rfl⟩
      | some p =>
        obtain ⟨p1, p2⟩ := p
        have hs2 : Hid (spec = if (wordsTell p1).1 = true ∧ p2 = [] ∧ ansV a ⟨0, [], ofW (wordsTell p1).2, []⟩ = true then some ⟨0, [], ofW (wordsTell p1).2, []⟩ else none) := Lib.hid (by rw [hspec.out]; unfold bodyS; rw [if_neg u1, if_pos hb2.out.symm, hp]; rfl)
        have hpl : p1.length ≤ 255 := (cntS_open hp).2
        clear hspec
        go_wp2_with fail
        refine (counted_c _ g l hR1.out).mono ?_
        rw [hp]
        rintro e w2 ⟨hG2, v2, rfl, hrd, hR2⟩
        have hq2 := Lib.hid (hq.out.grown hG2 (by simp; omega))
        have hx2 := Lib.hid (hx.out.grown hG2 (by simp; omega))
        have hsz : w.heap.size + 2 ≤ w2.heap.size := hx2.out.lt
        have hG2 := Lib.hid (grown_trans hG1.out hG2)
        have hR2 := Lib.hid hR2
        have hrd := Lib.hid hrd
        clear hq hx hG1 hR1 hp q2
        go_wp2_with fail
        refine (words_w _ p1 _ hrd.out (by omega)).mono ?_
        rintro e w3 ⟨v3, rfl, ho, hB3⟩
        have hx3 := hx2.out.below hB3
        have y0 := hx3.cell 2 rfl
        have f0 := hx3.frozen 2
        obtain ⟨A3, k3, rfl, _⟩ := ho.rd.open
        have hM : Hid (Mid w (w3.setCell ⟨w.heap.size + 1, 2, none⟩ (.slice A3 (wordsTell p1).2.length k3)) g a vw vb spec (.bool (wordsTell p1).1)) := by
          have hw := toW_ofW (wordsTell p1).2
          refine Lib.hid ⟨_, ⟨0, [], ofW (wordsTell p1).2, []⟩, p2, _, _, _, rfl, rfl, ⟨ofW_words _, by simp, by simp⟩, (hq2.out.below hB3).other (by omega) _ _, hx3.set 2 _, Own.nil _ _ _ _, ?_, Own.nil _ _ _ _, (hR2.out.below hB3).other (by omega), grown_set (grown_trans hG2.out (grown_below hB3)) (by omega), hs2.out⟩
          rw [hw]
          exact own_other (ho.lower hsz) (by omega)
        clear hs2 hq2 hx2 hG2 hR2 hrd ho hB3 hx3
        go_wp2_with fail
        go_meet
        exact hM
    | false =>
    have u1 : ¬ rdBits a.code = true := by rw [← hb1.out]; decide
    have u2 : ¬ rdWords a.code = true := by rw [← hb2.out]; decide
    cases b3 with
    | true =>
      have q0 := hq.out.cell 0 rfl
      have q1 := hq.out.cell 1 rfl
      have q3 := hq.out.cell 3 rfl
      have q4 := hq.out.cell 4 rfl
      have q5 := hq.out.cell 5 rfl
      have q6 := hq.out.cell 6 rfl
      have q7 := hq.out.cell 7 rfl
      cases hp : textsS a.addr a.cnt l with
      | none =>
        have hs2 : spec = none := by rw [hspec.out]; unfold bodyS; rw [if_neg u1, if_neg u2, if_pos hb3.out.symm, hp]; rfl
        clear hspec
        subst hs2
        go_wp2_with fail
        refine (texts_c _ g l a.code a.addr a.cnt a.to_ a.and_ a.or_ vw vb hR1.out hdd.out hcc.out).mono ?_
        rw [hp]
        rintro e w2 ⟨hG2, rfl⟩
        exact ⟨rfl, grown_trans hG1.out hG2, rfl⟩
      | some p =>
        obtain ⟨p1, p2⟩ := p
        have hs2 : Hid (spec = if p2 = [] ∧ ansV a ⟨0, [], [], p1⟩ = true then some ⟨0, [], [], p1⟩ else none) := Lib.hid (by rw [hspec.out]; unfold bodyS; rw [if_neg u1, if_neg u2, if_pos hb3.out.symm, hp]; rfl)
        have hpt := Lib.hid (texts_size a l p1 p2 hp)
        clear hspec
        go_wp2_with fail
        refine (texts_c _ g l a.code a.addr a.cnt a.to_ a.and_ a.or_ vw vb hR1.out hdd.out hcc.out).mono ?_
        rw [hp]
        rintro e w3 ⟨hG2, v3, rfl, ho, hR2⟩
        have hq3 := hq.out.grown hG2 (by simp; omega)
        have hx3 := hx.out.grown hG2 (by simp; omega)
        have hsz : w.heap.size + 2 ≤ w1.heap.size := hx.out.lt
        have y0 := hx3.cell 3 rfl
        have f0 := hx3.frozen 3
        obtain ⟨A3, k3, rfl, _⟩ := ho.rd.open
        have hM : Hid (Mid w (w3.setCell ⟨w.heap.size + 1, 3, none⟩ (.slice A3 p1.length k3)) g a vw vb spec (.bool true)) := by
          refine Lib.hid ⟨true, ⟨0, [], [], p1⟩, p2, _, _, _, rfl, rfl, ⟨(by intro x hx; cases hx), fun s hs => Nat.le_trans (hpt.out.1 s hs) (by decide), Nat.le_trans hpt.out.2 (by decide)⟩, hq3.other (by omega) _ _, hx3.set 3 _, Own.nil _ _ _ _, Own.nil _ _ _ _, own_other (ho.lower hsz) (by omega), hR2.other (by omega), grown_set (grown_trans hG1.out hG2) (by omega), by rw [hs2.out]; simp⟩
        clear hs2 hq hx hG1 hR1 hp q0 q1 q2 q3 q4 q5 q6 q7 hG2 hR2 ho hx3 hq3
        go_wp2_with fail
        go_meet
        exact hM
    | false =>
      have u3 : ¬ rdTexts a.code = true := by rw [← hb3.out]; decide
      have q0 := hq.out.cell 0 rfl
      have q1 := hq.out.cell 1 rfl
      have q3 := hq.out.cell 3 rfl
      have q4 := hq.out.cell 4 rfl
      have q5 := hq.out.cell 5 rfl
      have q6 := hq.out.cell 6 rfl
      have q7 := hq.out.cell 7 rfl
      have hz : ansV a anZ = true := by
        unfold ansV ansB anZ
        have e1 : rdBits a.code = false := by simpa using u1
        have e2 : rdWords a.code = false := by simpa using u2
        have e3 : rdTexts a.code = false := by simpa using u3
        simp [hrr.out, e1, e2, e3]
      have hs2 : Hid (spec = if l = toB ((ansTextV a anZ).drop 1) ∧ ansV a anZ = true then some anZ else none) := Lib.hid (by rw [hspec.out]; unfold bodyS; rw [if_neg u1, if_neg u2, if_neg u3])
      have hcall := ansBytes_w a hoa.out hrr.out hz g vw vb w1 hR1.out.blk (rd_grown ha1.out hG1.out hi1.out) (rd_grown ha2.out hG1.out hi2.out) hi1.out hi2.out
      unfold rqW at hcall
      have hcall := Lib.hid hcall
      obtain ⟨T, hT⟩ : ∃ T, Hid (T = toB ((ansTextV a anZ).drop 1)) := ⟨_, Lib.hid rfl⟩
      have hlen : (ansTextV a anZ).length = T.length + 1 := by
        rw [hT.out]
        obtain ⟨r, hr2⟩ := ansText_head a anZ hrr.out (by decide)
        rw [hr2]
        simp [toB]
      have hlen := Lib.hid hlen
      rw [← hT.out] at hs2
      clear hspec
      go_wp2_with fail
      refine hcall.out.mono ?_
      rintro e w2 ⟨⟨p, c, rfl, hrd, hpg⟩, hB2⟩
      obtain ⟨A', c', he, hle, hm, hcl⟩ := hrd.open
      injection he with e1 e2 e3
      subst e1; subst e3
      have h5 : 4 ≤ T.length := by
        have h1 := text_five a hrr.out.1 u1 u2 u3
        have h2 : (ansTextV a anZ).length = T.length + 1 := hlen.out
        unfold ansTextV at h2
        rw [if_neg (by decide), if_neg u1, if_neg u2, if_neg u3] at h2
        split at h2
        · omega
        · rw [List.length_take] at h2
          omega
      have hTl : (toB (ansTextV a anZ)).length = T.length + 1 := by simp only [toB, List.length_map]; exact hlen.out
      have hTd : (toB (ansTextV a anZ)).drop 1 = T := by rw [hT.out]; unfold toB; rw [List.map_drop]
      obtain ⟨pb, po, hpe, _⟩ := hcl.resolve_left (by omega)
      obtain rfl := Option.some.inj hpe
      have hcut : RdV encB w2 (.slice (some ⟨pb, po + 1, none⟩) T.length (c - 1)) T := by
        have hc := hrd.cut 1 T.length (c - 1) (some ⟨pb, po + 1, none⟩) (.inl (by simp [addr_add])) (by omega) (by omega)
        rw [hTd, List.take_of_length_le (Nat.le_refl _)] at hc
        exact hc
      have hcut := Lib.hid hcut
      have hq2 := Lib.hid (hq.out.below hB2)
      have hx2 := Lib.hid (hx.out.below hB2)
      have hG2 := Lib.hid (grown_trans hG1.out (grown_below hB2))
      have hR2 := Lib.hid (hR1.out.below hB2)
      have hpb : ∀ q, some (⟨pb, po + 1, none⟩ : Addr) = some q → q.block ≠ g := by
        rintro q hq
        obtain rfl := Option.some.inj hq
        exact hpg
      have hpb := Lib.hid hpb
      have hle2 : 1 ≤ c := by omega
      have hle4 : ¬ (c = 1) := by omega
      have hle3 : T.length + 1 ≤ c := by omega
      rw [hlen.out]
      clear hrd hB2 hq hx hG1 hR1 hcall q0 q1 q2 q3 q4 q5 q6 q7 hTl hTd hle hm e2 hpg
      go_wp2_with fail
      refine (want_c _ g l T _ T.length _ rfl hR2.out hcut.out hpb.out).mono ?_
      rintro e w3 ⟨hG3, hif⟩
      have hq3 := hq2.out.grown hG3 (by simp; omega)
      have hx3 := hx2.out.grown hG3 (by simp; omega)
      by_cases hd : l.take T.length = T
      · rw [if_pos hd] at hif
        obtain ⟨rfl, hR3⟩ := hif
        have hM : Hid (Mid w w3 g a vw vb spec (.bool true)) := by
          refine Lib.hid ⟨true, anZ, l.drop T.length, _, _, _, rfl, rfl, anZ_ok, hq3, hx3, Own.nil _ _ _ _, Own.nil _ _ _ _, Own.nil _ _ _ _, hR3, grown_trans hG2.out hG3, ?_⟩
          rw [hs2.out]
          have hiff : (l = T ∧ ansV a anZ = true) ↔ (true = true ∧ l.drop T.length = [] ∧ ansV a anZ = true) := by
            constructor
            · rintro ⟨h1, h2⟩
              exact ⟨rfl, by rw [h1]; simp, h2⟩
            · rintro ⟨_, h1, h2⟩
              refine ⟨?_, h2⟩
              rw [← List.take_append_drop T.length l, h1, hd, List.append_nil]
          by_cases hc : l = T ∧ ansV a anZ = true
          · rw [if_pos hc, if_pos (hiff.1 hc)]
          · rw [if_neg hc, if_neg (fun h => hc (hiff.2 h))]
        clear hs2 hq2 hx2 hG2 hR2 hG3 hq3 hx3 hR3 hd hT hlen
        go_wp2_with fail
        go_meet
        exact hM
      · rw [if_neg hd] at hif
        subst hif
        have e : spec = none := by
          rw [hs2.out, if_neg]
          rintro ⟨h1, _⟩
          apply hd
          rw [h1, List.take_of_length_le (Nat.le_refl _)]
        exact ⟨rfl, grown_trans hG2.out hG3, by rw [e]⟩
  case rest =>
    obtain ⟨isv, x, rest, v1, v2, v3, rfl, hxe, hok, hq2, hx2, ho1, ho2, ho3, hR, hG, hs⟩ := hcut.out
    obtain ⟨A1, k1, rfl, _⟩ := ho1.rd.open
    obtain ⟨A2, k2, rfl, _⟩ := ho2.rd.open
    obtain ⟨A3, k3, rfl, _⟩ := ho3.rd.open
    have q0 := hq2.cell 0 rfl
    have q1 := hq2.cell 1 rfl
    have q2 := hq2.cell 2 rfl
    have q3 := hq2.cell 3 rfl
    have q4 := hq2.cell 4 rfl
    have q5 := hq2.cell 5 rfl
    have q6 := hq2.cell 6 rfl
    have q7 := hq2.cell 7 rfl
    have y0 := hx2.cell 0 rfl
    have y1 := hx2.cell 1 rfl
    have y2 := hx2.cell 2 rfl
    have y3 := hx2.cell 3 rfl
    obtain ⟨A, c, hcell, hrd, hlt⟩ := hR.ex
    have hG := Lib.hid hG
    have hx2 := Lib.hid hx2
    have ho1 := Lib.hid ho1
    have ho2 := Lib.hid ho2
    have ho3 := Lib.hid ho3
    have hok := Lib.hid hok
    have hxe := Lib.hid hxe
    have hs := Lib.hid hs
    clear hcut hrd hlt hR hq2 hq hx hG1 hR1 hh
    cases isv with
    | false =>
      have hs2 : Hid (spec = none) := Lib.hid (by rw [hs.out]; simp)
      clear hs
      go_wp2
      exact ⟨rfl, hG.out, by first | rfl | rw [hs2.out]⟩
    | true =>
      cases rest with
      | cons z zs =>
        have hs2 : Hid (spec = none) := Lib.hid (by rw [hs.out]; simp)
        clear hs
        have hz : (0 : Int) < ((z :: zs).length : Int) := by simp only [List.length_cons]; omega
        generalize (z :: zs).length = m at hcell hz
        go_wp2
        exact ⟨rfl, hG.out, by first | rfl | rw [hs2.out]⟩
      | nil =>
        have hcall := ansRight_w a x hok.out vw vb _ _ _ wc hoa.out.w (rd_grown ha1.out hG.out hi1.out) (rd_grown ha2.out hG.out hi2.out) ho1.out.rd ho2.out.rd ho3.out.rd
        unfold rqW anW at hcall
        rw [hxe.out] at hcall
        have hcall := Lib.hid hcall
        go_wp2_with fail
        refine hcall.out.mono ?_
        rintro e w2 ⟨rfl, hB2⟩
        have hx3 := hx2.out.below hB2
        have y0 := hx3.cell 0 rfl
        have y1 := hx3.cell 1 rfl
        have y2 := hx3.cell 2 rfl
        have y3 := hx3.cell 3 rfl
        have f0 := hx3.frozen 0
        have f1 := hx3.frozen 1
        have f2 := hx3.frozen 2
        have f3 := hx3.frozen 3
        have hG2 := Lib.hid (grown_trans hG.out (grown_below hB2))
        have ho1 := Lib.hid (ho1.out.below hB2)
        have ho2 := Lib.hid (ho2.out.below hB2)
        have ho3 := Lib.hid (ho3.out.below hB2)
        clear hB2 hx3 hcall
        cases hav : ansV a x with
        | false =>
          have hs2 : Hid (spec = none) := Lib.hid (by rw [hs.out, hav]; simp)
          clear hs
          go_wp2
          exact ⟨rfl, hG2.out, by first | rfl | rw [hs2.out]⟩
        | true =>
          have hs2 : spec = some x := by rw [hs.out, hav]; simp
          clear hs
          subst hs2
          go_wp2
          refine bodyPost_ret (v := .agg #[.int .i64 0, .slice A1 x.bits.length k1, .slice A2 (toW x.words).length k2, .slice A3 x.texts.length k3]) (by simp [results, Tryz.results88, go_sem, y0, y1, y2, y3]) rfl ?_
          refine ⟨?_, _, _, _, by unfold anW; rw [hxe.out], ?_, ?_, ?_⟩
          · exact grown_set (grown_set (grown_set (grown_set hG2.out (by simp)) (by simp)) (by simp)) (by simp)
          · exact (own_other (own_other (own_other (own_other ho1.out (by omega)) (by omega)) (by omega)) (by omega)).lower (by omega)
          · exact (own_other (own_other (own_other (own_other ho2.out (by omega)) (by omega)) (by omega)) (by omega)).lower (by omega)
          · exact (own_other (own_other (own_other (own_other ho3.out (by omega)) (by omega)) (by omega)) (by omega)).lower (by omega)
end Go.Proofs.YtcpgmbpndpcmdaaGreat
namespace Go.Proofs.YtcpgmbpndpcmdaaGreat
open Go Go.RowKit
set_option linter.unusedSimpArgs false
set_option linter.unusedVariables false
theorem rd_blk {α : Type} {enc : α → Value} {w : World} {V : Value} {l : List α} (h : RdV enc w V l) (p : Addr) (n c : Nat) (hp : V = .slice (some p) n c) (hl : l ≠ []) : p.block < w.heap.size := by
  obtain ⟨A, c', rfl, _, _, hcl⟩ := h.open
  injection hp with e1 e2 e3
  subst e1
  cases l with
  | nil => exact absurd rfl hl
  | cons x l =>
    obtain ⟨b, o, hb, hc⟩ := hcl.resolve_left (by simp)
    obtain rfl := Option.some.inj hb
    exact World.block_lt_of_cell? _ _ (hc 0 (by simp))
theorem belowS' {B : Nat} {a w : World} {p : Addr} {v : Value} (h : Below B a w) (hp : B ≤ p.block) : Below B a (w.setCell p v) := h.setCell hp v
theorem assert_no (T : TypeId) (w : World) : Sem.run Tryz.prog (Instr.typeAssert .nilIface T 145 true) w = .ok (.tuple #[.agg #[], .bool false]) w := by kernel_rfl
theorem assert_yes (T : TypeId) (w : World) : Sem.run Tryz.prog (Instr.typeAssert (.iface 145 (.agg #[])) T 145 true) w = .ok (.tuple #[.agg #[], .bool true]) w := by kernel_rfl
set_option maxRecDepth 10000 in
theorem catch_idle_w (p q : Addr) (w : World) :
    CallsD Tryz.prog 86 #[.pointer (some p), .pointer (some q)] .returning w fun e u' w' => e = .returned (.tuple #[]) ∧ u' = .returning ∧ w' = w.alloc (.cells #[] 145) := by
  refine callsD_of_wpS Tryz.func86 rfl fun c₀ cs hu => ?_
  simp only [Tryz.ntmps86, List.size_toArray, List.length_cons, List.length_nil, Nat.reduceAdd, Nat.reduceSub, Array.replicate_succ,
     Array.replicate_zero, List.push_toArray, List.append_toArray, List.nil_append, List.cons_append]
  have ka := fun T w => assert_no T w
  have kb := fun T w => assert_yes T w
  apply wpS_seq
  apply wpS_region
  simp [wpOpsS, go_sem, recoverD, hu, Exit.thenS, ka, kb, storeCells]
  apply wpS_seq
  apply wpS_region
  simp [wpOpsS, go_sem, Exit.thenS]
  refine wpS_cond (t := false) (by simp [Act.eval]) ?_
  simp only [Bool.false_eq_true, if_false]
  refine wpS_of_wp (wp_skip ?_)
  cases c₀
  simp_all [bodyPostS, results, Tryz.results86]
set_option maxRecDepth 10000 in
theorem catch_w (B1 B2 : Nat) (t1 t2 : TypeId) (c0 c1 c2 c3 d0 : Value) (w : World) (h1 : BX w B1 t1 #[c0, c1, c2, c3]) (h2 : BX w B2 t2 #[d0]) (hne : B1 ≠ B2) :
    CallsD Tryz.prog 86 #[.pointer (some ⟨B1, 0, none⟩), .pointer (some ⟨B2, 0, none⟩)] (.panicking PV) w fun e u' w' =>
      e = .returned (.tuple #[]) ∧ u' = .panicking [{ v := .iface 145 (.agg #[]), recovered := true }] ∧ (∀ B, B ≤ B1 → B ≤ B2 → B ≤ w.heap.size → Below B w w') ∧ BX w' B1 t1 #[.int .i64 0, .slice none 0 0, .slice none 0 0, .slice none 0 0] ∧ BX w' B2 t2 #[.int .i64 2] := by
  refine callsD_of_wpS Tryz.func86 rfl fun c₀ cs hu => ?_
  simp only [Tryz.ntmps86, List.size_toArray, List.length_cons, List.length_nil, Nat.reduceAdd, Nat.reduceSub, Array.replicate_succ,
     Array.replicate_zero, List.push_toArray, List.append_toArray, List.nil_append, List.cons_append]
  have ka := fun T w => assert_no T w
  have kb := fun T w => assert_yes T w
  apply wpS_seq
  apply wpS_region
  simp [wpOpsS, go_sem, recoverD, hu, Exit.thenS, ka, kb, storeCells]
  have f0 := h1.frozen 0
  have f1 := h1.frozen 1
  have f2 := h1.frozen 2
  have f3 := h1.frozen 3
  have y0 := h1.cell 0 rfl
  have y1 := h1.cell 1 rfl
  have y2 := h1.cell 2 rfl
  have y3 := h1.cell 3 rfl
  have g0 := h2.frozen 0
  have z0 := h2.cell 0 rfl
  have hl1 := h1.lt
  have hl2 := h2.lt
  apply wpS_seq
  apply wpS_region
  simp [wpOpsS, go_sem, Exit.thenS]
  refine wpS_cond (t := true) (by simp [Act.eval]) ?_
  simp only [if_true]
  apply wpS_region
  simp [wpOpsS, go_sem, f0, f1, f2, f3, y0, y1, y2, y3, g0, z0, hl1, hl2, bodyPostS, results, Tryz.results86]
  refine ⟨fun B hB1 hB2 hB3 => ?_, ?_, ?_⟩
  · exact (belowS' (belowS' (belowS' (belowS' (belowS' (Below.refl B w) hB1) hB1) hB1) hB1) hB2).alloc (by simpa [World.setCell] using hB3) _
  · exact (((((h1.set 0 _).set 1 _).set 2 _).set 3 _).other hne 0 _).alloc _
  · exact (((((h2.other hne.symm 0 _).other hne.symm 1 _).other hne.symm 2 _).other hne.symm 3 _).set 0 _).alloc _
theorem take_no2 (w : World) (g : Nat) (A : Option Addr) (k c n : Nat) (hcell : w.cell? ⟨g, 0, none⟩ = some (.slice A k c)) (hn : k < n) :
    Calls Tryz.prog 87 #[.pointer (some ⟨g, 0, none⟩), .int .i64 (n : Int)] w fun e w' => e = .panicked PV ∧ w' = w := by
  go_enter Tryz.func87, Tryz.ntmps87
  go_wp2
  first | exact ⟨rfl, rfl⟩ | simp [bodyPost]
def RdPost (w : World) (x : An) (er : Int) (e : Ending) (w' : World) : Prop := Below w.heap.size w w' ∧ ∃ v1 v2 v3, e = .returned (.tuple #[anW x v1 v2 v3, .int .i64 er]) ∧ Own encT 4 w' w.heap.size v1 x.bits ∧ Own encW 38 w' w.heap.size v2 (toW x.words) ∧ Own encS 9 w' w.heap.size v3 x.texts
theorem RdPost.none {w w' : World} (er : Int) (h : Below w.heap.size w w') : RdPost w anZ er (.returned (.tuple #[.agg #[.int .i64 0, .slice none 0 0, .slice none 0 0, .slice none 0 0], .int .i64 er])) w' :=
  ⟨h, _, _, _, rfl, Own.nil _ _ _ _, Own.nil _ _ _ _, Own.nil _ _ _ _⟩
def outS (a : Rq) (l : List UInt8) : An × Int := if RightP a then (readS a l).elim (anZ, (2 : Int)) (fun x => (x, 0)) else (anZ, 1)
abbrev DF (b1 b2 : Nat) : List Deferred := [{ target := .fn (.func 86) #[.pointer (some ⟨b1, 0, none⟩), .pointer (some ⟨b2, 0, none⟩)], args := #[] }]
theorem panic_end (w w2 : World) (tmps : Array Value) (c0 c1 c2 c3 d0 : Value) (b1 b2 : Nat) (e1 : b1 = w.heap.size + 1) (e2 : b2 = w.heap.size + 1 + 1) (h4 : tmps[4]? = some (.pointer (some ⟨b1, 0, none⟩))) (h5 : tmps[5]? = some (.pointer (some ⟨b2, 0, none⟩))) (hx : BX w2 b1 46 #[c0, c1, c2, c3]) (he : BX w2 b2 28 #[d0]) (hB : Below w.heap.size w w2) :
    bodyPostD Tryz.prog Tryz.f68 (RdPost w anZ 2) (.panic PV) { tmps := tmps, defers := DF b1 b2 } w2 := by
  show Leaves _ _ _ _ _ _ _
  refine leaves_cons (f := 86) (args := #[.pointer (some ⟨b1, 0, none⟩), .pointer (some ⟨b2, 0, none⟩)]) (by simp) (by simp [go_sem]) ?_
  have hlt := hx.lt
  refine (catch_w b1 b2 46 28 c0 c1 c2 c3 d0 w2 hx he (by omega)).mono ?_
  rintro e u' w'' ⟨rfl, rfl, hb, hx2, he2⟩
  have y0 := hx2.cell 0 rfl
  have y1 := hx2.cell 1 rfl
  have y2 := hx2.cell 2 rfl
  have y3 := hx2.cell 3 rfl
  have z0 := he2.cell 0 rfl
  have hB2 := hB.trans (hb w.heap.size (by omega) (by omega) hB.size)
  simp at y0 y1 y2 y3 z0
  simp [Leaves, settle, results, Tryz.results68, go_sem, h4, h5, y0, y1, y2, y3, z0]
  exact RdPost.none 2 hB2
theorem ret_end (w w2 : World) (tmps : Array Value) (x : An) (v1 v2 v3 : Value) (b1 b2 : Nat) (e1 : b1 = w.heap.size + 1) (e2 : b2 = w.heap.size + 1 + 1) (h4 : tmps[4]? = some (.pointer (some ⟨b1, 0, none⟩))) (h5 : tmps[5]? = some (.pointer (some ⟨b2, 0, none⟩))) (hx : BX w2 b1 46 #[.int .i64 x.exc, v1, v2, v3]) (he : BX w2 b2 28 #[.int .i64 0]) (hB : Below w.heap.size w w2)
    (o1 : Own encT 4 w2 w.heap.size v1 x.bits) (o2 : Own encW 38 w2 w.heap.size v2 (toW x.words)) (o3 : Own encS 9 w2 w.heap.size v3 x.texts) :
    Leaves Tryz.prog Tryz.f68 tmps (RdPost w x 0) (DF b1 b2) .returning w2 := by
  refine leaves_cons (f := 86) (args := #[.pointer (some ⟨b1, 0, none⟩), .pointer (some ⟨b2, 0, none⟩)]) (by simp) (by simp [go_sem]) ?_
  have hlt := hx.lt
  refine (catch_idle_w ⟨b1, 0, none⟩ ⟨b2, 0, none⟩ w2).mono ?_
  rintro e u' w'' ⟨rfl, rfl, rfl⟩
  obtain ⟨A1, k1, rfl, _⟩ := o1.rd.open
  obtain ⟨A2, k2, rfl, _⟩ := o2.rd.open
  obtain ⟨A3, k3, rfl, _⟩ := o3.rd.open
  have hx2 := hx.alloc (.cells #[] 145)
  have he2 := he.alloc (.cells #[] 145)
  have y0 := hx2.cell 0 rfl
  have y1 := hx2.cell 1 rfl
  have y2 := hx2.cell 2 rfl
  have y3 := hx2.cell 3 rfl
  have z0 := he2.cell 0 rfl
  simp at y0 y1 y2 y3 z0
  simp [Leaves, settle, results, Tryz.results68, go_sem, h4, h5, y0, y1, y2, y3, z0]
  exact ⟨belowA hB _, _, _, _, rfl, o1.alloc _, o2.alloc _, o3.alloc _⟩
set_option maxRecDepth 100000 in
set_option maxHeartbeats 3200000 in
theorem Read_w (w : World) (a : Rq) (oa : RqOk a) (vw vb vl : Value) (l : List UInt8) (a1 : RdV encW w vw (toW a.words)) (a2 : RdV encT w vb a.bits) (a3 : RdV encB w vl l) : Calls Tryz.prog 68 #[rqW a vw vb, vl] w (RdPost w (outS a l).1 (outS a l).2) := by
  have hmf : ∀ (fn : Fn) (first cap : Array Value) (w : World), (Instr.makeFunc fn first cap).run Tryz.prog w = .ok (.func fn first cap) w := fun _ _ _ _ => rfl
  obtain ⟨A, cp, rfl, hcp, hm, hcl⟩ := a3.open
  have ha1 := Lib.hid a1
  have ha2 := Lib.hid a2
  have ha3 := Lib.hid a3
  have hoa := Lib.hid oa
  have hcl := Lib.hid hcl
  obtain ⟨spec, hspec⟩ : ∃ s, Hid (s = outS a l) := ⟨_, Lib.hid rfl⟩
  rw [← hspec.out]
  clear a1 a2 a3 oa
  unfold rqW
  go_enter_defers Tryz.func68, Tryz.ntmps68
  go_wp2_with fail
  refine (askRight_w a vw vb _ hoa.out.w (((ha1.out.alloc _).alloc _).alloc _) (((ha2.out.alloc _).alloc _).alloc _)).mono ?_
  rintro e w1 ⟨rfl, hB1⟩
  have hq : BX w1 w.heap.size 40 #[.int .i64 a.code, .int .i64 a.addr, .int .i64 a.cnt, .int .i64 a.to_, vw, vb, .int .u16 a.and_, .int .u16 a.or_] := (((BX.made rfl).alloc _).alloc _).below hB1
  have hx : BX w1 (w.heap.size + 1) 46 #[.int .i64 0, .slice none 0 0, .slice none 0 0, .slice none 0 0] := ((BX.made (by simp)).alloc _).below hB1
  have he : BX w1 (w.heap.size + 2) 28 #[.int .i64 0] := (BX.made (by simp)).below hB1
  have hG1 : Below w.heap.size w w1 := belowT (belowA (belowA (belowA (Below.refl _ w) _) _) _) hB1
  have hG1 := Lib.hid hG1
  clear hB1
  by_cases hr : RightP a
  case neg =>
    have hs2 : spec = (anZ, 1) := by rw [hspec.out]; unfold outS; rw [if_neg hr]
    clear hspec
    subst hs2
    have hd : decide (RightP a) = false := decide_eq_false hr
    rw [hd]
    have f0 := hx.frozen 0
    have f1 := hx.frozen 1
    have f2 := hx.frozen 2
    have f3 := hx.frozen 3
    have y0 := hx.cell 0 rfl
    have y1 := hx.cell 1 rfl
    have y2 := hx.cell 2 rfl
    have y3 := hx.cell 3 rfl
    have g0 := he.frozen 0
    have z0 := he.cell 0 rfl
    clear hr hd hq
    go_wp2
    simp [bodyPostD, Leaves, settle, results, Tryz.results68, go_sem, y0, y1, y2, y3, z0]
    exact RdPost.none 1 (belowS' (belowS' (belowS' (belowS' (belowS' hG1.out (by simp)) (by simp)) (by simp)) (by simp)) (by simp; omega))
  have hd : decide (RightP a) = true := decide_eq_true hr
  rw [hd]
  have hcode := code_le hr
  have hs2 : Hid (spec = (readS a l).elim (anZ, (2 : Int)) (fun x => (x, 0))) := Lib.hid (by rw [hspec.out]; unfold outS; rw [if_pos hr])
  have hq := Lib.hid hq
  have hx := Lib.hid hx
  have he := Lib.hid he
  have hrr := Lib.hid hr
  have hl0 := hx.out.lt
  have hl00 := he.out.lt
  have hsw := hG1.out.size
  clear hspec hd hr
  have hb1 : ∀ (W : World), Below w1.heap.size w1 W → BX W (w.heap.size + 1) 46 #[.int .i64 0, .slice none 0 0, .slice none 0 0, .slice none 0 0] ∧ BX W (w.heap.size + 2) 28 #[.int .i64 0] := fun W hW => ⟨hx.out.below hW, he.out.below hW⟩
  have hb1 := Lib.hid hb1
  cases l with
  | nil =>
    have hs3 : spec = (anZ, 2) := by rw [hs2.out]; rfl
    clear hs2
    subst hs3
    go_wp2_with fail
    refine (take_no2 _ _ A 0 cp 1 (cell_made 0 _ rfl) (by omega)).mono ?_
    rintro e w2 ⟨rfl, rfl⟩
    exact panic_end w _ _ _ _ _ _ _ _ _ rfl rfl rfl rfl (hx.out.alloc _) (he.out.alloc _) (belowA hG1.out _)
  | cons c r =>
    obtain ⟨pb, po, hA, hcells⟩ := hcl.out.resolve_left (by simp)
    subst hA
    have hpb : pb < w.heap.size := by
      have := hcells 0 (by simp)
      exact World.block_lt_of_cell? _ _ this
    have hsz := hG1.out.size
    have hne12 : w.heap.size + 1 ≠ w.heap.size + 1 + 1 := by omega
    have hne21 : w.heap.size + 1 + 1 ≠ w.heap.size + 1 := by omega
    have hR : Rr (w1.alloc (.cells #[.slice (some ⟨pb, po, none⟩) (c :: r).length cp] 149)) w1.heap.size (c :: r) := by
      refine ⟨⟨some ⟨pb, po, none⟩, cp, cell_made 0 _ rfl, (ha3.out.below hG1.out).alloc _, ?_⟩, ?_⟩
      · rintro p hp
        obtain rfl := Option.some.inj hp
        show pb < w1.heap.size
        omega
      · exact (BX.made (t := 149) rfl).frozen 0
    have hR := Lib.hid hR
    have hcells := Lib.hid hcells
    clear hcl hb1
    go_wp2_with fail
    refine (take_ok _ w1.heap.size (c :: r) 1 hR.out (by simp)).mono ?_
    rintro e w2 ⟨v1, rfl, h1, h2, h3⟩
    rw [take_head] at h1
    obtain ⟨b', o', c1, rfl, hc⟩ := h1.each (by simp)
    have k1 := hc 0 (by simp)
    have hn2 := c.toNat_lt
    simp only [encB, List.getElem_cons_zero, Nat.add_zero] at k1
    have hq2 := Lib.hid ((hq.out.alloc _).grown h3 (by intro e; have e := Option.some.inj e; have := hq.out.lt; omega))
    have hx2 := Lib.hid ((hx.out.alloc _).grown h3 (by intro e; have e := Option.some.inj e; have := hx.out.lt; omega))
    have he2 := Lib.hid ((he.out.alloc _).grown h3 (by intro e; have e := Option.some.inj e; have := he.out.lt; omega))
    have hB2 := Lib.hid (belowG (belowA hG1.out _) h3 (by rintro k hk; obtain rfl := Option.some.inj hk; exact hsz))
    have h2 : Rr w2 w1.heap.size r := h2
    have hR2 := Lib.hid h2
    have hl2 : w1.heap.size < w2.heap.size := hR2.out.blk
    obtain ⟨n, hn⟩ : ∃ n, Hid (n = c.toNat) := ⟨_, Lib.hid rfl⟩
    rw [← hn.out] at k1 hn2
    have q0 := hq2.out.cell 0 rfl
    clear hc h1 h2 h3 hq hx he hR
    have hw8 : IntKind.u8.wrap a.code = a.code := by rw [wrap_u8]; omega
    have hor : Go.bits .or .u8 a.code 128 = a.code + 128 := by
      have h := of_decide_eq_true hrr.out.1.1
      rcases h with h | h | h | h | h | h | h | h | h | h | h <;> rw [h] <;> decide
    by_cases d1 : (n : Int) = a.code + 128
    · have d1' : ((n : Int) == a.code + 128) = true := by simpa using d1
      have d2 : ¬ ((n : Int) = a.code) := by omega
      have d2' : ((n : Int) != a.code) = true := by simpa using d2
      match r, hn, hs2, hcells, ha3, hR2 with
      | [], hn, hs2, hcells, ha3, hR2 =>
        have hs3 : spec = (anZ, 2) := by rw [hs2.out, readS_cons, if_neg (by rintro ⟨_, h, _⟩; simp at h), if_neg (by rw [← hn.out]; exact d2)]; rfl
        clear hs2
        subst hs3
        go_wp2
        exact panic_end w _ _ _ _ _ _ _ _ _ rfl rfl rfl rfl hx2.out he2.out hB2.out
      | y :: z :: r', hn, hs2, hcells, ha3, hR2 =>
        have hs3 : spec = (anZ, 2) := by rw [hs2.out, readS_cons, if_neg (by rintro ⟨_, h, _⟩; simp at h), if_neg (by rw [← hn.out]; exact d2)]; rfl
        clear hs2
        subst hs3
        have hlen : ¬ (((c :: y :: z :: r').length : Int) = 2) := by simp only [List.length_cons]; omega
        have hlen' : (((c :: y :: z :: r').length : Int) == 2) = false := by simpa using hlen
        generalize (c :: y :: z :: r').length = m at hlen hlen' ⊢
        go_wp2
        exact panic_end w _ _ _ _ _ _ _ _ _ rfl rfl rfl rfl hx2.out he2.out hB2.out
      | [y], hn, hs2, hcells, ha3, hR2 =>
        have hc1 : w2.cell? ⟨pb, po + 1, none⟩ = some (encB y) := (hB2.out.cell hpb).trans (hcells.out 1 (by simp))
        have hy2 := y.toNat_lt
        have hm2 : 2 ≤ cp := by simpa using hcp
        obtain ⟨m, hm⟩ : ∃ m, Hid (m = y.toNat) := ⟨_, Lib.hid rfl⟩
        simp only [encB] at hc1
        rw [← hm.out] at hc1 hy2
        have hw64 : IntKind.i64.wrap (m : Int) = (m : Int) := IntWalk.i64_in _ (by omega)
        by_cases d3 : 0 < m
        · have hs3 : spec = (⟨(m : Int), [], [], []⟩, 0) := by rw [hs2.out, readS_cons, if_pos ⟨by rw [← hn.out]; exact d1, rfl, by simp only [List.getD_cons_zero]; rw [← hm.out]; exact d3⟩]; simp only [List.getD_cons_zero]; rw [← hm.out]; rfl
          clear hs2
          subst hs3
          have d3' : (0 : Int) < (m : Int) := by omega
          have f0 := hx2.out.frozen 0
          have f1 := hx2.out.frozen 1
          have f2 := hx2.out.frozen 2
          have f3 := hx2.out.frozen 3
          have y0 := hx2.out.cell 0 rfl
          have y1 := hx2.out.cell 1 rfl
          have y2 := hx2.out.cell 2 rfl
          have y3 := hx2.out.cell 3 rfl
          have g0 := he2.out.frozen 0
          have z0 := he2.out.cell 0 rfl
          go_wp2
          exact ret_end w _ _ ⟨(m : Int), [], [], []⟩ _ _ _ (w.heap.size + 1) (w.heap.size + 1 + 1) rfl rfl rfl rfl (((((hx2.out.set 0 _).set 1 _).set 2 _).set 3 _).other hne12 0 _) (((((he2.out.other hne21 0 _).other hne21 1 _).other hne21 2 _).other hne21 3 _).set 0 _)
            (belowS' (belowS' (belowS' (belowS' (belowS' hB2.out (by simp)) (by simp)) (by simp)) (by simp)) (by simp; omega)) (Own.nil _ _ _ _) (Own.nil _ _ _ _) (Own.nil _ _ _ _)
        · have hs3 : spec = (anZ, 2) := by rw [hs2.out, readS_cons, if_neg (by rintro ⟨_, _, h⟩; simp only [List.getD_cons_zero] at h; rw [← hm.out] at h; exact d3 h), if_neg (by rw [← hn.out]; exact d2)]; rfl
          clear hs2
          subst hs3
          obtain rfl : m = 0 := by omega
          go_wp2
          exact panic_end w _ _ _ _ _ _ _ _ _ rfl rfl rfl rfl hx2.out he2.out hB2.out
    · have d1' : ((n : Int) == a.code + 128) = false := by simpa using d1
      by_cases d2 : (n : Int) = a.code
      · have d2' : ((n : Int) != a.code) = false := by simpa using d2
        have hs3 : Hid (spec = (bodyS a r).elim (anZ, (2 : Int)) (fun x => (x, 0))) := Lib.hid (by rw [hs2.out, readS_cons, if_neg (by rw [← hn.out]; intro h; exact d1 h.1), if_pos (by rw [← hn.out]; exact d2)])
        have q1 := hq2.out.cell 1 rfl
        have q2 := hq2.out.cell 2 rfl
        have q3 := hq2.out.cell 3 rfl
        have q4 := hq2.out.cell 4 rfl
        have q5 := hq2.out.cell 5 rfl
        have q6 := hq2.out.cell 6 rfl
        have q7 := hq2.out.cell 7 rfl
        have hbody := body_w w2 w1.heap.size r a hrr.out hoa.out vw vb (ha1.out.below hB2.out) (ha2.out.below hB2.out) (fun p n c e h => by have := rd_blk ha1.out p n c e h; omega) (fun p n c e h => by have := rd_blk ha2.out p n c e h; omega) hR2.out
        unfold rqW at hbody
        have hbody := Lib.hid hbody
        clear hs2
        go_wp2_with fail
        refine hbody.out.mono ?_
        rintro e w3 ⟨hG3, hm⟩
        have hx3 := hx2.out.grown hG3 (by intro e; have e := Option.some.inj e; omega)
        have he3 := he2.out.grown hG3 (by intro e; have e := Option.some.inj e; omega)
        have hB3 : Below w.heap.size w w3 := belowG hB2.out hG3 (by rintro k hk; obtain rfl := Option.some.inj hk; omega)
        cases hbs : bodyS a r with
        | none =>
          rw [hbs] at hm
          have hs4 : spec = (anZ, 2) := by rw [hs3.out, hbs]; rfl
          simp only at hm
          subst hm
          clear hs3
          subst hs4
          exact panic_end w _ _ _ _ _ _ _ _ _ rfl rfl rfl rfl hx3 he3 hB3
        | some x =>
          rw [hbs] at hm
          have hs4 : spec = (x, 0) := by rw [hs3.out, hbs]; rfl
          clear hs3
          subst hs4
          obtain ⟨hx0, v1, v2, v3, rfl, o1, o2, o3⟩ := hm
          obtain ⟨A1, j1, rfl, _⟩ := o1.rd.open
          obtain ⟨A2, j2, rfl, _⟩ := o2.rd.open
          obtain ⟨A3, j3, rfl, _⟩ := o3.rd.open
          have f0 := hx3.frozen 0
          have f1 := hx3.frozen 1
          have f2 := hx3.frozen 2
          have f3 := hx3.frozen 3
          have y0 := hx3.cell 0 rfl
          have y1 := hx3.cell 1 rfl
          have y2 := hx3.cell 2 rfl
          have y3 := hx3.cell 3 rfl
          have g0 := he3.frozen 0
          have z0 := he3.cell 0 rfl
          have hsz2 : w.heap.size + 3 ≤ w2.heap.size := by have := he2.out.lt; omega
          have hx3 := Lib.hid hx3
          have he3 := Lib.hid he3
          have hB3 := Lib.hid hB3
          have o1 := Lib.hid o1
          have o2 := Lib.hid o2
          have o3 := Lib.hid o3
          have hx0 := Lib.hid hx0
          clear hG3 hbs q0 q1 q2 q3 q4 q5 q6 q7 hq2 hx2 he2 hB2 hR2 hbody k1
          unfold anW
          go_wp2
          refine ret_end w _ _ x (.slice A1 x.bits.length j1) (.slice A2 (toW x.words).length j2) (.slice A3 x.texts.length j3) (w.heap.size + 1) (w.heap.size + 1 + 1) rfl rfl rfl rfl (by rw [hx0.out]; exact (((((hx3.out.set 0 _).set 1 _).set 2 _).set 3 _).other hne12 0 _)) (((((he3.out.other hne21 0 _).other hne21 1 _).other hne21 2 _).other hne21 3 _).set 0 _)
            (belowS' (belowS' (belowS' (belowS' (belowS' hB3.out (by simp)) (by simp)) (by simp)) (by simp)) (by simp; omega)) ?_ ?_ ?_
          · exact (own_other (own_other (own_other (own_other (own_other o1.out (by omega)) (by omega)) (by omega)) (by omega)) (by omega)).lower (by omega)
          · exact (own_other (own_other (own_other (own_other (own_other o2.out (by omega)) (by omega)) (by omega)) (by omega)) (by omega)).lower (by omega)
          · exact (own_other (own_other (own_other (own_other (own_other o3.out (by omega)) (by omega)) (by omega)) (by omega)) (by omega)).lower (by omega)
      · have d2' : ((n : Int) != a.code) = true := by simpa using d2
        have hs3 : spec = (anZ, 2) := by rw [hs2.out, readS_cons, if_neg (by rw [← hn.out]; intro h; exact d1 h.1), if_neg (by rw [← hn.out]; exact d2)]; rfl
        clear hs2
        subst hs3
        go_wp2
        exact panic_end w _ _ _ _ _ _ _ _ _ rfl rfl rfl rfl hx2.out he2.out hB2.out
end Go.Proofs.YtcpgmbpndpcmdaaGreat
namespace Go.Proofs.YtcpgmbpndpcmdaaGreat
open Go
set_option linter.unusedSimpArgs false
set_option linter.unusedVariables false
def leR {β : Type} (x y : Option β) : Prop := ∀ r, x = some r → y = some r
theorem leR_refl {β : Type} (x : Option β) : leR x x := fun _ h => h
theorem leR_bi {α β : Type} {x x' : Option α} {k k' : α → Option β} (h : leR x x') (hk : ∀ a, leR (k a) (k' a)) : leR (bi x k) (bi x' k') := by
  intro r e
  obtain ⟨a, e1, e2⟩ := bi_eq e
  rw [h a e1, bi_some]
  exact hk a r e2
theorem leR_bind {α β : Type} {x x' : Option α} {k k' : α → Option β} (h : leR x x') (hk : ∀ a, leR (k a) (k' a)) : leR (x.bind k) (x'.bind k') := by
  intro r e
  obtain ⟨a, e1, e2⟩ := Option.bind_eq_some_iff.1 e
  rw [h a e1]
  exact hk a r e2
theorem leR_map {α β : Type} {x x' : Option α} (f : α → β) (h : leR x x') : leR (x.map f) (x'.map f) := by
  intro r e
  obtain ⟨a, e1, e2⟩ := Option.map_eq_some_iff.1 e
  rw [h a e1, Option.map_some, e2]
variable {cf cf' : CF}
theorem callP_mono (hc : CLe cf cf') (f : FuncId) (ti : Bool) (args : List DV) : leR (callP cf f ti args) (callP cf' f ti args) :=
  leR_bi (leR_refl _) fun bs => leR_bi (fun r h => hc f bs [] 0 r h) fun r => leR_refl _
theorem callO_mono (hc : CLe cf cf') (f : FuncId) (args : List DV) (H : Heap) : leR (callO cf f args H) (callO cf' f args H) :=
  leR_bi (fun r h => hc f args H _ r h) fun r => leR_refl _
theorem callW_mono (hc : CLe cf cf') (f : FuncId) (args : List DV) (H : Heap) (fl : Nat) : leR (callW cf f args H fl) (callW cf' f args H fl) :=
  leR_bi (fun r h => hc f args H _ r h) fun r => leR_refl _
theorem callD_mono (hc : CLe cf cf') (m : CM) (fl : Nat) (f : FuncId) (args : List DV) (H : Heap) : leR (callD cf m fl f args H) (callD cf' m fl f args H) := by
  cases m with
  | pure ti => exact leR_bind (leR_refl _) fun bs => leR_bind (fun r h => hc f bs [] 0 r h) fun r => leR_refl _
  | ro => exact leR_bind (fun r h => hc f args H _ r h) fun r => leR_refl _
  | rw => exact leR_bind (fun r h => hc f args H _ r h) fun r => leR_refl _
  | keep => exact leR_map _ (fun r h => hc f args H _ r h)
theorem callV_mono (hc : CLe cf cf') (md : FuncId → CM) (fl : Nat) (f : DV) (args : List DV) (H : Heap) : leR (callV cf md fl f args H) (callV cf' md fl f args H) := by
  unfold callV
  cases fnOf f with
  | none =>
    dsimp only
    split
    · exact callD_mono hc _ _ _ _ _
    · exact leR_refl _
  | some p => exact callD_mono hc _ _ _ _ _
theorem callVG_mono (hc : CLe cf cf') (md : FuncId → CM) (fl : Nat) (f : DV) (args : List DV) (H : Heap) : leR (callVG cf md fl f args H) (callVG cf' md fl f args H) := leR_map _ (callV_mono hc _ _ _ _ _)
theorem callVP_mono (hc : CLe cf cf') (md : FuncId → CM) (f : DV) (args : List DV) : leR (callVP cf md f args) (callVP cf' md f args) := by
  unfold callVP
  cases fnOf f with
  | none => exact leR_refl _
  | some p =>
    dsimp only
    cases md p.1 with
    | pure ti => exact callP_mono hc _ _ _
    | _ => exact leR_refl _
inductive leO : OpR → OpR → Prop where
  | same (r : OpR) : leO r r
  | a {x y : Option DV} (h : leR x y) : leO (.a x) (.a y)
  | b {x y : Option (DV × Heap)} (h : leR x y) : leO (.b x) (.b y)
theorem callR_mono (hc : CLe cf cf') (P : Program) (md : FuncId → CM) (fl : Nat) (t : TypeId) (c : Call) (ρ : Operand → DV) (H : Heap) : leO (callR P cf md fl t c ρ H) (callR P cf' md fl t c ρ H) := by
  unfold callR
  cases hcal : c.callee with
  | builtin b => cases b <;> exact .same _
  | value f =>
    cases f with
    | func g =>
      dsimp only
      cases md g with
      | pure ti => exact .a (callP_mono hc _ _ _)
      | ro => exact .a (callO_mono hc _ _ _)
      | rw => exact .b (callW_mono hc _ _ _ _)
      | keep => exact .b fun r h => hc _ _ _ _ r h
    | tmp k =>
      dsimp only
      cases vpu md t with
      | true => exact .a (callVP_mono hc _ _ _)
      | false => exact .b (callVG_mono hc _ _ _ _ _)
    | const v => exact .b (callVG_mono hc _ _ _ _ _)
    | global g => exact .b (callVG_mono hc _ _ _ _ _)
  | _ => exact .same _
theorem opR_mono (hc : CLe cf cf') (P : Program) (md : FuncId → CM) (fl N : Nat) (st : Bool) (nid : Nat) (o : Oper) (s : List DV) (H : Heap) : leO (opR ⟨P, cf, md, fl, N⟩ st nid o s H) (opR ⟨P, cf', md, fl, N⟩ st nid o s H) := by
  unfold opR
  cases ho : o.op with
  | call c => exact callR_mono hc _ _ _ _ _ _ _
  | _ => exact .same _
theorem stepG_mono {r r' : OpR} (h : leO r r') (g : Option (DV × Bool)) (H : Heap) {k k' : DV → Heap → R} (hk : ∀ d H, leR (k d H) (k' d H)) : leR (stepG g r H k) (stepG g r' H k') := by
  have hw : ∀ (c : DV) (w : Bool) {x y : Option DV}, leR x y → leR (wantF c w x) (wantF c w y) := by
    intro c w x y h
    unfold wantF
    cases guardD c w with
    | none => exact leR_refl _
    | some b => cases b with
      | true => exact h
      | false => exact leR_refl _
  have hh : ∀ (c : DV) (w : Bool) {x y : Option (DV × Heap)}, leR x y → leR (wantH c w H x) (wantH c w H y) := by
    intro c w x y h
    unfold wantH
    cases guardD c w with
    | none => exact leR_refl _
    | some b => cases b with
      | true => exact h
      | false => exact leR_refl _
  cases g with
  | none =>
    cases h with
    | same => cases r with
      | m d => exact hk d H
      | a x => exact leR_bi (leR_refl _) fun d => hk d H
      | b x => exact leR_bi (leR_refl _) fun p => hk p.1 p.2
      | h d x => exact leR_bi (leR_refl _) fun H' => hk d H'
    | a h => exact leR_bi h fun d => hk d H
    | b h => exact leR_bi h fun p => hk p.1 p.2
  | some p =>
    cases h with
    | same => cases r with
      | m d => exact leR_bi (leR_refl _) fun d => hk d H
      | a x => exact leR_bi (leR_refl _) fun d => hk d H
      | b x => exact leR_bi (leR_refl _) fun p => hk p.1 p.2
      | h d x => exact leR_bi (leR_refl _) fun p => hk p.1 p.2
    | a h => exact leR_bi (hw _ _ h) fun d => hk d H
    | b h => exact leR_bi (hh _ _ h) fun p => hk p.1 p.2
theorem opsG_mono (hc : CLe cf cf') (P : Program) (md : FuncId → CM) (fl N : Nat) (st : Bool) (ops : Array Oper) : ∀ (l : List Oper) (nid : Nat) (s : List DV) (H : Heap) (k k' : KF), (∀ s H, leR (k s H) (k' s H)) → leR (opsG ⟨P, cf, md, fl, N⟩ st ops l nid s H k) (opsG ⟨P, cf', md, fl, N⟩ st ops l nid s H k') := by
  intro l
  induction l with
  | nil => intro nid s H k k' hk; exact hk s H
  | cons o l ih =>
    intro nid s H k k' hk
    unfold opsG
    cases moveOf o with
    | some x =>
      simp only [evalK_eq, forceL_eq]
      exact ih _ _ _ _ _ hk
    | none =>
      dsimp only
      cases guardOf ops o s with
      | none => exact leR_refl _
      | some g =>
        refine stepG_mono (opR_mono hc _ _ _ _ _ _ _ _ _) g H fun d H' => ?_
        simp only [forceL_eq]
        cases isAl o with
        | true => exact ih _ _ _ _ _ hk
        | false => exact ih _ _ _ _ _ hk
theorem loopG_mono (keep out : List Nat) (N : Nat) {body body' : List DV → Heap → (Ex → KF) → R} (hb : ∀ s H (k k' : Ex → KF), (∀ x s H, leR (k x s H) (k' x s H)) → leR (body s H k) (body' s H k')) : ∀ (m : Nat) (s : List DV) (H : Heap) (k k' : Ex → KF), (∀ x s H, leR (k x s H) (k' x s H)) → leR (loopG keep out N body m s H k) (loopG keep out N body' m s H k') := by
  intro m
  induction m with
  | zero => intro s H k k' hk; exact leR_refl _
  | succ m ih =>
    intro s H k k' hk
    rw [loopG_succ, loopG_succ]
    refine hb s H _ _ fun x s H => ?_
    cases x with
    | normal => simp only [forceL_eq]; exact ih _ _ _ _ hk
    | exit i => simp only [forceL_eq]; exact hk _ _ _
    | ret => simp only [forceL_eq]; exact hk _ _ _
theorem execG_mono (hc : CLe cf cf') (P : Program) (md : FuncId → CM) (fl N n : Nat) : ∀ (c : Code) (ks : List (List Nat × List Nat)) (s : List DV) (H : Heap) (k k' : Ex → KF), (∀ x s H, leR (k x s H) (k' x s H)) → leR (execG ⟨P, cf, md, fl, N⟩ n c ks s H k) (execG ⟨P, cf', md, fl, N⟩ n c ks s H k') := by
  intro c
  induction c with
  | skip => intro ks s H k k' hk; exact hk _ _ _
  | region id ops draw =>
    intro ks s H k k' hk
    unfold execG
    simp only [holesF_eq]
    cases (draw && !drawOk ops (ops.toList.map (sCls md false))) with
    | false => exact opsG_mono hc _ _ _ _ _ _ _ _ _ _ _ _ fun s H => hk _ _ _
    | true =>
      dsimp only
      cases drawOk ops (ops.toList.map fun o => sCls md (isElLd P ops o) o) with
      | true => exact opsG_mono hc _ _ _ _ _ _ _ _ _ _ _ _ fun s H => hk _ _ _
      | false => exact leR_refl _
  | seq a b iha ihb =>
    intro ks s H k k' hk
    unfold execG
    refine iha _ _ _ _ _ fun x s H => ?_
    cases x with
    | normal => exact ihb _ _ _ _ _ hk
    | exit i => exact hk _ _ _
    | ret => exact hk _ _ _
  | cond c a b iha ihb =>
    intro ks s H k k' hk
    unfold execG
    have ha := iha (ks.take (nloops a)) s H k k' hk
    have hb := ihb (ks.drop (nloops a)) s H k k' hk
    intro r e
    unfold condR at e ⊢
    split at e
    · exact ha r e
    · exact hb r e
    · cases e
  | block id b ih =>
    intro ks s H k k' hk
    unfold execG
    refine ih _ _ _ _ _ fun x s H => ?_
    cases x with
    | normal => exact hk _ _ _
    | exit i =>
      dsimp only
      split
      · exact hk _ _ _
      · exact hk _ _ _
    | ret => exact hk _ _ _
  | loop b ih =>
    intro ks s H k k' hk
    unfold execG
    simp only [forceL_eq]
    refine loopG_mono (body := execG ⟨P, cf, md, fl, N⟩ n b ks.tail) (body' := execG ⟨P, cf', md, fl, N⟩ n b ks.tail) _ _ _ (fun s H k k' hk => ih ks.tail s H k k' hk) _ _ _ _ _ fun x s H => ?_
    cases x with
    | normal => exact leR_refl _
    | exit i => exact hk _ _ _
    | ret => exact hk _ _ _
  | scope b ih => intro ks s H k k' hk; exact ih _ _ _ _ _ hk
  | exit id => intro ks s H k k' hk; exact hk _ _ _
  | ret => intro ks s H k k' hk; exact hk _ _ _
  | _ => intros; exact leR_refl _
structure ELe (E E' : Env) : Prop where
  md : E'.md = E.md
  ks : E'.ks = E.ks
  some : ∀ f g, E.prim f = some g → ∀ args H r, g args H = some r → ∃ g', E'.prim f = some g' ∧ g' args H = some r
  none : ∀ f, E.prim f = none → E'.prim f = none
theorem callG_mono (P : Program) {E E' : Env} (hE : ELe E E') : ∀ n, CLe (callG P E n) (callG P E' n) := by
  intro n
  induction n with
  | zero => intro f args H fl r h; cases h
  | succ n ih =>
    intro f args H fl r h
    rw [callG_eq] at h ⊢
    unfold bodyG at h ⊢
    cases hp : E.prim f with
    | some g =>
      rw [hp] at h
      obtain ⟨g', h1, h2⟩ := hE.some f g hp args H r h
      rw [h1]
      exact h2
    | none =>
      rw [hp] at h
      rw [hE.none f hp]
      dsimp only at h ⊢
      cases hf : P.funcs[f]? with
      | none => rw [hf] at h; cases h
      | some fn =>
        rw [hf] at h
        dsimp only at h ⊢
        cases hb : fn.body with
        | none => rw [hb] at h; cases h
        | some c =>
          rw [hb] at h
          dsimp only at h ⊢
          split at h
          · cases h
          · rename_i hlt
            rw [if_neg hlt]
            simp only [forceL_eq] at h ⊢
            rw [hE.md, hE.ks]
            exact execG_mono ih P E.md fl fn.ntmps n c (E.ks f) _ H _ _ (fun x s H => leR_refl _) r h
end Go.Proofs.YtcpgmbpndpcmdaaGreat
namespace Go.Proofs.YtcpgmbpndpcmdaaGreat
open Go Go.RowKit
set_option linter.unusedSimpArgs false
set_option linter.unusedVariables false
def dRq : DV → Option Rq
  | .agg [.flat (.int .i64 c), .flat (.int .i64 ad), .flat (.int .i64 k), .flat (.int .i64 t), .list _ ws _, .list _ bs _, .flat (.int .u16 an), .flat (.int .u16 o)] => (mapO dW ws).bind fun w => (mapO dT bs).map fun b => ⟨c, ad, k, t, ofW w, b, an, o⟩
  | _ => none
def primRead : Prim
  | [ra, .list _ bs _], H => (dRq ra).bind fun a => (mapO dB bs).bind fun l => if (0 ≤ a.and_ ∧ a.and_ < 65536) ∧ (0 ≤ a.or_ ∧ a.or_ < 65536) ∧ a.words.length ≤ 3000 ∧ a.bits.length ≤ 30000 then some (.tup [anE (outS a l).1 .sh .sh .sh, .flat (.int .i64 (outS a l).2)], H) else none
  | _, _ => none
theorem map_eqS {α β : Type} {f : α → β} {x : Option α} {b : β} (h : x.map f = some b) : ∃ a, x = some a ∧ f a = b := Option.map_eq_some_iff.1 h
theorem dRq_open {ra : DV} {a : Rq} (h : dRq ra = some a) : ∃ c ad k t s1 ws t1 s2 bs t2 an o w b, ra = .agg [.flat (.int .i64 c), .flat (.int .i64 ad), .flat (.int .i64 k), .flat (.int .i64 t), .list s1 ws t1, .list s2 bs t2, .flat (.int .u16 an), .flat (.int .u16 o)] ∧ mapO dW ws = some w ∧ mapO dT bs = some b ∧ a = ⟨c, ad, k, t, ofW w, b, an, o⟩ := by
  unfold dRq at h
  split at h
  · obtain ⟨w, h1, h⟩ := Option.bind_eq_some_iff.1 h
    obtain ⟨b, h2, rfl⟩ := map_eqS h
    exact ⟨_, _, _, _, _, _, _, _, _, _, _, _, w, b, rfl, h1, h2, rfl⟩
  · cases h
theorem dRq_rep {I : Nat → Nat → Prop} {w : World} {G : Gh} {ra : DV} {a : Rq} {V : Value} (h : dRq ra = some a) (hr : Rep I w G ra V) : ∃ vw vb, V = rqW a vw vb ∧ RdV encW w vw (toW a.words) ∧ RdV encT w vb a.bits ∧ Words a.words := by
  obtain ⟨c, ad, k, t, s1, ws, t1, s2, bs, t2, an, o, l, b, rfl, h1, h2, rfl⟩ := dRq_open h
  unfold Rep at hr
  obtain ⟨vs, rfl, hr⟩ := hr
  unfold RepL at hr
  obtain ⟨x1, r1, e1, k1, hr⟩ := hr
  unfold RepL at hr
  obtain ⟨x2, r2, e2, k2, hr⟩ := hr
  unfold RepL at hr
  obtain ⟨x3, r3, e3, k3, hr⟩ := hr
  unfold RepL at hr
  obtain ⟨x4, r4, e4, k4, hr⟩ := hr
  unfold RepL at hr
  obtain ⟨x5, r5, e5, k5, hr⟩ := hr
  unfold RepL at hr
  obtain ⟨x6, r6, e6, k6, hr⟩ := hr
  unfold RepL at hr
  obtain ⟨x7, r7, e7, k7, hr⟩ := hr
  unfold RepL at hr
  obtain ⟨x8, r8, e8, k8, hr⟩ := hr
  unfold RepL at hr
  unfold Rep at k1 k2 k3 k4 k7 k8
  subst hr; subst e8; subst e7; subst e6; subst e5; subst e4; subst e3; subst e2
  subst k1; subst k2; subst k3; subst k4; subst k7; subst k8
  have hv : vs = #[.int .i64 c, .int .i64 ad, .int .i64 k, .int .i64 t, x5, x6, .int .u16 an, .int .u16 o] := by apply Array.ext'; simpa using e1
  subst hv
  have w1 := list_rd dW_some (fun a => rfl) k5 h1
  have w2 := list_rd dT_some (fun a => rfl) k6 h2
  exact ⟨x5, x6, rfl, by rw [toW_ofW]; exact w1, w2, ofW_words l⟩
theorem outS_words (a : Rq) (l : List UInt8) : Words (outS a l).1.words := by
  unfold outS
  split
  · rename_i hr
    cases h : readS a l with
    | none => intro x hx; cases hx
    | some x => exact (read_sound a hr l x h).2.2
  · intro x hx; cases hx
theorem primR_ok {args : List DV} {r : DV} {H H' : Heap} (h : primRead args H = some (r, H')) : H' = H ∧ ∀ fl, CallOk Tryz.prog 68 args H fl r H := by
  unfold primRead at h
  split at h
  · rename_i ra s bs t H0
    obtain ⟨a, ha, h⟩ := Option.bind_eq_some_iff.1 h
    obtain ⟨l, hl, h⟩ := Option.bind_eq_some_iff.1 h
    split at h
    · rename_i hc
      obtain ⟨c1, c2, c3, c4⟩ := hc
      simp only [Option.some.injEq, Prod.mk.injEq] at h
      obtain ⟨rfl, rfl⟩ := h
      refine ⟨rfl, fun fl B G w vs hB hH hr hfl => ⟨?_, fun _ _ => rfl, Nat.le_refl _⟩⟩
      simp only [RepL] at hr
      obtain ⟨va, _, e1, hva, vl, _, rfl, hvl, rfl⟩ := hr
      have hv : vs = #[va, vl] := by apply Array.ext'; simpa using e1
      subst hv
      obtain ⟨vw, vb, rfl, w1, w2, w3⟩ := dRq_rep ha hva
      have w4 := list_rd dB_some (fun a => rfl) hvl hl
      refine (Read_w w a ⟨w3, c1, c2, c3, c4⟩ vw vb vl l w1 w2 w4).mono fun e w' ⟨hb, v1, v2, v3, he, o1, o2, o3⟩ => ⟨_, G, he, Keep.below G hb, hH.below hb, ?_⟩
      have e1 := mkl_eW (toW (outS a l).1.words) .sh
      rw [ofW_toW _ (outS_words a l)] at e1
      have r1 : Rep (ImmB B G) w' G (LV 1 Bo (outS a l).1.bits .sh) v1 := own_rep (e' := eT) (fun _ => rfl) (fun _ => ⟨rfl, rfl⟩) hB hH o1
      have r2 : Rep (ImmB B G) w' G (LV 1 (I .u16) (outS a l).1.words .sh) v2 := by rw [← e1]; exact own_rep (fun _ => rfl) (fun _ => ⟨rfl, rfl⟩) hB hH o2
      have r3 : Rep (ImmB B G) w' G (LV 1 Sg (outS a l).1.texts .sh) v3 := own_rep (enc := encS) (e' := Sg) (fun _ => rfl) (fun _ => ⟨rfl, rfl⟩) hB hH o3
      unfold anE anW
      simp only [Rep, RepL]
      exact ⟨_, rfl, _, _, rfl, ⟨_, rfl, _, _, rfl, rfl, _, _, rfl, r1, _, _, rfl, r2, _, _, rfl, r3, rfl⟩, _, _, rfl, rfl, rfl⟩
    · cases h
  · cases h
def ENV2 : Env where
  md := ENV.md
  ks := ENV.ks
  prim f := bif f == 68 then some primRead else ENV.prim f
theorem ele2 : ELe ENV ENV2 := by
  refine ⟨rfl, rfl, fun f g hf args H r h => ?_, fun f hf => ?_⟩
  · by_cases c : f = 68
    · subst c
      have e : ENV.prim 68 = some primNo := by kernel_rfl
      rw [e] at hf
      obtain rfl := Option.some.inj hf
      cases h
    · have c' : (f == 68) = false := by simpa using c
      exact ⟨g, by unfold ENV2; simp only [c', cond_false]; exact hf, h⟩
  · by_cases c : f = 68
    · subst c
      have e : ENV.prim 68 = some primNo := by kernel_rfl
      rw [e] at hf
      cases hf
    · have c' : (f == 68) = false := by simpa using c
      unfold ENV2
      simp only [c', cond_false]
      exact hf
theorem primSound2 : PrimSound Tryz.prog ENV2 := by
  intro f g args H d H' hf h
  unfold ENV2 at hf
  by_cases c : f = 68
  · subst c
    simp only [BEq.rfl, cond_true, Option.some.injEq] at hf
    subst hf
    obtain ⟨rfl, h⟩ := primR_ok h
    exact ⟨⟨_, Tryz.func68, rfl⟩, h, fun _ h => h⟩
  · have c' : (f == 68) = false := by simpa using c
    simp only [c', cond_false] at hf
    exact primSound f g args H d H' hf h
noncomputable def cP2 (n : Nat) (f : FuncId) (ti : Bool) (args : List DV) : Option DV := callP (callG Tryz.prog ENV2 n) f ti args
theorem cP_up {n : Nat} {f : FuncId} {ti : Bool} {args : List DV} {r : DV} (h : cP n f ti args = some r) : cP2 n f ti args = some r := callP_mono (callG_mono Tryz.prog ele2 n) f ti args r h
theorem cP2_of {n f : Nat} {ti : Bool} {args args' : List DV} {H' : Heap} {r r' : DV} (h1 : mapO argEl args = some args') (h2 : callG Tryz.prog ENV2 n f args' [] 0 = some (r, H')) (h3 : outD ti H' r = some r') : cP2 n f ti args = some r' := by
  unfold cP2 callP
  rw [h1, bi_some, h2, bi_some]
  exact h3
noncomputable def cO2 (n : Nat) (f : FuncId) (args : List DV) (H : Heap) : Option DV := callO (callG Tryz.prog ENV2 n) f args H
noncomputable def cW2 (n : Nat) (f : FuncId) (args : List DV) (H : Heap) (fl : Nat) : R := callW (callG Tryz.prog ENV2 n) f args H fl
noncomputable def cK2 (n : Nat) (f : FuncId) (args : List DV) (H : Heap) (fl : Nat) : R := callG Tryz.prog ENV2 n f args H fl
noncomputable def cV2 (n fl : Nat) (f : DV) (args : List DV) (H : Heap) : R := callVG (callG Tryz.prog ENV2 n) ENV2.md fl f args H
theorem cW2_of {n f : Nat} {args : List DV} {H H' H2 : Heap} {fl : Nat} {r r' : DV} (h1 : callG Tryz.prog ENV2 n f args H fl = some (r, H')) (h2 : oldD H.length H' r = some r') (h3 : cutH H.length H' = some H2) : cW2 n f args H fl = some (r', H2) := by
  unfold cW2 callW
  rw [h1, bi_some, h2, bi_some, h3, bi_some]
theorem cO2_of {n f : Nat} {args : List DV} {H H' : Heap} {r r' : DV} (h1 : callG Tryz.prog ENV2 n f args H H.length = some (r, H')) (h2 : oldD H.length H' r = some r') : cO2 n f args H = some r' := by
  unfold cO2 callO
  rw [h1, bi_some]
  exact h2
theorem law_call2 {n f : Nat} {args : List DV} {H' : Heap} (h : callG Tryz.prog ENV2 n f args [] 0 = some (.flat (.bool true), H')) {w : World} {vs : Array Value} (hr : RepL Any w [] args vs.toList) :
    Calls Tryz.prog f vs w fun e w' => e = .returned (.bool true) ∧ Below w.heap.size w w' :=
  (pure_call mixed noOwn primSound2 (callG_ok _ _ _ _ _ _ _ _ h) hr).mono fun e w' ⟨V, he, hb, I, G, hV⟩ => by
    simp only [Rep] at hV
    subst hV
    exact ⟨he, hb⟩
theorem Read_c (n : Nat) (hn : 1 ≤ n) (a : Rq) (oa : RqOk a) (b : List Int) (hb : Bytes b) (t1 t2 t : Tag) : cP2 n 68 false [rqE a t1 t2, LV 1 (I .u8) b t] = some (.tup [anE (ansReadV a b).1 .sh .sh .sh, I .i64 (ansReadV a b).2]) := by
  obtain ⟨n, rfl⟩ : ∃ m, n = m + 1 := ⟨n - 1, by omega⟩
  have hp : ENV2.prim 68 = some primRead := by kernel_rfl
  have e : outS a (toB b) = ansReadV a b := by
    unfold outS
    by_cases hr : RightP a
    · rw [if_pos hr]
      have := read_is a hr (toB b) _ _ rfl
      rw [ofB_toB b hb] at this
      exact this.symm
    · rw [if_neg hr]
      unfold ansReadV
      rw [if_neg hr]
  have hr : primRead [rqE a .sh .sh, LV 1 (I .u8) b .sh] [] = some (.tup [anE (outS a (toB b)).1 .sh .sh .sh, .flat (.int .i64 (outS a (toB b)).2)], []) := by
    obtain ⟨s, e1, _⟩ := LV_list 1 (I .u8) b .sh
    obtain ⟨s1, e2, _⟩ := LV_list 1 (I .u16) a.words .sh
    obtain ⟨s2, e3, _⟩ := LV_list 1 Bo a.bits .sh
    have hd : dRq (rqE a .sh .sh) = some a := by
      unfold rqE
      rw [e2, e3]
      unfold dRq
      simp only
      rw [mapO_dW _ oa.w, mapO_dT, Option.bind_some, Option.map_some, ofW_toW _ oa.w]
    rw [e1]
    unfold primRead
    simp only
    rw [hd, Option.bind_some, mapO_dB b hb, Option.bind_some, if_pos ⟨oa.a, oa.o, oa.lw, oa.lb⟩]
  rw [e] at hr
  refine cP2_of (args' := [rqE a .sh .sh, LV 1 (I .u8) b .sh]) (H' := []) (r := .tup [anE (ansReadV a b).1 .sh .sh .sh, I .i64 (ansReadV a b).2]) (by simp [argEl_eq, rqE]) ?_ (by simp [anE])
  rw [callG_eq]
  unfold bodyG
  rw [hp]
  exact hr
end Go.Proofs.YtcpgmbpndpcmdaaGreat
namespace Go.Proofs.YtcpgmbpndpcmdaaGreat
open Go
set_option maxRecDepth 100000
set_option linter.unusedVariables false
noncomputable def s_master_within (n : Nat) (H : Heap) (fl : Nat) (a0 a1 : DV) : R :=
  bi (geK .i64 a0 (I .i64 1)) fun d0 =>
  bi (wantF d0 true (some a0)) fun d1 =>
  bi (wantF d0 true (some a1)) fun d2 =>
  bi (wantF d0 true (leK .i64 d1 d2)) fun d3 =>
  bi (pickD d0 d3 (Bo false)) fun d4 =>
  some (d4, H)
theorem s_master_within_eq (n : Nat) (H : Heap) (fl : Nat) (a0 a1 : DV) : callG Tryz.prog ENV2 (n + 1) 21 [a0, a1] H fl = s_master_within n H fl a0 a1 := by kernel_rfl
noncomputable def s_master_Right (n : Nat) (H : Heap) (fl : Nat) (a0 : DV) : R :=
  bi (allocG 23 a0 (List.length H) (H ++ [.hole])) fun h0 =>
  bi (loadG false 1 (.ptr (List.length H) 0) h0) fun d1 =>
  bi (geK .u8 d1 (I .u8 1)) fun d2 =>
  bi (wantF d2 true (some (.ptr (List.length H) 0))) fun d3 =>
  bi (wantF d2 true (loadG false 1 d3 h0)) fun d4 =>
  bi (wantF d2 true (leK .u8 d4 (I .u8 247))) fun d5 =>
  bi (pickD d2 d5 (Bo false)) fun d6 =>
  bi (wantF d6 true (some (.ptr (List.length H) 1))) fun d7 =>
  bi (wantF d6 true (loadG false 1 d7 h0)) fun d8 =>
  bi (wantF d6 true (cP2 n 21 false [d8, (I .i64 20)])) fun d9 =>
  bi (pickD d6 d9 (Bo false)) fun d10 =>
  bi (wantF d10 true (some (.ptr (List.length H) 2))) fun d11 =>
  bi (wantF d10 true (loadG false 1 d11 h0)) fun d12 =>
  bi (wantF d10 true (cP2 n 21 false [d12, (I .i64 1000)])) fun d13 =>
  bi (pickD d10 d13 (Bo false)) fun d14 =>
  bi (wantF d14 true (some (.ptr (List.length H) 3))) fun d15 =>
  bi (wantF d14 true (loadG false 1 d15 h0)) fun d16 =>
  bi (wantF d14 true (cP2 n 21 false [d16, (I .i64 5)])) fun d17 =>
  bi (pickD d14 d17 (Bo false)) fun d18 =>
  some (d18, h0)
theorem s_master_Right_eq (n : Nat) (H : Heap) (fl : Nat) (a0 : DV) : callG Tryz.prog ENV2 (n + 1) 8 [a0] H fl = s_master_Right n H fl a0 := by kernel_rfl
noncomputable def s_master_New (n : Nat) (H : Heap) (fl : Nat) (a0 : DV) : R :=
  bi (allocG 23 a0 (List.length H) (H ++ [.hole])) fun h0 =>
  bi (loadG true 4 (.ptr (List.length H) 0) h0) fun d1 =>
  bi (cP2 n 8 false [d1]) fun d2 =>
  bi (notD d2) fun d3 =>
  condR d3 (
  some ((.tup [(.flat (.pointer none)), (I .i64 1)]), h0)) (
  bi (loadG true 4 (.ptr (List.length H) 0) (h0 ++ [.hole])) fun d4 =>
  bi (loadG false 1 (.ptr (List.length H) 1) (h0 ++ [.hole])) fun d5 =>
  bi (buildS (.agg [(I .u8 0), (I .i64 0), (I .i64 0), (I .i64 0), (I .i64 0), (I .i64 0), (I .i64 0), (I .i64 0), (I .i64 0), (I .i64 0), (I .i64 0), (I .i64 0), (.list 0 [] .ti), (.list 0 [] .ti), (I .u16 0), (I .u16 0), (.list 0 [] .ti)]) [(0, 4), (4, 1), (5, 1), (6, 1), (7, 1), (8, 8), (16, 1)] [(0, d4), (2, d5)]) fun d6 =>
  bi (allocG 69 d6 (List.length h0) (h0 ++ [.hole])) fun h7 =>
  some ((.tup [(.ptr (List.length h0) 0), (I .i64 0)]), h7))
theorem s_master_New_eq (n : Nat) (H : Heap) (fl : Nat) (a0 : DV) : callG Tryz.prog ENV2 (n + 1) 6 [a0] H fl = s_master_New n H fl a0 := by kernel_rfl
noncomputable def s___master_Master__Start (n : Nat) (H : Heap) (fl : Nat) (a0 a1 : DV) : R :=
  bi (allocG 40 a1 (List.length H) (H ++ [.hole])) fun h0 =>
  bi (cO2 n 18 [a0] h0) fun d1 =>
  condR d1 (
  some ((I .i64 8), h0)) (
   bi (loadG true 8 (.ptr (List.length H) 0) h0) fun d2 =>
   bi (cP2 n 32 false [d2]) fun d3 =>
   bi (notD d3) fun d4 =>
   condR d4 (
  some ((I .i64 2), h0)) (
  bi (loadG false 1 (.ptr (List.length H) 4) h0) fun d5 =>
  bi (cP2 n 33 false [d5]) fun d6 =>
  bi (loadG false 1 (.ptr (List.length H) 5) h0) fun d7 =>
  bi (cP2 n 34 false [d7]) fun d8 =>
  bi (storeG 1 (.ptr (List.length H) 4) d6 h0 fl) fun h9 =>
  bi (storeG 1 (.ptr (List.length H) 5) d8 h9 fl) fun h10 =>
  bi (loadG true 8 (.ptr (List.length H) 0) h10) fun d11 =>
  bi (nilD a0) fun d12 =>
  bi (fieldD 8 8 d12) fun d13 =>
  bi (storeG 8 d13 d11 h10 fl) fun h14 =>
  bi (nilD a0) fun d15 =>
  bi (fieldD 7 1 d15) fun d16 =>
  bi (storeG 1 d16 (I .i64 0) h14 fl) fun h17 =>
  bi (cW2 n 35 [a0, (I .i64 1)] h17 fl) fun p18 =>
  some ((I .i64 0), p18.2)))
theorem s___master_Master__Start_eq (n : Nat) (H : Heap) (fl : Nat) (a0 a1 : DV) : callG Tryz.prog ENV2 (n + 1) 14 [a0, a1] H fl = s___master_Master__Start n H fl a0 a1 := by kernel_rfl
noncomputable def s___master_Master__Busy (n : Nat) (H : Heap) (fl : Nat) (a0 : DV) : R :=
  bi (nilD a0) fun d0 =>
  bi (fieldD 4 1 d0) fun d1 =>
  bi (loadG false 1 d1 H) fun d2 =>
  bi (neK .i64 d2 (I .i64 0)) fun d3 =>
  some (d3, H)
theorem s___master_Master__Busy_eq (n : Nat) (H : Heap) (fl : Nat) (a0 : DV) : callG Tryz.prog ENV2 (n + 1) 18 [a0] H fl = s___master_Master__Busy n H fl a0 := by kernel_rfl
noncomputable def s___master_Master__turn (n : Nat) (H : Heap) (fl : Nat) (a0 a1 : DV) : R :=
  bi (nilD a0) fun d0 =>
  bi (fieldD 4 1 d0) fun d1 =>
  bi (storeG 1 d1 a1 H fl) fun h2 =>
  bi (nilD a0) fun d3 =>
  bi (fieldD 6 1 d3) fun d4 =>
  bi (storeG 1 d4 (I .i64 0) h2 fl) fun h5 =>
  bi (nilD a0) fun d6 =>
  bi (fieldD 16 1 d6) fun d7 =>
  bi (storeG 1 d7 (.list 0 [] .ti) h5 fl) fun h8 =>
  some ((.tup []), h8)
theorem s___master_Master__turn_eq (n : Nat) (H : Heap) (fl : Nat) (a0 a1 : DV) : callG Tryz.prog ENV2 (n + 1) 35 [a0, a1] H fl = s___master_Master__turn n H fl a0 a1 := by kernel_rfl
noncomputable def s___master_Master__Take (n : Nat) (H : Heap) (fl : Nat) (a0 a1 : DV) : R :=
  bi (lenD a1) fun d0 =>
  bi (eqK .i64 d0 (I .i64 0)) fun d1 =>
  condR d1 (
  some ((.tup []), H)) (
  bi (nilD a0) fun d2 =>
  bi (fieldD 5 1 d2) fun d3 =>
  bi (storeG 1 d3 (I .i64 0) H fl) fun h4 =>
  bi (nilD a0) fun d5 =>
  bi (fieldD 4 1 d5) fun d6 =>
  bi (loadG false 1 d6 h4) fun d7 =>
  bi (eqK .i64 d7 (I .i64 2)) fun d8 =>
  condR d8 (
   bi (nilD a0) fun d9 =>
   bi (fieldD 16 1 d9) fun d10 =>
   bi (loadG false 1 d10 h4) fun d11 =>
   bi (lenD a1) fun d12 =>
   bi (nilD a0) fun d13 =>
   bi (fieldD 16 1 d13) fun d14 =>
   bi (loadG false 1 d14 h4) fun d15 =>
   bi (lenD d15) fun d16 =>
   bi (subK .i64 (I .i64 300) d16) fun d17 =>
   bi (minI d12 d17) fun d18 =>
   bi (slX 1 a1 none (some d18) none) fun d19 =>
   bi (appG 5 false 1 1 d11 d19 h4 fl) fun p20 =>
   bi (nilD a0) fun d21 =>
   bi (fieldD 16 1 d21) fun d22 =>
   bi (storeG 1 d22 p20.1 p20.2 fl) fun h23 =>
  some ((.tup []), h23)) (
  some ((.tup []), h4)))
theorem s___master_Master__Take_eq (n : Nat) (H : Heap) (fl : Nat) (a0 a1 : DV) : callG Tryz.prog ENV2 (n + 1) 16 [a0, a1] H fl = s___master_Master__Take n H fl a0 a1 := by kernel_rfl
noncomputable def s___master_Master__failed (n : Nat) (H : Heap) (fl : Nat) (a0 a1 : DV) : R :=
  bi (allocG 48 (.agg [(I .i64 0), (I .i64 0), (.list 0 [] .ti), (.list 0 [] .ti), (.list 0 [] .ti)]) (List.length H) (H ++ [.hole])) fun h0 =>
  bi (nilD a0) fun d1 =>
  bi (fieldD 7 1 d1) fun d2 =>
  bi (loadG false 1 d2 h0) fun d3 =>
  bi (nilD a0) fun d4 =>
  bi (fieldD 0 4 d4) fun d5 =>
  bi (fieldD 3 1 d5) fun d6 =>
  bi (loadG false 1 d6 h0) fun d7 =>
  bi (ltK .i64 d3 d7) fun d8 =>
  condR d8 (
   bi (cW2 n 35 [a0, (I .i64 1)] h0 fl) fun p9 =>
   bi (buildS (.agg [(I .i64 0), (I .i64 0), (.list 0 [] .ti), (.list 0 [] .ti), (.list 0 [] .ti)]) [(0, 1), (1, 4)] []) fun d10 =>
   bi (storeG 5 (.ptr (List.length H) 0) d10 p9.2 fl) fun h11 =>
  bi (cellR true 5 (.ptr (List.length H) 0) h11) fun r0 =>
  some (r0, h11)) (
  bi (cW2 n 35 [a0, (I .i64 0)] h0 fl) fun p12 =>
  bi (buildS (.agg [(I .i64 0), (I .i64 0), (.list 0 [] .ti), (.list 0 [] .ti), (.list 0 [] .ti)]) [(0, 1), (1, 4)] [(0, a1)]) fun d13 =>
  bi (storeG 5 (.ptr (List.length H) 0) d13 p12.2 fl) fun h14 =>
  bi (cellR true 5 (.ptr (List.length H) 0) h14) fun r0 =>
  some (r0, h14))
theorem s___master_Master__failed_eq (n : Nat) (H : Heap) (fl : Nat) (a0 a1 : DV) : callG Tryz.prog ENV2 (n + 1) 49 [a0, a1] H fl = s___master_Master__failed n H fl a0 a1 := by kernel_rfl
noncomputable def s___master_Master__rest (n : Nat) (H : Heap) (fl : Nat) (a0 : DV) : R :=
  bi (allocG 48 (.agg [(I .i64 0), (I .i64 0), (.list 0 [] .ti), (.list 0 [] .ti), (.list 0 [] .ti)]) (List.length H) (H ++ [.hole])) fun h0 =>
  bi (buildS (.agg [(I .i64 0), (I .i64 0), (.list 0 [] .ti), (.list 0 [] .ti), (.list 0 [] .ti)]) [(0, 1), (1, 4)] []) fun d1 =>
  bi (storeG 5 (.ptr (List.length H) 0) d1 h0 fl) fun h2 =>
  bi (cellR true 5 (.ptr (List.length H) 0) h2) fun r1 =>
  some ((.tup [(.list 0 [] .ti), r1]), h2)
theorem s___master_Master__rest_eq (n : Nat) (H : Heap) (fl : Nat) (a0 : DV) : callG Tryz.prog ENV2 (n + 1) 22 [a0] H fl = s___master_Master__rest n H fl a0 := by kernel_rfl
noncomputable def s___master_Master__send (n : Nat) (H : Heap) (fl : Nat) (a0 : DV) : R :=
  bi (allocG 48 (.agg [(I .i64 0), (I .i64 0), (.list 0 [] .ti), (.list 0 [] .ti), (.list 0 [] .ti)]) (List.length H) (H ++ [.hole])) fun h0 =>
  bi (nilD a0) fun d1 =>
  bi (fieldD 5 1 d1) fun d2 =>
  bi (loadG false 1 d2 h0) fun d3 =>
  bi (nilD a0) fun d4 =>
  bi (fieldD 0 4 d4) fun d5 =>
  bi (fieldD 1 1 d5) fun d6 =>
  bi (loadG false 1 d6 h0) fun d7 =>
  bi (ltK .i64 d3 d7) fun d8 =>
  bi (wantF d8 true (some a0)) fun d9 =>
  bi (wantF d8 true (nilD d9)) fun d10 =>
  bi (wantF d8 true (fieldD 6 1 d10)) fun d11 =>
  bi (wantF d8 true (loadG false 1 d11 h0)) fun d12 =>
  bi (wantF d8 true (some a0)) fun d13 =>
  bi (wantF d8 true (nilD d13)) fun d14 =>
  bi (wantF d8 true (fieldD 0 4 d14)) fun d15 =>
  bi (wantF d8 true (fieldD 2 1 d15)) fun d16 =>
  bi (wantF d8 true (loadG false 1 d16 h0)) fun d17 =>
  bi (wantF d8 true (ltK .i64 d12 d17)) fun d18 =>
  bi (pickD d8 d18 (Bo false)) fun d19 =>
  condR d19 (
   bi (cO2 n 22 [a0] h0) fun d20 =>
   bi (extD 0 d20) fun d21 =>
   bi (extD 1 d20) fun d22 =>
   bi (storeG 5 (.ptr (List.length H) 0) d22 h0 fl) fun h23 =>
  bi (cellR true 5 (.ptr (List.length H) 0) h23) fun r1 =>
  some ((.tup [d21, r1]), h23)) (
  bi (nilD a0) fun d24 =>
  bi (fieldD 8 8 d24) fun d25 =>
  bi (loadG true 8 d25 h0) fun d26 =>
  bi (cP2 n 37 false [d26]) fun d27 =>
  bi (extD 0 d27) fun d28 =>
  bi (extD 1 d27) fun d29 =>
  bi (nilD a0) fun d30 =>
  bi (fieldD 0 4 d30) fun d31 =>
  bi (fieldD 0 1 d31) fun d32 =>
  bi (loadG false 1 d32 h0) fun d33 =>
  bi (buildS (.agg [(I .u8 0), (.list 0 [] .ti)]) [(0, 1), (1, 1)] [(0, d33), (1, d28)]) fun d34 =>
  bi (cP2 n 20 false [d34]) fun d35 =>
  bi (extD 0 d35) fun d36 =>
  bi (extD 1 d35) fun d37 =>
  bi (cW2 n 35 [a0, (I .i64 2)] h0 fl) fun p38 =>
  bi (nilD a0) fun d39 =>
  bi (fieldD 5 1 d39) fun d40 =>
  bi (storeG 1 d40 (I .i64 0) p38.2 fl) fun h41 =>
  bi (nilD a0) fun d42 =>
  bi (fieldD 7 1 d42) fun d43 =>
  bi (loadG false 1 d43 h41) fun d44 =>
  bi (addK .i64 d44 (I .i64 1)) fun d45 =>
  bi (nilD a0) fun d46 =>
  bi (fieldD 7 1 d46) fun d47 =>
  bi (storeG 1 d47 d45 h41 fl) fun h48 =>
  bi (buildS (.agg [(I .i64 0), (I .i64 0), (.list 0 [] .ti), (.list 0 [] .ti), (.list 0 [] .ti)]) [(0, 1), (1, 4)] []) fun d49 =>
  bi (storeG 5 (.ptr (List.length H) 0) d49 h48 fl) fun h50 =>
  bi (cellR true 5 (.ptr (List.length H) 0) h50) fun r1 =>
  some ((.tup [d36, r1]), h50))
theorem s___master_Master__send_eq (n : Nat) (H : Heap) (fl : Nat) (a0 : DV) : callG Tryz.prog ENV2 (n + 1) 23 [a0] H fl = s___master_Master__send n H fl a0 := by kernel_rfl
noncomputable def s___master_Master__told (n : Nat) (H : Heap) (fl : Nat) (a0 : DV) : R :=
  bi (allocG 46 (.agg [(I .i64 0), (.list 0 [] .ti), (.list 0 [] .ti), (.list 0 [] .ti)]) (List.length H) (H ++ [.hole])) fun h0 =>
  bi (nilD a0) fun d1 =>
  bi (fieldD 16 1 d1) fun d2 =>
  bi (loadG false 1 d2 (h0 ++ [.hole])) fun d3 =>
  bi (cP2 n 67 false [d3]) fun d4 =>
  bi (extD 0 d4) fun d5 =>
  bi (extD 1 d4) fun d6 =>
  bi (allocG 67 (.agg [(I .u8 0), (.list 0 [] .ti)]) (List.length h0) (h0 ++ [.hole])) fun h7 =>
  bi (storeG 2 (.ptr (List.length h0) 0) d5 h7 fl) fun h8 =>
  bi (neK .i64 d6 (I .i64 0)) fun d9 =>
  bi (wantF d9 false (some (.ptr (List.length h0) 0))) fun d10 =>
  bi (wantF d9 false (loadG false 1 d10 h8)) fun d11 =>
  bi (wantF d9 false (some a0)) fun d12 =>
  bi (wantF d9 false (nilD d12)) fun d13 =>
  bi (wantF d9 false (fieldD 0 4 d13)) fun d14 =>
  bi (wantF d9 false (fieldD 0 1 d14)) fun d15 =>
  bi (wantF d9 false (loadG false 1 d15 h8)) fun d16 =>
  bi (wantF d9 false (neK .u8 d11 d16)) fun d17 =>
  bi (pickD d9 (Bo true) d17) fun d18 =>
  condR d18 (
   bi (buildS (.agg [(I .i64 0), (.list 0 [] .ti), (.list 0 [] .ti), (.list 0 [] .ti)]) [(0, 1), (1, 1), (2, 1), (3, 1)] []) fun d19 =>
   bi (storeG 4 (.ptr (List.length H) 0) d19 h8 fl) fun h20 =>
  bi (cellR true 4 (.ptr (List.length H) 0) h20) fun r0 =>
  some ((.tup [r0, (Bo false)]), h20)) (
  bi (nilD a0) fun d21 =>
  bi (fieldD 8 8 d21) fun d22 =>
  bi (loadG true 8 d22 (h8 ++ [.hole])) fun d23 =>
  bi (loadG false 1 (.ptr (List.length h0) 1) (h8 ++ [.hole])) fun d24 =>
  bi (cP2 n 68 false [d23, d24]) fun d25 =>
  bi (extD 0 d25) fun d26 =>
  bi (extD 1 d25) fun d27 =>
  bi (allocG 46 (.agg [(I .i64 0), (.list 0 [] .ti), (.list 0 [] .ti), (.list 0 [] .ti)]) (List.length h8) (h8 ++ [.hole])) fun h28 =>
  bi (storeG 4 (.ptr (List.length h8) 0) d26 h28 fl) fun h29 =>
  bi (loadG true 4 (.ptr (List.length h8) 0) h29) fun d30 =>
  bi (eqK .i64 d27 (I .i64 0)) fun d31 =>
  bi (storeG 4 (.ptr (List.length H) 0) d30 h29 fl) fun h32 =>
  bi (cellR true 4 (.ptr (List.length H) 0) h32) fun r0 =>
  some ((.tup [r0, d31]), h32))
theorem s___master_Master__told_eq (n : Nat) (H : Heap) (fl : Nat) (a0 : DV) : callG Tryz.prog ENV2 (n + 1) 48 [a0] H fl = s___master_Master__told n H fl a0 := by kernel_rfl
noncomputable def s___master_Master__wait (n : Nat) (H : Heap) (fl : Nat) (a0 : DV) : R :=
  bi (allocG 48 (.agg [(I .i64 0), (I .i64 0), (.list 0 [] .ti), (.list 0 [] .ti), (.list 0 [] .ti)]) (List.length H) (H ++ [.hole])) fun h0 =>
  bi (nilD a0) fun d1 =>
  bi (fieldD 16 1 d1) fun d2 =>
  bi (loadG false 1 d2 h0) fun d3 =>
  bi (lenD d3) fun d4 =>
  bi (gtK .i64 d4 (I .i64 0)) fun d5 =>
  bi (wantF d5 true (some a0)) fun d6 =>
  bi (wantF d5 true (nilD d6)) fun d7 =>
  bi (wantF d5 true (fieldD 5 1 d7)) fun d8 =>
  bi (wantF d5 true (loadG false 1 d8 h0)) fun d9 =>
  bi (wantF d5 true (some a0)) fun d10 =>
  bi (wantF d5 true (nilD d10)) fun d11 =>
  bi (wantF d5 true (fieldD 0 4 d11)) fun d12 =>
  bi (wantF d5 true (fieldD 1 1 d12)) fun d13 =>
  bi (wantF d5 true (loadG false 1 d13 h0)) fun d14 =>
  bi (wantF d5 true (geK .i64 d9 d14)) fun d15 =>
  bi (pickD d5 d15 (Bo false)) fun d16 =>
  condR d16 (
   bi (cO2 n 48 [a0] (h0 ++ [.hole])) fun d17 =>
   bi (extD 0 d17) fun d18 =>
   bi (extD 1 d17) fun d19 =>
   bi (allocG 46 (.agg [(I .i64 0), (.list 0 [] .ti), (.list 0 [] .ti), (.list 0 [] .ti)]) (List.length h0) (h0 ++ [.hole])) fun h20 =>
   bi (storeG 4 (.ptr (List.length h0) 0) d18 h20 fl) fun h21 =>
   bi (notD d19) fun d22 =>
   condR d22 (
    bi (cW2 n 49 [a0, (I .i64 3)] h21 fl) fun p23 =>
    bi (storeG 5 (.ptr (List.length H) 0) p23.1 p23.2 fl) fun h24 =>
  bi (cellR true 5 (.ptr (List.length H) 0) h24) fun r1 =>
  some ((.tup [(.list 0 [] .ti), r1]), h24)) (
   bi (cW2 n 35 [a0, (I .i64 0)] h21 fl) fun p25 =>
   bi (loadG true 4 (.ptr (List.length h0) 0) p25.2) fun d26 =>
   bi (buildS (.agg [(I .i64 0), (I .i64 0), (.list 0 [] .ti), (.list 0 [] .ti), (.list 0 [] .ti)]) [(0, 1), (1, 4)] [(0, (I .i64 1)), (1, d26)]) fun d27 =>
   bi (storeG 5 (.ptr (List.length H) 0) d27 p25.2 fl) fun h28 =>
  bi (cellR true 5 (.ptr (List.length H) 0) h28) fun r1 =>
  some ((.tup [(.list 0 [] .ti), r1]), h28))) (
   bi (wantF d5 true (some a0)) fun d29 =>
   bi (wantF d5 true (nilD d29)) fun d30 =>
   bi (wantF d5 true (fieldD 6 1 d30)) fun d31 =>
   bi (wantF d5 true (loadG false 1 d31 h0)) fun d32 =>
   bi (wantF d5 true (some a0)) fun d33 =>
   bi (wantF d5 true (nilD d33)) fun d34 =>
   bi (wantF d5 true (fieldD 0 4 d34)) fun d35 =>
   bi (wantF d5 true (fieldD 2 1 d35)) fun d36 =>
   bi (wantF d5 true (loadG false 1 d36 h0)) fun d37 =>
   bi (wantF d5 true (mulK .i64 (I .i64 2) d37)) fun d38 =>
   bi (wantF d5 true (geK .i64 d32 d38)) fun d39 =>
   bi (pickD d5 d39 (Bo false)) fun d40 =>
   condR d40 (
    bi (cW2 n 49 [a0, (I .i64 3)] h0 fl) fun p41 =>
    bi (storeG 5 (.ptr (List.length H) 0) p41.1 p41.2 fl) fun h42 =>
  bi (cellR true 5 (.ptr (List.length H) 0) h42) fun r1 =>
  some ((.tup [(.list 0 [] .ti), r1]), h42)) (
    bi (notD d5) fun d43 =>
    bi (wantF d43 true (some a0)) fun d44 =>
    bi (wantF d43 true (nilD d44)) fun d45 =>
    bi (wantF d43 true (fieldD 6 1 d45)) fun d46 =>
    bi (wantF d43 true (loadG false 1 d46 h0)) fun d47 =>
    bi (wantF d43 true (some a0)) fun d48 =>
    bi (wantF d43 true (nilD d48)) fun d49 =>
    bi (wantF d43 true (fieldD 0 4 d49)) fun d50 =>
    bi (wantF d43 true (fieldD 2 1 d50)) fun d51 =>
    bi (wantF d43 true (loadG false 1 d51 h0)) fun d52 =>
    bi (wantF d43 true (geK .i64 d47 d52)) fun d53 =>
    bi (pickD d43 d53 (Bo false)) fun d54 =>
    condR d54 (
     bi (cW2 n 49 [a0, (I .i64 2)] h0 fl) fun p55 =>
     bi (storeG 5 (.ptr (List.length H) 0) p55.1 p55.2 fl) fun h56 =>
  bi (cellR true 5 (.ptr (List.length H) 0) h56) fun r1 =>
  some ((.tup [(.list 0 [] .ti), r1]), h56)) (
  bi (cO2 n 22 [a0] h0) fun d57 =>
  bi (extD 0 d57) fun d58 =>
  bi (extD 1 d57) fun d59 =>
  bi (storeG 5 (.ptr (List.length H) 0) d59 h0 fl) fun h60 =>
  bi (cellR true 5 (.ptr (List.length H) 0) h60) fun r1 =>
  some ((.tup [d58, r1]), h60))))
theorem s___master_Master__wait_eq (n : Nat) (H : Heap) (fl : Nat) (a0 : DV) : callG Tryz.prog ENV2 (n + 1) 24 [a0] H fl = s___master_Master__wait n H fl a0 := by kernel_rfl
noncomputable def s___master_Master__Tick (n : Nat) (H : Heap) (fl : Nat) (a0 : DV) : R :=
  bi (allocG 48 (.agg [(I .i64 0), (I .i64 0), (.list 0 [] .ti), (.list 0 [] .ti), (.list 0 [] .ti)]) (List.length H) (H ++ [.hole])) fun h0 =>
  bi (nilD a0) fun d1 =>
  bi (fieldD 5 1 d1) fun d2 =>
  bi (loadG false 1 d2 h0) fun d3 =>
  bi (addK .i64 d3 (I .i64 1)) fun d4 =>
  bi (minI d4 (I .i64 1048576)) fun d5 =>
  bi (nilD a0) fun d6 =>
  bi (fieldD 5 1 d6) fun d7 =>
  bi (storeG 1 d7 d5 h0 fl) fun h8 =>
  bi (nilD a0) fun d9 =>
  bi (fieldD 6 1 d9) fun d10 =>
  bi (loadG false 1 d10 h8) fun d11 =>
  bi (addK .i64 d11 (I .i64 1)) fun d12 =>
  bi (nilD a0) fun d13 =>
  bi (fieldD 6 1 d13) fun d14 =>
  bi (storeG 1 d14 d12 h8 fl) fun h15 =>
  bi (buildA (.agg [(.flat .nilFunc), (.flat .nilFunc), (.flat .nilFunc)]) 1 [(0, (.clo (.func 22) [a0] [])), (1, (.clo (.func 23) [a0] [])), (2, (.clo (.func 24) [a0] []))]) fun d16 =>
  bi (nilD a0) fun d17 =>
  bi (fieldD 4 1 d17) fun d18 =>
  bi (loadG false 1 d18 h15) fun d19 =>
  bi (idxV false 1 3 d16 d19) fun d20 =>
  bi (cV2 n fl d20 [] h15) fun p21 =>
  bi (extD 0 p21.1) fun d22 =>
  bi (extD 1 p21.1) fun d23 =>
  bi (storeG 5 (.ptr (List.length H) 0) d23 p21.2 fl) fun h24 =>
  bi (cellR true 5 (.ptr (List.length H) 0) h24) fun r1 =>
  some ((.tup [d22, r1]), h24)
theorem s___master_Master__Tick_eq (n : Nat) (H : Heap) (fl : Nat) (a0 : DV) : callG Tryz.prog ENV2 (n + 1) 10 [a0] H fl = s___master_Master__Tick n H fl a0 := by kernel_rfl
end Go.Proofs.YtcpgmbpndpcmdaaGreat
