/- Texts of mine, laid together: GAskA, GAskB, GAskR, GAskT, GAskU, GAns, GAnsB, FRef06, FSame01, GSame01, GRef06, GRef6T, GRef6G, GRef6P, GRef6Q. -/
import Derived.Test.YtcpgmbpndpcmdaaGreatKD5
namespace Go.Proofs.YtcpgmbpndpcmdaaGreat
open Go
set_option linter.unusedSimpArgs false
set_option linter.unusedVariables false
set_option maxRecDepth 100000
def plT (t : Tag) : Tag := match t with | .ti => .ti | .sh => .sh | .own _ => .sh
theorem buildL_bt3 (a b c : List Int) (t1 t2 t3 : Tag) : buildL false 1 3 (.list 0 [] .ti) [(0, LV 1 (I .u8) a t1), (1, LV 1 (I .u8) b t2), (2, LV 1 (I .u8) c t3)] = some (LV 1 btE [(a, plT t1), (b, plT t2), (c, plT t3)] .ti) := by
  cases t1 <;> cases t2 <;> cases t3 <;> cases a <;> cases b <;> cases c <;> kernel_rfl
theorem buildL_u4 (a b c d : Int) : buildL false 1 4 (I .u8 0) [(0, I .u8 a), (1, I .u8 b), (2, I .u8 c), (3, I .u8 d)] = some (LV 1 (I .u8) [a, b, c, d] .ti) := by kernel_rfl
theorem buildL_w2 (a b : Int) : buildL false 1 2 (I .u16 0) [(0, I .u16 a), (1, I .u16 b)] = some (LV 1 (I .u16) [a, b] .ti) := rfl
theorem buildL_b1 (a : Bool) : buildL false 1 1 (Bo false) [(0, Bo a)] = some (LV 1 Bo [a] .ti) := rfl
theorem two_eq (n : Int) : n % 65536 / 256 = n / 256 % 256 ∧ n % 65536 % 256 = n % 256 := by omega
theorem ask_two_c (n : Nat) (hn : 2 ≤ n) (x : Int) : cP n 81 false [I .i64 x] = some (LV 1 (I .u8) (twoV x) .sh) := by
  obtain ⟨n, rfl⟩ : ∃ m, n = m + 1 := ⟨n - 1, by omega⟩
  have e := word_Put_c n (by omega) (x % 65536) (by omega) (by omega)
  rw [(two_eq x).1, (two_eq x).2] at e
  refine cP_of rfl ((s_ask_two_eq _ _ _ _).trans (by unfold s_ask_two; simp -implicitDefEqProofs (disch := first | omega | (simp only [List.length_set, List.length_append, List.length_cons, List.length_nil, List.length_take, List.length_drop, List.length_map]; omega) | simp) [wrap_i64, wrap_u16_id, wrap_u8_id, tdiv_pos, tmod_pos, -getElem?_pos, -getElem?_neg, -List.length_eq_zero_iff, -List.getElem_cons_drop, wrap_u16, e]; first | exact rfl | exact ⟨rfl, rfl⟩)) ?_
  rfl
theorem ask_counted_c (n : Nat) (hn : 10 ≤ n) (x : Int) (l : List Int) (t : Tag) (hl : l.length ≤ 100000) : cP n 113 false [I .i64 x, LV 1 (I .u8) l t] = some (LV 1 (I .u8) (twoV x ++ ((l.length : Int) % 256) :: l) .sh) := by
  obtain ⟨n, rfl⟩ : ∃ m, n = m + 1 := ⟨n - 1, by omega⟩
  have e1 := ask_two_c n (by omega) x
  have e2 := buildL_bt3 (twoV x) [(l.length : Int) % 256] l .sh .ti .sh
  simp only [plT] at e2
  have hc : catB [(twoV x, Tag.sh), ([(l.length : Int) % 256], Tag.ti), (l, Tag.sh)] = twoV x ++ ((l.length : Int) % 256) :: l := by simp [catB]
  have e3 := concat_c n [(twoV x, .sh), ([(l.length : Int) % 256], .ti), (l, .sh)] .ti (by rw [hc]; simp [twoV]; omega) (by simp) (by simp; omega)
  rw [hc] at e3
  exact cP_of (r := LV 1 (I .u8) (twoV x ++ ((l.length : Int) % 256) :: l) .sh) (args' := [I .i64 x, LV 1 (I .u8) l .sh]) (by simp [argEl_eq]) ((s_ask_counted_eq _ _ _ _ _).trans (by unfold s_ask_counted; simp -implicitDefEqProofs (disch := first | omega | (simp only [List.length_set, List.length_append, List.length_cons, List.length_nil, List.length_take, List.length_drop, List.length_map]; omega) | simp) [wrap_i64, wrap_u16_id, wrap_u8_id, tdiv_pos, tmod_pos, -getElem?_pos, -getElem?_neg, -List.length_eq_zero_iff, -List.getElem_cons_drop, wrap_u8, e1, e2, e3]; first | exact rfl | exact ⟨rfl, rfl⟩)) (by simp)
theorem arg_rq (a : Rq) (t1 t2 : Tag) : argEl (rqE a t1 t2) = some (rqE a .sh .sh) := by simp [argEl_eq, rqE]
theorem wb_len (a : Rq) (h : RqOk a) : (wbI a.words).length ≤ 6000 := by rw [wbI_length]; have := h.lw; omega
theorem pkl_le (a : Rq) (h : RqOk a) : (pkI a.bits).length ≤ 6000 := by rw [pkI_length]; have := h.lb; omega
theorem layCount_c (n : Nat) (hn : 3 ≤ n) (a : Rq) (t1 t2 : Tag) : cP n 91 false [rqE a t1 t2] = some (LV 1 (I .u8) (twoV a.cnt) .sh) := by
  obtain ⟨n, rfl⟩ : ∃ m, n = m + 1 := ⟨n - 1, by omega⟩
  have e1 := ask_two_c n (by omega) a.cnt
  exact cP_of (r := LV 1 (I .u8) (twoV a.cnt) .sh) (by simp [arg_rq]; rfl) ((s_ask_layCount_eq _ _ _ _).trans (by unfold s_ask_layCount rqE; simp -implicitDefEqProofs (disch := first | omega | (simp only [List.length_set, List.length_append, List.length_cons, List.length_nil, List.length_take, List.length_drop, List.length_map]; omega) | simp) [wrap_i64, wrap_u16_id, wrap_u8_id, tdiv_pos, tmod_pos, -getElem?_pos, -getElem?_neg, -List.length_eq_zero_iff, -List.getElem_cons_drop, e1]; first | exact rfl | exact ⟨rfl, rfl⟩)) (by simp)
theorem layBit_c (n : Nat) (hn : 3 ≤ n) (a : Rq) (t1 t2 : Tag) (h0 : a.bits ≠ []) : cP n 93 false [rqE a t1 t2] = some (LV 1 (I .u8) (if a.bits.head? = some true then [255, 0] else [0, 0]) .sh) := by
  obtain ⟨n, rfl⟩ : ∃ m, n = m + 1 := ⟨n - 1, by omega⟩
  obtain ⟨c, ad, k, t, w, b, an, o⟩ := a
  have e1 := ask_two_c n (by omega) 65280
  have e2 := ask_two_c n (by omega) 0
  have f1 : twoV 65280 = [255, 0] := rfl
  have f2 : twoV 0 = [0, 0] := rfl
  rw [f1] at e1
  rw [f2] at e2
  cases b with
  | nil => exact absurd rfl h0
  | cons x b =>
    cases x
    · exact cP_of (r := LV 1 (I .u8) [0, 0] .sh) (by simp [arg_rq]; rfl) ((s_ask_layBit_eq _ _ _ _).trans (by unfold s_ask_layBit rqE; simp -implicitDefEqProofs (disch := first | omega | (simp only [List.length_set, List.length_append, List.length_cons, List.length_nil, List.length_take, List.length_drop, List.length_map]; omega) | simp) [wrap_i64, wrap_u16_id, wrap_u8_id, tdiv_pos, tmod_pos, -getElem?_pos, -getElem?_neg, -List.length_eq_zero_iff, -List.getElem_cons_drop, e2]; first | exact rfl | exact ⟨rfl, rfl⟩)) (by simp)
    · exact cP_of (r := LV 1 (I .u8) [255, 0] .sh) (by simp [arg_rq]; rfl) ((s_ask_layBit_eq _ _ _ _).trans (by unfold s_ask_layBit rqE; simp -implicitDefEqProofs (disch := first | omega | (simp only [List.length_set, List.length_append, List.length_cons, List.length_nil, List.length_take, List.length_drop, List.length_map]; omega) | simp) [wrap_i64, wrap_u16_id, wrap_u8_id, tdiv_pos, tmod_pos, -getElem?_pos, -getElem?_neg, -List.length_eq_zero_iff, -List.getElem_cons_drop, e1]; first | exact rfl | exact ⟨rfl, rfl⟩)) (by simp)
theorem layWord_c (n : Nat) (hn : 3 ≤ n) (a : Rq) (h : RqOk a) (t1 t2 : Tag) : cP n 95 false [rqE a t1 t2] = some (LV 1 (I .u8) (wbI a.words) .sh) := by
  obtain ⟨n, rfl⟩ : ∃ m, n = m + 1 := ⟨n - 1, by omega⟩
  have e1 := word_Bytes_c n a.words .sh (by omega) h.w (by have := h.lw; omega)
  exact cP_of (r := LV 1 (I .u8) (wbI a.words) .sh) (by simp [arg_rq]; rfl) ((s_ask_layWord_eq _ _ _ _).trans (by unfold s_ask_layWord rqE; simp -implicitDefEqProofs (disch := first | omega | (simp only [List.length_set, List.length_append, List.length_cons, List.length_nil, List.length_take, List.length_drop, List.length_map]; omega) | simp) [wrap_i64, wrap_u16_id, wrap_u8_id, tdiv_pos, tmod_pos, -getElem?_pos, -getElem?_neg, -List.length_eq_zero_iff, -List.getElem_cons_drop, e1]; first | exact rfl | exact ⟨rfl, rfl⟩)) (by simp)
theorem layBits_c (n : Nat) (hn : 20 ≤ n) (a : Rq) (h : RqOk a) (t1 t2 : Tag) : cP n 97 false [rqE a t1 t2] = some (LV 1 (I .u8) (btV a) .sh) := by
  obtain ⟨n, rfl⟩ : ∃ m, n = m + 1 := ⟨n - 1, by omega⟩
  have e1 := word_Pack_c n a.bits .sh (by omega) (by have := h.lb; omega)
  have e2 := ask_counted_c n (by omega) a.bits.length (pkI a.bits) .sh (by have := pkl_le a h; omega)
  exact cP_of (r := LV 1 (I .u8) (btV a) .sh) (by simp [arg_rq]; rfl) ((s_ask_layBits_eq _ _ _ _).trans (by unfold s_ask_layBits rqE; simp -implicitDefEqProofs (disch := first | omega | (simp only [List.length_set, List.length_append, List.length_cons, List.length_nil, List.length_take, List.length_drop, List.length_map]; omega) | simp) [wrap_i64, wrap_u16_id, wrap_u8_id, tdiv_pos, tmod_pos, -getElem?_pos, -getElem?_neg, -List.length_eq_zero_iff, -List.getElem_cons_drop, e1, e2]; first | exact rfl | exact ⟨rfl, rfl⟩)) (by simp)
theorem layWords_c (n : Nat) (hn : 20 ≤ n) (a : Rq) (h : RqOk a) (t1 t2 : Tag) : cP n 99 false [rqE a t1 t2] = some (LV 1 (I .u8) (wtV a) .sh) := by
  obtain ⟨n, rfl⟩ : ∃ m, n = m + 1 := ⟨n - 1, by omega⟩
  have e1 := word_Bytes_c n a.words .sh (by omega) h.w (by have := h.lw; omega)
  have e2 := ask_counted_c n (by omega) a.words.length (wbI a.words) .sh (by have := wb_len a h; omega)
  exact cP_of (r := LV 1 (I .u8) (wtV a) .sh) (by simp [arg_rq]; rfl) ((s_ask_layWords_eq _ _ _ _).trans (by unfold s_ask_layWords rqE; simp -implicitDefEqProofs (disch := first | omega | (simp only [List.length_set, List.length_append, List.length_cons, List.length_nil, List.length_take, List.length_drop, List.length_map]; omega) | simp) [wrap_i64, wrap_u16_id, wrap_u8_id, tdiv_pos, tmod_pos, -getElem?_pos, -getElem?_neg, -List.length_eq_zero_iff, -List.getElem_cons_drop, e1, e2]; first | exact rfl | exact ⟨rfl, rfl⟩)) (by simp)
theorem layMasks_c (n : Nat) (hn : 3 ≤ n) (a : Rq) (h : RqOk a) (t1 t2 : Tag) : cP n 101 false [rqE a t1 t2] = some (LV 1 (I .u8) (twoV a.and_ ++ twoV a.or_) .sh) := by
  obtain ⟨n, rfl⟩ : ∃ m, n = m + 1 := ⟨n - 1, by omega⟩
  have e1 := word_Bytes_c n [a.and_, a.or_] .ti (by omega) (by intro x hx; simp at hx; rcases hx with rfl | rfl; exact h.a; exact h.o) (by simp)
  have e2 : wbI [a.and_, a.or_] = twoV a.and_ ++ twoV a.or_ := by
    have := h.a
    have := h.o
    rw [wbI_cons _ _ (by omega), wbI_cons _ _ (by omega), wbI_nil]
    unfold twoV
    rw [show a.and_ / 256 % 256 = a.and_ / 256 by omega, show a.or_ / 256 % 256 = a.or_ / 256 by omega]
    rfl
  rw [e2] at e1
  have e3 := buildL_w2 a.and_ a.or_
  exact cP_of (r := LV 1 (I .u8) (twoV a.and_ ++ twoV a.or_) .sh) (by simp [arg_rq]; rfl) ((s_ask_layMasks_eq _ _ _ _).trans (by unfold s_ask_layMasks rqE; simp -implicitDefEqProofs (disch := first | omega | (simp only [List.length_set, List.length_append, List.length_cons, List.length_nil, List.length_take, List.length_drop, List.length_map]; omega) | simp) [wrap_i64, wrap_u16_id, wrap_u8_id, tdiv_pos, tmod_pos, -getElem?_pos, -getElem?_neg, -List.length_eq_zero_iff, -List.getElem_cons_drop, e1, e3]; first | exact rfl | exact ⟨rfl, rfl⟩)) (by simp)
theorem layBoth_c (n : Nat) (hn : 30 ≤ n) (a : Rq) (h : RqOk a) (t1 t2 : Tag) : cP n 103 false [rqE a t1 t2] = some (LV 1 (I .u8) (twoV a.cnt ++ twoV a.to_ ++ wtV a) .sh) := by
  obtain ⟨n, rfl⟩ : ∃ m, n = m + 1 := ⟨n - 1, by omega⟩
  have e1 := layCount_c n (by omega) a .sh .sh
  have e2 := ask_two_c n (by omega) a.to_
  have e3 := layWords_c n (by omega) a h .sh .sh
  have e4 := buildL_bt3 (twoV a.cnt) (twoV a.to_) (wtV a) .sh .sh .sh
  simp only [plT] at e4
  have hc : catB [(twoV a.cnt, Tag.sh), (twoV a.to_, Tag.sh), (wtV a, Tag.sh)] = twoV a.cnt ++ twoV a.to_ ++ wtV a := by simp [catB]
  have e5 := concat_c n [(twoV a.cnt, .sh), (twoV a.to_, .sh), (wtV a, .sh)] .ti (by rw [hc]; have := wb_len a h; simp [twoV, wtV]; omega) (by simp) (by simp; omega)
  rw [hc] at e5
  unfold rqE at e1 e3
  exact cP_of (r := LV 1 (I .u8) (twoV a.cnt ++ twoV a.to_ ++ wtV a) .sh) (by simp [arg_rq]; rfl) ((s_ask_layBoth_eq _ _ _ _).trans (by unfold s_ask_layBoth rqE; simp -implicitDefEqProofs (disch := first | omega | (simp only [List.length_set, List.length_append, List.length_cons, List.length_nil, List.length_take, List.length_drop, List.length_map]; omega) | simp) [wrap_i64, wrap_u16_id, wrap_u8_id, tdiv_pos, tmod_pos, -getElem?_pos, -getElem?_neg, -List.length_eq_zero_iff, -List.getElem_cons_drop, e1, e2, e3, e4, e5]; first | exact rfl | exact ⟨rfl, rfl⟩)) (by simp)
def fnD (i : Nat) : DV := .flat (.func (.func i) #[] #[])
def layD (c : Int) : DV := if c = 5 then fnD 93 else if c = 6 then fnD 95 else if c = 15 then fnD 97 else if c = 16 then fnD 99 else if c = 22 then fnD 101 else if c = 23 then fnD 103 else if isV c = true then fnD 91 else .flat .nilFunc
def rdD (c : Int) : DV := if c = 5 then fnD 94 else if c = 6 then fnD 96 else if c = 15 then fnD 98 else if c = 16 then fnD 100 else if c = 22 then fnD 102 else if c = 23 then fnD 104 else if isV c = true then fnD 92 else .flat .nilFunc
def formD (c : Int) : DV := .agg [I .i64 (cntV c), I .i64 (wrdV c), I .i64 (bitV c), layD c, rdD c]
@[simp] theorem leaf_fn (i : Nat) : (DV.flat (.func (.func i) #[] #[])).leaf = true := rfl
@[simp] theorem leaf_nilfn : (DV.flat .nilFunc).leaf = true := rfl
theorem layD_leaf (c : Int) : (layD c).leaf = true ∧ (layD c).cells = [layD c] := by unfold layD fnD; (repeat' split) <;> exact ⟨rfl, rfl⟩
theorem rdD_leaf (c : Int) : (rdD c).leaf = true ∧ (rdD c).cells = [rdD c] := by unfold rdD fnD; (repeat' split) <;> exact ⟨rfl, rfl⟩
theorem formOf_c (n : Nat) (hn : 1 ≤ n) (c : Int) : cP n 75 false [I .i64 c] = some (.tup [formD c, Bo (isV c)]) := by
  obtain ⟨n, rfl⟩ : ∃ m, n = m + 1 := ⟨n - 1, by omega⟩
  have go : ∀ r, (∃ H', s_ask_formOf n [] 0 (I .i64 c) = some (r, H')) → (∀ H', outD false H' r = some r) → r = .tup [formD c, Bo (isV c)] → cP (n + 1) 75 false [I .i64 c] = some (.tup [formD c, Bo (isV c)]) := by
    intro r ⟨H', h⟩ h1 h2
    rw [← h2]
    exact cP_of rfl ((s_ask_formOf_eq _ _ _ _).trans h) (h1 H')
  rcases code_cases c with rfl | rfl | rfl | rfl | rfl | rfl | rfl | rfl | rfl | rfl | rfl | h
  all_goals first
    | (refine go _ ⟨_, rfl⟩ (fun H' => rfl) rfl)
    | (refine go (.tup [.agg [I .i64 0, I .i64 0, I .i64 0, .flat .nilFunc, .flat .nilFunc], Bo false]) ⟨_, by unfold s_ask_formOf; simp -implicitDefEqProofs (disch := first | omega | (simp only [List.length_set, List.length_append, List.length_cons, List.length_nil, List.length_take, List.length_drop, List.length_map]; omega) | simp) [wrap_i64, wrap_u16_id, wrap_u8_id, tdiv_pos, tmod_pos, -getElem?_pos, -getElem?_neg, -List.length_eq_zero_iff, -List.getElem_cons_drop, h]; first | done | rfl | exact ⟨rfl, rfl⟩⟩ (fun H' => rfl) ?_
       have : isV c = false := by unfold isV; simp [h]
       unfold formD cntV wrdV bitV layD rdD
       simp [h, this])
end Go.Proofs.YtcpgmbpndpcmdaaGreat
namespace Go.Proofs.YtcpgmbpndpcmdaaGreat
open Go
set_option linter.unusedSimpArgs false
set_option linter.unusedVariables false
set_option maxRecDepth 100000
theorem fits_c (n : Nat) (hn : 1 ≤ n) (x m : Int) (hx : 0 ≤ x) (hm : 0 ≤ m) : cP n 76 false [I .i64 x, I .i64 m] = some (Bo (fitV x m)) := by
  obtain ⟨n, rfl⟩ : ∃ m, n = m + 1 := ⟨n - 1, by omega⟩
  refine cP_of (r := Bo (decide (x ≤ m) && (decide (0 < x) == decide (0 < m)))) (args' := [I .i64 x, I .i64 m]) (by simp [argEl_eq]) ((s_ask_fits_eq _ _ _ _ _).trans (by unfold s_ask_fits; simp -implicitDefEqProofs (disch := first | omega | (simp only [List.length_set, List.length_append, List.length_cons, List.length_nil, List.length_take, List.length_drop, List.length_map]; omega) | simp) [wrap_i64, wrap_u16_id, wrap_u8_id, tdiv_pos, tmod_pos, -getElem?_pos, -getElem?_neg, -List.length_eq_zero_iff, -List.getElem_cons_drop, -Bool.not_and, -Bool.not_or, -wantF_n, wantF_sy, wantF_sn, gO_some, gO_loadG, gO_lenD, gO_notD, gO_eqK1, gO_neK1, gO_ltK1, gO_leK1, gO_gtK1, gO_geK1, gO_max1, gO_addK1, gO_mulK1, gO_addK2, gO_ltK2, gO_leK2, gO_max2, gO_cvK, gO_idx, gO_pick, gO_pick2, gO_cP1, gO_cP1b, gO_cP2, gO_cP2a, gO_eqB, pick_t, pick_t2, pick_f, pick_f2, gd_gd, wantF_gt, wantF_gf, gO_pkf, gO_pkt, gO_pktn, gO_eqK2, gO_neK2, gO_gtK2, gO_geK2, gO_subK1, gO_subK2, gO_min1, gO_min2, gO_remK1, gO_cP3, gO_nilD, gO_fieldD, gO_idxArr1, gO_idxArr2, gO_idx2, gO_extD]; first | done | rfl)) ?_
  simp only [outD_flat, Option.some.injEq, DV.flat.injEq, Value.bool.injEq]
  unfold fitV
  rw [Bool.eq_iff_iff]
  simp
  omega
theorem formed_c (n : Nat) (hn : 3 ≤ n) (a : Rq) (t1 t2 : Tag) : cP n 56 false [rqE a t1 t2] = some (Bo (decide (FormedP a))) := by
  obtain ⟨n, rfl⟩ : ∃ m, n = m + 1 := ⟨n - 1, by omega⟩
  obtain ⟨c, ad, k, t, w, b, an, o⟩ := a
  have e1 := formOf_c n (by omega) c
  have f1 := fits_c n (by omega) (max k 0) (cntV c) (by omega) (cntV_le c).1
  have f2 := fits_c n (by omega) w.length (wrdV c) (by omega) (wrdV_le c).1
  have f3 := fits_c n (by omega) b.length (bitV c) (by omega) (bitV_le c).1
  unfold formD at e1
  have l1 := (layD_leaf c).1
  have l2 := (rdD_leaf c).1
  have fin : ∀ B, (∃ H', s__ask_Ask__formed n [] 0 (rqE ⟨c, ad, k, t, w, b, an, o⟩ .sh .sh) = some (Bo B, H')) → B = decide (FormedP ⟨c, ad, k, t, w, b, an, o⟩) → cP (n + 1) 56 false [rqE ⟨c, ad, k, t, w, b, an, o⟩ t1 t2] = some (Bo (decide (FormedP ⟨c, ad, k, t, w, b, an, o⟩))) := by
    rintro B ⟨H', h1⟩ h2
    rw [← h2]
    exact cP_of (r := Bo B) (args' := [rqE ⟨c, ad, k, t, w, b, an, o⟩ .sh .sh]) (by simp [arg_rq]) ((s__ask_Ask__formed_eq _ _ _ _).trans h1) (by simp)
  by_cases h : c = 43
  · have hd : decide (c = 43) = true := by simp [h]
    refine fin _ ⟨_, by unfold s__ask_Ask__formed rqE; simp -implicitDefEqProofs (disch := first | omega | (simp only [List.length_set, List.length_append, List.length_cons, List.length_nil, List.length_take, List.length_drop, List.length_map]; omega) | simp) [wrap_i64, wrap_u16_id, wrap_u8_id, tdiv_pos, tmod_pos, -getElem?_pos, -getElem?_neg, -List.length_eq_zero_iff, -List.getElem_cons_drop, -Bool.not_and, -Bool.not_or, -wantF_n, wantF_sy, wantF_sn, gO_some, gO_loadG, gO_lenD, gO_notD, gO_eqK1, gO_neK1, gO_ltK1, gO_leK1, gO_gtK1, gO_geK1, gO_max1, gO_addK1, gO_mulK1, gO_addK2, gO_ltK2, gO_leK2, gO_max2, gO_cvK, gO_idx, gO_pick, gO_pick2, gO_cP1, gO_cP1b, gO_cP2, gO_cP2a, gO_eqB, pick_t, pick_t2, pick_f, pick_f2, gd_gd, wantF_gt, wantF_gf, gO_pkf, gO_pkt, gO_pktn, gO_eqK2, gO_neK2, gO_gtK2, gO_geK2, gO_subK1, gO_subK2, gO_min1, gO_min2, gO_remK1, gO_cP3, gO_nilD, gO_fieldD, gO_idxArr1, gO_idxArr2, gO_idx2, gO_extD, e1, l1, l2, f1, f2, f3, hd]; first | done | exact ⟨rfl, rfl⟩⟩ ?_
    clear e1 f1 f2 f3
    rw [Bool.eq_iff_iff]
    by_cases hk : 0 ≤ k
    · rw [show max k 0 = k by omega]
      simp only [FormedP, Bool.and_eq_true, Bool.or_eq_true, decide_eq_true_eq]
      grind
    · simp [FormedP, fitV, hk]
      omega
  · refine fin _ ⟨_, by unfold s__ask_Ask__formed rqE; simp -implicitDefEqProofs (disch := first | omega | (simp only [List.length_set, List.length_append, List.length_cons, List.length_nil, List.length_take, List.length_drop, List.length_map]; omega) | simp) [wrap_i64, wrap_u16_id, wrap_u8_id, tdiv_pos, tmod_pos, -getElem?_pos, -getElem?_neg, -List.length_eq_zero_iff, -List.getElem_cons_drop, -Bool.not_and, -Bool.not_or, -wantF_n, wantF_sy, wantF_sn, gO_some, gO_loadG, gO_lenD, gO_notD, gO_eqK1, gO_neK1, gO_ltK1, gO_leK1, gO_gtK1, gO_geK1, gO_max1, gO_addK1, gO_mulK1, gO_addK2, gO_ltK2, gO_leK2, gO_max2, gO_cvK, gO_idx, gO_pick, gO_pick2, gO_cP1, gO_cP1b, gO_cP2, gO_cP2a, gO_eqB, pick_t, pick_t2, pick_f, pick_f2, gd_gd, wantF_gt, wantF_gf, gO_pkf, gO_pkt, gO_pktn, gO_eqK2, gO_neK2, gO_gtK2, gO_geK2, gO_subK1, gO_subK2, gO_min1, gO_min2, gO_remK1, gO_cP3, gO_nilD, gO_fieldD, gO_idxArr1, gO_idxArr2, gO_idx2, gO_extD, e1, l1, l2, f1, f2, f3, h]; first | done | exact ⟨rfl, rfl⟩ | trace_state⟩ ?_
    clear e1 f1 f2 f3
    rw [Bool.eq_iff_iff]
    by_cases hk : 0 ≤ k
    · rw [show max k 0 = k by omega]
      simp only [FormedP, Bool.and_eq_true, Bool.or_eq_true, decide_eq_true_eq]
      grind
    · simp [FormedP, fitV, hk]
      omega
theorem formed_le (a : Rq) (h : FormedP a) : 0 ≤ a.cnt ∧ a.cnt ≤ 2000 ∧ 0 ≤ a.addr ∧ a.addr ≤ 65535 ∧ 0 ≤ a.to_ ∧ a.to_ ≤ 65535 ∧ a.words.length ≤ 123 ∧ a.bits.length ≤ 1968 := by
  obtain ⟨_, h2, h3, h4, _, _, h7, h8, _, h10, h11⟩ := h
  have := fit_pos h2 (cntV_le _).1
  have := fit_pos h3 (wrdV_le _).1
  have := fit_pos h4 (bitV_le _).1
  have := cntV_le a.code
  have := wrdV_le a.code
  have := bitV_le a.code
  omega
theorem placed_c (n : Nat) (hn : 3 ≤ n) (a : Rq) (t1 t2 : Tag) (h : FormedP a) : cP n 57 false [rqE a t1 t2] = some (Bo (decide (PlacedP a))) := by
  obtain ⟨n, rfl⟩ : ∃ m, n = m + 1 := ⟨n - 1, by omega⟩
  obtain ⟨h1, h2, h3, h4, h5, h6, h7, h8⟩ := formed_le a h
  have hc : isV a.code = true := h.1
  obtain ⟨c, ad, k, t, w, b, an, o⟩ := a
  simp only at h1 h2 h3 h4 h5 h6 h7 h8 hc
  clear h
  have fin : ∀ B, (∃ H', s__ask_Ask__placed n [] 0 (rqE ⟨c, ad, k, t, w, b, an, o⟩ .sh .sh) = some (Bo B, H')) → B = decide (PlacedP ⟨c, ad, k, t, w, b, an, o⟩) → cP (n + 1) 57 false [rqE ⟨c, ad, k, t, w, b, an, o⟩ t1 t2] = some (Bo (decide (PlacedP ⟨c, ad, k, t, w, b, an, o⟩))) := by
    rintro B ⟨H', h1⟩ h2
    rw [← h2]
    exact cP_of (r := Bo B) (args' := [rqE ⟨c, ad, k, t, w, b, an, o⟩ .sh .sh]) (by simp [arg_rq]) ((s__ask_Ask__placed_eq _ _ _ _).trans h1) (by simp)
  rcases code_cases c with rfl | rfl | rfl | rfl | rfl | rfl | rfl | rfl | rfl | rfl | rfl | h
  case inr.inr.inr.inr.inr.inr.inr.inr.inr.inl =>
    by_cases hp : t + w.length ≤ 65536
    · exact fin _ ⟨_, by unfold s__ask_Ask__placed rqE; simp -implicitDefEqProofs (disch := first | omega | (simp only [List.length_set, List.length_append, List.length_cons, List.length_nil, List.length_take, List.length_drop, List.length_map]; omega) | simp) [wrap_i64, wrap_u16_id, wrap_u8_id, tdiv_pos, tmod_pos, -getElem?_pos, -getElem?_neg, -List.length_eq_zero_iff, -List.getElem_cons_drop]; first | done | exact ⟨rfl, rfl⟩⟩ (by rw [Bool.eq_iff_iff]; simp [PlacedP, placesV, hp])
    · exact fin _ ⟨_, by unfold s__ask_Ask__placed rqE; simp -implicitDefEqProofs (disch := first | omega | (simp only [List.length_set, List.length_append, List.length_cons, List.length_nil, List.length_take, List.length_drop, List.length_map]; omega) | simp) [wrap_i64, wrap_u16_id, wrap_u8_id, tdiv_pos, tmod_pos, -getElem?_pos, -getElem?_neg, -List.length_eq_zero_iff, -List.getElem_cons_drop]; first | done | exact ⟨rfl, rfl⟩⟩ (by rw [Bool.eq_iff_iff]; simp [PlacedP, placesV, hp])
  case inr.inr.inr.inr.inr.inr.inr.inr.inr.inr.inr => exact absurd hc (by unfold isV; simp [h])
  all_goals exact fin _ ⟨_, by unfold s__ask_Ask__placed rqE; simp -implicitDefEqProofs (disch := first | omega | (simp only [List.length_set, List.length_append, List.length_cons, List.length_nil, List.length_take, List.length_drop, List.length_map]; omega) | simp) [wrap_i64, wrap_u16_id, wrap_u8_id, tdiv_pos, tmod_pos, -getElem?_pos, -getElem?_neg, -List.length_eq_zero_iff, -List.getElem_cons_drop]; first | done | exact ⟨rfl, rfl⟩⟩ (by rw [Bool.eq_iff_iff]; simp [PlacedP, placesV])
def RightP (a : Rq) : Prop := FormedP a ∧ PlacedP a
instance (a : Rq) : Decidable (RightP a) := by unfold RightP; infer_instance
theorem Right_c (n : Nat) (hn : 5 ≤ n) (a : Rq) (t1 t2 : Tag) : cP n 32 false [rqE a t1 t2] = some (Bo (decide (RightP a))) := by
  obtain ⟨n, rfl⟩ : ∃ m, n = m + 1 := ⟨n - 1, by omega⟩
  have e1 := formed_c n (by omega) a .sh .sh
  by_cases h : FormedP a
  · have e2 := placed_c n (by omega) a .sh .sh h
    have hr : decide (RightP a) = decide (PlacedP a) := by simp [RightP, h]
    rw [hr]
    unfold rqE at e1 e2
    rw [decide_eq_true h] at e1
    exact cP_of (r := Bo (decide (PlacedP a))) (args' := [rqE a .sh .sh]) (by simp [arg_rq]) ((s_ask_Right_eq _ _ _ _).trans (by unfold s_ask_Right rqE; simp -implicitDefEqProofs (disch := first | omega | (simp only [List.length_set, List.length_append, List.length_cons, List.length_nil, List.length_take, List.length_drop, List.length_map]; omega) | simp) [wrap_i64, wrap_u16_id, wrap_u8_id, tdiv_pos, tmod_pos, -getElem?_pos, -getElem?_neg, -List.length_eq_zero_iff, -List.getElem_cons_drop, e1, e2]; first | exact rfl | exact ⟨rfl, rfl⟩)) (by simp)
  · have hr : decide (RightP a) = false := by simp [RightP, h]
    rw [hr]
    unfold rqE at e1
    rw [decide_eq_false h] at e1
    exact cP_of (r := Bo false) (args' := [rqE a .sh .sh]) (by simp [arg_rq]) ((s_ask_Right_eq _ _ _ _).trans (by unfold s_ask_Right rqE; simp -implicitDefEqProofs (disch := first | omega | (simp only [List.length_set, List.length_append, List.length_cons, List.length_nil, List.length_take, List.length_drop, List.length_map]; omega) | simp) [wrap_i64, wrap_u16_id, wrap_u8_id, tdiv_pos, tmod_pos, -getElem?_pos, -getElem?_neg, -List.length_eq_zero_iff, -List.getElem_cons_drop, e1]; first | exact rfl | exact ⟨rfl, rfl⟩)) (by simp)
theorem cVP_fn (n i : Nat) (args : List DV) (h : ENV.md i = .pure false) : cVP n (fnD i) args = cP n i false args := by
  unfold cVP callVP
  have : fnOf (fnD i) = some (i, []) := rfl
  rw [this]
  simp only [h, List.append_nil]
  rfl
theorem lay_c (n : Nat) (hn : 30 ≤ n) (a : Rq) (h : FormedP a) (ho : RqOk a) (h43 : a.code ≠ 43) : cVP n (layD a.code) [rqE a .sh .sh] = some (LV 1 (I .u8) (tailV a) .sh) := by
  have hc : isV a.code = true := h.1
  rcases code_cases a.code with e | e | e | e | e | e | e | e | e | e | e | e
  case inr.inr.inr.inr.inr.inr.inr.inr.inr.inr.inl => exact absurd e h43
  case inr.inr.inr.inr.inr.inr.inr.inr.inr.inr.inr => exact absurd hc (by unfold isV; simp [e])
  case inr.inr.inr.inr.inl =>
    have hb : a.bits ≠ [] := by
      have := fit_pos h.2.2.2.1 (bitV_le _).1
      rw [e] at this
      intro hx
      rw [hx] at this
      have e2 : bitV 5 = 1 := rfl
      rw [e2] at this
      simp at this
    have : layD a.code = fnD 93 := by rw [e]; rfl
    rw [this, cVP_fn _ _ _ (by kernel_rfl), layBit_c n (by omega) a .sh .sh hb]
    simp [tailV, e]
  case inr.inr.inr.inr.inr.inl =>
    have : layD a.code = fnD 95 := by rw [e]; rfl
    rw [this, cVP_fn _ _ _ (by kernel_rfl), layWord_c n (by omega) a ho .sh .sh]
    simp [tailV, e]
  case inr.inr.inr.inr.inr.inr.inl =>
    have : layD a.code = fnD 97 := by rw [e]; rfl
    rw [this, cVP_fn _ _ _ (by kernel_rfl), layBits_c n (by omega) a ho .sh .sh]
    simp [tailV, e]
  case inr.inr.inr.inr.inr.inr.inr.inl =>
    have : layD a.code = fnD 99 := by rw [e]; rfl
    rw [this, cVP_fn _ _ _ (by kernel_rfl), layWords_c n (by omega) a ho .sh .sh]
    simp [tailV, e]
  case inr.inr.inr.inr.inr.inr.inr.inr.inl =>
    have : layD a.code = fnD 101 := by rw [e]; rfl
    rw [this, cVP_fn _ _ _ (by kernel_rfl), layMasks_c n (by omega) a ho .sh .sh]
    simp [tailV, e]
  case inr.inr.inr.inr.inr.inr.inr.inr.inr.inl =>
    have : layD a.code = fnD 103 := by rw [e]; rfl
    rw [this, cVP_fn _ _ _ (by kernel_rfl), layBoth_c n (by omega) a ho .sh .sh]
    simp [tailV, e]
  all_goals
    have : layD a.code = fnD 91 := by rw [e]; rfl
    rw [this, cVP_fn _ _ _ (by kernel_rfl), layCount_c n (by omega) a .sh .sh]
    simp [tailV, e]
theorem tail_len (a : Rq) (ho : RqOk a) : (tailV a).length ≤ 7000 := by
  have h1 := wb_len a ho
  have h2 := pkl_le a ho
  unfold tailV btV wtV twoV
  repeat' split
  all_goals simp
  all_goals omega
theorem text_c (n : Nat) (hn : 40 ≤ n) (a : Rq) (h : FormedP a) (ho : RqOk a) (t1 t2 : Tag) : cP n 60 false [rqE a t1 t2] = some (LV 1 (I .u8) (textV a) .sh) := by
  obtain ⟨n, rfl⟩ : ∃ m, n = m + 1 := ⟨n - 1, by omega⟩
  by_cases h43 : a.code = 43
  · have ht : textV a = [43, 14, a.cnt % 256, a.addr % 256] := by simp [textV, h43]
    rw [ht]
    have e1 := buildL_u4 a.code 14 (a.cnt % 256) (a.addr % 256)
    have hd : decide (a.code = 43) = true := by simp [h43]
    exact cP_of (r := LV 1 (I .u8) [a.code, 14, a.cnt % 256, a.addr % 256] .ti) (args' := [rqE a .sh .sh]) (by simp [arg_rq]) ((s__ask_Ask__text_eq _ _ _ _).trans (by unfold s__ask_Ask__text rqE; simp -implicitDefEqProofs (disch := first | omega | (simp only [List.length_set, List.length_append, List.length_cons, List.length_nil, List.length_take, List.length_drop, List.length_map]; omega) | simp) [wrap_i64, wrap_u16_id, wrap_u8_id, tdiv_pos, tmod_pos, -getElem?_pos, -getElem?_neg, -List.length_eq_zero_iff, -List.getElem_cons_drop, hd, wrap_u8, e1]; first | exact rfl | exact ⟨rfl, rfl⟩)) (by simp [h43])
  · have e1 := formOf_c n (by omega) a.code
    have e2 := ask_two_c n (by omega) a.addr
    have e3 := lay_c n (by omega) a h ho h43
    have e4 := buildL_bt3 [a.code % 256] (twoV a.addr) (tailV a) .ti .sh .sh
    simp only [plT] at e4
    have ht : textV a = a.code % 256 :: twoV a.addr ++ tailV a := by simp [textV, h43]
    have hc : catB [([a.code % 256], Tag.ti), (twoV a.addr, Tag.sh), (tailV a, Tag.sh)] = textV a := by rw [ht]; simp [catB]
    have e5 := concat_c n [([a.code % 256], .ti), (twoV a.addr, .sh), (tailV a, .sh)] .ti (by rw [hc, ht]; have := tail_len a ho; simp [twoV]; omega) (by simp) (by simp; omega)
    rw [hc] at e5
    unfold formD at e1
    unfold rqE at e3
    have l1 := (layD_leaf a.code).1
    have l2 := (rdD_leaf a.code).1
    exact cP_of (r := LV 1 (I .u8) (textV a) .sh) (args' := [rqE a .sh .sh]) (by simp [arg_rq]) ((s__ask_Ask__text_eq _ _ _ _).trans (by unfold s__ask_Ask__text rqE; simp -implicitDefEqProofs (disch := first | omega | (simp only [List.length_set, List.length_append, List.length_cons, List.length_nil, List.length_take, List.length_drop, List.length_map]; omega) | simp) [wrap_i64, wrap_u16_id, wrap_u8_id, tdiv_pos, tmod_pos, -getElem?_pos, -getElem?_neg, -List.length_eq_zero_iff, -List.getElem_cons_drop, h43, wrap_u8, e1, e2, e3, e4, e5, l1, l2]; first | exact rfl | exact ⟨rfl, rfl⟩)) (by simp)
theorem Bytes_c (n : Nat) (hn : 50 ≤ n) (a : Rq) (ho : RqOk a) (t1 t2 : Tag) : cP n 37 false [rqE a t1 t2] = some (if RightP a then .tup [LV 1 (I .u8) (textV a) .sh, I .i64 0] else .tup [LV 1 (I .u8) [] .sh, I .i64 2]) := by
  obtain ⟨n, rfl⟩ : ∃ m, n = m + 1 := ⟨n - 1, by omega⟩
  have e1 := Right_c n (by omega) a .sh .sh
  by_cases h : RightP a
  · rw [if_pos h]
    rw [decide_eq_true h] at e1
    have e2 := text_c n (by omega) a h.1 ho .sh .sh
    unfold rqE at e1 e2
    exact cP_of (r := .tup [LV 1 (I .u8) (textV a) .sh, I .i64 0]) (args' := [rqE a .sh .sh]) (by simp [arg_rq]) ((s_ask_Bytes_eq _ _ _ _).trans (by unfold s_ask_Bytes rqE; simp -implicitDefEqProofs (disch := first | omega | (simp only [List.length_set, List.length_append, List.length_cons, List.length_nil, List.length_take, List.length_drop, List.length_map]; omega) | simp) [wrap_i64, wrap_u16_id, wrap_u8_id, tdiv_pos, tmod_pos, -getElem?_pos, -getElem?_neg, -List.length_eq_zero_iff, -List.getElem_cons_drop, e1, e2]; first | exact rfl | exact ⟨rfl, rfl⟩)) (by simp)
  · rw [if_neg h]
    rw [decide_eq_false h] at e1
    unfold rqE at e1
    exact cP_of (r := .tup [LV 1 (I .u8) [] .ti, I .i64 2]) (args' := [rqE a .sh .sh]) (by simp [arg_rq]) ((s_ask_Bytes_eq _ _ _ _).trans (by unfold s_ask_Bytes rqE; simp -implicitDefEqProofs (disch := first | omega | (simp only [List.length_set, List.length_append, List.length_cons, List.length_nil, List.length_take, List.length_drop, List.length_map]; omega) | simp) [wrap_i64, wrap_u16_id, wrap_u8_id, tdiv_pos, tmod_pos, -getElem?_pos, -getElem?_neg, -List.length_eq_zero_iff, -List.getElem_cons_drop, e1, LV_nil 1 (I .u8)]; first | exact rfl | exact ⟨rfl, rfl⟩)) (by simp)
end Go.Proofs.YtcpgmbpndpcmdaaGreat
namespace Go.Proofs.YtcpgmbpndpcmdaaGreat
open Go
set_option linter.unusedSimpArgs false
set_option linter.unusedVariables false
set_option maxRecDepth 100000
set_option linter.unusedSectionVars false
def Pl2 (t : Tag) : Prop := t = .sh ∨ t = .ti
theorem bytes_drop {l : List Int} (h : Bytes l) (i : Nat) : Bytes (l.drop i) := fun x hx => h x (List.mem_of_mem_drop hx)
section
variable (n : Nat) (hn : 5 ≤ n) (l : List Int) (h : Bytes l) (hl : l.length ≤ 10000) (c : Int) (a : Rq)
include hn h hl
end
section
variable (n : Nat) (hn : 10 ≤ n) (l : List Int) (h : Bytes l) (hl : l.length ≤ 10000) (c : Int) (a : Rq) (t1 t2 : Tag) (p1 : Pl2 t1) (p2 : Pl2 t2)
include hn h hl p1 p2
end
end Go.Proofs.YtcpgmbpndpcmdaaGreat
namespace Go.Proofs.YtcpgmbpndpcmdaaGreat
open Go
set_option linter.unusedSimpArgs false
set_option linter.unusedVariables false
set_option maxRecDepth 100000
set_option linter.unusedSectionVars false
def headV (b : List Int) : Bool := isV (b.getD 0 0) && !(decide (b.getD 0 0 = 43) && decide (1 < b.length) && decide (¬ b.getD 1 0 = 14))
end Go.Proofs.YtcpgmbpndpcmdaaGreat
namespace Go.Proofs.YtcpgmbpndpcmdaaGreat
open Go
set_option linter.unusedSimpArgs false
set_option linter.unusedVariables false
set_option maxRecDepth 100000
theorem wdI_len (l : List Int) : (wdI l).length ≤ l.length := by
  unfold wdI ofW
  rw [List.length_map]
  unfold wordsTell
  split
  · simp
  · simp only
    rw [wWords_len]
    simp [toB]
    omega
theorem two_bytes (n : Int) : Bytes (twoV n) := by
  intro x hx
  simp [twoV] at hx
  omega
theorem cons_bytes {x : Int} {l : List Int} (hx : 0 ≤ x ∧ x < 256) (hl : Bytes l) : Bytes (x :: l) := by
  intro y hy
  rcases List.mem_cons.1 hy with rfl | hy
  · exact hx
  · exact hl y hy
theorem wb_bytes (l : List Int) : Bytes (wbI l) := ofB_bytes _
theorem pk_bytes (l : List Bool) : Bytes (pkI l) := ofB_bytes _
theorem bt_bytes (a : Rq) : Bytes (btV a) := bytes_app (two_bytes _) (cons_bytes (by omega) (pk_bytes _))
theorem wt_bytes (a : Rq) : Bytes (wtV a) := bytes_app (two_bytes _) (cons_bytes (by omega) (wb_bytes _))
theorem nil_bytes : Bytes [] := fun x hx => by simp at hx
theorem text_bytes (a : Rq) : Bytes (textV a) := by
  unfold textV
  split
  · exact cons_bytes (by omega) (cons_bytes (by omega) (cons_bytes (by omega) (cons_bytes (by omega) nil_bytes)))
  · refine bytes_app (cons_bytes (by omega) (two_bytes _)) ?_
    unfold tailV
    split
    · split
      · exact cons_bytes (by omega) (cons_bytes (by omega) nil_bytes)
      · exact cons_bytes (by omega) (cons_bytes (by omega) nil_bytes)
    · split
      · exact wb_bytes _
      · split
        · exact bt_bytes a
        · split
          · exact wt_bytes a
          · split
            · exact bytes_app (two_bytes _) (two_bytes _)
            · split
              · exact bytes_app (bytes_app (two_bytes _) (two_bytes _)) (wt_bytes a)
              · exact two_bytes _
end Go.Proofs.YtcpgmbpndpcmdaaGreat
namespace Go.Proofs.YtcpgmbpndpcmdaaGreat
open Go
set_option linter.unusedSimpArgs false
set_option linter.unusedVariables false
def Sg (s : ByteArray) : DV := .flat (.string s)
@[simp] theorem cells_Sg (s : ByteArray) : (Sg s).cells = [Sg s] := rfl
@[simp] theorem leaf_Sg (s : ByteArray) : (Sg s).leaf = true := rfl
structure An where
  exc : Int
  bits : List Bool
  words : List Int
  texts : List ByteArray
def anE (x : An) (t t2 t3 : Tag) : DV := .agg [I .i64 x.exc, LV 1 Bo x.bits t, LV 1 (I .u16) x.words t2, LV 1 Sg x.texts t3]
def rdBits (c : Int) : Bool := decide (c = 1 ∨ c = 2)
def rdWords (c : Int) : Bool := decide (c = 3 ∨ c = 4 ∨ c = 23)
def rdTexts (c : Int) : Bool := decide (c = 43)
theorem reads_c (n : Nat) (hn : 1 ≤ n) (c : Int) : cP n 39 false [I .i64 c] = some (.tup [Bo (rdBits c), Bo (rdWords c), Bo (rdTexts c)]) := by
  obtain ⟨n, rfl⟩ : ∃ m, n = m + 1 := ⟨n - 1, by omega⟩
  have go : ∀ r, .tup [Bo (rdBits c), Bo (rdWords c), Bo (rdTexts c)] = r → (∀ H', outD false H' r = some r) → (∃ H', s_answer_reads n [] 0 (I .i64 c) = some (r, H')) → cP (n + 1) 39 false [I .i64 c] = some (.tup [Bo (rdBits c), Bo (rdWords c), Bo (rdTexts c)]) := by
    intro r h1 h2 ⟨H', h⟩
    rw [h1]
    exact cP_of (args' := [I .i64 c]) (by simp [argEl_eq]) ((s_answer_reads_eq _ _ _ _).trans h) (h2 H')
  unfold rdBits rdWords rdTexts at *
  by_cases c1 : c = 1 ∨ c = 2
  · refine go (.tup [Bo true, Bo false, Bo false]) (by simp; omega) (fun H' => by simp) ?_
    rcases c1 with rfl | rfl <;> exact ⟨_, by unfold s_answer_reads; simp -implicitDefEqProofs (disch := first | omega | (simp only [List.length_set, List.length_append, List.length_cons, List.length_nil, List.length_take, List.length_drop, List.length_map]; omega) | simp) [wrap_i64, wrap_u16_id, wrap_u8_id, tdiv_pos, tmod_pos, -getElem?_pos, -getElem?_neg, -List.length_eq_zero_iff, -List.getElem_cons_drop]; rfl⟩
  by_cases c2 : c = 3 ∨ c = 4 ∨ c = 23
  · refine go (.tup [Bo false, Bo true, Bo false]) (by simp; omega) (fun H' => by simp) ?_
    rcases c2 with rfl | rfl | rfl <;> exact ⟨_, by unfold s_answer_reads; simp -implicitDefEqProofs (disch := first | omega | (simp only [List.length_set, List.length_append, List.length_cons, List.length_nil, List.length_take, List.length_drop, List.length_map]; omega) | simp) [wrap_i64, wrap_u16_id, wrap_u8_id, tdiv_pos, tmod_pos, -getElem?_pos, -getElem?_neg, -List.length_eq_zero_iff, -List.getElem_cons_drop]; rfl⟩
  have d1 : c ≠ 1 := by omega
  have d2 : c ≠ 2 := by omega
  have d3 : c ≠ 3 := by omega
  have d4 : c ≠ 4 := by omega
  have d5 : c ≠ 23 := by omega
  refine go (.tup [Bo false, Bo false, Bo (decide (c = 43))]) (by simp [d1, d2, d3, d4, d5]) (fun H' => by simp) ?_
  exact ⟨_, by unfold s_answer_reads; simp -implicitDefEqProofs (disch := first | omega | (simp only [List.length_set, List.length_append, List.length_cons, List.length_nil, List.length_take, List.length_drop, List.length_map]; omega) | simp) [wrap_i64, wrap_u16_id, wrap_u8_id, tdiv_pos, tmod_pos, -getElem?_pos, -getElem?_neg, -List.length_eq_zero_iff, -List.getElem_cons_drop, d1, d2, d3, d4, d5]; rfl⟩
theorem many_c (n : Nat) (hn : 1 ≤ n) (b : Bool) (x : Int) : cP n 44 false [Bo b, I .i64 x] = some (I .i64 (if b then x else 0)) := by
  obtain ⟨n, rfl⟩ : ∃ m, n = m + 1 := ⟨n - 1, by omega⟩
  cases b
  · exact cP_of (r := I .i64 0) (args' := [Bo false, I .i64 x]) (by simp [argEl_eq]) ((s_answer_many_eq _ _ _ _ _).trans (by unfold s_answer_many; simp -implicitDefEqProofs (disch := first | omega | (simp only [List.length_set, List.length_append, List.length_cons, List.length_nil, List.length_take, List.length_drop, List.length_map]; omega) | simp) [wrap_i64, wrap_u16_id, wrap_u8_id, tdiv_pos, tmod_pos, -getElem?_pos, -getElem?_neg, -List.length_eq_zero_iff, -List.getElem_cons_drop]; first | exact rfl | exact ⟨rfl, rfl⟩)) (by simp)
  · exact cP_of (r := I .i64 x) (args' := [Bo true, I .i64 x]) (by simp [argEl_eq]) ((s_answer_many_eq _ _ _ _ _).trans (by unfold s_answer_many; simp -implicitDefEqProofs (disch := first | omega | (simp only [List.length_set, List.length_append, List.length_cons, List.length_nil, List.length_take, List.length_drop, List.length_map]; omega) | simp) [wrap_i64, wrap_u16_id, wrap_u8_id, tdiv_pos, tmod_pos, -getElem?_pos, -getElem?_neg, -List.length_eq_zero_iff, -List.getElem_cons_drop]; first | exact rfl | exact ⟨rfl, rfl⟩)) (by simp)
def fitT : Int → List ByteArray → Bool
  | _, [] => true
  | n, s :: r => if 245 < s.size ∨ 253 < n + (2 + (s.size : Int)) then false else fitT (n + (2 + (s.size : Int))) r
theorem txf_L (n fl : Nat) (K : Ex → KF) (x1 x2 : DV) (l : List ByteArray) (t : Tag) (hs : ∀ s ∈ l, s.size ≤ 1000000) (hl : l.length ≤ 1000) : ∀ (m i : Nat) (acc : Int) (H : Heap), l.length < m + i → i ≤ l.length → 0 ≤ acc → acc ≤ 253 →
    s_answer_textsFit_L0 n fl K m x1 x2 (I .i64 acc) (LV 1 Sg l t) (I .i64 l.length) (I .i64 i) H = if fitT acc (l.drop i) = true then K (.exit 0) (s_answer_textsFit_O0 x1 x2 .any) H else K .ret (s_answer_textsFit_O0 x1 x2 (Bo false)) H := by
  intro m
  induction m with
  | zero => intro i acc H h; omega
  | succ m ih =>
    intro i acc H hm hi h0 h1
    unfold s_answer_textsFit_L0 s_answer_textsFit_B0
    by_cases h : i < l.length
    · have hz := hs _ (List.getElem_mem h)
      have hls : lenStr (Sg l[i]) = some (I .i64 (l[i].size : Int)) := rfl
      rw [List.drop_eq_getElem_cons h]
      have hi2 : ((i + 1 : Nat) : Int) = (i : Int) + 1 := by omega
      by_cases c1 : 245 < l[i].size
      · have hf : fitT acc (l[i] :: l.drop (i + 1)) = false := by unfold fitT; rw [if_pos (.inl c1)]
        simp only [hf, Bool.false_eq_true, if_false]
        simp -implicitDefEqProofs (disch := first | omega | (simp only [List.length_set, List.length_append, List.length_cons, List.length_nil, List.length_take, List.length_drop, List.length_map]; omega) | simp) [wrap_i64, wrap_u16_id, wrap_u8_id, tdiv_pos, tmod_pos, -getElem?_pos, -getElem?_neg, -List.length_eq_zero_iff, -List.getElem_cons_drop, h, hls, c1]
      · by_cases c2 : 253 < acc + (2 + (l[i].size : Int))
        · have hf : fitT acc (l[i] :: l.drop (i + 1)) = false := by unfold fitT; rw [if_pos (.inr c2)]
          simp only [hf, Bool.false_eq_true, if_false]
          simp -implicitDefEqProofs (disch := first | omega | (simp only [List.length_set, List.length_append, List.length_cons, List.length_nil, List.length_take, List.length_drop, List.length_map]; omega) | simp) [wrap_i64, wrap_u16_id, wrap_u8_id, tdiv_pos, tmod_pos, -getElem?_pos, -getElem?_neg, -List.length_eq_zero_iff, -List.getElem_cons_drop, h, hls, c1, c2]
        · have hf : fitT acc (l[i] :: l.drop (i + 1)) = fitT (acc + (2 + (l[i].size : Int))) (l.drop (i + 1)) := by conv => lhs; unfold fitT; rw [if_neg (by omega)]
          simp only [hf]
          have ih' := ih (i + 1) (acc + (2 + (l[i].size : Int))) H (by omega) (by omega) (by omega) (by omega)
          rw [hi2] at ih'
          simp -implicitDefEqProofs (disch := first | omega | (simp only [List.length_set, List.length_append, List.length_cons, List.length_nil, List.length_take, List.length_drop, List.length_map]; omega) | simp) [wrap_i64, wrap_u16_id, wrap_u8_id, tdiv_pos, tmod_pos, -getElem?_pos, -getElem?_neg, -List.length_eq_zero_iff, -List.getElem_cons_drop, h, hls, c1, c2, ih']
    · have : i = l.length := by omega
      subst this
      rw [List.drop_length]
      simp only [fitT, if_true]
      simp -implicitDefEqProofs (disch := first | omega | (simp only [List.length_set, List.length_append, List.length_cons, List.length_nil, List.length_take, List.length_drop, List.length_map]; omega) | simp) [wrap_i64, wrap_u16_id, wrap_u8_id, tdiv_pos, tmod_pos, -getElem?_pos, -getElem?_neg, -List.length_eq_zero_iff, -List.getElem_cons_drop]
def fitA (addr : Int) (l : List ByteArray) : Bool := fitT 7 l && decide (0 < l.length) && decide (addr + l.length ≤ 256)
theorem textsFit_c (n : Nat) (a : Rq) (t1 t2 t : Tag) (l : List ByteArray) (ha : 0 ≤ a.addr ∧ a.addr ≤ 65535) (hs : ∀ s ∈ l, s.size ≤ 1000000) (hl : l.length ≤ 1000) (hn : l.length + 4 ≤ n) : cP n 61 false [rqE a t1 t2, LV 1 Sg l t] = some (Bo (fitA a.addr l)) := by
  obtain ⟨n, rfl⟩ : ∃ m, n = m + 1 := ⟨n - 1, by omega⟩
  have q : ∀ K H, loopG [1, 2, 5, 8, 9, 10] [1, 2, 4] 38 (s_answer_textsFit_b0 n 0) n (s_answer_textsFit_I0 (LV 1 Sg l .sh) (.ptr 0 0) (I .i64 7) (LV 1 Sg l .sh) (I .i64 l.length) (I .i64 0)) H K = _ := fun K H => (s_answer_textsFit_L0_eq _ _ _ _ _ _ _ _ _ _ _).trans (txf_L n 0 K (LV 1 Sg l .sh) (.ptr 0 0) l .sh hs hl n 0 7 H (by omega) (by omega) (by omega) (by omega))
  rw [List.drop_zero] at q
  unfold fitA
  have go : ∀ r, (∃ H', s_answer_textsFit n [] 0 (rqE a .sh .sh) (LV 1 Sg l .sh) = some (Bo r, H')) → cP (n + 1) 61 false [rqE a t1 t2, LV 1 Sg l t] = some (Bo r) := by
    intro r ⟨H', h⟩
    exact cP_of (r := Bo r) (args' := [rqE a .sh .sh, LV 1 Sg l .sh]) (by simp [argEl_eq, rqE]) ((s_answer_textsFit_eq _ _ _ _ _).trans h) (by simp)
  obtain ⟨ha0, ha1⟩ := ha
  cases hf : fitT 7 l with
  | false =>
    rw [hf] at q
    refine go false ?_
    exact ⟨_, by unfold s_answer_textsFit rqE; simp -implicitDefEqProofs (disch := first | omega | (simp only [List.length_set, List.length_append, List.length_cons, List.length_nil, List.length_take, List.length_drop, List.length_map]; omega) | simp) [wrap_i64, wrap_u16_id, wrap_u8_id, tdiv_pos, tmod_pos, -getElem?_pos, -getElem?_neg, -List.length_eq_zero_iff, -List.getElem_cons_drop, q, s_answer_textsFit_O0]; rfl⟩
  | true =>
    rw [hf] at q
    by_cases c1 : 0 < l.length
    · by_cases c2 : a.addr + l.length ≤ 256
      · rw [decide_eq_true c1, decide_eq_true c2]
        refine go true ?_
        exact ⟨_, by unfold s_answer_textsFit rqE; simp -implicitDefEqProofs (disch := first | omega | (simp only [List.length_set, List.length_append, List.length_cons, List.length_nil, List.length_take, List.length_drop, List.length_map]; omega) | simp) [wrap_i64, wrap_u16_id, wrap_u8_id, tdiv_pos, tmod_pos, -getElem?_pos, -getElem?_neg, -List.length_eq_zero_iff, -List.getElem_cons_drop, q, s_answer_textsFit_O0, c1, c2]; rfl⟩
      · rw [decide_eq_true c1, decide_eq_false c2]
        refine go false ?_
        exact ⟨_, by unfold s_answer_textsFit rqE; simp -implicitDefEqProofs (disch := first | omega | (simp only [List.length_set, List.length_append, List.length_cons, List.length_nil, List.length_take, List.length_drop, List.length_map]; omega) | simp) [wrap_i64, wrap_u16_id, wrap_u8_id, tdiv_pos, tmod_pos, -getElem?_pos, -getElem?_neg, -List.length_eq_zero_iff, -List.getElem_cons_drop, q, s_answer_textsFit_O0, c1, c2]; rfl⟩
    · rw [decide_eq_false c1]
      refine go false ?_
      exact ⟨_, by unfold s_answer_textsFit rqE; simp -implicitDefEqProofs (disch := first | omega | (simp only [List.length_set, List.length_append, List.length_cons, List.length_nil, List.length_take, List.length_drop, List.length_map]; omega) | simp) [wrap_i64, wrap_u16_id, wrap_u8_id, tdiv_pos, tmod_pos, -getElem?_pos, -getElem?_neg, -List.length_eq_zero_iff, -List.getElem_cons_drop, q, s_answer_textsFit_O0, c1]; rfl⟩
structure AnOk (x : An) : Prop where
  w : Words x.words
  t : ∀ s ∈ x.texts, s.size ≤ 1000000
  l : x.texts.length ≤ 1000
def ansB (rp b1 b2 b3 : Bool) (a : Rq) (x : An) : Bool :=
  rp && decide (0 ≤ x.exc) && decide (x.exc ≤ 255) && decide ((x.bits.length : Int) = if b1 && decide (x.exc = 0) then a.cnt else 0) && decide ((x.words.length : Int) = if b2 && decide (x.exc = 0) then a.cnt else 0) &&
    (if b3 && decide (x.exc = 0) then fitA a.addr x.texts else decide ((x.texts.length : Int) = 0))
def ansV (a : Rq) (x : An) : Bool := ansB (decide (RightP a)) (rdBits a.code) (rdWords a.code) (rdTexts a.code) a x
theorem ansRight_c (n : Nat) (hn : 1100 ≤ n) (a : Rq) (x : An) (ok : AnOk x) (t1 t2 t3 t4 t5 : Tag) : cP n 38 false [rqE a t1 t2, anE x t3 t4 t5] = some (Bo (ansV a x)) := by
  obtain ⟨n, rfl⟩ : ∃ m, n = m + 1 := ⟨n - 1, by omega⟩
  have k1 := Right_c n (by omega) a .sh .sh
  have k2 := reads_c n (by omega) a.code
  have k3 := fun b x => many_c n (by omega) b x
  have hl := ok.l
  obtain ⟨V, hV⟩ : ∃ V, V = ansV a x := ⟨_, rfl⟩
  rw [← hV]
  have go : ∀ r, ansV a x = r → (∃ H', s_answer_Right n [] 0 (rqE a .sh .sh) (anE x .sh .sh .sh) = some (Bo r, H')) → cP (n + 1) 38 false [rqE a t1 t2, anE x t3 t4 t5] = some (Bo V) := by
    intro r h1 ⟨H', h⟩
    rw [hV, h1]
    exact cP_of (r := Bo r) (args' := [rqE a .sh .sh, anE x .sh .sh .sh]) (by simp [argEl_eq, rqE, anE]) ((s_answer_Right_eq _ _ _ _ _).trans h) (by simp)
  clear hV
  unfold ansV ansB at go
  by_cases hr : RightP a
  · obtain ⟨_, _, b1, b2, _⟩ := formed_le a hr.1
    have k4 := textsFit_c n a .sh .sh .sh x.texts ⟨b1, b2⟩ ok.t ok.l (by omega)
    rw [decide_eq_true hr] at k1 go
    by_cases e0 : 0 ≤ x.exc
    · by_cases e1 : x.exc ≤ 255
      · generalize rdBits a.code = r1 at *
        generalize rdWords a.code = r2 at *
        generalize rdTexts a.code = r3 at *
        rw [decide_eq_true e0, decide_eq_true e1] at go
        by_cases z : x.exc = 0
        · rw [decide_eq_true z] at go
          simp only [Bool.and_true, Bool.true_and] at go
          by_cases c1 : (x.bits.length : Int) = if r1 = true then a.cnt else 0
          · by_cases c2 : (x.words.length : Int) = if r2 = true then a.cnt else 0
            · rw [decide_eq_true c1, decide_eq_true c2] at go
              simp only [Bool.true_and] at go
              refine go _ rfl ?_
              cases r3 <;> cases r1 <;> cases r2 <;> simp only [if_true, if_false, Bool.false_eq_true] at c1 c2 ⊢ <;> exact ⟨_, by unfold s_answer_Right rqE anE at *; simp -implicitDefEqProofs (disch := first | omega | (simp only [List.length_set, List.length_append, List.length_cons, List.length_nil, List.length_take, List.length_drop, List.length_map]; omega) | simp) [wrap_i64, wrap_u16_id, wrap_u8_id, tdiv_pos, tmod_pos, -getElem?_pos, -getElem?_neg, -List.length_eq_zero_iff, -List.getElem_cons_drop, k1, k2, k3, k4, z, c1, c2]; rfl⟩
            · rw [decide_eq_true c1, decide_eq_false c2] at go
              simp only [Bool.true_and, Bool.false_and] at go
              refine go false rfl ?_
              cases r1 <;> cases r2 <;> simp only [if_true, if_false, Bool.false_eq_true] at c1 c2 <;> exact ⟨_, by unfold s_answer_Right rqE anE at *; simp -implicitDefEqProofs (disch := first | omega | (simp only [List.length_set, List.length_append, List.length_cons, List.length_nil, List.length_take, List.length_drop, List.length_map]; omega) | simp) [wrap_i64, wrap_u16_id, wrap_u8_id, tdiv_pos, tmod_pos, -getElem?_pos, -getElem?_neg, -List.length_eq_zero_iff, -List.getElem_cons_drop, k1, k2, k3, z, c1, c2]; rfl⟩
          · rw [decide_eq_false c1] at go
            simp only [Bool.false_and] at go
            refine go false rfl ?_
            cases r1
            · simp only [if_false, Bool.false_eq_true] at c1
              have d1 : ¬ x.bits.length = 0 := by omega
              exact ⟨_, by unfold s_answer_Right rqE anE at *; simp -implicitDefEqProofs (disch := first | omega | (simp only [List.length_set, List.length_append, List.length_cons, List.length_nil, List.length_take, List.length_drop, List.length_map]; omega) | simp) [wrap_i64, wrap_u16_id, wrap_u8_id, tdiv_pos, tmod_pos, -getElem?_pos, -getElem?_neg, -List.length_eq_zero_iff, -List.getElem_cons_drop, k1, k2, k3, z, d1]; rfl⟩
            · simp only [if_true] at c1
              exact ⟨_, by unfold s_answer_Right rqE anE at *; simp -implicitDefEqProofs (disch := first | omega | (simp only [List.length_set, List.length_append, List.length_cons, List.length_nil, List.length_take, List.length_drop, List.length_map]; omega) | simp) [wrap_i64, wrap_u16_id, wrap_u8_id, tdiv_pos, tmod_pos, -getElem?_pos, -getElem?_neg, -List.length_eq_zero_iff, -List.getElem_cons_drop, k1, k2, k3, z, c1]; rfl⟩
        · rw [decide_eq_false z] at go
          simp only [Bool.and_false, Bool.true_and, Bool.false_eq_true, if_false] at go
          by_cases c1 : (x.bits.length : Int) = 0
          · by_cases c2 : (x.words.length : Int) = 0
            · rw [decide_eq_true c1, decide_eq_true c2] at go
              simp only [Bool.true_and] at go
              refine go _ rfl ?_
              cases r3 <;> cases r1 <;> cases r2 <;> exact ⟨_, by unfold s_answer_Right rqE anE at *; simp -implicitDefEqProofs (disch := first | omega | (simp only [List.length_set, List.length_append, List.length_cons, List.length_nil, List.length_take, List.length_drop, List.length_map]; omega) | simp) [wrap_i64, wrap_u16_id, wrap_u8_id, tdiv_pos, tmod_pos, -getElem?_pos, -getElem?_neg, -List.length_eq_zero_iff, -List.getElem_cons_drop, k1, k2, k3, z, c1, c2]; rfl⟩
            · rw [decide_eq_true c1, decide_eq_false c2] at go
              simp only [Bool.true_and, Bool.false_and] at go
              refine go false rfl ?_
              cases r1 <;> cases r2 <;> exact ⟨_, by unfold s_answer_Right rqE anE at *; simp -implicitDefEqProofs (disch := first | omega | (simp only [List.length_set, List.length_append, List.length_cons, List.length_nil, List.length_take, List.length_drop, List.length_map]; omega) | simp) [wrap_i64, wrap_u16_id, wrap_u8_id, tdiv_pos, tmod_pos, -getElem?_pos, -getElem?_neg, -List.length_eq_zero_iff, -List.getElem_cons_drop, k1, k2, k3, z, c1, c2]; rfl⟩
          · rw [decide_eq_false c1] at go
            simp only [Bool.false_and] at go
            refine go false rfl ?_
            have d1 : ¬ x.bits.length = 0 := by omega
            cases r1 <;> exact ⟨_, by unfold s_answer_Right rqE anE at *; simp -implicitDefEqProofs (disch := first | omega | (simp only [List.length_set, List.length_append, List.length_cons, List.length_nil, List.length_take, List.length_drop, List.length_map]; omega) | simp) [wrap_i64, wrap_u16_id, wrap_u8_id, tdiv_pos, tmod_pos, -getElem?_pos, -getElem?_neg, -List.length_eq_zero_iff, -List.getElem_cons_drop, k1, k2, k3, z, d1]; rfl⟩
      · rw [decide_eq_true e0, decide_eq_false e1] at go
        simp only [Bool.true_and, Bool.and_false, Bool.false_and] at go
        refine go false rfl ?_
        exact ⟨_, by unfold s_answer_Right rqE anE at *; simp -implicitDefEqProofs (disch := first | omega | (simp only [List.length_set, List.length_append, List.length_cons, List.length_nil, List.length_take, List.length_drop, List.length_map]; omega) | simp) [wrap_i64, wrap_u16_id, wrap_u8_id, tdiv_pos, tmod_pos, -getElem?_pos, -getElem?_neg, -List.length_eq_zero_iff, -List.getElem_cons_drop, k1, e0, e1]; rfl⟩
    · rw [decide_eq_false e0] at go
      simp only [Bool.true_and, Bool.and_false, Bool.false_and] at go
      refine go false rfl ?_
      exact ⟨_, by unfold s_answer_Right rqE anE at *; simp -implicitDefEqProofs (disch := first | omega | (simp only [List.length_set, List.length_append, List.length_cons, List.length_nil, List.length_take, List.length_drop, List.length_map]; omega) | simp) [wrap_i64, wrap_u16_id, wrap_u8_id, tdiv_pos, tmod_pos, -getElem?_pos, -getElem?_neg, -List.length_eq_zero_iff, -List.getElem_cons_drop, k1, e0]; rfl⟩
  · rw [decide_eq_false hr] at k1 go
    simp only [Bool.false_and] at go
    refine go false rfl ?_
    exact ⟨_, by unfold s_answer_Right rqE anE at *; simp -implicitDefEqProofs (disch := first | omega | (simp only [List.length_set, List.length_append, List.length_cons, List.length_nil, List.length_take, List.length_drop, List.length_map]; omega) | simp) [wrap_i64, wrap_u16_id, wrap_u8_id, tdiv_pos, tmod_pos, -getElem?_pos, -getElem?_neg, -List.length_eq_zero_iff, -List.getElem_cons_drop, k1]; rfl⟩
end Go.Proofs.YtcpgmbpndpcmdaaGreat
namespace Go.Proofs.YtcpgmbpndpcmdaaGreat
open Go
set_option linter.unusedSimpArgs false
set_option linter.unusedVariables false
def cntI (l : List Int) : List Int := (l.length : Int) % 256 :: l
theorem buildL_y1 (a : Int) : buildL false 1 1 (I .u8 0) [(0, I .u8 a)] = some (LV 1 (I .u8) [a] .ti) := rfl
theorem ansCounted_c (n : Nat) (hn : 1 ≤ n) (l : List Int) (t : Tag) (hl : l.length ≤ 100000) : cP n 40 false [LV 1 (I .u8) l t] = some (LV 1 (I .u8) (cntI l) .sh) := by
  obtain ⟨n, rfl⟩ : ∃ m, n = m + 1 := ⟨n - 1, by omega⟩
  have h1 := buildL_y1 ((l.length : Int) % 256)
  have e1 : IntKind.wrap .u8 (l.length : Int) = (l.length : Int) % 256 := rfl
  obtain ⟨t2, H', ha, _⟩ := appG_all (e := 5) (ag := false) (sz := 1) (by_ := 1) (n0 := 0) (enc := I .u8) (xs := [(l.length : Int) % 256]) (ys := l) (t := .ti) (t' := .sh) (H := []) (fl := 0) (by omega) (by simp) (.inl rfl) rfl (by simp; omega) (by simp; omega)
  rw [List.cons_append, List.nil_append] at ha
  exact cP_of (r := LV 1 (I .u8) (cntI l) t2) (args' := [LV 1 (I .u8) l .sh]) (by simp [argEl_eq]) ((s_answer_counted_eq _ _ _ _).trans (by unfold s_answer_counted cntI; simp -implicitDefEqProofs (disch := first | omega | (simp only [List.length_set, List.length_append, List.length_cons, List.length_nil, List.length_take, List.length_drop, List.length_map]; omega) | simp) [wrap_i64, wrap_u16_id, wrap_u8_id, tdiv_pos, tmod_pos, -getElem?_pos, -getElem?_neg, -List.length_eq_zero_iff, -List.getElem_cons_drop, h1, e1, ha]; first | exact rfl | exact ⟨rfl, rfl⟩)) (by simp)
def strI (s : ByteArray) : List Int := s.data.toList.map fun c => (c.toNat : Int)
theorem strI_len (s : ByteArray) : (strI s).length = s.size := by unfold strI; rw [List.length_map]; exact Array.length_toList
theorem conv_str (s : ByteArray) (h : s.size ≤ 1000000) : convD Tryz.prog 9 41 (Sg s) = some (LV 1 (I .u8) (strI s) .sh) := by
  have e : bytD Tryz.prog 9 41 s = some (LV 1 (I .u8) (strI s) .sh) := by
    unfold bytD
    simp only [Tryz.underlying9, Tryz.underlying41, Tryz.underlying5]
    rw [if_pos h]
    unfold LV strI
    rw [List.map_map]
    rfl
  unfold convD Sg
  simp only [e]
def nmI (addr : Int) : Nat → List ByteArray → List Int
  | _, [] => []
  | i, s :: r => (addr + i) % 256 :: (cntI (strI s) ++ nmI addr (i + 1) r)
theorem nm_L (n fl : Nat) (e0 : TypeId) (cs : List DV) (a : Rq) (ha : 0 ≤ a.addr ∧ a.addr ≤ 65535) (l : List ByteArray) (t : Tag) (hs : ∀ s ∈ l, s.size ≤ 245) (hl : l.length ≤ 300) (hcs : cs[1]? = some (I .i64 a.addr)) (hfl : fl ≤ 1) (hn : 1 ≤ n) : ∀ (m i : Nat) (acc : List Int) (tg : Tag) (H : Heap),
    l.length < m + i → i ≤ l.length → acc.length ≤ 10 + 250 * i → TgOk tg 5 1 1 acc.length H → 1 ≤ H.length → H[0]? = some (.cells e0 cs) →
    ∃ t' H', ∀ K, s_answer_named_L0 n fl K m (.ptr 0 0) (LV 1 (I .u8) acc tg) (LV 1 Sg l t) (I .i64 l.length) (I .i64 i) H = K (.exit 0) (s_answer_named_O0 (LV 1 (I .u8) (acc ++ nmI a.addr i (l.drop i)) t')) H' := by
  intro m
  induction m with
  | zero => intro i acc tg H h; omega
  | succ m ih =>
    intro i acc tg H hm hi hacc ht hH h0
    by_cases h : i < l.length
    · have hz := hs _ (List.getElem_mem h)
      have hzl := strI_len l[i]
      have h1 := buildL_y1 ((a.addr + (i : Int)) % 256)
      have e1 : IntKind.wrap .u8 (a.addr + (i : Int)) = (a.addr + (i : Int)) % 256 := rfl
      have hcv := conv_str l[i] (by omega)
      have hcl : (cntI (strI l[i])).length = l[i].size + 1 := by unfold cntI; simp [hzl]
      have hcc := ansCounted_c n hn (strI l[i]) .sh (by omega)
      obtain ⟨t2, H2, ha2, ht2, hH2, hj2, _⟩ := appG_all (e := 5) (ag := false) (sz := 1) (by_ := 1) (n0 := 1) (enc := I .u8) (xs := acc) (ys := [(a.addr + (i : Int)) % 256]) (t := tg) (t' := .ti) (H := H) (fl := fl) hfl hH ht rfl (by simp; omega) (by simp; omega)
      obtain ⟨t3, H3, ha3, ht3, hH3, hj3, _⟩ := appG_all (e := 5) (ag := false) (sz := 1) (by_ := 1) (n0 := 1) (enc := I .u8) (xs := acc ++ [(a.addr + (i : Int)) % 256]) (ys := cntI (strI l[i])) (t := t2) (t' := .sh) (H := H2) (fl := fl) hfl (by omega) ht2 rfl (by simp; omega) (by simp; omega)
      have h03 : H3[0]? = some (.cells e0 cs) := by rw [hj3 0 (by omega), hj2 0 (by omega)]; exact h0
      obtain ⟨t', H', hK⟩ := ih (i + 1) _ t3 H3 (by omega) (by omega) (by simp; omega) ht3 (by omega) h03
      have hi2 : ((i + 1 : Nat) : Int) = (i : Int) + 1 := by omega
      rw [hi2] at hK
      refine ⟨t', H', fun K => ?_⟩
      rw [List.drop_eq_getElem_cons h]
      have hK := hK K
      simp only [List.append_assoc, List.cons_append, List.nil_append] at hK
      unfold s_answer_named_L0 s_answer_named_B0
      have e2 : acc ++ nmI a.addr i (l[i] :: l.drop (i + 1)) = acc ++ [(a.addr + (i : Int)) % 256] ++ cntI (strI l[i]) ++ nmI a.addr (i + 1) (l.drop (i + 1)) := by simp [nmI]
      rw [e2]
      obtain ⟨g0, g1⟩ := ha
      simp -implicitDefEqProofs (disch := first | omega | (simp only [List.length_set, List.length_append, List.length_cons, List.length_nil, List.length_take, List.length_drop, List.length_map]; omega) | simp) [wrap_i64, wrap_u16_id, wrap_u8_id, tdiv_pos, tmod_pos, -getElem?_pos, -getElem?_neg, -List.length_eq_zero_iff, -List.getElem_cons_drop, h, h0, hcs, h1, e1, hcv, hcc, ha2, ha3, hK]
    · have : i = l.length := by omega
      subst this
      refine ⟨tg, H, fun K => ?_⟩
      unfold s_answer_named_L0 s_answer_named_B0
      rw [List.drop_length]
      simp -implicitDefEqProofs (disch := first | omega | (simp only [List.length_set, List.length_append, List.length_cons, List.length_nil, List.length_take, List.length_drop, List.length_map]; omega) | simp) [wrap_i64, wrap_u16_id, wrap_u8_id, tdiv_pos, tmod_pos, -getElem?_pos, -getElem?_neg, -List.length_eq_zero_iff, -List.getElem_cons_drop, nmI]
theorem buildL_y6 (a b : Int) : buildL false 1 6 (I .u8 0) [(0, I .u8 14), (1, I .u8 a), (2, I .u8 1), (3, I .u8 0), (4, I .u8 0), (5, I .u8 b)] = some (LV 1 (I .u8) [14, a, 1, 0, 0, b] .ti) := by kernel_rfl
def namedV (a : Rq) (l : List ByteArray) : List Int := [14, a.cnt % 256, 1, 0, 0, (l.length : Int) % 256] ++ nmI a.addr 0 l
theorem named_c (n : Nat) (a : Rq) (t1 t2 t : Tag) (l : List ByteArray) (ha : 0 ≤ a.addr ∧ a.addr ≤ 65535) (hs : ∀ s ∈ l, s.size ≤ 245) (hl : l.length ≤ 300) (hn : 310 ≤ n) : cP n 43 false [rqE a t1 t2, LV 1 Sg l t] = some (LV 1 (I .u8) (namedV a l) .sh) := by
  obtain ⟨n, rfl⟩ : ∃ m, n = m + 1 := ⟨n - 1, by omega⟩
  have h6 := buildL_y6 (a.cnt % 256) ((l.length : Int) % 256)
  have e1 : IntKind.wrap .u8 (l.length : Int) = (l.length : Int) % 256 := rfl
  have e2 : IntKind.wrap .u8 a.cnt = a.cnt % 256 := rfl
  obtain ⟨t', H', hK⟩ := nm_L n 0 40 [I .i64 a.code, I .i64 a.addr, I .i64 a.cnt, I .i64 a.to_, LV 1 (I .u16) a.words .sh, LV 1 Bo a.bits .sh, I .u16 a.and_, I .u16 a.or_] a ha l .sh hs hl rfl (by omega) (by omega) n 0 [14, a.cnt % 256, 1, 0, 0, (l.length : Int) % 256] .ti
    [.cells 40 [I .i64 a.code, I .i64 a.addr, I .i64 a.cnt, I .i64 a.to_, LV 1 (I .u16) a.words .sh, LV 1 Bo a.bits .sh, I .u16 a.and_, I .u16 a.or_]] (by omega) (by omega) (by simp) (.inl rfl) (by simp) rfl
  have q : ∀ K, loopG [2, 5, 15, 16, 17] [5] 36 (s_answer_named_b0 n 0) n (s_answer_named_I0 (.ptr 0 0) (LV 1 (I .u8) [14, a.cnt % 256, 1, 0, 0, (l.length : Int) % 256] .ti) (LV 1 Sg l .sh) (I .i64 l.length) (I .i64 0)) [.cells 40 [I .i64 a.code, I .i64 a.addr, I .i64 a.cnt, I .i64 a.to_, LV 1 (I .u16) a.words .sh, LV 1 Bo a.bits .sh, I .u16 a.and_, I .u16 a.or_]] K = _ := fun K => (s_answer_named_L0_eq _ _ _ _ _ _ _ _ _ _).trans (hK K)
  rw [List.drop_zero] at q
  unfold namedV
  refine cP_of (r := LV 1 (I .u8) ([14, a.cnt % 256, 1, 0, 0, (l.length : Int) % 256] ++ nmI a.addr 0 l) t') (H' := H') (args' := [rqE a .sh .sh, LV 1 Sg l .sh]) (by simp [argEl_eq, rqE]) ((s_answer_named_eq _ _ _ _ _).trans ?_) (by simp)
  unfold s_answer_named rqE
  simp -implicitDefEqProofs (disch := first | omega | (simp only [List.length_set, List.length_append, List.length_cons, List.length_nil, List.length_take, List.length_drop, List.length_map]; omega) | simp) [wrap_i64, wrap_u16_id, wrap_u8_id, tdiv_pos, tmod_pos, -getElem?_pos, -getElem?_neg, -List.length_eq_zero_iff, -List.getElem_cons_drop, h6, e1, e2, q, s_answer_named_O0]
end Go.Proofs.YtcpgmbpndpcmdaaGreat
namespace Go.Proofs.YtcpgmbpndpcmdaaGreat
open Go
set_option maxRecDepth 100000
set_option linter.unusedVariables false
noncomputable def s_triuneref06_two (n : Nat) (H : Heap) (fl : Nat) (a0 : DV) : R :=
  bi (quoK .i64 a0 (I .i64 256)) fun d0 =>
  bi (cvK .u8 d0) fun d1 =>
  bi (remK .i64 a0 (I .i64 256)) fun d2 =>
  bi (cvK .u8 d2) fun d3 =>
  bi (buildL false 1 2 (I .u8 0) [(0, d1), (1, d3)]) fun d4 =>
  some (d4, H)
theorem s_triuneref06_two_eq (n : Nat) (H : Heap) (fl : Nat) (a0 : DV) : callG Tryz.prog ENV (n + 1) 69 [a0] H fl = s_triuneref06_two n H fl a0 := by kernel_rfl
noncomputable def s_triuneref06_text (n : Nat) (H : Heap) (fl : Nat) (a0 : DV) : R :=
  bi (allocG 58 a0 (List.length H) (H ++ [.hole])) fun h0 =>
  bi (loadG false 1 (.ptr (List.length H) 0) h0) fun d1 =>
  bi (cvK .u8 d1) fun d2 =>
  bi (buildL false 1 1 (I .u8 0) [(0, d2)]) fun d3 =>
  bi (loadG false 1 (.ptr (List.length H) 1) h0) fun d4 =>
  bi (cP n 69 false [d4]) fun d5 =>
  bi (appG 5 false 1 1 d3 d5 h0 fl) fun p6 =>
  bi (loadG false 1 (.ptr (List.length H) 0) p6.2) fun d7 =>
  bi (eqK .i64 d7 (I .i64 1)) fun d8 =>
  condR d8 (
  condR d8 (
   bi (loadG false 1 (.ptr (List.length H) 2) p6.2) fun d9 =>
   bi (cP n 69 false [d9]) fun d10 =>
   bi (appG 5 false 1 1 p6.1 d10 p6.2 fl) fun p11 =>
  some (p11.1, p11.2)) (
   bi (eqK .i64 d7 (I .i64 5)) fun d12 =>
   condR d12 (
    bi (loadG false 1 (.ptr (List.length H) 5) p6.2) fun d13 =>
    bi (idxSl 1 d13 (I .i64 0)) fun d14 =>
    bi (loadG false 1 d14 p6.2) fun d15 =>
    condR d15 (
     bi (buildL false 1 2 (I .u8 0) [(0, (I .u8 255)), (1, (I .u8 0))]) fun d16 =>
     bi (appG 5 false 1 1 p6.1 d16 p6.2 fl) fun p17 =>
  some (p17.1, p17.2)) (
    bi (buildL false 1 2 (I .u8 0) [(0, (I .u8 0)), (1, (I .u8 0))]) fun d18 =>
    bi (appG 5 false 1 1 p6.1 d18 p6.2 fl) fun p19 =>
  some (p19.1, p19.2))) (
    bi (eqK .i64 d7 (I .i64 6)) fun d20 =>
    condR d20 (
     bi (loadG false 1 (.ptr (List.length H) 4) p6.2) fun d21 =>
     bi (cP n 70 false [d21]) fun d22 =>
     bi (appG 5 false 1 1 p6.1 d22 p6.2 fl) fun p23 =>
  some (p23.1, p23.2)) (
     bi (eqK .i64 d7 (I .i64 15)) fun d24 =>
     condR d24 (
      bi (loadG false 1 (.ptr (List.length H) 5) p6.2) fun d25 =>
      bi (cP n 71 false [d25]) fun d26 =>
      bi (loadG false 1 (.ptr (List.length H) 5) p6.2) fun d27 =>
      bi (lenD d27) fun d28 =>
      bi (cP n 69 false [d28]) fun d29 =>
      bi (appG 5 false 1 1 p6.1 d29 p6.2 fl) fun p30 =>
      bi (lenD d26) fun d31 =>
      bi (cvK .u8 d31) fun d32 =>
      bi (buildL false 1 1 (I .u8 0) [(0, d32)]) fun d33 =>
      bi (appG 5 false 1 1 p30.1 d33 p30.2 fl) fun p34 =>
      bi (appG 5 false 1 1 p34.1 d26 p34.2 fl) fun p35 =>
  some (p35.1, p35.2)) (
      bi (eqK .i64 d7 (I .i64 16)) fun d36 =>
      condR d36 (
       bi (loadG false 1 (.ptr (List.length H) 4) p6.2) fun d37 =>
       bi (cP n 70 false [d37]) fun d38 =>
       bi (loadG false 1 (.ptr (List.length H) 4) p6.2) fun d39 =>
       bi (lenD d39) fun d40 =>
       bi (cP n 69 false [d40]) fun d41 =>
       bi (appG 5 false 1 1 p6.1 d41 p6.2 fl) fun p42 =>
       bi (lenD d38) fun d43 =>
       bi (cvK .u8 d43) fun d44 =>
       bi (buildL false 1 1 (I .u8 0) [(0, d44)]) fun d45 =>
       bi (appG 5 false 1 1 p42.1 d45 p42.2 fl) fun p46 =>
       bi (appG 5 false 1 1 p46.1 d38 p46.2 fl) fun p47 =>
  some (p47.1, p47.2)) (
       bi (eqK .i64 d7 (I .i64 22)) fun d48 =>
       condR d48 (
        bi (loadG false 1 (.ptr (List.length H) 6) p6.2) fun d49 =>
        bi (cvK .i64 d49) fun d50 =>
        bi (cP n 69 false [d50]) fun d51 =>
        bi (appG 5 false 1 1 p6.1 d51 p6.2 fl) fun p52 =>
        bi (loadG false 1 (.ptr (List.length H) 7) p52.2) fun d53 =>
        bi (cvK .i64 d53) fun d54 =>
        bi (cP n 69 false [d54]) fun d55 =>
        bi (appG 5 false 1 1 p52.1 d55 p52.2 fl) fun p56 =>
  some (p56.1, p56.2)) (
        bi (eqK .i64 d7 (I .i64 23)) fun d57 =>
        condR d57 (
         bi (loadG false 1 (.ptr (List.length H) 4) p6.2) fun d58 =>
         bi (cP n 70 false [d58]) fun d59 =>
         bi (loadG false 1 (.ptr (List.length H) 2) p6.2) fun d60 =>
         bi (cP n 69 false [d60]) fun d61 =>
         bi (appG 5 false 1 1 p6.1 d61 p6.2 fl) fun p62 =>
         bi (loadG false 1 (.ptr (List.length H) 3) p62.2) fun d63 =>
         bi (cP n 69 false [d63]) fun d64 =>
         bi (appG 5 false 1 1 p62.1 d64 p62.2 fl) fun p65 =>
         bi (loadG false 1 (.ptr (List.length H) 4) p65.2) fun d66 =>
         bi (lenD d66) fun d67 =>
         bi (cP n 69 false [d67]) fun d68 =>
         bi (appG 5 false 1 1 p65.1 d68 p65.2 fl) fun p69 =>
         bi (lenD d59) fun d70 =>
         bi (cvK .u8 d70) fun d71 =>
         bi (buildL false 1 1 (I .u8 0) [(0, d71)]) fun d72 =>
         bi (appG 5 false 1 1 p69.1 d72 p69.2 fl) fun p73 =>
         bi (appG 5 false 1 1 p73.1 d59 p73.2 fl) fun p74 =>
  some (p74.1, p74.2)) (
  bi (loadG false 1 (.ptr (List.length H) 2) p6.2) fun d75 =>
  bi (cvK .u8 d75) fun d76 =>
  bi (loadG false 1 (.ptr (List.length H) 1) p6.2) fun d77 =>
  bi (cvK .u8 d77) fun d78 =>
  bi (buildL false 1 4 (I .u8 0) [(0, (I .u8 43)), (1, (I .u8 14)), (2, d76), (3, d78)]) fun d79 =>
  some (d79, p6.2))))))))) (
   bi (eqK .i64 d7 (I .i64 2)) fun d80 =>
   condR d80 (
  condR d80 (
   bi (loadG false 1 (.ptr (List.length H) 2) p6.2) fun d81 =>
   bi (cP n 69 false [d81]) fun d82 =>
   bi (appG 5 false 1 1 p6.1 d82 p6.2 fl) fun p83 =>
  some (p83.1, p83.2)) (
   bi (eqK .i64 d7 (I .i64 5)) fun d84 =>
   condR d84 (
    bi (loadG false 1 (.ptr (List.length H) 5) p6.2) fun d85 =>
    bi (idxSl 1 d85 (I .i64 0)) fun d86 =>
    bi (loadG false 1 d86 p6.2) fun d87 =>
    condR d87 (
     bi (buildL false 1 2 (I .u8 0) [(0, (I .u8 255)), (1, (I .u8 0))]) fun d88 =>
     bi (appG 5 false 1 1 p6.1 d88 p6.2 fl) fun p89 =>
  some (p89.1, p89.2)) (
    bi (buildL false 1 2 (I .u8 0) [(0, (I .u8 0)), (1, (I .u8 0))]) fun d90 =>
    bi (appG 5 false 1 1 p6.1 d90 p6.2 fl) fun p91 =>
  some (p91.1, p91.2))) (
    bi (eqK .i64 d7 (I .i64 6)) fun d92 =>
    condR d92 (
     bi (loadG false 1 (.ptr (List.length H) 4) p6.2) fun d93 =>
     bi (cP n 70 false [d93]) fun d94 =>
     bi (appG 5 false 1 1 p6.1 d94 p6.2 fl) fun p95 =>
  some (p95.1, p95.2)) (
     bi (eqK .i64 d7 (I .i64 15)) fun d96 =>
     condR d96 (
      bi (loadG false 1 (.ptr (List.length H) 5) p6.2) fun d97 =>
      bi (cP n 71 false [d97]) fun d98 =>
      bi (loadG false 1 (.ptr (List.length H) 5) p6.2) fun d99 =>
      bi (lenD d99) fun d100 =>
      bi (cP n 69 false [d100]) fun d101 =>
      bi (appG 5 false 1 1 p6.1 d101 p6.2 fl) fun p102 =>
      bi (lenD d98) fun d103 =>
      bi (cvK .u8 d103) fun d104 =>
      bi (buildL false 1 1 (I .u8 0) [(0, d104)]) fun d105 =>
      bi (appG 5 false 1 1 p102.1 d105 p102.2 fl) fun p106 =>
      bi (appG 5 false 1 1 p106.1 d98 p106.2 fl) fun p107 =>
  some (p107.1, p107.2)) (
      bi (eqK .i64 d7 (I .i64 16)) fun d108 =>
      condR d108 (
       bi (loadG false 1 (.ptr (List.length H) 4) p6.2) fun d109 =>
       bi (cP n 70 false [d109]) fun d110 =>
       bi (loadG false 1 (.ptr (List.length H) 4) p6.2) fun d111 =>
       bi (lenD d111) fun d112 =>
       bi (cP n 69 false [d112]) fun d113 =>
       bi (appG 5 false 1 1 p6.1 d113 p6.2 fl) fun p114 =>
       bi (lenD d110) fun d115 =>
       bi (cvK .u8 d115) fun d116 =>
       bi (buildL false 1 1 (I .u8 0) [(0, d116)]) fun d117 =>
       bi (appG 5 false 1 1 p114.1 d117 p114.2 fl) fun p118 =>
       bi (appG 5 false 1 1 p118.1 d110 p118.2 fl) fun p119 =>
  some (p119.1, p119.2)) (
       bi (eqK .i64 d7 (I .i64 22)) fun d120 =>
       condR d120 (
        bi (loadG false 1 (.ptr (List.length H) 6) p6.2) fun d121 =>
        bi (cvK .i64 d121) fun d122 =>
        bi (cP n 69 false [d122]) fun d123 =>
        bi (appG 5 false 1 1 p6.1 d123 p6.2 fl) fun p124 =>
        bi (loadG false 1 (.ptr (List.length H) 7) p124.2) fun d125 =>
        bi (cvK .i64 d125) fun d126 =>
        bi (cP n 69 false [d126]) fun d127 =>
        bi (appG 5 false 1 1 p124.1 d127 p124.2 fl) fun p128 =>
  some (p128.1, p128.2)) (
        bi (eqK .i64 d7 (I .i64 23)) fun d129 =>
        condR d129 (
         bi (loadG false 1 (.ptr (List.length H) 4) p6.2) fun d130 =>
         bi (cP n 70 false [d130]) fun d131 =>
         bi (loadG false 1 (.ptr (List.length H) 2) p6.2) fun d132 =>
         bi (cP n 69 false [d132]) fun d133 =>
         bi (appG 5 false 1 1 p6.1 d133 p6.2 fl) fun p134 =>
         bi (loadG false 1 (.ptr (List.length H) 3) p134.2) fun d135 =>
         bi (cP n 69 false [d135]) fun d136 =>
         bi (appG 5 false 1 1 p134.1 d136 p134.2 fl) fun p137 =>
         bi (loadG false 1 (.ptr (List.length H) 4) p137.2) fun d138 =>
         bi (lenD d138) fun d139 =>
         bi (cP n 69 false [d139]) fun d140 =>
         bi (appG 5 false 1 1 p137.1 d140 p137.2 fl) fun p141 =>
         bi (lenD d131) fun d142 =>
         bi (cvK .u8 d142) fun d143 =>
         bi (buildL false 1 1 (I .u8 0) [(0, d143)]) fun d144 =>
         bi (appG 5 false 1 1 p141.1 d144 p141.2 fl) fun p145 =>
         bi (appG 5 false 1 1 p145.1 d131 p145.2 fl) fun p146 =>
  some (p146.1, p146.2)) (
  bi (loadG false 1 (.ptr (List.length H) 2) p6.2) fun d147 =>
  bi (cvK .u8 d147) fun d148 =>
  bi (loadG false 1 (.ptr (List.length H) 1) p6.2) fun d149 =>
  bi (cvK .u8 d149) fun d150 =>
  bi (buildL false 1 4 (I .u8 0) [(0, (I .u8 43)), (1, (I .u8 14)), (2, d148), (3, d150)]) fun d151 =>
  some (d151, p6.2))))))))) (
    bi (eqK .i64 d7 (I .i64 3)) fun d152 =>
    condR d152 (
  condR d152 (
   bi (loadG false 1 (.ptr (List.length H) 2) p6.2) fun d153 =>
   bi (cP n 69 false [d153]) fun d154 =>
   bi (appG 5 false 1 1 p6.1 d154 p6.2 fl) fun p155 =>
  some (p155.1, p155.2)) (
   bi (eqK .i64 d7 (I .i64 5)) fun d156 =>
   condR d156 (
    bi (loadG false 1 (.ptr (List.length H) 5) p6.2) fun d157 =>
    bi (idxSl 1 d157 (I .i64 0)) fun d158 =>
    bi (loadG false 1 d158 p6.2) fun d159 =>
    condR d159 (
     bi (buildL false 1 2 (I .u8 0) [(0, (I .u8 255)), (1, (I .u8 0))]) fun d160 =>
     bi (appG 5 false 1 1 p6.1 d160 p6.2 fl) fun p161 =>
  some (p161.1, p161.2)) (
    bi (buildL false 1 2 (I .u8 0) [(0, (I .u8 0)), (1, (I .u8 0))]) fun d162 =>
    bi (appG 5 false 1 1 p6.1 d162 p6.2 fl) fun p163 =>
  some (p163.1, p163.2))) (
    bi (eqK .i64 d7 (I .i64 6)) fun d164 =>
    condR d164 (
     bi (loadG false 1 (.ptr (List.length H) 4) p6.2) fun d165 =>
     bi (cP n 70 false [d165]) fun d166 =>
     bi (appG 5 false 1 1 p6.1 d166 p6.2 fl) fun p167 =>
  some (p167.1, p167.2)) (
     bi (eqK .i64 d7 (I .i64 15)) fun d168 =>
     condR d168 (
      bi (loadG false 1 (.ptr (List.length H) 5) p6.2) fun d169 =>
      bi (cP n 71 false [d169]) fun d170 =>
      bi (loadG false 1 (.ptr (List.length H) 5) p6.2) fun d171 =>
      bi (lenD d171) fun d172 =>
      bi (cP n 69 false [d172]) fun d173 =>
      bi (appG 5 false 1 1 p6.1 d173 p6.2 fl) fun p174 =>
      bi (lenD d170) fun d175 =>
      bi (cvK .u8 d175) fun d176 =>
      bi (buildL false 1 1 (I .u8 0) [(0, d176)]) fun d177 =>
      bi (appG 5 false 1 1 p174.1 d177 p174.2 fl) fun p178 =>
      bi (appG 5 false 1 1 p178.1 d170 p178.2 fl) fun p179 =>
  some (p179.1, p179.2)) (
      bi (eqK .i64 d7 (I .i64 16)) fun d180 =>
      condR d180 (
       bi (loadG false 1 (.ptr (List.length H) 4) p6.2) fun d181 =>
       bi (cP n 70 false [d181]) fun d182 =>
       bi (loadG false 1 (.ptr (List.length H) 4) p6.2) fun d183 =>
       bi (lenD d183) fun d184 =>
       bi (cP n 69 false [d184]) fun d185 =>
       bi (appG 5 false 1 1 p6.1 d185 p6.2 fl) fun p186 =>
       bi (lenD d182) fun d187 =>
       bi (cvK .u8 d187) fun d188 =>
       bi (buildL false 1 1 (I .u8 0) [(0, d188)]) fun d189 =>
       bi (appG 5 false 1 1 p186.1 d189 p186.2 fl) fun p190 =>
       bi (appG 5 false 1 1 p190.1 d182 p190.2 fl) fun p191 =>
  some (p191.1, p191.2)) (
       bi (eqK .i64 d7 (I .i64 22)) fun d192 =>
       condR d192 (
        bi (loadG false 1 (.ptr (List.length H) 6) p6.2) fun d193 =>
        bi (cvK .i64 d193) fun d194 =>
        bi (cP n 69 false [d194]) fun d195 =>
        bi (appG 5 false 1 1 p6.1 d195 p6.2 fl) fun p196 =>
        bi (loadG false 1 (.ptr (List.length H) 7) p196.2) fun d197 =>
        bi (cvK .i64 d197) fun d198 =>
        bi (cP n 69 false [d198]) fun d199 =>
        bi (appG 5 false 1 1 p196.1 d199 p196.2 fl) fun p200 =>
  some (p200.1, p200.2)) (
        bi (eqK .i64 d7 (I .i64 23)) fun d201 =>
        condR d201 (
         bi (loadG false 1 (.ptr (List.length H) 4) p6.2) fun d202 =>
         bi (cP n 70 false [d202]) fun d203 =>
         bi (loadG false 1 (.ptr (List.length H) 2) p6.2) fun d204 =>
         bi (cP n 69 false [d204]) fun d205 =>
         bi (appG 5 false 1 1 p6.1 d205 p6.2 fl) fun p206 =>
         bi (loadG false 1 (.ptr (List.length H) 3) p206.2) fun d207 =>
         bi (cP n 69 false [d207]) fun d208 =>
         bi (appG 5 false 1 1 p206.1 d208 p206.2 fl) fun p209 =>
         bi (loadG false 1 (.ptr (List.length H) 4) p209.2) fun d210 =>
         bi (lenD d210) fun d211 =>
         bi (cP n 69 false [d211]) fun d212 =>
         bi (appG 5 false 1 1 p209.1 d212 p209.2 fl) fun p213 =>
         bi (lenD d203) fun d214 =>
         bi (cvK .u8 d214) fun d215 =>
         bi (buildL false 1 1 (I .u8 0) [(0, d215)]) fun d216 =>
         bi (appG 5 false 1 1 p213.1 d216 p213.2 fl) fun p217 =>
         bi (appG 5 false 1 1 p217.1 d203 p217.2 fl) fun p218 =>
  some (p218.1, p218.2)) (
  bi (loadG false 1 (.ptr (List.length H) 2) p6.2) fun d219 =>
  bi (cvK .u8 d219) fun d220 =>
  bi (loadG false 1 (.ptr (List.length H) 1) p6.2) fun d221 =>
  bi (cvK .u8 d221) fun d222 =>
  bi (buildL false 1 4 (I .u8 0) [(0, (I .u8 43)), (1, (I .u8 14)), (2, d220), (3, d222)]) fun d223 =>
  some (d223, p6.2))))))))) (
     bi (eqK .i64 d7 (I .i64 4)) fun d224 =>
  condR d224 (
   bi (loadG false 1 (.ptr (List.length H) 2) p6.2) fun d225 =>
   bi (cP n 69 false [d225]) fun d226 =>
   bi (appG 5 false 1 1 p6.1 d226 p6.2 fl) fun p227 =>
  some (p227.1, p227.2)) (
   bi (eqK .i64 d7 (I .i64 5)) fun d228 =>
   condR d228 (
    bi (loadG false 1 (.ptr (List.length H) 5) p6.2) fun d229 =>
    bi (idxSl 1 d229 (I .i64 0)) fun d230 =>
    bi (loadG false 1 d230 p6.2) fun d231 =>
    condR d231 (
     bi (buildL false 1 2 (I .u8 0) [(0, (I .u8 255)), (1, (I .u8 0))]) fun d232 =>
     bi (appG 5 false 1 1 p6.1 d232 p6.2 fl) fun p233 =>
  some (p233.1, p233.2)) (
    bi (buildL false 1 2 (I .u8 0) [(0, (I .u8 0)), (1, (I .u8 0))]) fun d234 =>
    bi (appG 5 false 1 1 p6.1 d234 p6.2 fl) fun p235 =>
  some (p235.1, p235.2))) (
    bi (eqK .i64 d7 (I .i64 6)) fun d236 =>
    condR d236 (
     bi (loadG false 1 (.ptr (List.length H) 4) p6.2) fun d237 =>
     bi (cP n 70 false [d237]) fun d238 =>
     bi (appG 5 false 1 1 p6.1 d238 p6.2 fl) fun p239 =>
  some (p239.1, p239.2)) (
     bi (eqK .i64 d7 (I .i64 15)) fun d240 =>
     condR d240 (
      bi (loadG false 1 (.ptr (List.length H) 5) p6.2) fun d241 =>
      bi (cP n 71 false [d241]) fun d242 =>
      bi (loadG false 1 (.ptr (List.length H) 5) p6.2) fun d243 =>
      bi (lenD d243) fun d244 =>
      bi (cP n 69 false [d244]) fun d245 =>
      bi (appG 5 false 1 1 p6.1 d245 p6.2 fl) fun p246 =>
      bi (lenD d242) fun d247 =>
      bi (cvK .u8 d247) fun d248 =>
      bi (buildL false 1 1 (I .u8 0) [(0, d248)]) fun d249 =>
      bi (appG 5 false 1 1 p246.1 d249 p246.2 fl) fun p250 =>
      bi (appG 5 false 1 1 p250.1 d242 p250.2 fl) fun p251 =>
  some (p251.1, p251.2)) (
      bi (eqK .i64 d7 (I .i64 16)) fun d252 =>
      condR d252 (
       bi (loadG false 1 (.ptr (List.length H) 4) p6.2) fun d253 =>
       bi (cP n 70 false [d253]) fun d254 =>
       bi (loadG false 1 (.ptr (List.length H) 4) p6.2) fun d255 =>
       bi (lenD d255) fun d256 =>
       bi (cP n 69 false [d256]) fun d257 =>
       bi (appG 5 false 1 1 p6.1 d257 p6.2 fl) fun p258 =>
       bi (lenD d254) fun d259 =>
       bi (cvK .u8 d259) fun d260 =>
       bi (buildL false 1 1 (I .u8 0) [(0, d260)]) fun d261 =>
       bi (appG 5 false 1 1 p258.1 d261 p258.2 fl) fun p262 =>
       bi (appG 5 false 1 1 p262.1 d254 p262.2 fl) fun p263 =>
  some (p263.1, p263.2)) (
       bi (eqK .i64 d7 (I .i64 22)) fun d264 =>
       condR d264 (
        bi (loadG false 1 (.ptr (List.length H) 6) p6.2) fun d265 =>
        bi (cvK .i64 d265) fun d266 =>
        bi (cP n 69 false [d266]) fun d267 =>
        bi (appG 5 false 1 1 p6.1 d267 p6.2 fl) fun p268 =>
        bi (loadG false 1 (.ptr (List.length H) 7) p268.2) fun d269 =>
        bi (cvK .i64 d269) fun d270 =>
        bi (cP n 69 false [d270]) fun d271 =>
        bi (appG 5 false 1 1 p268.1 d271 p268.2 fl) fun p272 =>
  some (p272.1, p272.2)) (
        bi (eqK .i64 d7 (I .i64 23)) fun d273 =>
        condR d273 (
         bi (loadG false 1 (.ptr (List.length H) 4) p6.2) fun d274 =>
         bi (cP n 70 false [d274]) fun d275 =>
         bi (loadG false 1 (.ptr (List.length H) 2) p6.2) fun d276 =>
         bi (cP n 69 false [d276]) fun d277 =>
         bi (appG 5 false 1 1 p6.1 d277 p6.2 fl) fun p278 =>
         bi (loadG false 1 (.ptr (List.length H) 3) p278.2) fun d279 =>
         bi (cP n 69 false [d279]) fun d280 =>
         bi (appG 5 false 1 1 p278.1 d280 p278.2 fl) fun p281 =>
         bi (loadG false 1 (.ptr (List.length H) 4) p281.2) fun d282 =>
         bi (lenD d282) fun d283 =>
         bi (cP n 69 false [d283]) fun d284 =>
         bi (appG 5 false 1 1 p281.1 d284 p281.2 fl) fun p285 =>
         bi (lenD d275) fun d286 =>
         bi (cvK .u8 d286) fun d287 =>
         bi (buildL false 1 1 (I .u8 0) [(0, d287)]) fun d288 =>
         bi (appG 5 false 1 1 p285.1 d288 p285.2 fl) fun p289 =>
         bi (appG 5 false 1 1 p289.1 d275 p289.2 fl) fun p290 =>
  some (p290.1, p290.2)) (
  bi (loadG false 1 (.ptr (List.length H) 2) p6.2) fun d291 =>
  bi (cvK .u8 d291) fun d292 =>
  bi (loadG false 1 (.ptr (List.length H) 1) p6.2) fun d293 =>
  bi (cvK .u8 d293) fun d294 =>
  bi (buildL false 1 4 (I .u8 0) [(0, (I .u8 43)), (1, (I .u8 14)), (2, d292), (3, d294)]) fun d295 =>
  some (d295, p6.2)))))))))))
theorem s_triuneref06_text_eq (n : Nat) (H : Heap) (fl : Nat) (a0 : DV) : callG Tryz.prog ENV (n + 1) 50 [a0] H fl = s_triuneref06_text n H fl a0 := by kernel_rfl
noncomputable def s_triuneref06_Bytes (n : Nat) (H : Heap) (fl : Nat) (a0 : DV) : R :=
  bi (allocG 58 a0 (List.length H) (H ++ [.hole])) fun h0 =>
  bi (loadG true 8 (.ptr (List.length H) 0) h0) fun d1 =>
  bi (cP n 36 false [d1]) fun d2 =>
  bi (notD d2) fun d3 =>
  condR d3 (
  some ((.tup [(.list 0 [] .ti), (I .i64 2)]), h0)) (
  bi (loadG true 8 (.ptr (List.length H) 0) h0) fun d4 =>
  bi (cP n 50 false [d4]) fun d5 =>
  some ((.tup [d5, (I .i64 0)]), h0))
theorem s_triuneref06_Bytes_eq (n : Nat) (H : Heap) (fl : Nat) (a0 : DV) : callG Tryz.prog ENV (n + 1) 25 [a0] H fl = s_triuneref06_Bytes n H fl a0 := by kernel_rfl
noncomputable def s_triuneref06_most (n : Nat) (H : Heap) (fl : Nat) (a0 : DV) : R :=
  bi (eqK .i64 a0 (I .i64 1)) fun d0 =>
  condR d0 (
  condR d0 (
  some ((.tup [(I .i64 2000), (I .i64 0), (I .i64 0)]), H)) (
   bi (eqK .i64 a0 (I .i64 3)) fun d1 =>
   condR d1 (
   condR d1 (
  some ((.tup [(I .i64 125), (I .i64 0), (I .i64 0)]), H)) (
    bi (eqK .i64 a0 (I .i64 5)) fun d2 =>
    condR d2 (
  some ((.tup [(I .i64 0), (I .i64 0), (I .i64 1)]), H)) (
     bi (eqK .i64 a0 (I .i64 6)) fun d3 =>
     condR d3 (
  some ((.tup [(I .i64 0), (I .i64 1), (I .i64 0)]), H)) (
      bi (eqK .i64 a0 (I .i64 15)) fun d4 =>
      condR d4 (
  some ((.tup [(I .i64 0), (I .i64 0), (I .i64 1968)]), H)) (
       bi (eqK .i64 a0 (I .i64 16)) fun d5 =>
       condR d5 (
  some ((.tup [(I .i64 0), (I .i64 123), (I .i64 0)]), H)) (
        bi (eqK .i64 a0 (I .i64 23)) fun d6 =>
        condR d6 (
  some ((.tup [(I .i64 125), (I .i64 121), (I .i64 0)]), H)) (
         bi (eqK .i64 a0 (I .i64 43)) fun d7 =>
         condR d7 (
  some ((.tup [(I .i64 4), (I .i64 0), (I .i64 0)]), H)) (
  some ((.tup [(I .i64 0), (I .i64 0), (I .i64 0)]), H))))))))) (
    bi (eqK .i64 a0 (I .i64 4)) fun d8 =>
   condR d8 (
  some ((.tup [(I .i64 125), (I .i64 0), (I .i64 0)]), H)) (
    bi (eqK .i64 a0 (I .i64 5)) fun d9 =>
    condR d9 (
  some ((.tup [(I .i64 0), (I .i64 0), (I .i64 1)]), H)) (
     bi (eqK .i64 a0 (I .i64 6)) fun d10 =>
     condR d10 (
  some ((.tup [(I .i64 0), (I .i64 1), (I .i64 0)]), H)) (
      bi (eqK .i64 a0 (I .i64 15)) fun d11 =>
      condR d11 (
  some ((.tup [(I .i64 0), (I .i64 0), (I .i64 1968)]), H)) (
       bi (eqK .i64 a0 (I .i64 16)) fun d12 =>
       condR d12 (
  some ((.tup [(I .i64 0), (I .i64 123), (I .i64 0)]), H)) (
        bi (eqK .i64 a0 (I .i64 23)) fun d13 =>
        condR d13 (
  some ((.tup [(I .i64 125), (I .i64 121), (I .i64 0)]), H)) (
         bi (eqK .i64 a0 (I .i64 43)) fun d14 =>
         condR d14 (
  some ((.tup [(I .i64 4), (I .i64 0), (I .i64 0)]), H)) (
  some ((.tup [(I .i64 0), (I .i64 0), (I .i64 0)]), H))))))))))) (
   bi (eqK .i64 a0 (I .i64 2)) fun d15 =>
  condR d15 (
  some ((.tup [(I .i64 2000), (I .i64 0), (I .i64 0)]), H)) (
   bi (eqK .i64 a0 (I .i64 3)) fun d16 =>
   condR d16 (
   condR d16 (
  some ((.tup [(I .i64 125), (I .i64 0), (I .i64 0)]), H)) (
    bi (eqK .i64 a0 (I .i64 5)) fun d17 =>
    condR d17 (
  some ((.tup [(I .i64 0), (I .i64 0), (I .i64 1)]), H)) (
     bi (eqK .i64 a0 (I .i64 6)) fun d18 =>
     condR d18 (
  some ((.tup [(I .i64 0), (I .i64 1), (I .i64 0)]), H)) (
      bi (eqK .i64 a0 (I .i64 15)) fun d19 =>
      condR d19 (
  some ((.tup [(I .i64 0), (I .i64 0), (I .i64 1968)]), H)) (
       bi (eqK .i64 a0 (I .i64 16)) fun d20 =>
       condR d20 (
  some ((.tup [(I .i64 0), (I .i64 123), (I .i64 0)]), H)) (
        bi (eqK .i64 a0 (I .i64 23)) fun d21 =>
        condR d21 (
  some ((.tup [(I .i64 125), (I .i64 121), (I .i64 0)]), H)) (
         bi (eqK .i64 a0 (I .i64 43)) fun d22 =>
         condR d22 (
  some ((.tup [(I .i64 4), (I .i64 0), (I .i64 0)]), H)) (
  some ((.tup [(I .i64 0), (I .i64 0), (I .i64 0)]), H))))))))) (
    bi (eqK .i64 a0 (I .i64 4)) fun d23 =>
   condR d23 (
  some ((.tup [(I .i64 125), (I .i64 0), (I .i64 0)]), H)) (
    bi (eqK .i64 a0 (I .i64 5)) fun d24 =>
    condR d24 (
  some ((.tup [(I .i64 0), (I .i64 0), (I .i64 1)]), H)) (
     bi (eqK .i64 a0 (I .i64 6)) fun d25 =>
     condR d25 (
  some ((.tup [(I .i64 0), (I .i64 1), (I .i64 0)]), H)) (
      bi (eqK .i64 a0 (I .i64 15)) fun d26 =>
      condR d26 (
  some ((.tup [(I .i64 0), (I .i64 0), (I .i64 1968)]), H)) (
       bi (eqK .i64 a0 (I .i64 16)) fun d27 =>
       condR d27 (
  some ((.tup [(I .i64 0), (I .i64 123), (I .i64 0)]), H)) (
        bi (eqK .i64 a0 (I .i64 23)) fun d28 =>
        condR d28 (
  some ((.tup [(I .i64 125), (I .i64 121), (I .i64 0)]), H)) (
         bi (eqK .i64 a0 (I .i64 43)) fun d29 =>
         condR d29 (
  some ((.tup [(I .i64 4), (I .i64 0), (I .i64 0)]), H)) (
  some ((.tup [(I .i64 0), (I .i64 0), (I .i64 0)]), H)))))))))))
theorem s_triuneref06_most_eq (n : Nat) (H : Heap) (fl : Nat) (a0 : DV) : callG Tryz.prog ENV (n + 1) 77 [a0] H fl = s_triuneref06_most n H fl a0 := by kernel_rfl
def s_triuneref06_is_I0 (x0 x3 x4 : DV) : List DV := [x0, .any, .any, x3, x4, .any, .any, .any, .any, .any, .any, .any, .any, .any, .any, .any, .any, .any]
def s_triuneref06_is_O0 (x2 : DV) : List DV := [.any, .any, x2, .any, .any, .any, .any, .any, .any, .any, .any, .any, .any, .any, .any, .any, .any, .any]
noncomputable abbrev s_triuneref06_is_b0 (n fl : Nat) : List DV → Heap → (Ex → KF) → R := execG ⟨Tryz.prog, callG Tryz.prog ENV n, ENV.md, fl, 18⟩ n (loopAt (bodyOf Tryz.f78) 0) []
noncomputable def s_triuneref06_is_B0 (n fl : Nat) (rec : DV → DV → DV → Heap → R) (k : Ex → KF) (x0 x3 x4 : DV) (H : Heap) : R :=
  bi (lenD x3) fun d0 =>
  bi (ltK .i64 x4 d0) fun d1 =>
  condR d1 (
  bi (idxSl 1 x3 x4) fun d2 =>
  bi (loadG false 1 d2 H) fun d3 =>
  bi (eqK .i64 d3 x0) fun d4 =>
  condR d4 (
  k .ret (s_triuneref06_is_O0 (Bo true)) H) (
  bi (addK .i64 x4 (I .i64 1)) fun d5 =>
  rec x0 x3 d5 H)) (
  k (.exit 0) (s_triuneref06_is_O0 .any) H)
noncomputable def s_triuneref06_is_L0 (n fl : Nat) (k : Ex → KF) : Nat → DV → DV → DV → Heap → R
  | 0, _, _, _, _ => none
  | m + 1, x0, x3, x4, H => s_triuneref06_is_B0 n fl (s_triuneref06_is_L0 n fl k m) k x0 x3 x4 H
theorem s_triuneref06_is_S0 (n fl m : Nat) (k : Ex → KF) (x0 x3 x4 : DV) (H : Heap) : loopG [0, 3, 4] [2] 18 (s_triuneref06_is_b0 n fl) (m + 1) (s_triuneref06_is_I0 x0 x3 x4) H k = s_triuneref06_is_B0 n fl (fun x0 x3 x4 H => loopG [0, 3, 4] [2] 18 (s_triuneref06_is_b0 n fl) m (s_triuneref06_is_I0 x0 x3 x4) H k) k x0 x3 x4 H := by kernel_rfl
theorem s_triuneref06_is_L0_eq (n fl : Nat) (k : Ex → KF) : ∀ (m : Nat) (x0 x3 x4 : DV) (H : Heap), loopG [0, 3, 4] [2] 18 (s_triuneref06_is_b0 n fl) m (s_triuneref06_is_I0 x0 x3 x4) H k = s_triuneref06_is_L0 n fl k m x0 x3 x4 H := by
  intro m
  induction m with
  | zero => intros; rfl
  | succ m ih =>
    intro x0 x3 x4 H
    rw [s_triuneref06_is_S0, show (fun x0 x3 x4 H => loopG [0, 3, 4] [2] 18 (s_triuneref06_is_b0 n fl) m (s_triuneref06_is_I0 x0 x3 x4) H k) = s_triuneref06_is_L0 n fl k m from by funext x0 x3 x4 H; exact ih _ _ _ _]
    rw [s_triuneref06_is_L0]
noncomputable def s_triuneref06_is (n : Nat) (H : Heap) (fl : Nat) (a0 : DV) : R :=
  bi (buildL false 1 11 (I .i64 0) [(0, (I .i64 1)), (1, (I .i64 2)), (2, (I .i64 3)), (3, (I .i64 4)), (4, (I .i64 5)), (5, (I .i64 6)), (6, (I .i64 15)), (7, (I .i64 16)), (8, (I .i64 22)), (9, (I .i64 23)), (10, (I .i64 43))]) fun d0 =>
  loopG [0, 3, 4] [2] 18 (s_triuneref06_is_b0 n fl) n (s_triuneref06_is_I0 a0 d0 (I .i64 0)) H fun x S1 h1 => match x with
  | .normal => none
  | .exit i1 => (
  if i1 = 0 then (
  some ((Bo false), h1)) else (
  none))
  | .ret => (
  some ((S1.getD 2 .any), h1))
theorem s_triuneref06_is_eq (n : Nat) (H : Heap) (fl : Nat) (a0 : DV) : callG Tryz.prog ENV (n + 1) 78 [a0] H fl = s_triuneref06_is n H fl a0 := by kernel_rfl
noncomputable def s_triuneref06_fits (n : Nat) (H : Heap) (fl : Nat) (a0 a1 : DV) : R :=
  bi (eqK .i64 a0 (I .i64 0)) fun d0 =>
  bi (wantF d0 true (some a1)) fun d1 =>
  bi (wantF d0 true (eqK .i64 d1 (I .i64 0))) fun d2 =>
  bi (pickD d0 d2 (Bo false)) fun d3 =>
  bi (wantF d3 false (some a0)) fun d4 =>
  bi (wantF d3 false (geK .i64 d4 (I .i64 1))) fun d5 =>
  bi (wantF d3 false (some d5)) fun d6 =>
  bi (wantF d6 true (some a0)) fun d7 =>
  bi (wantF d6 true (some a1)) fun d8 =>
  bi (wantF d6 true (leK .i64 d7 d8)) fun d9 =>
  bi (wantF d3 false (pickD d6 d9 (Bo false))) fun d10 =>
  bi (pickD d3 (Bo true) d10) fun d11 =>
  some (d11, H)
theorem s_triuneref06_fits_eq (n : Nat) (H : Heap) (fl : Nat) (a0 a1 : DV) : callG Tryz.prog ENV (n + 1) 79 [a0, a1] H fl = s_triuneref06_fits n H fl a0 a1 := by kernel_rfl
noncomputable def s_triuneref06_formed (n : Nat) (H : Heap) (fl : Nat) (a0 : DV) : R :=
  bi (allocG 58 a0 (List.length H) (H ++ [.hole])) fun h0 =>
  bi (loadG false 1 (.ptr (List.length H) 0) h0) fun d1 =>
  bi (cP n 77 false [d1]) fun d2 =>
  bi (extD 0 d2) fun d3 =>
  bi (extD 1 d2) fun d4 =>
  bi (extD 2 d2) fun d5 =>
  bi (loadG false 1 (.ptr (List.length H) 0) h0) fun d6 =>
  bi (cP n 78 false [d6]) fun d7 =>
  bi (notD d7) fun d8 =>
  bi (wantF d8 false (some (.ptr (List.length H) 2))) fun d9 =>
  bi (wantF d8 false (loadG false 1 d9 h0)) fun d10 =>
  bi (wantF d8 false (some d3)) fun d11 =>
  bi (wantF d8 false (cP n 79 false [d10, d11])) fun d12 =>
  bi (wantF d8 false (notD d12)) fun d13 =>
  bi (pickD d8 (Bo true) d13) fun d14 =>
  bi (wantF d14 false (some (.ptr (List.length H) 4))) fun d15 =>
  bi (wantF d14 false (loadG false 1 d15 h0)) fun d16 =>
  bi (wantF d14 false (lenD d16)) fun d17 =>
  bi (wantF d14 false (some d4)) fun d18 =>
  bi (wantF d14 false (cP n 79 false [d17, d18])) fun d19 =>
  bi (wantF d14 false (notD d19)) fun d20 =>
  bi (pickD d14 (Bo true) d20) fun d21 =>
  bi (wantF d21 false (some (.ptr (List.length H) 5))) fun d22 =>
  bi (wantF d21 false (loadG false 1 d22 h0)) fun d23 =>
  bi (wantF d21 false (lenD d23)) fun d24 =>
  bi (wantF d21 false (some d5)) fun d25 =>
  bi (wantF d21 false (cP n 79 false [d24, d25])) fun d26 =>
  bi (wantF d21 false (notD d26)) fun d27 =>
  bi (pickD d21 (Bo true) d27) fun d28 =>
  condR d28 (
  some ((Bo false), h0)) (
  bi (loadG false 1 (.ptr (List.length H) 0) h0) fun d29 =>
  bi (neK .i64 d29 (I .i64 22)) fun d30 =>
  bi (wantF d30 true (some (.ptr (List.length H) 6))) fun d31 =>
  bi (wantF d30 true (loadG false 1 d31 h0)) fun d32 =>
  bi (wantF d30 true (neK .u16 d32 (I .u16 0))) fun d33 =>
  bi (wantF d30 true (some d33)) fun d34 =>
  bi (wantF d34 false (some (.ptr (List.length H) 7))) fun d35 =>
  bi (wantF d34 false (loadG false 1 d35 h0)) fun d36 =>
  bi (wantF d34 false (neK .u16 d36 (I .u16 0))) fun d37 =>
  bi (wantF d30 true (pickD d34 (Bo true) d37)) fun d38 =>
  bi (pickD d30 d38 (Bo false)) fun d39 =>
  bi (wantF d39 false (some (.ptr (List.length H) 0))) fun d40 =>
  bi (wantF d39 false (loadG false 1 d40 h0)) fun d41 =>
  bi (wantF d39 false (neK .i64 d41 (I .i64 23))) fun d42 =>
  bi (wantF d39 false (some d42)) fun d43 =>
  bi (wantF d43 true (some (.ptr (List.length H) 3))) fun d44 =>
  bi (wantF d43 true (loadG false 1 d44 h0)) fun d45 =>
  bi (wantF d43 true (neK .i64 d45 (I .i64 0))) fun d46 =>
  bi (wantF d39 false (pickD d43 d46 (Bo false))) fun d47 =>
  bi (pickD d39 (Bo true) d47) fun d48 =>
  condR d48 (
  some ((Bo false), h0)) (
  bi (loadG false 1 (.ptr (List.length H) 1) h0) fun d49 =>
  bi (geK .i64 d49 (I .i64 0)) fun d50 =>
  bi (wantF d50 true (some (.ptr (List.length H) 1))) fun d51 =>
  bi (wantF d50 true (loadG false 1 d51 h0)) fun d52 =>
  bi (wantF d50 true (leK .i64 d52 (I .i64 65535))) fun d53 =>
  bi (pickD d50 d53 (Bo false)) fun d54 =>
  bi (wantF d54 true (some (.ptr (List.length H) 3))) fun d55 =>
  bi (wantF d54 true (loadG false 1 d55 h0)) fun d56 =>
  bi (wantF d54 true (geK .i64 d56 (I .i64 0))) fun d57 =>
  bi (pickD d54 d57 (Bo false)) fun d58 =>
  bi (wantF d58 true (some (.ptr (List.length H) 3))) fun d59 =>
  bi (wantF d58 true (loadG false 1 d59 h0)) fun d60 =>
  bi (wantF d58 true (leK .i64 d60 (I .i64 65535))) fun d61 =>
  bi (pickD d58 d61 (Bo false)) fun d62 =>
  bi (wantF d62 true (some (.ptr (List.length H) 0))) fun d63 =>
  bi (wantF d62 true (loadG false 1 d63 h0)) fun d64 =>
  bi (wantF d62 true (neK .i64 d64 (I .i64 43))) fun d65 =>
  bi (wantF d62 true (some d65)) fun d66 =>
  bi (wantF d66 false (some (.ptr (List.length H) 1))) fun d67 =>
  bi (wantF d66 false (loadG false 1 d67 h0)) fun d68 =>
  bi (wantF d66 false (leK .i64 d68 (I .i64 255))) fun d69 =>
  bi (wantF d62 true (pickD d66 (Bo true) d69)) fun d70 =>
  bi (pickD d62 d70 (Bo false)) fun d71 =>
  some (d71, h0)))
theorem s_triuneref06_formed_eq (n : Nat) (H : Heap) (fl : Nat) (a0 : DV) : callG Tryz.prog ENV (n + 1) 58 [a0] H fl = s_triuneref06_formed n H fl a0 := by kernel_rfl
noncomputable def s_triuneref06_placed (n : Nat) (H : Heap) (fl : Nat) (a0 : DV) : R :=
  bi (allocG 58 a0 (List.length H) (H ++ [.hole])) fun h0 =>
  bi (loadG false 1 (.ptr (List.length H) 2) h0) fun d1 =>
  bi (loadG false 1 (.ptr (List.length H) 5) h0) fun d2 =>
  bi (lenD d2) fun d3 =>
  bi (builtD Tryz.prog .max #[3, 3, 3] 3 [d1, d3, (I .i64 1)]) fun d4 =>
  bi (loadG false 1 (.ptr (List.length H) 0) h0) fun d5 =>
  bi (eqK .i64 d5 (I .i64 23)) fun d6 =>
  condR d6 (
   bi (loadG false 1 (.ptr (List.length H) 1) h0) fun d7 =>
   bi (loadG false 1 (.ptr (List.length H) 2) h0) fun d8 =>
   bi (addK .i64 d7 d8) fun d9 =>
   bi (leK .i64 d9 (I .i64 65536)) fun d10 =>
   bi (wantF d10 true (some (.ptr (List.length H) 3))) fun d11 =>
   bi (wantF d10 true (loadG false 1 d11 h0)) fun d12 =>
   bi (wantF d10 true (some (.ptr (List.length H) 4))) fun d13 =>
   bi (wantF d10 true (loadG false 1 d13 h0)) fun d14 =>
   bi (wantF d10 true (lenD d14)) fun d15 =>
   bi (wantF d10 true (addK .i64 d12 d15)) fun d16 =>
   bi (wantF d10 true (leK .i64 d16 (I .i64 65536))) fun d17 =>
   bi (pickD d10 d17 (Bo false)) fun d18 =>
  some (d18, h0)) (
  bi (loadG false 1 (.ptr (List.length H) 0) h0) fun d19 =>
  bi (eqK .i64 d19 (I .i64 43)) fun d20 =>
  bi (wantF d20 false (some (.ptr (List.length H) 1))) fun d21 =>
  bi (wantF d20 false (loadG false 1 d21 h0)) fun d22 =>
  bi (wantF d20 false (some d4)) fun d23 =>
  bi (wantF d20 false (some (.ptr (List.length H) 4))) fun d24 =>
  bi (wantF d20 false (loadG false 1 d24 h0)) fun d25 =>
  bi (wantF d20 false (lenD d25)) fun d26 =>
  bi (wantF d20 false (maxI d23 d26)) fun d27 =>
  bi (wantF d20 false (addK .i64 d22 d27)) fun d28 =>
  bi (wantF d20 false (leK .i64 d28 (I .i64 65536))) fun d29 =>
  bi (pickD d20 (Bo true) d29) fun d30 =>
  some (d30, h0))
theorem s_triuneref06_placed_eq (n : Nat) (H : Heap) (fl : Nat) (a0 : DV) : callG Tryz.prog ENV (n + 1) 59 [a0] H fl = s_triuneref06_placed n H fl a0 := by kernel_rfl
noncomputable def s_triuneref06_Right (n : Nat) (H : Heap) (fl : Nat) (a0 : DV) : R :=
  bi (allocG 58 a0 (List.length H) (H ++ [.hole])) fun h0 =>
  bi (loadG true 8 (.ptr (List.length H) 0) h0) fun d1 =>
  bi (cP n 58 false [d1]) fun d2 =>
  bi (wantF d2 true (loadG true 8 (.ptr (List.length H) 0) h0)) fun d3 =>
  bi (wantF d2 true (cP n 59 false [d3])) fun d4 =>
  bi (pickD d2 d4 (Bo false)) fun d5 =>
  some (d5, h0)
theorem s_triuneref06_Right_eq (n : Nat) (H : Heap) (fl : Nat) (a0 : DV) : callG Tryz.prog ENV (n + 1) 36 [a0] H fl = s_triuneref06_Right n H fl a0 := by kernel_rfl
end Go.Proofs.YtcpgmbpndpcmdaaGreat
namespace Go.Proofs.YtcpgmbpndpcmdaaGreat
open Go
set_option maxRecDepth 100000
set_option linter.unusedVariables false
def s_triuneref01_Same_I0 (x0 x1 x5 : DV) : List DV := [x0, x1, .any, .any, .any, x5, .any, .any, .any, .any, .any, .any, .any, .any, .any, .any, .any, .any, .any, .any, .any, .any, .any, .any, .any, .any]
def s_triuneref01_Same_O0 (x4 : DV) : List DV := [.any, .any, .any, .any, x4, .any, .any, .any, .any, .any, .any, .any, .any, .any, .any, .any, .any, .any, .any, .any, .any, .any, .any, .any, .any, .any]
noncomputable abbrev s_triuneref01_Same_b0 (n fl : Nat) : List DV → Heap → (Ex → KF) → R := execG ⟨Tryz.prog, callG Tryz.prog ENV n, ENV.md, fl, 26⟩ n (loopAt (bodyOf Tryz.f12) 0) []
noncomputable def s_triuneref01_Same_B0 (n fl : Nat) (rec : DV → DV → DV → Heap → R) (k : Ex → KF) (x0 x1 x5 : DV) (H : Heap) : R :=
  bi (lenD x0) fun d0 =>
  bi (ltK .i64 x5 d0) fun d1 =>
  condR d1 (
  bi (idxSl 1 x0 x5) fun d2 =>
  bi (loadG false 1 d2 H) fun d3 =>
  bi (idxSl 1 x1 x5) fun d4 =>
  bi (loadG false 1 d4 H) fun d5 =>
  bi (neK .u8 d3 d5) fun d6 =>
  condR d6 (
  k .ret (s_triuneref01_Same_O0 (Bo false)) H) (
  bi (addK .i64 x5 (I .i64 1)) fun d7 =>
  rec x0 x1 d7 H)) (
  k (.exit 0) (s_triuneref01_Same_O0 .any) H)
noncomputable def s_triuneref01_Same_L0 (n fl : Nat) (k : Ex → KF) : Nat → DV → DV → DV → Heap → R
  | 0, _, _, _, _ => none
  | m + 1, x0, x1, x5, H => s_triuneref01_Same_B0 n fl (s_triuneref01_Same_L0 n fl k m) k x0 x1 x5 H
theorem s_triuneref01_Same_S0 (n fl m : Nat) (k : Ex → KF) (x0 x1 x5 : DV) (H : Heap) : loopG [0, 1, 5] [4] 26 (s_triuneref01_Same_b0 n fl) (m + 1) (s_triuneref01_Same_I0 x0 x1 x5) H k = s_triuneref01_Same_B0 n fl (fun x0 x1 x5 H => loopG [0, 1, 5] [4] 26 (s_triuneref01_Same_b0 n fl) m (s_triuneref01_Same_I0 x0 x1 x5) H k) k x0 x1 x5 H := by kernel_rfl
theorem s_triuneref01_Same_L0_eq (n fl : Nat) (k : Ex → KF) : ∀ (m : Nat) (x0 x1 x5 : DV) (H : Heap), loopG [0, 1, 5] [4] 26 (s_triuneref01_Same_b0 n fl) m (s_triuneref01_Same_I0 x0 x1 x5) H k = s_triuneref01_Same_L0 n fl k m x0 x1 x5 H := by
  intro m
  induction m with
  | zero => intros; rfl
  | succ m ih =>
    intro x0 x1 x5 H
    rw [s_triuneref01_Same_S0, show (fun x0 x1 x5 H => loopG [0, 1, 5] [4] 26 (s_triuneref01_Same_b0 n fl) m (s_triuneref01_Same_I0 x0 x1 x5) H k) = s_triuneref01_Same_L0 n fl k m from by funext x0 x1 x5 H; exact ih _ _ _ _]
    rw [s_triuneref01_Same_L0]
noncomputable def s_triuneref01_Same (n : Nat) (H : Heap) (fl : Nat) (a0 a1 : DV) : R :=
  bi (lenD a0) fun d0 =>
  bi (lenD a1) fun d1 =>
  bi (neK .i64 d0 d1) fun d2 =>
  condR d2 (
  some ((Bo false), H)) (
  loopG [0, 1, 5] [4] 26 (s_triuneref01_Same_b0 n fl) n (s_triuneref01_Same_I0 a0 a1 (I .i64 0)) H fun x S3 h3 => match x with
  | .normal => none
  | .exit i3 => (
  if i3 = 0 then (
  some ((Bo true), h3)) else (
  none))
  | .ret => (
  some ((S3.getD 4 .any), h3)))
theorem s_triuneref01_Same_eq (n : Nat) (H : Heap) (fl : Nat) (a0 a1 : DV) : callG Tryz.prog ENV (n + 1) 12 [a0, a1] H fl = s_triuneref01_Same n H fl a0 a1 := by kernel_rfl
end Go.Proofs.YtcpgmbpndpcmdaaGreat
namespace Go.Proofs.YtcpgmbpndpcmdaaGreat
open Go
set_option linter.unusedSimpArgs false
theorem ref01_Same_L (n fl : Nat) (k : Ex → KF) (l1 l2 : List Int) (hl : l1.length = l2.length) (hl1 : l1.length ≤ 1000000) : ∀ (m i : Nat) (H : Heap), l1.length < m + i → i ≤ l1.length →
    s_triuneref01_Same_L0 n fl k m (LV 1 (I .u8) l1 .sh) (LV 1 (I .u8) l2 .sh) (I .i64 i) H = if l1.drop i = l2.drop i then k (.exit 0) (s_triuneref01_Same_O0 .any) H else k .ret (s_triuneref01_Same_O0 (Bo false)) H := by
  intro m
  induction m with
  | zero => intro i H h; omega
  | succ m ih =>
    intro i H hm hi
    unfold s_triuneref01_Same_L0 s_triuneref01_Same_B0
    by_cases h : i < l1.length
    · have d1 : l1.drop i = l1[i] :: l1.drop (i + 1) := List.drop_eq_getElem_cons h
      have d2 : l2.drop i = l2[i] :: l2.drop (i + 1) := List.drop_eq_getElem_cons (by omega)
      have h' : i < l2.length := by omega
      rw [d1, d2]
      by_cases e : l1[i] = l2[i]
      · have ih' := ih (i + 1) H (by omega) (by omega)
        have hi2 : ((i + 1 : Nat) : Int) = (i : Int) + 1 := by omega
        rw [hi2] at ih'
        simp -implicitDefEqProofs (disch := first | omega | (simp only [List.length_set, List.length_append, List.length_cons, List.length_nil, List.length_take, List.length_drop, List.length_map]; omega) | simp) [wrap_i64, wrap_u16_id, wrap_u8_id, tdiv_pos, tmod_pos, -getElem?_pos, -getElem?_neg, -List.length_eq_zero_iff, -List.getElem_cons_drop, h, h', e, ih']
      · simp -implicitDefEqProofs (disch := first | omega | (simp only [List.length_set, List.length_append, List.length_cons, List.length_nil, List.length_take, List.length_drop, List.length_map]; omega) | simp) [wrap_i64, wrap_u16_id, wrap_u8_id, tdiv_pos, tmod_pos, -getElem?_pos, -getElem?_neg, -List.length_eq_zero_iff, -List.getElem_cons_drop, h, h', e]
    · have d1 : l1.drop i = [] := by simp; omega
      have d2 : l2.drop i = [] := by simp; omega
      rw [d1, d2, if_pos rfl]
      simp -implicitDefEqProofs (disch := first | omega | (simp only [List.length_set, List.length_append, List.length_cons, List.length_nil, List.length_take, List.length_drop, List.length_map]; omega) | simp) [wrap_i64, wrap_u16_id, wrap_u8_id, tdiv_pos, tmod_pos, -getElem?_pos, -getElem?_neg, -List.length_eq_zero_iff, -List.getElem_cons_drop, h]
theorem ref01_Same_c (n : Nat) (l1 l2 : List Int) (t1 t2 : Tag) (hl1 : l1.length ≤ 1000000) (hn : l1.length + 2 ≤ n) : cP n 12 false [LV 1 (I .u8) l1 t1, LV 1 (I .u8) l2 t2] = some (Bo (decide (l1 = l2))) := by
  obtain ⟨n, rfl⟩ : ∃ m, n = m + 1 := ⟨n - 1, by omega⟩
  by_cases hl : l1.length = l2.length
  · by_cases e : l1 = l2
    · refine cP_of (args' := [LV 1 (I .u8) l1 .sh, LV 1 (I .u8) l2 .sh]) (by simp [argEl_eq]) ((s_triuneref01_Same_eq _ _ _ _ _).trans (by unfold s_triuneref01_Same; simp -implicitDefEqProofs (disch := first | omega | (simp only [List.length_set, List.length_append, List.length_cons, List.length_nil, List.length_take, List.length_drop, List.length_map]; omega) | simp) [wrap_i64, wrap_u16_id, wrap_u8_id, tdiv_pos, tmod_pos, -getElem?_pos, -getElem?_neg, -List.length_eq_zero_iff, -List.getElem_cons_drop, hl]; rw [s_triuneref01_Same_L0_eq]; erw [ref01_Same_L n 0 _ l1 l2 hl hl1 n 0 [] (by omega) (by omega)]; rw [if_pos (by simp [e])]; first | done | exact rfl)) ?_
      simp [e]
    · refine cP_of (args' := [LV 1 (I .u8) l1 .sh, LV 1 (I .u8) l2 .sh]) (by simp [argEl_eq]) ((s_triuneref01_Same_eq _ _ _ _ _).trans (by unfold s_triuneref01_Same; simp -implicitDefEqProofs (disch := first | omega | (simp only [List.length_set, List.length_append, List.length_cons, List.length_nil, List.length_take, List.length_drop, List.length_map]; omega) | simp) [wrap_i64, wrap_u16_id, wrap_u8_id, tdiv_pos, tmod_pos, -getElem?_pos, -getElem?_neg, -List.length_eq_zero_iff, -List.getElem_cons_drop, hl]; rw [s_triuneref01_Same_L0_eq]; erw [ref01_Same_L n 0 _ l1 l2 hl hl1 n 0 [] (by omega) (by omega)]; rw [if_neg (by simpa using e)]; first | done | exact rfl)) ?_
      simp [e, s_triuneref01_Same_O0]
  · have e : ¬ l1 = l2 := fun h => hl (by rw [h])
    refine cP_of (args' := [LV 1 (I .u8) l1 .sh, LV 1 (I .u8) l2 .sh]) (by simp [argEl_eq]) ((s_triuneref01_Same_eq _ _ _ _ _).trans (by unfold s_triuneref01_Same; simp -implicitDefEqProofs (disch := first | omega | (simp only [List.length_set, List.length_append, List.length_cons, List.length_nil, List.length_take, List.length_drop, List.length_map]; omega) | simp) [wrap_i64, wrap_u16_id, wrap_u8_id, tdiv_pos, tmod_pos, -getElem?_pos, -getElem?_neg, -List.length_eq_zero_iff, -List.getElem_cons_drop, hl]; first | exact rfl | exact ⟨rfl, rfl⟩)) ?_
    simp [e]
end Go.Proofs.YtcpgmbpndpcmdaaGreat
namespace Go.Proofs.YtcpgmbpndpcmdaaGreat
open Go
set_option linter.unusedSimpArgs false
set_option linter.unusedVariables false
set_option maxRecDepth 100000
theorem buildL_v2 (a b : Int) : buildL false 1 2 (I .u8 0) [(0, I .u8 a), (1, I .u8 b)] = some (LV 1 (I .u8) [a, b] .ti) := rfl
theorem ref06_two_c (n : Nat) (hn : 1 ≤ n) (x : Int) (h0 : 0 ≤ x) (h1 : x < 9223372036854775808) : cP n 69 false [I .i64 x] = some (LV 1 (I .u8) (twoV x) .sh) := by
  obtain ⟨n, rfl⟩ : ∃ m, n = m + 1 := ⟨n - 1, by omega⟩
  have e := buildL_v2 (x / 256 % 256) (x % 256)
  have e2 : x % 256 % 256 = x % 256 := by omega
  exact cP_of (r := LV 1 (I .u8) (twoV x) .ti) (args' := [I .i64 x]) rfl ((s_triuneref06_two_eq _ _ _ _).trans (by unfold s_triuneref06_two; simp -implicitDefEqProofs (disch := first | omega | (simp only [List.length_set, List.length_append, List.length_cons, List.length_nil, List.length_take, List.length_drop, List.length_map]; omega) | simp) [wrap_i64, wrap_u16_id, wrap_u8_id, tdiv_pos, tmod_pos, -getElem?_pos, -getElem?_neg, -List.length_eq_zero_iff, -List.getElem_cons_drop, wrap_u8, e2, e]; first | done | exact ⟨rfl, rfl⟩)) (by simp)
theorem ref06_most_c (n : Nat) (hn : 1 ≤ n) (c : Int) : cP n 77 false [I .i64 c] = some (.tup [I .i64 (cntV c), I .i64 (wrdV c), I .i64 (bitV c)]) := by
  obtain ⟨n, rfl⟩ : ∃ m, n = m + 1 := ⟨n - 1, by omega⟩
  have go : ∀ r, (∃ H', s_triuneref06_most n [] 0 (I .i64 c) = some (r, H')) → (∀ H', outD false H' r = some r) → r = .tup [I .i64 (cntV c), I .i64 (wrdV c), I .i64 (bitV c)] → cP (n + 1) 77 false [I .i64 c] = some (.tup [I .i64 (cntV c), I .i64 (wrdV c), I .i64 (bitV c)]) := by
    intro r ⟨H', h⟩ h1 h2
    rw [← h2]
    exact cP_of rfl ((s_triuneref06_most_eq _ _ _ _).trans h) (h1 H')
  rcases code_cases c with rfl | rfl | rfl | rfl | rfl | rfl | rfl | rfl | rfl | rfl | rfl | h
  all_goals first
    | (refine go _ ⟨_, rfl⟩ (fun H' => rfl) rfl)
    | (refine go (.tup [I .i64 0, I .i64 0, I .i64 0]) ⟨_, by unfold s_triuneref06_most; simp -implicitDefEqProofs (disch := first | omega | (simp only [List.length_set, List.length_append, List.length_cons, List.length_nil, List.length_take, List.length_drop, List.length_map]; omega) | simp) [wrap_i64, wrap_u16_id, wrap_u8_id, tdiv_pos, tmod_pos, -getElem?_pos, -getElem?_neg, -List.length_eq_zero_iff, -List.getElem_cons_drop, h]; first | done | rfl | exact ⟨rfl, rfl⟩⟩ (fun H' => rfl) ?_
       unfold cntV wrdV bitV
       simp [h])
theorem is_L (n fl : Nat) (l : List Int) (x : Int) (t : Tag) (H : Heap) (hl : l.length ≤ 1000) : ∀ (m i : Nat), l.length < m + i → i ≤ l.length →
    (x ∈ l.drop i → ∀ K, s_triuneref06_is_L0 n fl K m (I .i64 x) (LV 1 (I .i64) l t) (I .i64 i) H = K .ret (s_triuneref06_is_O0 (Bo true)) H) ∧
    (x ∉ l.drop i → ∀ K, s_triuneref06_is_L0 n fl K m (I .i64 x) (LV 1 (I .i64) l t) (I .i64 i) H = K (.exit 0) (s_triuneref06_is_O0 .any) H) := by
  intro m
  induction m with
  | zero => intro i h; omega
  | succ m ih =>
    intro i hm hi
    by_cases h : i < l.length
    · obtain ⟨i1, i2⟩ := ih (i + 1) (by omega) (by omega)
      have hi2 : ((i + 1 : Nat) : Int) = (i : Int) + 1 := by omega
      rw [hi2] at i1 i2
      have hd : l.drop i = l[i] :: l.drop (i + 1) := List.drop_eq_getElem_cons h
      rw [hd]
      by_cases hx : l[i] = x
      · have hx' : decide (l[i] = x) = true := by simp [hx]
        exact ⟨fun _ K => by unfold s_triuneref06_is_L0 s_triuneref06_is_B0; simp -implicitDefEqProofs (disch := first | omega | (simp only [List.length_set, List.length_append, List.length_cons, List.length_nil, List.length_take, List.length_drop, List.length_map]; omega) | simp) [wrap_i64, wrap_u16_id, wrap_u8_id, tdiv_pos, tmod_pos, -getElem?_pos, -getElem?_neg, -List.length_eq_zero_iff, -List.getElem_cons_drop, h, hx'], fun q => absurd (List.mem_cons.2 (.inl hx.symm)) q⟩
      · have hx2 : ¬ x = l[i] := fun e => hx e.symm
        refine ⟨fun q K => ?_, fun q K => ?_⟩
        · have e := i1 ((List.mem_cons.1 q).resolve_left hx2)
          unfold s_triuneref06_is_L0 s_triuneref06_is_B0
          simp -implicitDefEqProofs (disch := first | omega | (simp only [List.length_set, List.length_append, List.length_cons, List.length_nil, List.length_take, List.length_drop, List.length_map]; omega) | simp) [wrap_i64, wrap_u16_id, wrap_u8_id, tdiv_pos, tmod_pos, -getElem?_pos, -getElem?_neg, -List.length_eq_zero_iff, -List.getElem_cons_drop, h, hx, e]
        · have e := i2 (fun h' => q (List.mem_cons.2 (.inr h')))
          unfold s_triuneref06_is_L0 s_triuneref06_is_B0
          simp -implicitDefEqProofs (disch := first | omega | (simp only [List.length_set, List.length_append, List.length_cons, List.length_nil, List.length_take, List.length_drop, List.length_map]; omega) | simp) [wrap_i64, wrap_u16_id, wrap_u8_id, tdiv_pos, tmod_pos, -getElem?_pos, -getElem?_neg, -List.length_eq_zero_iff, -List.getElem_cons_drop, h, hx, e]
    · have : i = l.length := by omega
      subst this
      rw [List.drop_length]
      refine ⟨fun q => by simp at q, fun q K => ?_⟩
      unfold s_triuneref06_is_L0 s_triuneref06_is_B0
      simp -implicitDefEqProofs (disch := first | omega | (simp only [List.length_set, List.length_append, List.length_cons, List.length_nil, List.length_take, List.length_drop, List.length_map]; omega) | simp) [wrap_i64, wrap_u16_id, wrap_u8_id, tdiv_pos, tmod_pos, -getElem?_pos, -getElem?_neg, -List.length_eq_zero_iff, -List.getElem_cons_drop]
def codesV : List Int := [1, 2, 3, 4, 5, 6, 15, 16, 22, 23, 43]
theorem buildL_codes : buildL false 1 11 (I .i64 0) [(0, (I .i64 1)), (1, (I .i64 2)), (2, (I .i64 3)), (3, (I .i64 4)), (4, (I .i64 5)), (5, (I .i64 6)), (6, (I .i64 15)), (7, (I .i64 16)), (8, (I .i64 22)), (9, (I .i64 23)), (10, (I .i64 43))] = some (LV 1 (I .i64) codesV .ti) := by kernel_rfl
theorem ref06_is_c (n : Nat) (hn : 20 ≤ n) (c : Int) : cP n 78 false [I .i64 c] = some (Bo (isV c)) := by
  obtain ⟨n, rfl⟩ : ∃ m, n = m + 1 := ⟨n - 1, by omega⟩
  have hl : codesV.length = 11 := rfl
  obtain ⟨i1, i2⟩ := is_L n 0 codesV c .ti [] (by rw [hl]; omega) n 0 (by rw [hl]; omega) (by omega)
  have hm : isV c = decide (c ∈ codesV) := by unfold isV codesV; simp only [List.mem_cons, List.not_mem_nil, or_false]
  rw [hm]
  rw [List.drop_zero] at i1 i2
  have e1 := buildL_codes
  by_cases h : c ∈ codesV
  · have q : ∀ K, loopG [0, 3, 4] [2] 18 (s_triuneref06_is_b0 n 0) n (s_triuneref06_is_I0 (I .i64 c) (LV 1 (I .i64) codesV .ti) (I .i64 0)) [] K = _ := fun K => (s_triuneref06_is_L0_eq _ _ _ _ _ _ _ _).trans (i1 h K)
    rw [decide_eq_true h]
    exact cP_of (r := Bo true) (args' := [I .i64 c]) rfl ((s_triuneref06_is_eq _ _ _ _).trans (by unfold s_triuneref06_is; simp -implicitDefEqProofs (disch := first | omega | (simp only [List.length_set, List.length_append, List.length_cons, List.length_nil, List.length_take, List.length_drop, List.length_map]; omega) | simp) [wrap_i64, wrap_u16_id, wrap_u8_id, tdiv_pos, tmod_pos, -getElem?_pos, -getElem?_neg, -List.length_eq_zero_iff, -List.getElem_cons_drop, e1, q, s_triuneref06_is_O0]; first | exact rfl | exact ⟨rfl, rfl⟩)) rfl
  · have q : ∀ K, loopG [0, 3, 4] [2] 18 (s_triuneref06_is_b0 n 0) n (s_triuneref06_is_I0 (I .i64 c) (LV 1 (I .i64) codesV .ti) (I .i64 0)) [] K = _ := fun K => (s_triuneref06_is_L0_eq _ _ _ _ _ _ _ _).trans (i2 h K)
    rw [decide_eq_false h]
    exact cP_of (r := Bo false) (args' := [I .i64 c]) rfl ((s_triuneref06_is_eq _ _ _ _).trans (by unfold s_triuneref06_is; simp -implicitDefEqProofs (disch := first | omega | (simp only [List.length_set, List.length_append, List.length_cons, List.length_nil, List.length_take, List.length_drop, List.length_map]; omega) | simp) [wrap_i64, wrap_u16_id, wrap_u8_id, tdiv_pos, tmod_pos, -getElem?_pos, -getElem?_neg, -List.length_eq_zero_iff, -List.getElem_cons_drop, e1, q, s_triuneref06_is_O0]; first | exact rfl | exact ⟨rfl, rfl⟩)) rfl
theorem ref06_fits_c (n : Nat) (hn : 1 ≤ n) (x m : Int) : cP n 79 false [I .i64 x, I .i64 m] = some (Bo (fitV x m)) := by
  obtain ⟨n, rfl⟩ : ∃ m, n = m + 1 := ⟨n - 1, by omega⟩
  refine cP_of (r := Bo (decide (x = 0) && decide (m = 0) || decide (1 ≤ x) && decide (x ≤ m))) (args' := [I .i64 x, I .i64 m]) (by simp [argEl_eq]) ((s_triuneref06_fits_eq _ _ _ _ _).trans (by unfold s_triuneref06_fits; simp -implicitDefEqProofs (disch := first | omega | (simp only [List.length_set, List.length_append, List.length_cons, List.length_nil, List.length_take, List.length_drop, List.length_map]; omega) | simp) [wrap_i64, wrap_u16_id, wrap_u8_id, tdiv_pos, tmod_pos, -getElem?_pos, -getElem?_neg, -List.length_eq_zero_iff, -List.getElem_cons_drop, -Bool.not_and, -Bool.not_or, -wantF_n, wantF_sy, wantF_sn, gO_some, gO_loadG, gO_lenD, gO_notD, gO_eqK1, gO_neK1, gO_ltK1, gO_leK1, gO_gtK1, gO_geK1, gO_max1, gO_addK1, gO_mulK1, gO_addK2, gO_ltK2, gO_leK2, gO_max2, gO_cvK, gO_idx, gO_pick, gO_pick2, gO_cP1, gO_cP1b, gO_cP2, gO_cP2a, gO_eqB, pick_t, pick_t2, pick_f, pick_f2, gd_gd, wantF_gt, wantF_gf, gO_pkf, gO_pkt, gO_pktn, gO_eqK2, gO_neK2, gO_gtK2, gO_geK2, gO_subK1, gO_subK2, gO_min1, gO_min2, gO_remK1, gO_cP3, gO_nilD, gO_fieldD, gO_idxArr1, gO_idxArr2, gO_idx2, gO_extD]; first | done | rfl)) ?_
  simp only [outD_flat, Option.some.injEq, DV.flat.injEq, Value.bool.injEq]
  unfold fitV
  rw [Bool.eq_iff_iff]
  simp
theorem builtD_max3 (a b c : Int) : builtD Tryz.prog .max #[3, 3, 3] 3 [I .i64 a, I .i64 b, I .i64 c] = some (I .i64 (max (max a b) c)) := by
  have h : builtD Tryz.prog .max #[3, 3, 3] 3 [I .i64 a, I .i64 b, I .i64 c] = some (I .i64 (if c > (if b > a then b else a) then c else if b > a then b else a)) := rfl
  rw [h, show (if c > (if b > a then b else a) then c else if b > a then b else a) = max (max a b) c by omega]
theorem ref06_formed_c (n : Nat) (hn : 30 ≤ n) (a : Rq) (t1 t2 : Tag) : cP n 58 false [rqE a t1 t2] = some (Bo (decide (FormedP a))) := by
  obtain ⟨n, rfl⟩ : ∃ m, n = m + 1 := ⟨n - 1, by omega⟩
  obtain ⟨c, ad, k, t, w, b, an, o⟩ := a
  have e1 := ref06_most_c n (by omega) c
  have e2 := ref06_is_c n (by omega) c
  have f1 := ref06_fits_c n (by omega) k (cntV c)
  have f2 := ref06_fits_c n (by omega) w.length (wrdV c)
  have f3 := ref06_fits_c n (by omega) b.length (bitV c)
  have fin : ∀ B, (∃ H', s_triuneref06_formed n [] 0 (rqE ⟨c, ad, k, t, w, b, an, o⟩ .sh .sh) = some (Bo B, H')) → B = decide (FormedP ⟨c, ad, k, t, w, b, an, o⟩) → cP (n + 1) 58 false [rqE ⟨c, ad, k, t, w, b, an, o⟩ t1 t2] = some (Bo (decide (FormedP ⟨c, ad, k, t, w, b, an, o⟩))) := by
    rintro B ⟨H', h1⟩ h2
    rw [← h2]
    exact cP_of (r := Bo B) (args' := [rqE ⟨c, ad, k, t, w, b, an, o⟩ .sh .sh]) (by simp [arg_rq]) ((s_triuneref06_formed_eq _ _ _ _).trans h1) (by simp)
  refine fin (decide (FormedP ⟨c, ad, k, t, w, b, an, o⟩)) ⟨[.cells 58 (rqE ⟨c, ad, k, t, w, b, an, o⟩ .sh .sh).cells], ?_⟩ rfl
  unfold s_triuneref06_formed rqE
  simp -implicitDefEqProofs (disch := first | omega | (simp only [List.length_set, List.length_append, List.length_cons, List.length_nil, List.length_take, List.length_drop, List.length_map]; omega) | simp) [wrap_i64, wrap_u16_id, wrap_u8_id, tdiv_pos, tmod_pos, -getElem?_pos, -getElem?_neg, -List.length_eq_zero_iff, -List.getElem_cons_drop, -Bool.not_and, -Bool.not_or, -wantF_n, wantF_sy, wantF_sn, gO_some, gO_loadG, gO_lenD, gO_notD, gO_eqK1, gO_neK1, gO_ltK1, gO_leK1, gO_gtK1, gO_geK1, gO_max1, gO_addK1, gO_mulK1, gO_addK2, gO_ltK2, gO_leK2, gO_max2, gO_cvK, gO_idx, gO_pick, gO_pick2, gO_cP1, gO_cP1b, gO_cP2, gO_cP2a, gO_eqB, pick_t, pick_t2, pick_f, pick_f2, gd_gd, wantF_gt, wantF_gf, gO_pkf, gO_pkt, gO_pktn, gO_eqK2, gO_neK2, gO_gtK2, gO_geK2, gO_subK1, gO_subK2, gO_min1, gO_min2, gO_remK1, gO_cP3, gO_nilD, gO_fieldD, gO_idxArr1, gO_idxArr2, gO_idx2, gO_extD, e1, e2, f1, f2, f3, condR_b]
  clear fin e1 e2 f1 f2 f3
  split
  · rename_i h
    rw [decide_eq_false (show ¬ FormedP ⟨c, ad, k, t, w, b, an, o⟩ by simp only [FormedP]; grind)]
  · rename_i h
    split
    · rename_i h2
      rw [decide_eq_false (show ¬ FormedP ⟨c, ad, k, t, w, b, an, o⟩ by simp only [FormedP]; grind)]
    · rename_i h2
      congr 4
      rw [Bool.eq_iff_iff]
      simp only [FormedP, Bool.and_eq_true, Bool.or_eq_true, decide_eq_true_eq, Bool.not_eq_true', decide_eq_false_iff_not]
      grind
theorem ref06_placed_c (n : Nat) (hn : 3 ≤ n) (a : Rq) (t1 t2 : Tag) (h : FormedP a) : cP n 59 false [rqE a t1 t2] = some (Bo (decide (PlacedP a))) := by
  obtain ⟨n, rfl⟩ : ∃ m, n = m + 1 := ⟨n - 1, by omega⟩
  obtain ⟨h1, h2, h3, h4, h5, h6, h7, h8⟩ := formed_le a h
  have hc : isV a.code = true := h.1
  have q2 := fit_pos h.2.1 (cntV_le _).1
  have q3 := fit_pos h.2.2.1 (wrdV_le _).1
  have q4 := fit_pos h.2.2.2.1 (bitV_le _).1
  obtain ⟨c, ad, k, t, w, b, an, o⟩ := a
  simp only at h1 h2 h3 h4 h5 h6 h7 h8 hc q2 q3 q4
  clear h
  have fin : ∀ B, (∃ H', s_triuneref06_placed n [] 0 (rqE ⟨c, ad, k, t, w, b, an, o⟩ .sh .sh) = some (Bo B, H')) → B = decide (PlacedP ⟨c, ad, k, t, w, b, an, o⟩) → cP (n + 1) 59 false [rqE ⟨c, ad, k, t, w, b, an, o⟩ t1 t2] = some (Bo (decide (PlacedP ⟨c, ad, k, t, w, b, an, o⟩))) := by
    rintro B ⟨H', h1⟩ h2
    rw [← h2]
    exact cP_of (r := Bo B) (args' := [rqE ⟨c, ad, k, t, w, b, an, o⟩ .sh .sh]) (by simp [arg_rq]) ((s_triuneref06_placed_eq _ _ _ _).trans h1) (by simp)
  have e1 := builtD_max3 k b.length 1
  refine fin (decide (PlacedP ⟨c, ad, k, t, w, b, an, o⟩)) ⟨[.cells 58 (rqE ⟨c, ad, k, t, w, b, an, o⟩ .sh .sh).cells], ?_⟩ rfl
  unfold s_triuneref06_placed rqE
  simp -implicitDefEqProofs (disch := first | omega | (simp only [List.length_set, List.length_append, List.length_cons, List.length_nil, List.length_take, List.length_drop, List.length_map]; omega) | simp) [wrap_i64, wrap_u16_id, wrap_u8_id, tdiv_pos, tmod_pos, -getElem?_pos, -getElem?_neg, -List.length_eq_zero_iff, -List.getElem_cons_drop, -Bool.not_and, -Bool.not_or, -wantF_n, wantF_sy, wantF_sn, gO_some, gO_loadG, gO_lenD, gO_notD, gO_eqK1, gO_neK1, gO_ltK1, gO_leK1, gO_gtK1, gO_geK1, gO_max1, gO_addK1, gO_mulK1, gO_addK2, gO_ltK2, gO_leK2, gO_max2, gO_cvK, gO_idx, gO_pick, gO_pick2, gO_cP1, gO_cP1b, gO_cP2, gO_cP2a, gO_eqB, pick_t, pick_t2, pick_f, pick_f2, gd_gd, wantF_gt, wantF_gf, gO_pkf, gO_pkt, gO_pktn, gO_eqK2, gO_neK2, gO_gtK2, gO_geK2, gO_subK1, gO_subK2, gO_min1, gO_min2, gO_remK1, gO_cP3, gO_nilD, gO_fieldD, gO_idxArr1, gO_idxArr2, gO_idx2, gO_extD, e1, condR_b]
  clear fin e1
  split
  · rename_i h
    subst h
    congr 4
    rw [Bool.eq_iff_iff]
    simp [PlacedP, placesV]
    omega
  · rename_i h
    congr 4
    rw [Bool.eq_iff_iff]
    simp only [Bool.or_eq_true, decide_eq_true_eq, PlacedP, placesV]
    have h7' : (w.length : Int) ≤ 123 := by omega
    have h8' : (b.length : Int) ≤ 1968 := by omega
    clear h7 h8
    generalize (w.length : Int) = wl at *
    generalize (b.length : Int) = bl at *
    rcases code_cases c with rfl | rfl | rfl | rfl | rfl | rfl | rfl | rfl | rfl | rfl | rfl | h
    case inr.inr.inr.inr.inr.inr.inr.inr.inr.inr.inr => exact absurd hc (by unfold isV; simp [h])
    all_goals
      simp [cntV, wrdV, bitV] at q2 q3 q4
      try simp
    all_goals omega
theorem ref06_Right_c (n : Nat) (hn : 40 ≤ n) (a : Rq) (t1 t2 : Tag) : cP n 36 false [rqE a t1 t2] = some (Bo (decide (RightP a))) := by
  obtain ⟨n, rfl⟩ : ∃ m, n = m + 1 := ⟨n - 1, by omega⟩
  have e1 := ref06_formed_c n (by omega) a .sh .sh
  by_cases h : FormedP a
  · have e2 := ref06_placed_c n (by omega) a .sh .sh h
    have hr : decide (RightP a) = decide (PlacedP a) := by simp [RightP, h]
    rw [hr]
    unfold rqE at e1 e2
    rw [decide_eq_true h] at e1
    exact cP_of (r := Bo (decide (PlacedP a))) (args' := [rqE a .sh .sh]) (by simp [arg_rq]) ((s_triuneref06_Right_eq _ _ _ _).trans (by unfold s_triuneref06_Right rqE; simp -implicitDefEqProofs (disch := first | omega | (simp only [List.length_set, List.length_append, List.length_cons, List.length_nil, List.length_take, List.length_drop, List.length_map]; omega) | simp) [wrap_i64, wrap_u16_id, wrap_u8_id, tdiv_pos, tmod_pos, -getElem?_pos, -getElem?_neg, -List.length_eq_zero_iff, -List.getElem_cons_drop, e1, e2]; first | exact rfl | exact ⟨rfl, rfl⟩)) (by simp)
  · have hr : decide (RightP a) = false := by simp [RightP, h]
    rw [hr]
    unfold rqE at e1
    rw [decide_eq_false h] at e1
    exact cP_of (r := Bo false) (args' := [rqE a .sh .sh]) (by simp [arg_rq]) ((s_triuneref06_Right_eq _ _ _ _).trans (by unfold s_triuneref06_Right rqE; simp -implicitDefEqProofs (disch := first | omega | (simp only [List.length_set, List.length_append, List.length_cons, List.length_nil, List.length_take, List.length_drop, List.length_map]; omega) | simp) [wrap_i64, wrap_u16_id, wrap_u8_id, tdiv_pos, tmod_pos, -getElem?_pos, -getElem?_neg, -List.length_eq_zero_iff, -List.getElem_cons_drop, e1]; first | exact rfl | exact ⟨rfl, rfl⟩)) (by simp)
end Go.Proofs.YtcpgmbpndpcmdaaGreat
namespace Go.Proofs.YtcpgmbpndpcmdaaGreat
open Go
set_option linter.unusedSimpArgs false
set_option linter.unusedVariables false
set_option maxRecDepth 100000
def hT (b0 : DBlk) (xs : List Int) : Heap := [b0, .token 5 1 xs.length]
theorem hT_get (b0 : DBlk) (xs : List Int) : (hT b0 xs)[0]? = some b0 := rfl
theorem appT0 (c : Int) (ys : List Int) (t : Tag) (b0 : DBlk) (h : ys ≠ []) (hl : ys.length ≤ 100000) : appG 5 false 1 1 (LV 1 (I .u8) [c] .ti) (LV 1 (I .u8) ys t) [b0] 0 = some (LO (c :: ys) 1, hT b0 (c :: ys)) := by
  have := appG_ti (e := 5) (ag := false) (sz := 1) (by_ := 1) (enc := I .u8) (xs := [c]) (ys := ys) (t' := t) (H := [b0]) (fl := 0) h rfl (by simp; omega) (by simp; omega)
  rw [this]
  simp only [List.length_cons, List.length_nil, List.cons_append, List.nil_append]
  congr 2
  unfold hT
  simp
  omega
theorem appT1 (xs ys : List Int) (t : Tag) (b0 : DBlk) (hl : xs.length + ys.length ≤ 1000000) : appG 5 false 1 1 (LO xs 1) (LV 1 (I .u8) ys t) (hT b0 xs) 0 = some (LO (xs ++ ys) 1, hT b0 (xs ++ ys)) := by
  rw [appG_LO xs ys t 1 (hT b0 xs) 0 rfl (by omega) hl]
  cases ys with
  | nil => simp
  | cons y ys => simp [hT]
theorem outD_LO (H : Heap) (x : Int) (xs : List Int) (k : Nat) : outD false H (LO (x :: xs) k) = some (LV 1 (I .u8) (x :: xs) .sh) := rfl
theorem ref06_text_c (n : Nat) (hn : 40 ≤ n) (a : Rq) (h : FormedP a) (ho : RqOk a) (t1 t2 : Tag) : cP n 50 false [rqE a t1 t2] = some (LV 1 (I .u8) (textV a) .sh) := by
  obtain ⟨n, rfl⟩ : ∃ m, n = m + 1 := ⟨n - 1, by omega⟩
  have hle := formed_le a h
  have hc : isV a.code = true := h.1
  have hb5 : a.code = 5 → a.bits ≠ [] := by
    intro e hx
    have := fit_pos h.2.2.2.1 (bitV_le _).1
    rw [e, hx] at this
    simp [bitV] at this
  have hwl := wb_len a ho
  have hpl := pkl_le a ho
  obtain ⟨c, ad, k, t, w, b, an, o⟩ := a
  have ow := ho.w
  have oa := ho.a
  have oo := ho.o
  simp only at hle hc hb5 hwl hpl ow oa oo
  obtain ⟨h1, h2, h3, h4, h5, h6, h7, h8⟩ := hle
  clear h
  have fin : ∀ B, (∃ H', s_triuneref06_text n [] 0 (rqE ⟨c, ad, k, t, w, b, an, o⟩ .sh .sh) = some (B, H')) → (∀ H', outD false H' B = some (LV 1 (I .u8) (textV ⟨c, ad, k, t, w, b, an, o⟩) .sh)) → cP (n + 1) 50 false [rqE ⟨c, ad, k, t, w, b, an, o⟩ t1 t2] = some (LV 1 (I .u8) (textV ⟨c, ad, k, t, w, b, an, o⟩) .sh) := by
    rintro B ⟨H', h1⟩ h2
    exact cP_of (r := B) (args' := [rqE ⟨c, ad, k, t, w, b, an, o⟩ .sh .sh]) (by simp [arg_rq]) ((s_triuneref06_text_eq _ _ _ _).trans h1) (h2 H')
  have e1 := ref06_two_c n (by omega) ad h3 (by omega)
  have e2 := ref06_two_c n (by omega) k h1 (by omega)
  have e3 := ref06_two_c n (by omega) t h5 (by omega)
  have e4 := ref06_two_c n (by omega) b.length (by omega) (by omega)
  have e5 := ref06_two_c n (by omega) w.length (by omega) (by omega)
  have e6 := ref06_two_c n (by omega) an (by omega) (by omega)
  have e7 := ref06_two_c n (by omega) o (by omega) (by omega)
  have f1 := ref02_Bytes_c n w .sh (by omega) ow (by omega)
  have f2 := ref02_Pack_c n b .sh (by omega) (by omega)
  have t2l : ∀ x, (twoV x).length = 2 := fun x => rfl
  have s0 := fun b0 => appT0 c (twoV ad) .sh b0 (by simp [twoV]) (by rw [t2l]; omega)
  have s1 := fun (b0 : DBlk) (ys : List Int) (t : Tag) (hy : ys.length ≤ 7000) => appT1 (c :: twoV ad) ys t b0 (by rw [List.length_cons, t2l]; omega)
  rcases code_cases c with rfl | rfl | rfl | rfl | rfl | rfl | rfl | rfl | rfl | rfl | rfl | h
  case inr.inr.inr.inr.inr.inr.inr.inr.inr.inr.inr => exact absurd hc (by unfold isV; simp [h])
  case inr.inr.inr.inr.inl =>
    cases b with
    | nil => exact absurd rfl (hb5 rfl)
    | cons x b =>
      cases x
      · have s2 := fun b0 => s1 b0 [0, 0] .ti (by simp)
        have v := buildL_v2 0 0
        exact fin _ ⟨_, by unfold s_triuneref06_text rqE; simp -implicitDefEqProofs (disch := first | omega | (simp only [List.length_set, List.length_append, List.length_cons, List.length_nil, List.length_take, List.length_drop, List.length_map]; omega) | simp) [wrap_i64, wrap_u16_id, wrap_u8_id, tdiv_pos, tmod_pos, -getElem?_pos, -getElem?_neg, -List.length_eq_zero_iff, -List.getElem_cons_drop, s0, s2, hT_get, e1, v]; exact ⟨rfl, rfl⟩⟩ (fun H' => outD_LO _ _ _ _)
      · have s2 := fun b0 => s1 b0 [255, 0] .ti (by simp)
        have v := buildL_v2 255 0
        exact fin _ ⟨_, by unfold s_triuneref06_text rqE; simp -implicitDefEqProofs (disch := first | omega | (simp only [List.length_set, List.length_append, List.length_cons, List.length_nil, List.length_take, List.length_drop, List.length_map]; omega) | simp) [wrap_i64, wrap_u16_id, wrap_u8_id, tdiv_pos, tmod_pos, -getElem?_pos, -getElem?_neg, -List.length_eq_zero_iff, -List.getElem_cons_drop, s0, s2, hT_get, e1, v]; exact ⟨rfl, rfl⟩⟩ (fun H' => outD_LO _ _ _ _)
  case inr.inr.inr.inr.inr.inl =>
    have s2 := fun b0 => s1 b0 (wbI w) .sh (by omega)
    exact fin _ ⟨_, by unfold s_triuneref06_text rqE; simp -implicitDefEqProofs (disch := first | omega | (simp only [List.length_set, List.length_append, List.length_cons, List.length_nil, List.length_take, List.length_drop, List.length_map]; omega) | simp) [wrap_i64, wrap_u16_id, wrap_u8_id, tdiv_pos, tmod_pos, -getElem?_pos, -getElem?_neg, -List.length_eq_zero_iff, -List.getElem_cons_drop, s0, s2, hT_get, e1, f1]; exact ⟨rfl, rfl⟩⟩ (fun H' => outD_LO _ _ _ _)
  case inr.inr.inr.inr.inr.inr.inl =>
    have s2 := fun b0 => s1 b0 (twoV b.length) .sh (by rw [t2l]; omega)
    have s3 := fun b0 => appT1 (15 :: twoV ad ++ twoV b.length) [((pkI b).length : Int) % 256] .ti b0 (by simp [t2l])
    have s4 := fun b0 => appT1 (15 :: twoV ad ++ twoV b.length ++ [((pkI b).length : Int) % 256]) (pkI b) .sh b0 (by simp [t2l]; omega)
    simp only [List.cons_append, List.append_assoc, List.nil_append] at s2 s3 s4
    exact fin _ ⟨_, by unfold s_triuneref06_text rqE; simp -implicitDefEqProofs (disch := first | omega | (simp only [List.length_set, List.length_append, List.length_cons, List.length_nil, List.length_take, List.length_drop, List.length_map]; omega) | simp) [wrap_i64, wrap_u16_id, wrap_u8_id, tdiv_pos, tmod_pos, -getElem?_pos, -getElem?_neg, -List.length_eq_zero_iff, -List.getElem_cons_drop, s0, s2, s3, s4, hT_get, e1, e4, f2, wrap_u8]; exact ⟨rfl, rfl⟩⟩ (fun H' => outD_LO _ _ _ _)
  case inr.inr.inr.inr.inr.inr.inr.inl =>
    have s2 := fun b0 => s1 b0 (twoV w.length) .sh (by rw [t2l]; omega)
    have s3 := fun b0 => appT1 (16 :: twoV ad ++ twoV w.length) [((wbI w).length : Int) % 256] .ti b0 (by simp [t2l])
    have s4 := fun b0 => appT1 (16 :: twoV ad ++ twoV w.length ++ [((wbI w).length : Int) % 256]) (wbI w) .sh b0 (by simp [t2l]; omega)
    simp only [List.cons_append, List.append_assoc, List.nil_append] at s2 s3 s4
    exact fin _ ⟨_, by unfold s_triuneref06_text rqE; simp -implicitDefEqProofs (disch := first | omega | (simp only [List.length_set, List.length_append, List.length_cons, List.length_nil, List.length_take, List.length_drop, List.length_map]; omega) | simp) [wrap_i64, wrap_u16_id, wrap_u8_id, tdiv_pos, tmod_pos, -getElem?_pos, -getElem?_neg, -List.length_eq_zero_iff, -List.getElem_cons_drop, s0, s2, s3, s4, hT_get, e1, e5, f1, wrap_u8]; exact ⟨rfl, rfl⟩⟩ (fun H' => outD_LO _ _ _ _)
  case inr.inr.inr.inr.inr.inr.inr.inr.inl =>
    have s2 := fun b0 => s1 b0 (twoV an) .sh (by rw [t2l]; omega)
    have s3 := fun b0 => appT1 (22 :: twoV ad ++ twoV an) (twoV o) .sh b0 (by simp [t2l])
    simp only [List.cons_append, List.append_assoc, List.nil_append] at s2 s3
    exact fin _ ⟨_, by unfold s_triuneref06_text rqE; simp -implicitDefEqProofs (disch := first | omega | (simp only [List.length_set, List.length_append, List.length_cons, List.length_nil, List.length_take, List.length_drop, List.length_map]; omega) | simp) [wrap_i64, wrap_u16_id, wrap_u8_id, tdiv_pos, tmod_pos, -getElem?_pos, -getElem?_neg, -List.length_eq_zero_iff, -List.getElem_cons_drop, s0, s2, s3, hT_get, e1, e6, e7]; exact ⟨rfl, rfl⟩⟩ (fun H' => outD_LO _ _ _ _)
  case inr.inr.inr.inr.inr.inr.inr.inr.inr.inl =>
    have s2 := fun b0 => s1 b0 (twoV k) .sh (by rw [t2l]; omega)
    have s3 := fun b0 => appT1 (23 :: twoV ad ++ twoV k) (twoV t) .sh b0 (by simp [t2l])
    have s4 := fun b0 => appT1 (23 :: twoV ad ++ twoV k ++ twoV t) (twoV w.length) .sh b0 (by simp [t2l])
    have s5 := fun b0 => appT1 (23 :: twoV ad ++ twoV k ++ twoV t ++ twoV w.length) [((wbI w).length : Int) % 256] .ti b0 (by simp [t2l])
    have s6 := fun b0 => appT1 (23 :: twoV ad ++ twoV k ++ twoV t ++ twoV w.length ++ [((wbI w).length : Int) % 256]) (wbI w) .sh b0 (by simp [t2l]; omega)
    simp only [List.cons_append, List.append_assoc, List.nil_append] at s2 s3 s4 s5 s6
    exact fin _ ⟨_, by unfold s_triuneref06_text rqE; simp -implicitDefEqProofs (disch := first | omega | (simp only [List.length_set, List.length_append, List.length_cons, List.length_nil, List.length_take, List.length_drop, List.length_map]; omega) | simp) [wrap_i64, wrap_u16_id, wrap_u8_id, tdiv_pos, tmod_pos, -getElem?_pos, -getElem?_neg, -List.length_eq_zero_iff, -List.getElem_cons_drop, s0, s2, s3, s4, s5, s6, hT_get, e1, e2, e3, e5, f1, wrap_u8]; exact ⟨rfl, rfl⟩⟩ (fun H' => outD_LO _ _ _ _)
  case inr.inr.inr.inr.inr.inr.inr.inr.inr.inr.inl =>
    have v := buildL_u4 43 14 (k % 256) (ad % 256)
    exact fin _ ⟨_, by unfold s_triuneref06_text rqE; simp -implicitDefEqProofs (disch := first | omega | (simp only [List.length_set, List.length_append, List.length_cons, List.length_nil, List.length_take, List.length_drop, List.length_map]; omega) | simp) [wrap_i64, wrap_u16_id, wrap_u8_id, tdiv_pos, tmod_pos, -getElem?_pos, -getElem?_neg, -List.length_eq_zero_iff, -List.getElem_cons_drop, s0, hT_get, e1, v, wrap_u8]; exact ⟨rfl, rfl⟩⟩ (fun H' => rfl)
  all_goals
    have s2 := fun b0 => s1 b0 (twoV k) .sh (by rw [t2l]; omega)
    exact fin _ ⟨_, by unfold s_triuneref06_text rqE; simp -implicitDefEqProofs (disch := first | omega | (simp only [List.length_set, List.length_append, List.length_cons, List.length_nil, List.length_take, List.length_drop, List.length_map]; omega) | simp) [wrap_i64, wrap_u16_id, wrap_u8_id, tdiv_pos, tmod_pos, -getElem?_pos, -getElem?_neg, -List.length_eq_zero_iff, -List.getElem_cons_drop, s0, s2, hT_get, e1, e2]; exact ⟨rfl, rfl⟩⟩ (fun H' => outD_LO _ _ _ _)
end Go.Proofs.YtcpgmbpndpcmdaaGreat
namespace Go.Proofs.YtcpgmbpndpcmdaaGreat
open Go
set_option linter.unusedSimpArgs false
set_option linter.unusedVariables false
set_option maxRecDepth 100000
def pbit (p : List Int) (i : Nat) : Bool := decide (p.getD (i / 8) 0 / 2 ^ (i % 8) % 2 = 1)
def gBits (n : Int) (p : List Int) : List Bool := (List.range (min n.toNat (8 * p.length))).map (pbit p)
def LOb (xs : List Bool) (k : Nat) : DV := .list 1 (xs.map Bo) (.own k)
theorem LOb_leaf (xs : List Bool) (k : Nat) : (LOb xs k).leaf = true := rfl
theorem LOb_cells (xs : List Bool) (k : Nat) : (LOb xs k).cells = [LOb xs k] := rfl
theorem round_ok (p : List Int) (hp : Bytes p) (i : Nat) (h : i < 8 * p.length) : ∃ h' : i / 8 < p.length, 0 ≤ p[i / 8] ∧ p[i / 8] < 256 ∧ pbit p i = decide (p[i / 8] / 2 ^ (i % 8) % 2 = 1) := by
  have h' : i / 8 < p.length := by omega
  have := hp _ (List.getElem_mem h')
  refine ⟨h', this.1, this.2, ?_⟩
  unfold pbit
  rw [show p.getD (i / 8) 0 = p[i / 8] by simp [h']]
end Go.Proofs.YtcpgmbpndpcmdaaGreat
namespace Go.Proofs.YtcpgmbpndpcmdaaGreat
open Go
set_option linter.unusedSimpArgs false
set_option linter.unusedVariables false
set_option maxRecDepth 100000
def guessV (b : List Int) : Rq :=
  let c := b.getD 0 0
  let a : Rq := ⟨c, numV b 1, 0, 0, [], [], 0, 0⟩
  if c = 5 then { a with bits := [decide (¬ numV b 3 = 0)] }
  else if c = 6 then { a with words := [numV b 3] }
  else if c = 15 then { a with bits := gBits (numV b 3) (b.drop 6) }
  else if c = 16 then { a with words := wdI (b.drop 6) }
  else if c = 22 then { a with and_ := numV b 3, or_ := numV b 5 }
  else if c = 23 then { a with cnt := numV b 3, to_ := numV b 5, words := wdI (b.drop 10) }
  else if c = 43 then (if b.length = 4 then ⟨c, b.getD 3 0, b.getD 2 0, 0, [], [], 0, 0⟩ else ⟨c, 0, 0, 0, [], [], 0, 0⟩)
  else { a with cnt := numV b 3 }
theorem gBits_nil (n : Int) (p : List Int) (h : min n.toNat (8 * p.length) = 0) : gBits n p = [] := by unfold gBits; rw [h]; rfl
theorem gBits_len (n : Int) (p : List Int) : (gBits n p).length = min n.toNat (8 * p.length) := by simp [gBits]
section
variable (n : Nat) (hn : 5 ≤ n) (l : List Int) (h : Bytes l) (hl : l.length ≤ 10000)
include hn h hl
end
end Go.Proofs.YtcpgmbpndpcmdaaGreat
namespace Go.Proofs.YtcpgmbpndpcmdaaGreat
open Go
set_option linter.unusedSimpArgs false
set_option linter.unusedVariables false
set_option maxRecDepth 100000
theorem text_len (a : Rq) (ho : RqOk a) : (textV a).length ≤ 8000 := by
  have := tail_len a ho
  unfold textV
  split
  · simp
  · simp [twoV]
    omega
theorem ref06_Bytes_c (n : Nat) (hn : 60 ≤ n) (a : Rq) (ho : RqOk a) (t1 t2 : Tag) : cP n 25 false [rqE a t1 t2] = some (if RightP a then .tup [LV 1 (I .u8) (textV a) .sh, I .i64 0] else .tup [LV 1 (I .u8) [] .sh, I .i64 2]) := by
  obtain ⟨n, rfl⟩ : ∃ m, n = m + 1 := ⟨n - 1, by omega⟩
  have e1 := ref06_Right_c n (by omega) a .sh .sh
  by_cases h : RightP a
  · rw [if_pos h]
    rw [decide_eq_true h] at e1
    have e2 := ref06_text_c n (by omega) a h.1 ho .sh .sh
    unfold rqE at e1 e2
    exact cP_of (r := .tup [LV 1 (I .u8) (textV a) .sh, I .i64 0]) (args' := [rqE a .sh .sh]) (by simp [arg_rq]) ((s_triuneref06_Bytes_eq _ _ _ _).trans (by unfold s_triuneref06_Bytes rqE; simp -implicitDefEqProofs (disch := first | omega | (simp only [List.length_set, List.length_append, List.length_cons, List.length_nil, List.length_take, List.length_drop, List.length_map]; omega) | simp) [wrap_i64, wrap_u16_id, wrap_u8_id, tdiv_pos, tmod_pos, -getElem?_pos, -getElem?_neg, -List.length_eq_zero_iff, -List.getElem_cons_drop, e1, e2]; first | exact rfl | exact ⟨rfl, rfl⟩)) (by simp)
  · rw [if_neg h]
    rw [decide_eq_false h] at e1
    unfold rqE at e1
    exact cP_of (r := .tup [LV 1 (I .u8) [] .ti, I .i64 2]) (args' := [rqE a .sh .sh]) (by simp [arg_rq]) ((s_triuneref06_Bytes_eq _ _ _ _).trans (by unfold s_triuneref06_Bytes rqE; simp -implicitDefEqProofs (disch := first | omega | (simp only [List.length_set, List.length_append, List.length_cons, List.length_nil, List.length_take, List.length_drop, List.length_map]; omega) | simp) [wrap_i64, wrap_u16_id, wrap_u8_id, tdiv_pos, tmod_pos, -getElem?_pos, -getElem?_neg, -List.length_eq_zero_iff, -List.getElem_cons_drop, e1, LV_nil 1 (I .u8)]; first | exact rfl | exact ⟨rfl, rfl⟩)) (by simp)
end Go.Proofs.YtcpgmbpndpcmdaaGreat
