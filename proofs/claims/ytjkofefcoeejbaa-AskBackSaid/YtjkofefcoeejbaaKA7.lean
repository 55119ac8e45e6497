/- Texts of mine, laid together: GRef06, GRef6T, GRef6G, GRef6P, GRef6Q, GAskZ, GAskY. -/
import Derived.Test.YtjkofefcoeejbaaKA6
/- Requests: the document's. -/
namespace Go.Proofs.Ytjkofefcoeejbaa
open Go
set_option linter.unusedSimpArgs false
set_option linter.unusedVariables false
set_option maxRecDepth 100000
theorem buildL_v2 (a b : Int) : buildL false 1 2 (I .u8 0) [(0, I .u8 a), (1, I .u8 b)] = some (LV 1 (I .u8) [a, b] .ti) := rfl
theorem ref06_two_c (n : Nat) (hn : 1 ≤ n) (x : Int) (h0 : 0 ≤ x) (h1 : x < 9223372036854775808) : cP n 81 false [I .i64 x] = some (LV 1 (I .u8) (twoV x) .sh) := by
  obtain ⟨n, rfl⟩ : ∃ m, n = m + 1 := ⟨n - 1, by omega⟩
  have e := buildL_v2 (x / 256 % 256) (x % 256)
  have e2 : x % 256 % 256 = x % 256 := by omega
  exact cP_of (r := LV 1 (I .u8) (twoV x) .ti) (args' := [I .i64 x]) rfl ((s_triuneref06_two_eq _ _ _ _).trans (by unfold s_triuneref06_two; simp -implicitDefEqProofs (disch := first | omega | (simp only [List.length_set, List.length_append, List.length_cons, List.length_nil, List.length_take, List.length_drop, List.length_map]; omega) | simp) [wrap_i64, wrap_u16_id, wrap_u8_id, tdiv_pos, tmod_pos, -getElem?_pos, -getElem?_neg, -List.length_eq_zero_iff, -List.getElem_cons_drop, wrap_u8, e2, e]; first | done | exact ⟨rfl, rfl⟩)) (by simp)
theorem ref06_number_c (n : Nat) (hn : 1 ≤ n) (l : List Int) (h : Bytes l) (hl : l.length ≤ 100000) (t : Tag) (i : Nat) (hi : i ≤ 100) : cP n 87 false [LV 1 (I .u8) l t, I .i64 i] = some (I .i64 (numV l i)) := by
  obtain ⟨n, rfl⟩ : ∃ m, n = m + 1 := ⟨n - 1, by omega⟩
  by_cases c : i + 2 ≤ l.length
  · have h1 : i < l.length := by omega
    have h2 : i + 1 < l.length := by omega
    have e1 : l.getD i 0 = l[i] := by simp [h1]
    have e2 : l.getD (i + 1) 0 = l[i + 1] := by simp [h2]
    have a1 := h l[i] (List.getElem_mem h1)
    have a2 := h l[i + 1] (List.getElem_mem h2)
    have hx : numV l i = (256 : Int) * l[i] + l[i + 1] := by unfold numV; rw [if_pos c, e1, e2]
    have e4 : ((i : Int) + 1).toNat = i + 1 := by omega
    rw [hx]
    exact cP_of (r := I .i64 ((256 : Int) * l[i] + l[i + 1])) (args' := [LV 1 (I .u8) l .sh, I .i64 i]) (by simp [argEl_eq]) ((s_triuneref06_number_eq _ _ _ _ _).trans (by unfold s_triuneref06_number; simp -implicitDefEqProofs (disch := first | omega | (simp only [List.length_set, List.length_append, List.length_cons, List.length_nil, List.length_take, List.length_drop, List.length_map]; omega) | simp) [wrap_i64, wrap_u16_id, wrap_u8_id, tdiv_pos, tmod_pos, -getElem?_pos, -getElem?_neg, -List.length_eq_zero_iff, -List.getElem_cons_drop, e4, h1, h2]; first | exact rfl | exact ⟨rfl, rfl⟩)) rfl
  · have hx : numV l i = 0 := by unfold numV; rw [if_neg c]
    rw [hx]
    exact cP_of (r := I .i64 0) (args' := [LV 1 (I .u8) l .sh, I .i64 i]) (by simp [argEl_eq]) ((s_triuneref06_number_eq _ _ _ _ _).trans (by unfold s_triuneref06_number; simp -implicitDefEqProofs (disch := first | omega | (simp only [List.length_set, List.length_append, List.length_cons, List.length_nil, List.length_take, List.length_drop, List.length_map]; omega) | simp) [wrap_i64, wrap_u16_id, wrap_u8_id, tdiv_pos, tmod_pos, -getElem?_pos, -getElem?_neg, -List.length_eq_zero_iff, -List.getElem_cons_drop]; first | exact rfl | exact ⟨rfl, rfl⟩)) rfl
theorem ref06_behind_c (n : Nat) (hn : 1 ≤ n) (l : List Int) (t : Tag) (i : Nat) (hl : l.length ≤ 100000) : cP n 88 false [LV 1 (I .u8) l t, I .i64 i] = some (LV 1 (I .u8) (l.drop i) .sh) := by
  obtain ⟨n, rfl⟩ : ∃ m, n = m + 1 := ⟨n - 1, by omega⟩
  have e : l.drop (min (i : Int) l.length).toNat = l.drop i := by
    rcases Nat.lt_or_ge i l.length with h | h
    · rw [show (min (i : Int) l.length).toNat = i by omega]
    · rw [show (min (i : Int) l.length).toNat = l.length by omega, List.drop_length, List.drop_eq_nil_of_le h]
  exact cP_of (r := LV 1 (I .u8) (l.drop i) .sh) (args' := [LV 1 (I .u8) l .sh, I .i64 i]) (by simp [argEl_eq]) ((s_triuneref06_behind_eq _ _ _ _ _).trans (by unfold s_triuneref06_behind; simp -implicitDefEqProofs (disch := first | omega | (simp only [List.length_set, List.length_append, List.length_cons, List.length_nil, List.length_take, List.length_drop, List.length_map]; omega) | simp) [wrap_i64, wrap_u16_id, wrap_u8_id, tdiv_pos, tmod_pos, -getElem?_pos, -getElem?_neg, -List.length_eq_zero_iff, -List.getElem_cons_drop, e]; first | exact rfl | exact ⟨rfl, rfl⟩)) (by simp)
theorem ref06_most_c (n : Nat) (hn : 1 ≤ n) (c : Int) : cP n 90 false [I .i64 c] = some (.tup [I .i64 (cntV c), I .i64 (wrdV c), I .i64 (bitV c)]) := by
  obtain ⟨n, rfl⟩ : ∃ m, n = m + 1 := ⟨n - 1, by omega⟩
  have go : ∀ r, (∃ H', s_triuneref06_most n [] 0 (I .i64 c) = some (r, H')) → (∀ H', outD false H' r = some r) → r = .tup [I .i64 (cntV c), I .i64 (wrdV c), I .i64 (bitV c)] → cP (n + 1) 90 false [I .i64 c] = some (.tup [I .i64 (cntV c), I .i64 (wrdV c), I .i64 (bitV c)]) := by
    intro r ⟨H', h⟩ h1 h2
    rw [← h2]
    exact cP_of rfl ((s_triuneref06_most_eq _ _ _ _).trans h) (h1 H')
  rcases code_cases c with rfl | rfl | rfl | rfl | rfl | rfl | rfl | rfl | rfl | rfl | rfl | h
  all_goals first
    | (refine go _ ⟨_, rfl⟩ (fun H' => rfl) rfl)
    | (refine go (.tup [I .i64 0, I .i64 0, I .i64 0]) ⟨_, by unfold s_triuneref06_most; simp -implicitDefEqProofs (disch := first | omega | (simp only [List.length_set, List.length_append, List.length_cons, List.length_nil, List.length_take, List.length_drop, List.length_map]; omega) | simp) [wrap_i64, wrap_u16_id, wrap_u8_id, tdiv_pos, tmod_pos, -getElem?_pos, -getElem?_neg, -List.length_eq_zero_iff, -List.getElem_cons_drop, h]; first | done | rfl | exact ⟨rfl, rfl⟩⟩ (fun H' => rfl) ?_
       unfold cntV wrdV bitV
       simp [h])
theorem is_L (n fl : Nat) (l : List Int) (x : Int) (t : Tag) (H : Heap) (hl : l.length ≤ 1000) : ∀ (m i : Nat), l.length < m + i → i ≤ l.length →
    (x ∈ l.drop i → ∀ K, s_triuneref06_is_L0 n fl K m (I .i64 x) (LV 1 (I .i64) l t) (I .i64 i) H = K .ret (s_triuneref06_is_O0 (Bo true)) H) ∧
    (x ∉ l.drop i → ∀ K, s_triuneref06_is_L0 n fl K m (I .i64 x) (LV 1 (I .i64) l t) (I .i64 i) H = K (.exit 0) (s_triuneref06_is_O0 .any) H) := by
  intro m
  induction m with
  | zero => intro i h; omega
  | succ m ih =>
    intro i hm hi
    by_cases h : i < l.length
    · obtain ⟨i1, i2⟩ := ih (i + 1) (by omega) (by omega)
      have hi2 : ((i + 1 : Nat) : Int) = (i : Int) + 1 := by omega
      rw [hi2] at i1 i2
      have hd : l.drop i = l[i] :: l.drop (i + 1) := List.drop_eq_getElem_cons h
      rw [hd]
      by_cases hx : l[i] = x
      · have hx' : decide (l[i] = x) = true := by simp [hx]
        exact ⟨fun _ K => by unfold s_triuneref06_is_L0 s_triuneref06_is_B0; simp -implicitDefEqProofs (disch := first | omega | (simp only [List.length_set, List.length_append, List.length_cons, List.length_nil, List.length_take, List.length_drop, List.length_map]; omega) | simp) [wrap_i64, wrap_u16_id, wrap_u8_id, tdiv_pos, tmod_pos, -getElem?_pos, -getElem?_neg, -List.length_eq_zero_iff, -List.getElem_cons_drop, h, hx'], fun q => absurd (List.mem_cons.2 (.inl hx.symm)) q⟩
      · have hx2 : ¬ x = l[i] := fun e => hx e.symm
        refine ⟨fun q K => ?_, fun q K => ?_⟩
        · have e := i1 ((List.mem_cons.1 q).resolve_left hx2)
          unfold s_triuneref06_is_L0 s_triuneref06_is_B0
          simp -implicitDefEqProofs (disch := first | omega | (simp only [List.length_set, List.length_append, List.length_cons, List.length_nil, List.length_take, List.length_drop, List.length_map]; omega) | simp) [wrap_i64, wrap_u16_id, wrap_u8_id, tdiv_pos, tmod_pos, -getElem?_pos, -getElem?_neg, -List.length_eq_zero_iff, -List.getElem_cons_drop, h, hx, e]
        · have e := i2 (fun h' => q (List.mem_cons.2 (.inr h')))
          unfold s_triuneref06_is_L0 s_triuneref06_is_B0
          simp -implicitDefEqProofs (disch := first | omega | (simp only [List.length_set, List.length_append, List.length_cons, List.length_nil, List.length_take, List.length_drop, List.length_map]; omega) | simp) [wrap_i64, wrap_u16_id, wrap_u8_id, tdiv_pos, tmod_pos, -getElem?_pos, -getElem?_neg, -List.length_eq_zero_iff, -List.getElem_cons_drop, h, hx, e]
    · have : i = l.length := by omega
      subst this
      rw [List.drop_length]
      refine ⟨fun q => by simp at q, fun q K => ?_⟩
      unfold s_triuneref06_is_L0 s_triuneref06_is_B0
      simp -implicitDefEqProofs (disch := first | omega | (simp only [List.length_set, List.length_append, List.length_cons, List.length_nil, List.length_take, List.length_drop, List.length_map]; omega) | simp) [wrap_i64, wrap_u16_id, wrap_u8_id, tdiv_pos, tmod_pos, -getElem?_pos, -getElem?_neg, -List.length_eq_zero_iff, -List.getElem_cons_drop]
def codesV : List Int := [1, 2, 3, 4, 5, 6, 15, 16, 22, 23, 43]
theorem buildL_codes : buildL false 1 11 (I .i64 0) [(0, (I .i64 1)), (1, (I .i64 2)), (2, (I .i64 3)), (3, (I .i64 4)), (4, (I .i64 5)), (5, (I .i64 6)), (6, (I .i64 15)), (7, (I .i64 16)), (8, (I .i64 22)), (9, (I .i64 23)), (10, (I .i64 43))] = some (LV 1 (I .i64) codesV .ti) := by kernel_rfl
theorem ref06_is_c (n : Nat) (hn : 20 ≤ n) (c : Int) : cP n 51 false [I .i64 c] = some (Bo (isV c)) := by
  obtain ⟨n, rfl⟩ : ∃ m, n = m + 1 := ⟨n - 1, by omega⟩
  have hl : codesV.length = 11 := rfl
  obtain ⟨i1, i2⟩ := is_L n 0 codesV c .ti [] (by rw [hl]; omega) n 0 (by rw [hl]; omega) (by omega)
  have hm : isV c = decide (c ∈ codesV) := by unfold isV codesV; simp only [List.mem_cons, List.not_mem_nil, or_false]
  rw [hm]
  rw [List.drop_zero] at i1 i2
  have e1 := buildL_codes
  by_cases h : c ∈ codesV
  · have q : ∀ K, loopG [0, 3, 4] [2] 18 (s_triuneref06_is_b0 n 0) n (s_triuneref06_is_I0 (I .i64 c) (LV 1 (I .i64) codesV .ti) (I .i64 0)) [] K = _ := fun K => (s_triuneref06_is_L0_eq _ _ _ _ _ _ _ _).trans (i1 h K)
    rw [decide_eq_true h]
    exact cP_of (r := Bo true) (args' := [I .i64 c]) rfl ((s_triuneref06_is_eq _ _ _ _).trans (by unfold s_triuneref06_is; simp -implicitDefEqProofs (disch := first | omega | (simp only [List.length_set, List.length_append, List.length_cons, List.length_nil, List.length_take, List.length_drop, List.length_map]; omega) | simp) [wrap_i64, wrap_u16_id, wrap_u8_id, tdiv_pos, tmod_pos, -getElem?_pos, -getElem?_neg, -List.length_eq_zero_iff, -List.getElem_cons_drop, e1, q, s_triuneref06_is_O0]; first | exact rfl | exact ⟨rfl, rfl⟩)) rfl
  · have q : ∀ K, loopG [0, 3, 4] [2] 18 (s_triuneref06_is_b0 n 0) n (s_triuneref06_is_I0 (I .i64 c) (LV 1 (I .i64) codesV .ti) (I .i64 0)) [] K = _ := fun K => (s_triuneref06_is_L0_eq _ _ _ _ _ _ _ _).trans (i2 h K)
    rw [decide_eq_false h]
    exact cP_of (r := Bo false) (args' := [I .i64 c]) rfl ((s_triuneref06_is_eq _ _ _ _).trans (by unfold s_triuneref06_is; simp -implicitDefEqProofs (disch := first | omega | (simp only [List.length_set, List.length_append, List.length_cons, List.length_nil, List.length_take, List.length_drop, List.length_map]; omega) | simp) [wrap_i64, wrap_u16_id, wrap_u8_id, tdiv_pos, tmod_pos, -getElem?_pos, -getElem?_neg, -List.length_eq_zero_iff, -List.getElem_cons_drop, e1, q, s_triuneref06_is_O0]; first | exact rfl | exact ⟨rfl, rfl⟩)) rfl
theorem ref06_fits_c (n : Nat) (hn : 1 ≤ n) (x m : Int) : cP n 91 false [I .i64 x, I .i64 m] = some (Bo (fitV x m)) := by
  obtain ⟨n, rfl⟩ : ∃ m, n = m + 1 := ⟨n - 1, by omega⟩
  refine cP_of (r := Bo (decide (x = 0) && decide (m = 0) || decide (1 ≤ x) && decide (x ≤ m))) (args' := [I .i64 x, I .i64 m]) (by simp [argEl_eq]) ((s_triuneref06_fits_eq _ _ _ _ _).trans (by unfold s_triuneref06_fits; simp -implicitDefEqProofs (disch := first | omega | (simp only [List.length_set, List.length_append, List.length_cons, List.length_nil, List.length_take, List.length_drop, List.length_map]; omega) | simp) [wrap_i64, wrap_u16_id, wrap_u8_id, tdiv_pos, tmod_pos, -getElem?_pos, -getElem?_neg, -List.length_eq_zero_iff, -List.getElem_cons_drop, -Bool.not_and, -Bool.not_or, -wantF_n, wantF_sy, wantF_sn, gO_some, gO_loadG, gO_lenD, gO_notD, gO_eqK1, gO_neK1, gO_ltK1, gO_leK1, gO_gtK1, gO_geK1, gO_max1, gO_addK1, gO_mulK1, gO_addK2, gO_ltK2, gO_leK2, gO_max2, gO_cvK, gO_idx, gO_pick, gO_pick2, gO_cP1, gO_cP1b, gO_cP2, gO_cP2a, gO_eqB, pick_t, pick_t2, pick_f, pick_f2, gd_gd, wantF_gt, wantF_gf, gO_pkf, gO_pkt, gO_pktn]; first | done | rfl)) ?_
  simp only [outD_flat, Option.some.injEq, DV.flat.injEq, Value.bool.injEq]
  unfold fitV
  rw [Bool.eq_iff_iff]
  simp
theorem ref06_Writes_c (n : Nat) (hn : 1 ≤ n) (c : Int) : cP n 23 false [I .i64 c] = some (Bo (writesV c)) := by
  obtain ⟨n, rfl⟩ : ∃ m, n = m + 1 := ⟨n - 1, by omega⟩
  have fin : ∀ B, (∃ H', s_triuneref06_Writes n [] 0 (I .i64 c) = some (Bo B, H')) → B = writesV c → cP (n + 1) 23 false [I .i64 c] = some (Bo (writesV c)) := by
    rintro B ⟨H', h1⟩ h2
    rw [← h2]
    exact cP_of (r := Bo B) (args' := [I .i64 c]) rfl ((s_triuneref06_Writes_eq _ _ _ _).trans h1) (by simp)
  refine fin _ ⟨_, by unfold s_triuneref06_Writes; simp -implicitDefEqProofs (disch := first | omega | (simp only [List.length_set, List.length_append, List.length_cons, List.length_nil, List.length_take, List.length_drop, List.length_map]; omega) | simp) [wrap_i64, wrap_u16_id, wrap_u8_id, tdiv_pos, tmod_pos, -getElem?_pos, -getElem?_neg, -List.length_eq_zero_iff, -List.getElem_cons_drop, -Bool.not_and, -Bool.not_or, -wantF_n, wantF_sy, wantF_sn, gO_some, gO_loadG, gO_lenD, gO_notD, gO_eqK1, gO_neK1, gO_ltK1, gO_leK1, gO_gtK1, gO_geK1, gO_max1, gO_addK1, gO_mulK1, gO_addK2, gO_ltK2, gO_leK2, gO_max2, gO_cvK, gO_idx, gO_pick, gO_pick2, gO_cP1, gO_cP1b, gO_cP2, gO_cP2a, gO_eqB, pick_t, pick_t2, pick_f, pick_f2, gd_gd, wantF_gt, wantF_gf, gO_pkf, gO_pkt, gO_pktn]; exact ⟨rfl, rfl⟩⟩ ?_
  unfold writesV
  rw [Bool.eq_iff_iff]
  simp [or_assoc]
theorem builtD_max3 (a b c : Int) : builtD Try.prog .max #[3, 3, 3] 3 [I .i64 a, I .i64 b, I .i64 c] = some (I .i64 (max (max a b) c)) := by
  have h : builtD Try.prog .max #[3, 3, 3] 3 [I .i64 a, I .i64 b, I .i64 c] = some (I .i64 (if c > (if b > a then b else a) then c else if b > a then b else a)) := rfl
  rw [h, show (if c > (if b > a then b else a) then c else if b > a then b else a) = max (max a b) c by omega]
theorem ref06_formed_c (n : Nat) (hn : 30 ≤ n) (a : Rq) (t1 t2 : Tag) : cP n 53 false [rqE a t1 t2] = some (Bo (decide (FormedP a))) := by
  obtain ⟨n, rfl⟩ : ∃ m, n = m + 1 := ⟨n - 1, by omega⟩
  obtain ⟨c, ad, k, t, w, b, an, o⟩ := a
  have e1 := ref06_most_c n (by omega) c
  have e2 := ref06_is_c n (by omega) c
  have f1 := ref06_fits_c n (by omega) k (cntV c)
  have f2 := ref06_fits_c n (by omega) w.length (wrdV c)
  have f3 := ref06_fits_c n (by omega) b.length (bitV c)
  have fin : ∀ B, (∃ H', s_triuneref06_formed n [] 0 (rqE ⟨c, ad, k, t, w, b, an, o⟩ .sh .sh) = some (Bo B, H')) → B = decide (FormedP ⟨c, ad, k, t, w, b, an, o⟩) → cP (n + 1) 53 false [rqE ⟨c, ad, k, t, w, b, an, o⟩ t1 t2] = some (Bo (decide (FormedP ⟨c, ad, k, t, w, b, an, o⟩))) := by
    rintro B ⟨H', h1⟩ h2
    rw [← h2]
    exact cP_of (r := Bo B) (args' := [rqE ⟨c, ad, k, t, w, b, an, o⟩ .sh .sh]) (by simp [arg_rq]) ((s_triuneref06_formed_eq _ _ _ _).trans h1) (by simp)
  refine fin (decide (FormedP ⟨c, ad, k, t, w, b, an, o⟩)) ⟨[.cells 30 (rqE ⟨c, ad, k, t, w, b, an, o⟩ .sh .sh).cells], ?_⟩ rfl
  unfold s_triuneref06_formed rqE
  simp -implicitDefEqProofs (disch := first | omega | (simp only [List.length_set, List.length_append, List.length_cons, List.length_nil, List.length_take, List.length_drop, List.length_map]; omega) | simp) [wrap_i64, wrap_u16_id, wrap_u8_id, tdiv_pos, tmod_pos, -getElem?_pos, -getElem?_neg, -List.length_eq_zero_iff, -List.getElem_cons_drop, -Bool.not_and, -Bool.not_or, -wantF_n, wantF_sy, wantF_sn, gO_some, gO_loadG, gO_lenD, gO_notD, gO_eqK1, gO_neK1, gO_ltK1, gO_leK1, gO_gtK1, gO_geK1, gO_max1, gO_addK1, gO_mulK1, gO_addK2, gO_ltK2, gO_leK2, gO_max2, gO_cvK, gO_idx, gO_pick, gO_pick2, gO_cP1, gO_cP1b, gO_cP2, gO_cP2a, gO_eqB, pick_t, pick_t2, pick_f, pick_f2, gd_gd, wantF_gt, wantF_gf, gO_pkf, gO_pkt, gO_pktn, e1, e2, f1, f2, f3, condR_b]
  clear fin e1 e2 f1 f2 f3
  split
  · rename_i h
    rw [decide_eq_false (show ¬ FormedP ⟨c, ad, k, t, w, b, an, o⟩ by simp only [FormedP]; grind)]
  · rename_i h
    split
    · rename_i h2
      rw [decide_eq_false (show ¬ FormedP ⟨c, ad, k, t, w, b, an, o⟩ by simp only [FormedP]; grind)]
    · rename_i h2
      congr 4
      rw [Bool.eq_iff_iff]
      simp only [FormedP, Bool.and_eq_true, Bool.or_eq_true, decide_eq_true_eq, Bool.not_eq_true', decide_eq_false_iff_not]
      grind
theorem ref06_placed_c (n : Nat) (hn : 3 ≤ n) (a : Rq) (t1 t2 : Tag) (h : FormedP a) : cP n 54 false [rqE a t1 t2] = some (Bo (decide (PlacedP a))) := by
  obtain ⟨n, rfl⟩ : ∃ m, n = m + 1 := ⟨n - 1, by omega⟩
  obtain ⟨h1, h2, h3, h4, h5, h6, h7, h8⟩ := formed_le a h
  have hc : isV a.code = true := h.1
  have q2 := fit_pos h.2.1 (cntV_le _).1
  have q3 := fit_pos h.2.2.1 (wrdV_le _).1
  have q4 := fit_pos h.2.2.2.1 (bitV_le _).1
  obtain ⟨c, ad, k, t, w, b, an, o⟩ := a
  simp only at h1 h2 h3 h4 h5 h6 h7 h8 hc q2 q3 q4
  clear h
  have fin : ∀ B, (∃ H', s_triuneref06_placed n [] 0 (rqE ⟨c, ad, k, t, w, b, an, o⟩ .sh .sh) = some (Bo B, H')) → B = decide (PlacedP ⟨c, ad, k, t, w, b, an, o⟩) → cP (n + 1) 54 false [rqE ⟨c, ad, k, t, w, b, an, o⟩ t1 t2] = some (Bo (decide (PlacedP ⟨c, ad, k, t, w, b, an, o⟩))) := by
    rintro B ⟨H', h1⟩ h2
    rw [← h2]
    exact cP_of (r := Bo B) (args' := [rqE ⟨c, ad, k, t, w, b, an, o⟩ .sh .sh]) (by simp [arg_rq]) ((s_triuneref06_placed_eq _ _ _ _).trans h1) (by simp)
  have e1 := builtD_max3 k b.length 1
  refine fin (decide (PlacedP ⟨c, ad, k, t, w, b, an, o⟩)) ⟨[.cells 30 (rqE ⟨c, ad, k, t, w, b, an, o⟩ .sh .sh).cells], ?_⟩ rfl
  unfold s_triuneref06_placed rqE
  simp -implicitDefEqProofs (disch := first | omega | (simp only [List.length_set, List.length_append, List.length_cons, List.length_nil, List.length_take, List.length_drop, List.length_map]; omega) | simp) [wrap_i64, wrap_u16_id, wrap_u8_id, tdiv_pos, tmod_pos, -getElem?_pos, -getElem?_neg, -List.length_eq_zero_iff, -List.getElem_cons_drop, -Bool.not_and, -Bool.not_or, -wantF_n, wantF_sy, wantF_sn, gO_some, gO_loadG, gO_lenD, gO_notD, gO_eqK1, gO_neK1, gO_ltK1, gO_leK1, gO_gtK1, gO_geK1, gO_max1, gO_addK1, gO_mulK1, gO_addK2, gO_ltK2, gO_leK2, gO_max2, gO_cvK, gO_idx, gO_pick, gO_pick2, gO_cP1, gO_cP1b, gO_cP2, gO_cP2a, gO_eqB, pick_t, pick_t2, pick_f, pick_f2, gd_gd, wantF_gt, wantF_gf, gO_pkf, gO_pkt, gO_pktn, e1, condR_b]
  clear fin e1
  split
  · rename_i h
    subst h
    congr 4
    rw [Bool.eq_iff_iff]
    simp [PlacedP, placesV]
    omega
  · rename_i h
    congr 4
    rw [Bool.eq_iff_iff]
    simp only [Bool.or_eq_true, decide_eq_true_eq, PlacedP, placesV]
    have h7' : (w.length : Int) ≤ 123 := by omega
    have h8' : (b.length : Int) ≤ 1968 := by omega
    clear h7 h8
    generalize (w.length : Int) = wl at *
    generalize (b.length : Int) = bl at *
    rcases code_cases c with rfl | rfl | rfl | rfl | rfl | rfl | rfl | rfl | rfl | rfl | rfl | h
    case inr.inr.inr.inr.inr.inr.inr.inr.inr.inr.inr => exact absurd hc (by unfold isV; simp [h])
    all_goals
      simp [cntV, wrdV, bitV] at q2 q3 q4
      try simp
    all_goals omega
theorem ref06_Right_c (n : Nat) (hn : 40 ≤ n) (a : Rq) (t1 t2 : Tag) : cP n 21 false [rqE a t1 t2] = some (Bo (decide (RightP a))) := by
  obtain ⟨n, rfl⟩ : ∃ m, n = m + 1 := ⟨n - 1, by omega⟩
  have e1 := ref06_formed_c n (by omega) a .sh .sh
  by_cases h : FormedP a
  · have e2 := ref06_placed_c n (by omega) a .sh .sh h
    have hr : decide (RightP a) = decide (PlacedP a) := by simp [RightP, h]
    rw [hr]
    unfold rqE at e1 e2
    rw [decide_eq_true h] at e1
    exact cP_of (r := Bo (decide (PlacedP a))) (args' := [rqE a .sh .sh]) (by simp [arg_rq]) ((s_triuneref06_Right_eq _ _ _ _).trans (by unfold s_triuneref06_Right rqE; simp -implicitDefEqProofs (disch := first | omega | (simp only [List.length_set, List.length_append, List.length_cons, List.length_nil, List.length_take, List.length_drop, List.length_map]; omega) | simp) [wrap_i64, wrap_u16_id, wrap_u8_id, tdiv_pos, tmod_pos, -getElem?_pos, -getElem?_neg, -List.length_eq_zero_iff, -List.getElem_cons_drop, e1, e2]; first | exact rfl | exact ⟨rfl, rfl⟩)) (by simp)
  · have hr : decide (RightP a) = false := by simp [RightP, h]
    rw [hr]
    unfold rqE at e1
    rw [decide_eq_false h] at e1
    exact cP_of (r := Bo false) (args' := [rqE a .sh .sh]) (by simp [arg_rq]) ((s_triuneref06_Right_eq _ _ _ _).trans (by unfold s_triuneref06_Right rqE; simp -implicitDefEqProofs (disch := first | omega | (simp only [List.length_set, List.length_append, List.length_cons, List.length_nil, List.length_take, List.length_drop, List.length_map]; omega) | simp) [wrap_i64, wrap_u16_id, wrap_u8_id, tdiv_pos, tmod_pos, -getElem?_pos, -getElem?_neg, -List.length_eq_zero_iff, -List.getElem_cons_drop, e1]; first | exact rfl | exact ⟨rfl, rfl⟩)) (by simp)
end Go.Proofs.Ytjkofefcoeejbaa

/- Requests: the document's text. -/
namespace Go.Proofs.Ytjkofefcoeejbaa
open Go
set_option linter.unusedSimpArgs false
set_option linter.unusedVariables false
set_option maxRecDepth 100000
def hT (b0 : DBlk) (xs : List Int) : Heap := [b0, .token 5 1 xs.length]
theorem hT_get (b0 : DBlk) (xs : List Int) : (hT b0 xs)[0]? = some b0 := rfl
theorem appT0 (c : Int) (ys : List Int) (t : Tag) (b0 : DBlk) (h : ys ≠ []) (hl : ys.length ≤ 100000) : appG 5 false 1 1 (LV 1 (I .u8) [c] .ti) (LV 1 (I .u8) ys t) [b0] 0 = some (LO (c :: ys) 1, hT b0 (c :: ys)) := by
  have := appG_ti (e := 5) (ag := false) (sz := 1) (by_ := 1) (enc := I .u8) (xs := [c]) (ys := ys) (t' := t) (H := [b0]) (fl := 0) h rfl (by simp; omega) (by simp; omega)
  rw [this]
  simp only [List.length_cons, List.length_nil, List.cons_append, List.nil_append]
  congr 2
  unfold hT
  simp
  omega
theorem appT1 (xs ys : List Int) (t : Tag) (b0 : DBlk) (hl : xs.length + ys.length ≤ 1000000) : appG 5 false 1 1 (LO xs 1) (LV 1 (I .u8) ys t) (hT b0 xs) 0 = some (LO (xs ++ ys) 1, hT b0 (xs ++ ys)) := by
  rw [appG_LO xs ys t 1 (hT b0 xs) 0 rfl (by omega) hl]
  cases ys with
  | nil => simp
  | cons y ys => simp [hT]
theorem outD_LO (H : Heap) (x : Int) (xs : List Int) (k : Nat) : outD false H (LO (x :: xs) k) = some (LV 1 (I .u8) (x :: xs) .sh) := rfl
theorem ref06_text_c (n : Nat) (hn : 40 ≤ n) (a : Rq) (h : FormedP a) (ho : RqOk a) (t1 t2 : Tag) : cP n 46 false [rqE a t1 t2] = some (LV 1 (I .u8) (textV a) .sh) := by
  obtain ⟨n, rfl⟩ : ∃ m, n = m + 1 := ⟨n - 1, by omega⟩
  have hle := formed_le a h
  have hc : isV a.code = true := h.1
  have hb5 : a.code = 5 → a.bits ≠ [] := by
    intro e hx
    have := fit_pos h.2.2.2.1 (bitV_le _).1
    rw [e, hx] at this
    simp [bitV] at this
  have hwl := wb_len a ho
  have hpl := pkl_le a ho
  obtain ⟨c, ad, k, t, w, b, an, o⟩ := a
  have ow := ho.w
  have oa := ho.a
  have oo := ho.o
  simp only at hle hc hb5 hwl hpl ow oa oo
  obtain ⟨h1, h2, h3, h4, h5, h6, h7, h8⟩ := hle
  clear h
  have fin : ∀ B, (∃ H', s_triuneref06_text n [] 0 (rqE ⟨c, ad, k, t, w, b, an, o⟩ .sh .sh) = some (B, H')) → (∀ H', outD false H' B = some (LV 1 (I .u8) (textV ⟨c, ad, k, t, w, b, an, o⟩) .sh)) → cP (n + 1) 46 false [rqE ⟨c, ad, k, t, w, b, an, o⟩ t1 t2] = some (LV 1 (I .u8) (textV ⟨c, ad, k, t, w, b, an, o⟩) .sh) := by
    rintro B ⟨H', h1⟩ h2
    exact cP_of (r := B) (args' := [rqE ⟨c, ad, k, t, w, b, an, o⟩ .sh .sh]) (by simp [arg_rq]) ((s_triuneref06_text_eq _ _ _ _).trans h1) (h2 H')
  have e1 := ref06_two_c n (by omega) ad h3 (by omega)
  have e2 := ref06_two_c n (by omega) k h1 (by omega)
  have e3 := ref06_two_c n (by omega) t h5 (by omega)
  have e4 := ref06_two_c n (by omega) b.length (by omega) (by omega)
  have e5 := ref06_two_c n (by omega) w.length (by omega) (by omega)
  have e6 := ref06_two_c n (by omega) an (by omega) (by omega)
  have e7 := ref06_two_c n (by omega) o (by omega) (by omega)
  have f1 := ref02_Bytes_c n w .sh (by omega) ow (by omega)
  have f2 := ref02_Pack_c n b .sh (by omega) (by omega)
  have t2l : ∀ x, (twoV x).length = 2 := fun x => rfl
  have s0 := fun b0 => appT0 c (twoV ad) .sh b0 (by simp [twoV]) (by rw [t2l]; omega)
  have s1 := fun (b0 : DBlk) (ys : List Int) (t : Tag) (hy : ys.length ≤ 7000) => appT1 (c :: twoV ad) ys t b0 (by rw [List.length_cons, t2l]; omega)
  rcases code_cases c with rfl | rfl | rfl | rfl | rfl | rfl | rfl | rfl | rfl | rfl | rfl | h
  case inr.inr.inr.inr.inr.inr.inr.inr.inr.inr.inr => exact absurd hc (by unfold isV; simp [h])
  case inr.inr.inr.inr.inl =>
    cases b with
    | nil => exact absurd rfl (hb5 rfl)
    | cons x b =>
      cases x
      · have s2 := fun b0 => s1 b0 [0, 0] .ti (by simp)
        have v := buildL_v2 0 0
        exact fin _ ⟨_, by unfold s_triuneref06_text rqE; simp -implicitDefEqProofs (disch := first | omega | (simp only [List.length_set, List.length_append, List.length_cons, List.length_nil, List.length_take, List.length_drop, List.length_map]; omega) | simp) [wrap_i64, wrap_u16_id, wrap_u8_id, tdiv_pos, tmod_pos, -getElem?_pos, -getElem?_neg, -List.length_eq_zero_iff, -List.getElem_cons_drop, s0, s2, hT_get, e1, v]; exact ⟨rfl, rfl⟩⟩ (fun H' => outD_LO _ _ _ _)
      · have s2 := fun b0 => s1 b0 [255, 0] .ti (by simp)
        have v := buildL_v2 255 0
        exact fin _ ⟨_, by unfold s_triuneref06_text rqE; simp -implicitDefEqProofs (disch := first | omega | (simp only [List.length_set, List.length_append, List.length_cons, List.length_nil, List.length_take, List.length_drop, List.length_map]; omega) | simp) [wrap_i64, wrap_u16_id, wrap_u8_id, tdiv_pos, tmod_pos, -getElem?_pos, -getElem?_neg, -List.length_eq_zero_iff, -List.getElem_cons_drop, s0, s2, hT_get, e1, v]; exact ⟨rfl, rfl⟩⟩ (fun H' => outD_LO _ _ _ _)
  case inr.inr.inr.inr.inr.inl =>
    have s2 := fun b0 => s1 b0 (wbI w) .sh (by omega)
    exact fin _ ⟨_, by unfold s_triuneref06_text rqE; simp -implicitDefEqProofs (disch := first | omega | (simp only [List.length_set, List.length_append, List.length_cons, List.length_nil, List.length_take, List.length_drop, List.length_map]; omega) | simp) [wrap_i64, wrap_u16_id, wrap_u8_id, tdiv_pos, tmod_pos, -getElem?_pos, -getElem?_neg, -List.length_eq_zero_iff, -List.getElem_cons_drop, s0, s2, hT_get, e1, f1]; exact ⟨rfl, rfl⟩⟩ (fun H' => outD_LO _ _ _ _)
  case inr.inr.inr.inr.inr.inr.inl =>
    have s2 := fun b0 => s1 b0 (twoV b.length) .sh (by rw [t2l]; omega)
    have s3 := fun b0 => appT1 (15 :: twoV ad ++ twoV b.length) [((pkI b).length : Int) % 256] .ti b0 (by simp [t2l])
    have s4 := fun b0 => appT1 (15 :: twoV ad ++ twoV b.length ++ [((pkI b).length : Int) % 256]) (pkI b) .sh b0 (by simp [t2l]; omega)
    simp only [List.cons_append, List.append_assoc, List.nil_append] at s2 s3 s4
    exact fin _ ⟨_, by unfold s_triuneref06_text rqE; simp -implicitDefEqProofs (disch := first | omega | (simp only [List.length_set, List.length_append, List.length_cons, List.length_nil, List.length_take, List.length_drop, List.length_map]; omega) | simp) [wrap_i64, wrap_u16_id, wrap_u8_id, tdiv_pos, tmod_pos, -getElem?_pos, -getElem?_neg, -List.length_eq_zero_iff, -List.getElem_cons_drop, s0, s2, s3, s4, hT_get, e1, e4, f2, wrap_u8]; exact ⟨rfl, rfl⟩⟩ (fun H' => outD_LO _ _ _ _)
  case inr.inr.inr.inr.inr.inr.inr.inl =>
    have s2 := fun b0 => s1 b0 (twoV w.length) .sh (by rw [t2l]; omega)
    have s3 := fun b0 => appT1 (16 :: twoV ad ++ twoV w.length) [((wbI w).length : Int) % 256] .ti b0 (by simp [t2l])
    have s4 := fun b0 => appT1 (16 :: twoV ad ++ twoV w.length ++ [((wbI w).length : Int) % 256]) (wbI w) .sh b0 (by simp [t2l]; omega)
    simp only [List.cons_append, List.append_assoc, List.nil_append] at s2 s3 s4
    exact fin _ ⟨_, by unfold s_triuneref06_text rqE; simp -implicitDefEqProofs (disch := first | omega | (simp only [List.length_set, List.length_append, List.length_cons, List.length_nil, List.length_take, List.length_drop, List.length_map]; omega) | simp) [wrap_i64, wrap_u16_id, wrap_u8_id, tdiv_pos, tmod_pos, -getElem?_pos, -getElem?_neg, -List.length_eq_zero_iff, -List.getElem_cons_drop, s0, s2, s3, s4, hT_get, e1, e5, f1, wrap_u8]; exact ⟨rfl, rfl⟩⟩ (fun H' => outD_LO _ _ _ _)
  case inr.inr.inr.inr.inr.inr.inr.inr.inl =>
    have s2 := fun b0 => s1 b0 (twoV an) .sh (by rw [t2l]; omega)
    have s3 := fun b0 => appT1 (22 :: twoV ad ++ twoV an) (twoV o) .sh b0 (by simp [t2l])
    simp only [List.cons_append, List.append_assoc, List.nil_append] at s2 s3
    exact fin _ ⟨_, by unfold s_triuneref06_text rqE; simp -implicitDefEqProofs (disch := first | omega | (simp only [List.length_set, List.length_append, List.length_cons, List.length_nil, List.length_take, List.length_drop, List.length_map]; omega) | simp) [wrap_i64, wrap_u16_id, wrap_u8_id, tdiv_pos, tmod_pos, -getElem?_pos, -getElem?_neg, -List.length_eq_zero_iff, -List.getElem_cons_drop, s0, s2, s3, hT_get, e1, e6, e7]; exact ⟨rfl, rfl⟩⟩ (fun H' => outD_LO _ _ _ _)
  case inr.inr.inr.inr.inr.inr.inr.inr.inr.inl =>
    have s2 := fun b0 => s1 b0 (twoV k) .sh (by rw [t2l]; omega)
    have s3 := fun b0 => appT1 (23 :: twoV ad ++ twoV k) (twoV t) .sh b0 (by simp [t2l])
    have s4 := fun b0 => appT1 (23 :: twoV ad ++ twoV k ++ twoV t) (twoV w.length) .sh b0 (by simp [t2l])
    have s5 := fun b0 => appT1 (23 :: twoV ad ++ twoV k ++ twoV t ++ twoV w.length) [((wbI w).length : Int) % 256] .ti b0 (by simp [t2l])
    have s6 := fun b0 => appT1 (23 :: twoV ad ++ twoV k ++ twoV t ++ twoV w.length ++ [((wbI w).length : Int) % 256]) (wbI w) .sh b0 (by simp [t2l]; omega)
    simp only [List.cons_append, List.append_assoc, List.nil_append] at s2 s3 s4 s5 s6
    exact fin _ ⟨_, by unfold s_triuneref06_text rqE; simp -implicitDefEqProofs (disch := first | omega | (simp only [List.length_set, List.length_append, List.length_cons, List.length_nil, List.length_take, List.length_drop, List.length_map]; omega) | simp) [wrap_i64, wrap_u16_id, wrap_u8_id, tdiv_pos, tmod_pos, -getElem?_pos, -getElem?_neg, -List.length_eq_zero_iff, -List.getElem_cons_drop, s0, s2, s3, s4, s5, s6, hT_get, e1, e2, e3, e5, f1, wrap_u8]; exact ⟨rfl, rfl⟩⟩ (fun H' => outD_LO _ _ _ _)
  case inr.inr.inr.inr.inr.inr.inr.inr.inr.inr.inl =>
    have v := buildL_u4 43 14 (k % 256) (ad % 256)
    exact fin _ ⟨_, by unfold s_triuneref06_text rqE; simp -implicitDefEqProofs (disch := first | omega | (simp only [List.length_set, List.length_append, List.length_cons, List.length_nil, List.length_take, List.length_drop, List.length_map]; omega) | simp) [wrap_i64, wrap_u16_id, wrap_u8_id, tdiv_pos, tmod_pos, -getElem?_pos, -getElem?_neg, -List.length_eq_zero_iff, -List.getElem_cons_drop, s0, hT_get, e1, v, wrap_u8]; exact ⟨rfl, rfl⟩⟩ (fun H' => rfl)
  all_goals
    have s2 := fun b0 => s1 b0 (twoV k) .sh (by rw [t2l]; omega)
    exact fin _ ⟨_, by unfold s_triuneref06_text rqE; simp -implicitDefEqProofs (disch := first | omega | (simp only [List.length_set, List.length_append, List.length_cons, List.length_nil, List.length_take, List.length_drop, List.length_map]; omega) | simp) [wrap_i64, wrap_u16_id, wrap_u8_id, tdiv_pos, tmod_pos, -getElem?_pos, -getElem?_neg, -List.length_eq_zero_iff, -List.getElem_cons_drop, s0, s2, hT_get, e1, e2]; exact ⟨rfl, rfl⟩⟩ (fun H' => outD_LO _ _ _ _)
end Go.Proofs.Ytjkofefcoeejbaa

/- Requests: the document's guess. -/
namespace Go.Proofs.Ytjkofefcoeejbaa
open Go
set_option linter.unusedSimpArgs false
set_option linter.unusedVariables false
set_option maxRecDepth 100000
def pbit (p : List Int) (i : Nat) : Bool := decide (p.getD (i / 8) 0 / 2 ^ (i % 8) % 2 = 1)
def gBits (n : Int) (p : List Int) : List Bool := (List.range (min n.toNat (8 * p.length))).map (pbit p)
theorem guess_L1 (n fl : Nat) (K : Ex → KF) (x2 x3 x4 x5 : DV) (i : Nat) (hi : i ≤ 1000000) (H : Heap) : ∀ (m k : Nat) (c : Int), 0 ≤ c → c < 256 → k ≤ i % 8 → i % 8 < m + k →
    s_triuneref06_guess_L1 n fl K m x2 x3 x4 x5 (I .i64 i) (I .i64 c) (I .i64 k) H = K (.exit 3) (s_triuneref06_guess_O1 x2 x3 x4 x5 (I .i64 i) (I .i64 (c / 2 ^ (i % 8 - k)))) H := by
  intro m
  induction m with
  | zero => intro k c h0 h1 h2 h3; omega
  | succ m ih =>
    intro k c h0 h1 h2 h3
    unfold s_triuneref06_guess_L1 s_triuneref06_guess_B1
    by_cases h : k < i % 8
    · have ih' := ih (k + 1) (c / 2) (by omega) (by omega) (by omega) (by omega)
      have hk : ((k + 1 : Nat) : Int) = (k : Int) + 1 := by omega
      have hp : c / 2 / 2 ^ (i % 8 - (k + 1)) = c / 2 ^ (i % 8 - k) := by
        have e : i % 8 - k = (i % 8 - (k + 1)) + 1 := by omega
        rw [e, Int.pow_succ, Int.mul_comm, ← Int.ediv_ediv_of_nonneg (by omega)]
      rw [hk, hp] at ih'
      have hd : decide ((k : Int) < (i : Int) % 8) = true := by simp; omega
      simp -implicitDefEqProofs (disch := first | omega | (simp only [List.length_set, List.length_append, List.length_cons, List.length_nil, List.length_take, List.length_drop, List.length_map]; omega) | simp) [wrap_i64, wrap_u16_id, wrap_u8_id, tdiv_pos, tmod_pos, -getElem?_pos, -getElem?_neg, -List.length_eq_zero_iff, -List.getElem_cons_drop, hd, ih']
    · have : k = i % 8 := by omega
      have hd : decide ((k : Int) < (i : Int) % 8) = false := by simp; omega
      have e : i % 8 - k = 0 := by omega
      rw [e]
      simp -implicitDefEqProofs (disch := first | omega | (simp only [List.length_set, List.length_append, List.length_cons, List.length_nil, List.length_take, List.length_drop, List.length_map]; omega) | simp) [wrap_i64, wrap_u16_id, wrap_u8_id, tdiv_pos, tmod_pos, -getElem?_pos, -getElem?_neg, -List.length_eq_zero_iff, -List.getElem_cons_drop, hd]
def LOb (xs : List Bool) (k : Nat) : DV := .list 1 (xs.map Bo) (.own k)
def c0G : DBlk := .cells 30 zE
def c1G (ad : Int) (bl : DV) : DBlk := .cells 30 [I .i64 15, I .i64 ad, I .i64 0, I .i64 0, .list 0 [] .ti, bl, I .u16 0, I .u16 0]
theorem appB0 (x : Bool) (b0 b1 : DBlk) : appG 4 false 1 1 (.list 0 [] .ti) (LV 1 Bo [x] .ti) [b0, b1] 0 = some (LOb [x] 2, [b0, b1, .token 4 1 1]) := rfl
theorem appB1 (xs : List Bool) (x : Bool) (b0 b1 : DBlk) (m : Nat) (hm : m = xs.length) (hl : m ≤ 1000000) : appG 4 false 1 1 (LOb xs 2) (LV 1 Bo [x] .ti) [b0, b1, .token 4 1 m] 0 = some (LOb (xs ++ [x]) 2, [b0, b1, .token 4 1 (m + 1)]) := by
  subst hm
  have hc : chunkOk false 1 0 = true := rfl
  have h3 : xs.length + 1 ≤ 140737488355328 := by omega
  show appG 4 false 1 1 (.list 1 (xs.map Bo) (.own 2)) (.list 1 [Bo x] .ti) _ 0 = _
  unfold appG appendD srcD LOb
  simp [effH, Eff.heap, hc, h3]
theorem LOb_leaf (xs : List Bool) (k : Nat) : (LOb xs k).leaf = true := rfl
theorem LOb_cells (xs : List Bool) (k : Nat) : (LOb xs k).cells = [LOb xs k] := rfl
theorem round_ok (p : List Int) (hp : Bytes p) (i : Nat) (h : i < 8 * p.length) : ∃ h' : i / 8 < p.length, 0 ≤ p[i / 8] ∧ p[i / 8] < 256 ∧ pbit p i = decide (p[i / 8] / 2 ^ (i % 8) % 2 = 1) := by
  have h' : i / 8 < p.length := by omega
  have := hp _ (List.getElem_mem h')
  refine ⟨h', this.1, this.2, ?_⟩
  unfold pbit
  rw [show p.getD (i / 8) 0 = p[i / 8] by simp [h']]
theorem guess_L0 (n : Nat) (hn : 20 ≤ n) (K : Ex → KF) (nn : Int) (h0 : 0 ≤ nn) (hnn : nn < 65536) (p : List Int) (hp : Bytes p) (hpl : p.length ≤ 10000) (ad : Int) : ∀ (m i : Nat), min nn.toNat (8 * p.length) < m + i → 1 ≤ i → i ≤ min nn.toNat (8 * p.length) →
    s_triuneref06_guess_L0 n 0 K m (.ptr 0 0) (.ptr 1 0) (I .i64 nn) (LV 1 (I .u8) p .sh) (I .i64 i) [c0G, c1G ad (LOb ((List.range i).map (pbit p)) 2), .token 4 1 i] = K (.exit 1) (s_triuneref06_guess_O0 (.ptr 0 0) (.ptr 1 0)) [c0G, c1G ad (LOb (gBits nn p) 2), .token 4 1 (min nn.toNat (8 * p.length))] := by
  intro m
  induction m with
  | zero => intro i h h1 h2; omega
  | succ m ih =>
    intro i hm h1 h2
    by_cases h : i < min nn.toNat (8 * p.length)
    · obtain ⟨h', b0, b1, hb⟩ := round_ok p hp i (by omega)
      have q : ∀ K H, loopG [2, 3, 4, 5, 6, 7, 8] [2, 3, 4, 5, 6, 7] 131 (s_triuneref06_guess_b1 n 0) n (s_triuneref06_guess_I1 (.ptr 0 0) (.ptr 1 0) (I .i64 nn) (LV 1 (I .u8) p .sh) (I .i64 i) (I .i64 p[i / 8]) (I .i64 0)) H K = _ := fun K H => (s_triuneref06_guess_L1_eq _ _ _ _ _ _ _ _ _ _ _ _).trans (guess_L1 n 0 K (.ptr 0 0) (.ptr 1 0) (I .i64 nn) (LV 1 (I .u8) p .sh) i (by omega) H n 0 p[i / 8] b0 b1 (by omega) (by omega))
      have a1 := fun b0 b1 => appB1 ((List.range i).map (pbit p)) (decide (p[i / 8] / 2 ^ (i % 8) % 2 = 1)) b0 b1 i (by simp) (by omega)
      rw [← hb, show (List.range i).map (pbit p) ++ [pbit p i] = (List.range (i + 1)).map (pbit p) by rw [List.range_succ, List.map_append]; rfl] at a1
      have ih' := ih (i + 1) (by omega) (by omega) (by omega)
      have hi2 : ((i + 1 : Nat) : Int) = (i : Int) + 1 := by omega
      rw [hi2] at ih'
      have e3 : ((i : Int) / 8).toNat = i / 8 := by omega
      have hpos : 0 ≤ p[i / 8] / 2 ^ (i % 8) := Int.ediv_nonneg b0 (by have := Int.pow_pos (n := 2) (m := i % 8) (by omega); omega)
      have v : buildL false 1 1 (Bo false) [(0, Bo (decide (p[i / 8] / 2 ^ (i % 8) % 2 = 1)))] = some (LV 1 Bo [pbit p i] .ti) := by rw [hb]; exact buildL_b1 _
      have g1 : (i : Int) < nn := by omega
      have g2 : (i : Int) < 8 * p.length := by omega
      have g3 := Int.pow_pos (n := 2) (m := i % 8) (by omega)
      have g4 : p[i / 8] / 2 ^ (i % 8) ≤ p[i / 8] := Int.ediv_le_self _ b0
      unfold s_triuneref06_guess_L0 s_triuneref06_guess_B0
      unfold c0G c1G at *
      simp -implicitDefEqProofs (disch := first | omega | (simp only [List.length_set, List.length_append, List.length_cons, List.length_nil, List.length_take, List.length_drop, List.length_map]; omega) | simp) [wrap_i64, wrap_u16_id, wrap_u8_id, tdiv_pos, tmod_pos, -getElem?_pos, -getElem?_neg, -List.length_eq_zero_iff, -List.getElem_cons_drop, g1, g2, e3, h', q, s_triuneref06_guess_O1, v, a1, LOb_leaf, LOb_cells, ih']
    · have hi : i = min nn.toNat (8 * p.length) := by omega
      have e : (List.range i).map (pbit p) = gBits nn p := by rw [hi]; rfl
      rw [e, ← hi]
      unfold s_triuneref06_guess_L0 s_triuneref06_guess_B0
      by_cases g1 : (i : Int) < nn
      · have g2 : ¬ (i : Int) < 8 * p.length := by omega
        simp -implicitDefEqProofs (disch := first | omega | (simp only [List.length_set, List.length_append, List.length_cons, List.length_nil, List.length_take, List.length_drop, List.length_map]; omega) | simp) [wrap_i64, wrap_u16_id, wrap_u8_id, tdiv_pos, tmod_pos, -getElem?_pos, -getElem?_neg, -List.length_eq_zero_iff, -List.getElem_cons_drop, g1, g2]
      · simp -implicitDefEqProofs (disch := first | omega | (simp only [List.length_set, List.length_append, List.length_cons, List.length_nil, List.length_take, List.length_drop, List.length_map]; omega) | simp) [wrap_i64, wrap_u16_id, wrap_u8_id, tdiv_pos, tmod_pos, -getElem?_pos, -getElem?_neg, -List.length_eq_zero_iff, -List.getElem_cons_drop, g1]
end Go.Proofs.Ytjkofefcoeejbaa

/- Requests: the document's guess, Parse, Bytes. -/
namespace Go.Proofs.Ytjkofefcoeejbaa
open Go
set_option linter.unusedSimpArgs false
set_option linter.unusedVariables false
set_option maxRecDepth 100000
/-- what the document guesses of bytes -/
def guessV (b : List Int) : Rq :=
  let c := b.getD 0 0
  let a : Rq := ⟨c, numV b 1, 0, 0, [], [], 0, 0⟩
  if c = 5 then { a with bits := [decide (¬ numV b 3 = 0)] }
  else if c = 6 then { a with words := [numV b 3] }
  else if c = 15 then { a with bits := gBits (numV b 3) (b.drop 6) }
  else if c = 16 then { a with words := wdI (b.drop 6) }
  else if c = 22 then { a with and_ := numV b 3, or_ := numV b 5 }
  else if c = 23 then { a with cnt := numV b 3, to_ := numV b 5, words := wdI (b.drop 10) }
  else if c = 43 then (if b.length = 4 then ⟨c, b.getD 3 0, b.getD 2 0, 0, [], [], 0, 0⟩ else ⟨c, 0, 0, 0, [], [], 0, 0⟩)
  else { a with cnt := numV b 3 }
theorem gBits_nil (n : Int) (p : List Int) (h : min n.toNat (8 * p.length) = 0) : gBits n p = [] := by unfold gBits; rw [h]; rfl
theorem gBits_len (n : Int) (p : List Int) : (gBits n p).length = min n.toNat (8 * p.length) := by simp [gBits]
theorem outD_rq (H : Heap) (a : Rq) (t1 t2 : Tag) : outD false H (rqE a t1 t2) = some (rqE a .sh .sh) := by simp [rqE]
theorem guess_loop (n : Nat) (hn : 31000 ≤ n) (nn : Int) (h0 : 0 ≤ nn) (hnn : nn < 65536) (p : List Int) (hp : Bytes p) (hpl : p.length ≤ 600) (ad : Int) : ∃ bl H, (∀ H', outLeaf false H' bl = some (LV 1 Bo (gBits nn p) .sh)) ∧ bl.leaf = true ∧ bl.cells = [bl] ∧
    ∀ K, loopG [2, 3, 4, 5, 6] [2, 3] 131 (s_triuneref06_guess_b0 n 0) n (s_triuneref06_guess_I0 (.ptr 0 0) (.ptr 1 0) (I .i64 nn) (LV 1 (I .u8) p .sh) (I .i64 0)) [c0G, c1G ad (.list 0 [] .ti)] K = K (.exit 1) (s_triuneref06_guess_O0 (.ptr 0 0) (.ptr 1 0)) (c0G :: c1G ad bl :: H) := by
  obtain ⟨m, rfl⟩ : ∃ m, n = m + 1 := ⟨n - 1, by omega⟩
  by_cases h : min nn.toNat (8 * p.length) = 0
  · refine ⟨.list 0 [] .ti, [], fun H' => by rw [gBits_nil _ _ h]; rfl, rfl, rfl, fun K => ?_⟩
    rw [s_triuneref06_guess_L0_eq]
    unfold s_triuneref06_guess_L0 s_triuneref06_guess_B0
    by_cases g1 : (0 : Int) < nn
    · have g2 : ¬ (0 : Int) < 8 * p.length := by omega
      simp -implicitDefEqProofs (disch := first | omega | (simp only [List.length_set, List.length_append, List.length_cons, List.length_nil, List.length_take, List.length_drop, List.length_map]; omega) | simp) [wrap_i64, wrap_u16_id, wrap_u8_id, tdiv_pos, tmod_pos, -getElem?_pos, -getElem?_neg, -List.length_eq_zero_iff, -List.getElem_cons_drop, g1, g2]
    · simp -implicitDefEqProofs (disch := first | omega | (simp only [List.length_set, List.length_append, List.length_cons, List.length_nil, List.length_take, List.length_drop, List.length_map]; omega) | simp) [wrap_i64, wrap_u16_id, wrap_u8_id, tdiv_pos, tmod_pos, -getElem?_pos, -getElem?_neg, -List.length_eq_zero_iff, -List.getElem_cons_drop, g1]
  · refine ⟨LOb (gBits nn p) 2, [.token 4 1 (min nn.toNat (8 * p.length))], fun H' => ?_, rfl, rfl, fun K => ?_⟩
    · have hl := gBits_len nn p
      generalize gBits nn p = g at hl
      cases g with
      | nil => exact absurd hl.symm h
      | cons x g => rfl
    · rw [s_triuneref06_guess_L0_eq]
      obtain ⟨h', b0, b1, hb⟩ := round_ok p hp 0 (by omega)
      have q : ∀ K H, loopG [2, 3, 4, 5, 6, 7, 8] [2, 3, 4, 5, 6, 7] 131 (s_triuneref06_guess_b1 (m + 1) 0) (m + 1) (s_triuneref06_guess_I1 (.ptr 0 0) (.ptr 1 0) (I .i64 nn) (LV 1 (I .u8) p .sh) (I .i64 0) (I .i64 p[0 / 8]) (I .i64 0)) H K = _ := fun K H => (s_triuneref06_guess_L1_eq _ _ _ _ _ _ _ _ _ _ _ _).trans (guess_L1 (m + 1) 0 K (.ptr 0 0) (.ptr 1 0) (I .i64 nn) (LV 1 (I .u8) p .sh) 0 (by omega) H (m + 1) 0 p[0 / 8] b0 b1 (by omega) (by omega))
      have a1 := fun b0 b1 => appB0 (pbit p 0) b0 b1
      have ih' := guess_L0 (m + 1) (by omega) K nn h0 hnn p hp (by omega) ad m 1 (by omega) (by omega) (by omega)
      have e5 : (List.range 1).map (pbit p) = [pbit p 0] := rfl
      rw [e5] at ih'
      have v : buildL false 1 1 (Bo false) [(0, Bo (decide (p[0 / 8] / 2 ^ (0 % 8) % 2 = 1)))] = some (LV 1 Bo [pbit p 0] .ti) := by rw [hb]; exact buildL_b1 _
      have g1 : (0 : Int) < nn := by omega
      have g2 : (0 : Int) < 8 * p.length := by omega
      have g5 : 0 < p.length := by omega
      simp only [Nat.zero_div, Nat.zero_mod, Nat.pow_zero, Nat.sub_zero, Int.pow_zero, Int.ediv_one] at q v b0 b1
      unfold s_triuneref06_guess_L0 s_triuneref06_guess_B0
      unfold c0G c1G at *
      simp -implicitDefEqProofs (disch := first | omega | (simp only [List.length_set, List.length_append, List.length_cons, List.length_nil, List.length_take, List.length_drop, List.length_map]; omega) | simp) [wrap_i64, wrap_u16_id, wrap_u8_id, tdiv_pos, tmod_pos, -getElem?_pos, -getElem?_neg, -List.length_eq_zero_iff, -List.getElem_cons_drop, g1, g2, g5, h', q, s_triuneref06_guess_O1, v, a1, LOb_leaf, LOb_cells]
      exact ih'
section
variable (n : Nat) (hn : 5 ≤ n) (l : List Int) (h : Bytes l) (hl : l.length ≤ 10000)
include hn h hl
theorem num1 : cP n 87 false [LV 1 (I .u8) l .sh, I .i64 1] = some (I .i64 (numV l 1)) := ref06_number_c n (by omega) l h (by omega) .sh 1 (by omega)
theorem num3 : cP n 87 false [LV 1 (I .u8) l .sh, I .i64 3] = some (I .i64 (numV l 3)) := ref06_number_c n (by omega) l h (by omega) .sh 3 (by omega)
theorem num5 : cP n 87 false [LV 1 (I .u8) l .sh, I .i64 5] = some (I .i64 (numV l 5)) := ref06_number_c n (by omega) l h (by omega) .sh 5 (by omega)
end
theorem guess_c (n : Nat) (hn : 32000 ≤ n) (b : List Int) (h : Bytes b) (hb0 : b ≠ []) (hl : b.length ≤ 600) (hi : isV (b.getD 0 0) = true) (t : Tag) : cP n 52 false [LV 1 (I .u8) b t] = some (rqE (guessV b) .sh .sh) := by
  obtain ⟨n, rfl⟩ : ∃ m, n = m + 1 := ⟨n - 1, by omega⟩
  have hl0 : 0 < b.length := by cases b with | nil => exact absurd rfl hb0 | cons => simp
  have g0 : b.getD 0 0 = b[0] := by simp [hl0]
  have hw := h b[0] (List.getElem_mem hl0)
  rw [g0] at hi
  have fin : ∀ r, (∃ H', s_triuneref06_guess n [] 0 (LV 1 (I .u8) b .sh) = some (r, H')) → (∀ H', outD false H' r = some (rqE (guessV b) .sh .sh)) → cP (n + 1) 52 false [LV 1 (I .u8) b t] = some (rqE (guessV b) .sh .sh) := by
    rintro r ⟨H', h1⟩ h2
    exact cP_of (args' := [LV 1 (I .u8) b .sh]) (by simp [argEl_eq]) ((s_triuneref06_guess_eq _ _ _ _).trans h1) (h2 H')
  have n1 := num1 n (by omega) b h (by omega)
  have n3 := num3 n (by omega) b h (by omega)
  have n5 := num5 n (by omega) b h (by omega)
  have m1 := numV_le b h 1
  have m3 := numV_le b h 3
  have m5 := numV_le b h 5
  have k6 : cP n 88 false [LV 1 (I .u8) b .sh, I .i64 6] = some (LV 1 (I .u8) (b.drop 6) .sh) := ref06_behind_c n (by omega) b .sh 6 (by omega)
  have k10 : cP n 88 false [LV 1 (I .u8) b .sh, I .i64 10] = some (LV 1 (I .u8) (b.drop 10) .sh) := ref06_behind_c n (by omega) b .sh 10 (by omega)
  have w6 := ref02_Words_c n (b.drop 6) .sh (by omega) (bytes_drop h 6) (by simp; omega)
  have w10 := ref02_Words_c n (b.drop 10) .sh (by omega) (bytes_drop h 10) (by simp; omega)
  rcases code_cases b[0] with e | e | e | e | e | e | e | e | e | e | e | e
  case inr.inr.inr.inr.inr.inr.inr.inr.inr.inr.inr => exact absurd hi (by unfold isV; simp [e])
  case inr.inr.inr.inr.inl =>
    have v := buildL_b1 (!decide (numV b 3 = 0))
    have hg : guessV b = ⟨5, numV b 1, 0, 0, [], [decide (¬ numV b 3 = 0)], 0, 0⟩ := by simp only [guessV, g0]; simp [e]
    refine fin _ ⟨_, by unfold s_triuneref06_guess; simp -implicitDefEqProofs (disch := first | omega | (simp only [List.length_set, List.length_append, List.length_cons, List.length_nil, List.length_take, List.length_drop, List.length_map]; omega) | simp) [wrap_i64, wrap_u16_id, wrap_u8_id, tdiv_pos, tmod_pos, -getElem?_pos, -getElem?_neg, -List.length_eq_zero_iff, -List.getElem_cons_drop, hl0, e, n1, n3, v]; exact ⟨rfl, rfl⟩⟩ (fun H' => by rw [hg]; simp [rqE]; first | rfl | exact ⟨rfl, rfl⟩)
  case inr.inr.inr.inr.inr.inl =>
    have hg : guessV b = ⟨6, numV b 1, 0, 0, [numV b 3], [], 0, 0⟩ := by simp only [guessV, g0]; simp [e]
    refine fin _ ⟨_, by unfold s_triuneref06_guess; simp -implicitDefEqProofs (disch := first | omega | (simp only [List.length_set, List.length_append, List.length_cons, List.length_nil, List.length_take, List.length_drop, List.length_map]; omega) | simp) [wrap_i64, wrap_u16_id, wrap_u8_id, tdiv_pos, tmod_pos, -getElem?_pos, -getElem?_neg, -List.length_eq_zero_iff, -List.getElem_cons_drop, hl0, e, n1, n3]; exact ⟨rfl, rfl⟩⟩ (fun H' => by rw [hg]; simp [rqE]; first | rfl | exact ⟨rfl, rfl⟩)
  case inr.inr.inr.inr.inr.inr.inl =>
    have hg : guessV b = ⟨15, numV b 1, 0, 0, [], gBits (numV b 3) (b.drop 6), 0, 0⟩ := by simp only [guessV, g0]; simp [e]
    obtain ⟨bl, H, lp1, lp2, lp3, lp⟩ := guess_loop n (by omega) (numV b 3) m3.1 m3.2 (b.drop 6) (bytes_drop h 6) (by simp; omega) (numV b 1)
    unfold c0G c1G zE at lp
    refine fin _ ⟨_, by unfold s_triuneref06_guess; simp -implicitDefEqProofs (disch := first | omega | (simp only [List.length_set, List.length_append, List.length_cons, List.length_nil, List.length_take, List.length_drop, List.length_map]; omega) | simp) [wrap_i64, wrap_u16_id, wrap_u8_id, tdiv_pos, tmod_pos, -getElem?_pos, -getElem?_neg, -List.length_eq_zero_iff, -List.getElem_cons_drop, hl0, e, n1, n3, k6, lp, s_triuneref06_guess_O0, lp2, lp3]; exact ⟨rfl, rfl⟩⟩ (fun H' => by rw [hg]; simp [rqE, lp1]; first | rfl | exact ⟨rfl, rfl⟩)
  case inr.inr.inr.inr.inr.inr.inr.inl =>
    have hg : guessV b = ⟨16, numV b 1, 0, 0, wdI (b.drop 6), [], 0, 0⟩ := by simp only [guessV, g0]; simp [e]
    refine fin _ ⟨_, by unfold s_triuneref06_guess; simp -implicitDefEqProofs (disch := first | omega | (simp only [List.length_set, List.length_append, List.length_cons, List.length_nil, List.length_take, List.length_drop, List.length_map]; omega) | simp) [wrap_i64, wrap_u16_id, wrap_u8_id, tdiv_pos, tmod_pos, -getElem?_pos, -getElem?_neg, -List.length_eq_zero_iff, -List.getElem_cons_drop, hl0, e, n1, n3, k6, w6]; exact ⟨rfl, rfl⟩⟩ (fun H' => by rw [hg]; simp [rqE]; first | rfl | exact ⟨rfl, rfl⟩)
  case inr.inr.inr.inr.inr.inr.inr.inr.inl =>
    have hg : guessV b = ⟨22, numV b 1, 0, 0, [], [], numV b 3, numV b 5⟩ := by simp only [guessV, g0]; simp [e]
    refine fin _ ⟨_, by unfold s_triuneref06_guess; simp -implicitDefEqProofs (disch := first | omega | (simp only [List.length_set, List.length_append, List.length_cons, List.length_nil, List.length_take, List.length_drop, List.length_map]; omega) | simp) [wrap_i64, wrap_u16_id, wrap_u8_id, tdiv_pos, tmod_pos, -getElem?_pos, -getElem?_neg, -List.length_eq_zero_iff, -List.getElem_cons_drop, hl0, e, n1, n3, n5]; exact ⟨rfl, rfl⟩⟩ (fun H' => by rw [hg]; simp [rqE]; first | rfl | exact ⟨rfl, rfl⟩)
  case inr.inr.inr.inr.inr.inr.inr.inr.inr.inl =>
    have hg : guessV b = ⟨23, numV b 1, numV b 3, numV b 5, wdI (b.drop 10), [], 0, 0⟩ := by simp only [guessV, g0]; simp [e]
    refine fin _ ⟨_, by unfold s_triuneref06_guess; simp -implicitDefEqProofs (disch := first | omega | (simp only [List.length_set, List.length_append, List.length_cons, List.length_nil, List.length_take, List.length_drop, List.length_map]; omega) | simp) [wrap_i64, wrap_u16_id, wrap_u8_id, tdiv_pos, tmod_pos, -getElem?_pos, -getElem?_neg, -List.length_eq_zero_iff, -List.getElem_cons_drop, hl0, e, n1, n3, n5, k10, w10]; exact ⟨rfl, rfl⟩⟩ (fun H' => by rw [hg]; simp [rqE]; first | rfl | exact ⟨rfl, rfl⟩)
  case inr.inr.inr.inr.inr.inr.inr.inr.inr.inr.inl =>
    by_cases h4 : b.length = 4
    · have a2 := h b[2] (List.getElem_mem (by omega))
      have a3 := h b[3] (List.getElem_mem (by omega))
      have hg : guessV b = ⟨43, b[3], b[2], 0, [], [], 0, 0⟩ := by simp only [guessV, g0]; simp [e, h4]
      refine fin _ ⟨_, by unfold s_triuneref06_guess; simp -implicitDefEqProofs (disch := first | omega | (simp only [List.length_set, List.length_append, List.length_cons, List.length_nil, List.length_take, List.length_drop, List.length_map]; omega) | simp) [wrap_i64, wrap_u16_id, wrap_u8_id, tdiv_pos, tmod_pos, -getElem?_pos, -getElem?_neg, -List.length_eq_zero_iff, -List.getElem_cons_drop, hl0, e, n1, h4]; exact ⟨rfl, rfl⟩⟩ (fun H' => by rw [hg]; simp [rqE]; first | rfl | exact ⟨rfl, rfl⟩)
    · have hg : guessV b = ⟨43, 0, 0, 0, [], [], 0, 0⟩ := by simp only [guessV, g0]; simp [e, h4]
      have hd : ¬ (b.length : Int) = 4 := by omega
      refine fin _ ⟨_, by unfold s_triuneref06_guess; simp -implicitDefEqProofs (disch := first | omega | (simp only [List.length_set, List.length_append, List.length_cons, List.length_nil, List.length_take, List.length_drop, List.length_map]; omega) | simp) [wrap_i64, wrap_u16_id, wrap_u8_id, tdiv_pos, tmod_pos, -getElem?_pos, -getElem?_neg, -List.length_eq_zero_iff, -List.getElem_cons_drop, hl0, e, n1, hd]; exact ⟨rfl, rfl⟩⟩ (fun H' => by rw [hg]; simp [rqE]; first | rfl | exact ⟨rfl, rfl⟩)
  all_goals
    have hg : guessV b = ⟨b[0], numV b 1, numV b 3, 0, [], [], 0, 0⟩ := by simp only [guessV, g0]; simp [e]
    refine fin _ ⟨_, by unfold s_triuneref06_guess; simp -implicitDefEqProofs (disch := first | omega | (simp only [List.length_set, List.length_append, List.length_cons, List.length_nil, List.length_take, List.length_drop, List.length_map]; omega) | simp) [wrap_i64, wrap_u16_id, wrap_u8_id, tdiv_pos, tmod_pos, -getElem?_pos, -getElem?_neg, -List.length_eq_zero_iff, -List.getElem_cons_drop, hl0, e, n1, n3]; exact ⟨rfl, rfl⟩⟩ (fun H' => by rw [hg, e]; simp [rqE]; first | rfl | exact ⟨rfl, rfl⟩)
end Go.Proofs.Ytjkofefcoeejbaa

/- Requests: the document's Parse, Bytes. -/
namespace Go.Proofs.Ytjkofefcoeejbaa
open Go
set_option linter.unusedSimpArgs false
set_option linter.unusedVariables false
set_option maxRecDepth 100000
theorem guessV_ok (b : List Int) (h : Bytes b) (hl : b.length ≤ 600) : RqOk (guessV b) := by
  have h3 := numV_le b h 3
  have h5 := numV_le b h 5
  simp only [guessV]
  split
  · exact ⟨by intro x hx; simp at hx, by simp, by simp, by simp, by simp⟩
  · split
    · exact ⟨by intro x hx; simp at hx; omega, by simp, by simp, by simp, by simp⟩
    · split
      · refine ⟨by intro x hx; simp at hx, by simp, by simp, by simp, ?_⟩
        have := gBits_len (numV b 3) (b.drop 6)
        simp only [List.length_drop] at this ⊢
        omega
      · split
        · refine ⟨wdI_words _, by simp, by simp, ?_, by simp⟩
          have := wdI_len (b.drop 6)
          simp only [List.length_drop] at this ⊢
          omega
        · split
          · exact ⟨by intro x hx; simp at hx, h3, h5, by simp, by simp⟩
          · split
            · refine ⟨wdI_words _, by simp, by simp, ?_, by simp⟩
              have := wdI_len (b.drop 10)
              simp only [List.length_drop] at this ⊢
              omega
            · split
              · split
                · exact ⟨by intro x hx; simp at hx, by simp, by simp, by simp, by simp⟩
                · exact ⟨by intro x hx; simp at hx, by simp, by simp, by simp, by simp⟩
              · exact ⟨by intro x hx; simp at hx, by simp, by simp, by simp, by simp⟩
theorem text_len (a : Rq) (ho : RqOk a) : (textV a).length ≤ 8000 := by
  have := tail_len a ho
  unfold textV
  split
  · simp
  · simp [twoV]
    omega
/-- what the document's Parse answers -/
def refParseV (b : List Int) : Rq × Int :=
  if b = [] ∨ headV b = false then (rqZ, 1)
  else if ¬ (FormedP (guessV b) ∧ textV (guessV b) = b) then (rqZ, 3)
  else if ¬ PlacedP (guessV b) then (rqZ, 2)
  else (guessV b, 0)
theorem ref06_Parse_c (n : Nat) (hn : 33000 ≤ n) (b : List Int) (h : Bytes b) (hl : b.length ≤ 600) (t : Tag) : cP n 17 false [LV 1 (I .u8) b t] = some (.tup [rqE (refParseV b).1 .sh .sh, I .i64 (refParseV b).2]) := by
  obtain ⟨n, rfl⟩ : ∃ m, n = m + 1 := ⟨n - 1, by omega⟩
  have fin : ∀ r p, (∃ H', s_triuneref06_Parse n [] 0 (LV 1 (I .u8) b .sh) = some (.tup [r, I .i64 p.2], H')) → (∃ t1 t2, r = rqE p.1 t1 t2) → refParseV b = p → cP (n + 1) 17 false [LV 1 (I .u8) b t] = some (.tup [rqE (refParseV b).1 .sh .sh, I .i64 (refParseV b).2]) := by
    rintro r a ⟨H', h1⟩ ⟨t1, t2, rfl⟩ rfl
    exact cP_of (args' := [LV 1 (I .u8) b .sh]) (by simp [argEl_eq]) ((s_triuneref06_Parse_eq _ _ _ _).trans h1) (by simp [rqE])
  by_cases hb : b = []
  · subst hb
    exact fin _ (rqZ, 1) ⟨_, by unfold s_triuneref06_Parse; simp -implicitDefEqProofs (disch := first | omega | (simp only [List.length_set, List.length_append, List.length_cons, List.length_nil, List.length_take, List.length_drop, List.length_map]; omega) | simp) [wrap_i64, wrap_u16_id, wrap_u8_id, tdiv_pos, tmod_pos, -getElem?_pos, -getElem?_neg, -List.length_eq_zero_iff, -List.getElem_cons_drop]; exact ⟨rfl, rfl⟩⟩ ⟨.ti, .ti, rfl⟩ (by simp [refParseV])
  · have hl0 : 0 < b.length := by cases b with | nil => exact absurd rfl hb | cons => simp
    have g0 : b.getD 0 0 = b[0] := by simp [hl0]
    have hw := h b[0] (List.getElem_mem hl0)
    have e0 := ref06_is_c n (by omega) b[0]
    by_cases hi : isV b[0] = true
    · rw [hi] at e0
      by_cases h43 : b[0] = 43 ∧ 1 < b.length ∧ ¬ b.getD 1 0 = 14
      · obtain ⟨x1, x2, x3⟩ := h43
        have g1 : b.getD 1 0 = b[1] := by simp [x2]
        rw [g1] at x3
        have hd : decide (b[0] = 43) = true := by simp [x1]
        have hv : headV b = false := by unfold headV; rw [g0, g1, hi]; simp [x1, x2, x3]
        exact fin _ (rqZ, 1) ⟨_, by unfold s_triuneref06_Parse; simp -implicitDefEqProofs (disch := first | omega | (simp only [List.length_set, List.length_append, List.length_cons, List.length_nil, List.length_take, List.length_drop, List.length_map]; omega) | simp) [wrap_i64, wrap_u16_id, wrap_u8_id, tdiv_pos, tmod_pos, -getElem?_pos, -getElem?_neg, -List.length_eq_zero_iff, -List.getElem_cons_drop, hl0, e0, hd, x2, x3]; exact ⟨rfl, rfl⟩⟩ ⟨.ti, .ti, rfl⟩ (by simp [refParseV, hv])
      · have hv : headV b = true := by
          unfold headV
          rw [g0, hi]
          simp only [Bool.true_and, Bool.not_eq_true', Bool.and_eq_false_iff, decide_eq_false_iff_not]
          by_cases y1 : b[0] = 43
          · by_cases y2 : 1 < b.length
            · exact .inr (fun y3 => h43 ⟨y1, y2, y3⟩)
            · exact .inl (.inr y2)
          · exact .inl (.inl y1)
        have e1 := guess_c n (by omega) b h hb hl (by rw [g0]; exact hi) .sh
        have ok := guessV_ok b h hl
        have hp : refParseV b = if ¬ (FormedP (guessV b) ∧ textV (guessV b) = b) then (rqZ, 3) else if ¬ PlacedP (guessV b) then (rqZ, 2) else (guessV b, 0) := by
          unfold refParseV
          rw [if_neg (by simp [hb, hv])]
        revert hp ok e1
        generalize guessV b = a
        intro e1 ok hp
        have e2 := ref06_formed_c n (by omega) a .sh .sh
        have main : ∀ r p, (∀ (hd : decide (b[0] = 43) = true) (h1 : 1 < b.length) (h14 : b[1] = 14), ∃ H', s_triuneref06_Parse n [] 0 (LV 1 (I .u8) b .sh) = some (.tup [r, I .i64 p.2], H')) → (∀ (hd : decide (b[0] = 43) = true) (h1 : ¬ 1 < b.length), ∃ H', s_triuneref06_Parse n [] 0 (LV 1 (I .u8) b .sh) = some (.tup [r, I .i64 p.2], H')) → (∀ (hd : ¬ b[0] = 43), ∃ H', s_triuneref06_Parse n [] 0 (LV 1 (I .u8) b .sh) = some (.tup [r, I .i64 p.2], H')) → (∃ t1 t2, r = rqE p.1 t1 t2) → refParseV b = p → cP (n + 1) 17 false [LV 1 (I .u8) b t] = some (.tup [rqE (refParseV b).1 .sh .sh, I .i64 (refParseV b).2]) := by
          intro r p m1 m2 m3 hr hq
          refine fin r p ?_ hr hq
          by_cases y1 : b[0] = 43
          · by_cases y2 : 1 < b.length
            · have g1 : b.getD 1 0 = b[1] := by simp [y2]
              have y3 : b[1] = 14 := by
                rcases Decidable.em (b[1] = 14) with y | y
                · exact y
                · exact absurd ⟨y1, y2, by rw [g1]; exact y⟩ h43
              exact m1 (by simp [y1]) y2 y3
            · exact m2 (by simp [y1]) y2
          · exact m3 y1
        by_cases hf : FormedP a
        · have e3 := ref06_text_c n (by omega) a hf ok .sh .sh
          have e4 := ref01_Same_c n (textV a) b .sh .sh (by have := text_len a ok; omega) (by have := text_len a ok; omega)
          have e5 := ref06_placed_c n (by omega) a .sh .sh hf
          rw [decide_eq_true hf] at e2
          by_cases ht : textV a = b
          · rw [decide_eq_true ht] at e4
            by_cases hq : PlacedP a
            · rw [decide_eq_true hq] at e5
              unfold rqE at e1 e2 e3 e5
              refine main _ (a, 0) (fun hd h1 h14 => ⟨_, by unfold s_triuneref06_Parse; simp -implicitDefEqProofs (disch := first | omega | (simp only [List.length_set, List.length_append, List.length_cons, List.length_nil, List.length_take, List.length_drop, List.length_map]; omega) | simp) [wrap_i64, wrap_u16_id, wrap_u8_id, tdiv_pos, tmod_pos, -getElem?_pos, -getElem?_neg, -List.length_eq_zero_iff, -List.getElem_cons_drop, hl0, e0, hd, h1, h14, e1, e2, e3, e4, e5]; exact ⟨rfl, rfl⟩⟩) (fun hd h1 => ⟨_, by unfold s_triuneref06_Parse; simp -implicitDefEqProofs (disch := first | omega | (simp only [List.length_set, List.length_append, List.length_cons, List.length_nil, List.length_take, List.length_drop, List.length_map]; omega) | simp) [wrap_i64, wrap_u16_id, wrap_u8_id, tdiv_pos, tmod_pos, -getElem?_pos, -getElem?_neg, -List.length_eq_zero_iff, -List.getElem_cons_drop, hl0, e0, hd, h1, e1, e2, e3, e4, e5]; exact ⟨rfl, rfl⟩⟩) (fun hd => ⟨_, by unfold s_triuneref06_Parse; simp -implicitDefEqProofs (disch := first | omega | (simp only [List.length_set, List.length_append, List.length_cons, List.length_nil, List.length_take, List.length_drop, List.length_map]; omega) | simp) [wrap_i64, wrap_u16_id, wrap_u8_id, tdiv_pos, tmod_pos, -getElem?_pos, -getElem?_neg, -List.length_eq_zero_iff, -List.getElem_cons_drop, hl0, e0, hd, e1, e2, e3, e4, e5]; exact ⟨rfl, rfl⟩⟩) ⟨.sh, .sh, rfl⟩ ?_
              rw [hp, if_neg (by simp [hf, ht]), if_neg (by simp [hq])]
            · rw [decide_eq_false hq] at e5
              unfold rqE at e1 e2 e3 e5
              refine main _ (rqZ, 2) (fun hd h1 h14 => ⟨_, by unfold s_triuneref06_Parse; simp -implicitDefEqProofs (disch := first | omega | (simp only [List.length_set, List.length_append, List.length_cons, List.length_nil, List.length_take, List.length_drop, List.length_map]; omega) | simp) [wrap_i64, wrap_u16_id, wrap_u8_id, tdiv_pos, tmod_pos, -getElem?_pos, -getElem?_neg, -List.length_eq_zero_iff, -List.getElem_cons_drop, hl0, e0, hd, h1, h14, e1, e2, e3, e4, e5]; exact ⟨rfl, rfl⟩⟩) (fun hd h1 => ⟨_, by unfold s_triuneref06_Parse; simp -implicitDefEqProofs (disch := first | omega | (simp only [List.length_set, List.length_append, List.length_cons, List.length_nil, List.length_take, List.length_drop, List.length_map]; omega) | simp) [wrap_i64, wrap_u16_id, wrap_u8_id, tdiv_pos, tmod_pos, -getElem?_pos, -getElem?_neg, -List.length_eq_zero_iff, -List.getElem_cons_drop, hl0, e0, hd, h1, e1, e2, e3, e4, e5]; exact ⟨rfl, rfl⟩⟩) (fun hd => ⟨_, by unfold s_triuneref06_Parse; simp -implicitDefEqProofs (disch := first | omega | (simp only [List.length_set, List.length_append, List.length_cons, List.length_nil, List.length_take, List.length_drop, List.length_map]; omega) | simp) [wrap_i64, wrap_u16_id, wrap_u8_id, tdiv_pos, tmod_pos, -getElem?_pos, -getElem?_neg, -List.length_eq_zero_iff, -List.getElem_cons_drop, hl0, e0, hd, e1, e2, e3, e4, e5]; exact ⟨rfl, rfl⟩⟩) ⟨.ti, .ti, rfl⟩ ?_
              rw [hp, if_neg (by simp [hf, ht]), if_pos hq]
          · rw [decide_eq_false ht] at e4
            unfold rqE at e1 e2 e3
            refine main _ (rqZ, 3) (fun hd h1 h14 => ⟨_, by unfold s_triuneref06_Parse; simp -implicitDefEqProofs (disch := first | omega | (simp only [List.length_set, List.length_append, List.length_cons, List.length_nil, List.length_take, List.length_drop, List.length_map]; omega) | simp) [wrap_i64, wrap_u16_id, wrap_u8_id, tdiv_pos, tmod_pos, -getElem?_pos, -getElem?_neg, -List.length_eq_zero_iff, -List.getElem_cons_drop, hl0, e0, hd, h1, h14, e1, e2, e3, e4]; exact ⟨rfl, rfl⟩⟩) (fun hd h1 => ⟨_, by unfold s_triuneref06_Parse; simp -implicitDefEqProofs (disch := first | omega | (simp only [List.length_set, List.length_append, List.length_cons, List.length_nil, List.length_take, List.length_drop, List.length_map]; omega) | simp) [wrap_i64, wrap_u16_id, wrap_u8_id, tdiv_pos, tmod_pos, -getElem?_pos, -getElem?_neg, -List.length_eq_zero_iff, -List.getElem_cons_drop, hl0, e0, hd, h1, e1, e2, e3, e4]; exact ⟨rfl, rfl⟩⟩) (fun hd => ⟨_, by unfold s_triuneref06_Parse; simp -implicitDefEqProofs (disch := first | omega | (simp only [List.length_set, List.length_append, List.length_cons, List.length_nil, List.length_take, List.length_drop, List.length_map]; omega) | simp) [wrap_i64, wrap_u16_id, wrap_u8_id, tdiv_pos, tmod_pos, -getElem?_pos, -getElem?_neg, -List.length_eq_zero_iff, -List.getElem_cons_drop, hl0, e0, hd, e1, e2, e3, e4]; exact ⟨rfl, rfl⟩⟩) ⟨.ti, .ti, rfl⟩ ?_
            rw [hp, if_pos (by simp [ht])]
        · rw [decide_eq_false hf] at e2
          unfold rqE at e1 e2
          refine main _ (rqZ, 3) (fun hd h1 h14 => ⟨_, by unfold s_triuneref06_Parse; simp -implicitDefEqProofs (disch := first | omega | (simp only [List.length_set, List.length_append, List.length_cons, List.length_nil, List.length_take, List.length_drop, List.length_map]; omega) | simp) [wrap_i64, wrap_u16_id, wrap_u8_id, tdiv_pos, tmod_pos, -getElem?_pos, -getElem?_neg, -List.length_eq_zero_iff, -List.getElem_cons_drop, hl0, e0, hd, h1, h14, e1, e2]; exact ⟨rfl, rfl⟩⟩) (fun hd h1 => ⟨_, by unfold s_triuneref06_Parse; simp -implicitDefEqProofs (disch := first | omega | (simp only [List.length_set, List.length_append, List.length_cons, List.length_nil, List.length_take, List.length_drop, List.length_map]; omega) | simp) [wrap_i64, wrap_u16_id, wrap_u8_id, tdiv_pos, tmod_pos, -getElem?_pos, -getElem?_neg, -List.length_eq_zero_iff, -List.getElem_cons_drop, hl0, e0, hd, h1, e1, e2]; exact ⟨rfl, rfl⟩⟩) (fun hd => ⟨_, by unfold s_triuneref06_Parse; simp -implicitDefEqProofs (disch := first | omega | (simp only [List.length_set, List.length_append, List.length_cons, List.length_nil, List.length_take, List.length_drop, List.length_map]; omega) | simp) [wrap_i64, wrap_u16_id, wrap_u8_id, tdiv_pos, tmod_pos, -getElem?_pos, -getElem?_neg, -List.length_eq_zero_iff, -List.getElem_cons_drop, hl0, e0, hd, e1, e2]; exact ⟨rfl, rfl⟩⟩) ⟨.ti, .ti, rfl⟩ ?_
          rw [hp, if_pos (by simp [hf])]
    · have hi' : isV b[0] = false := by simpa using hi
      rw [hi'] at e0
      have hv : headV b = false := by unfold headV; rw [g0, hi']; rfl
      exact fin _ (rqZ, 1) ⟨_, by unfold s_triuneref06_Parse; simp -implicitDefEqProofs (disch := first | omega | (simp only [List.length_set, List.length_append, List.length_cons, List.length_nil, List.length_take, List.length_drop, List.length_map]; omega) | simp) [wrap_i64, wrap_u16_id, wrap_u8_id, tdiv_pos, tmod_pos, -getElem?_pos, -getElem?_neg, -List.length_eq_zero_iff, -List.getElem_cons_drop, hl0, e0]; exact ⟨rfl, rfl⟩⟩ ⟨.ti, .ti, rfl⟩ (by simp [refParseV, hv])
theorem ref06_Bytes_c (n : Nat) (hn : 60 ≤ n) (a : Rq) (ho : RqOk a) (t1 t2 : Tag) : cP n 15 false [rqE a t1 t2] = some (if RightP a then .tup [LV 1 (I .u8) (textV a) .sh, I .i64 0] else .tup [LV 1 (I .u8) [] .sh, I .i64 2]) := by
  obtain ⟨n, rfl⟩ : ∃ m, n = m + 1 := ⟨n - 1, by omega⟩
  have e1 := ref06_Right_c n (by omega) a .sh .sh
  by_cases h : RightP a
  · rw [if_pos h]
    rw [decide_eq_true h] at e1
    have e2 := ref06_text_c n (by omega) a h.1 ho .sh .sh
    unfold rqE at e1 e2
    exact cP_of (r := .tup [LV 1 (I .u8) (textV a) .sh, I .i64 0]) (args' := [rqE a .sh .sh]) (by simp [arg_rq]) ((s_triuneref06_Bytes_eq _ _ _ _).trans (by unfold s_triuneref06_Bytes rqE; simp -implicitDefEqProofs (disch := first | omega | (simp only [List.length_set, List.length_append, List.length_cons, List.length_nil, List.length_take, List.length_drop, List.length_map]; omega) | simp) [wrap_i64, wrap_u16_id, wrap_u8_id, tdiv_pos, tmod_pos, -getElem?_pos, -getElem?_neg, -List.length_eq_zero_iff, -List.getElem_cons_drop, e1, e2]; first | exact rfl | exact ⟨rfl, rfl⟩)) (by simp)
  · rw [if_neg h]
    rw [decide_eq_false h] at e1
    unfold rqE at e1
    exact cP_of (r := .tup [LV 1 (I .u8) [] .ti, I .i64 2]) (args' := [rqE a .sh .sh]) (by simp [arg_rq]) ((s_triuneref06_Bytes_eq _ _ _ _).trans (by unfold s_triuneref06_Bytes rqE; simp -implicitDefEqProofs (disch := first | omega | (simp only [List.length_set, List.length_append, List.length_cons, List.length_nil, List.length_take, List.length_drop, List.length_map]; omega) | simp) [wrap_i64, wrap_u16_id, wrap_u8_id, tdiv_pos, tmod_pos, -getElem?_pos, -getElem?_neg, -List.length_eq_zero_iff, -List.getElem_cons_drop, e1, LV_nil 1 (I .u8)]; first | exact rfl | exact ⟨rfl, rfl⟩)) (by simp)
end Go.Proofs.Ytjkofefcoeejbaa

/- Requests: the text has its request, for the program and for the document. -/
namespace Go.Proofs.Ytjkofefcoeejbaa
open Go
set_option linter.unusedSimpArgs false
set_option linter.unusedVariables false
set_option maxRecDepth 100000
theorem numV_drop (l : List Int) (k i : Nat) : numV (l.drop k) i = numV l (k + i) := by
  unfold numV
  simp only [List.length_drop, List.getD_eq_getElem?_getD, List.getElem?_drop]
  by_cases h : k + i + 2 ≤ l.length
  · rw [if_pos (by omega), if_pos h]
    rfl
  · rw [if_neg (by omega), if_neg h]
theorem two_mod (x : Int) (h : 0 ≤ x ∧ x < 65536) (l : List Int) : numV (twoV x ++ l) 0 = x := numV_two x l h.1 h.2
theorem num_3 (c ad x : Int) (l : List Int) (h : 0 ≤ x ∧ x < 65536) : numV (c :: (twoV ad ++ (twoV x ++ l))) 3 = x := by
  show numV (c :: ad / 256 % 256 :: ad % 256 :: (twoV x ++ l)) 3 = x
  rw [numV_c, numV_c, numV_c, two_mod x h]
theorem num_5 (c ad y x : Int) (l : List Int) (h : 0 ≤ x ∧ x < 65536) : numV (c :: (twoV ad ++ (twoV y ++ (twoV x ++ l)))) 5 = x := by
  show numV (c :: ad / 256 % 256 :: ad % 256 :: y / 256 % 256 :: y % 256 :: (twoV x ++ l)) 5 = x
  rw [numV_c, numV_c, numV_c, numV_c, numV_c, two_mod x h]
theorem num_1 (c x : Int) (l : List Int) (h : 0 ≤ x ∧ x < 65536) : numV (c :: (twoV x ++ l)) 1 = x := by
  rw [numV_c, two_mod x h]
theorem drop_6 (c ad x y : Int) (l : List Int) : (c :: (twoV ad ++ (twoV x ++ y :: l))).drop 6 = l := rfl
theorem drop_10 (c ad x y z : Int) (v : Int) (l : List Int) : (c :: (twoV ad ++ (twoV x ++ (twoV y ++ (twoV z ++ v :: l))))).drop 10 = l := rfl
/-- bits out of packed bits -/
theorem gBits_pk (l : List Bool) (hl : l.length < 65536) : gBits l.length (pkI l) = l := by
  have h8 : min (l.length : Int).toNat (8 * (pkI l).length) = l.length := by rw [pkI_length]; omega
  unfold gBits
  rw [h8]
  have e : wBitsL (wPack l) l.length = l := wBits_pack l
  conv => rhs; rw [← e]
  unfold wBitsL
  refine List.map_congr_left fun i hi => ?_
  unfold pbit bitsOf pkI ofB
  have hi' : i < l.length := by simpa using hi
  have hw : i / 8 < (wPack l).length := by rw [wPack_len]; omega
  have e1 : ((wPack l).map fun c => (c.toNat : Int)).getD (i / 8) 0 = (((wPack l).getD (i / 8) 0).toNat : Int) := by simp [hw]
  rw [e1]
  have e2 : ((((wPack l).getD (i / 8) 0).toNat : Int) / 2 ^ (i % 8) % 2) = (((((wPack l).getD (i / 8) 0).toNat) / 2 ^ (i % 8) % 2 : Nat) : Int) := by
    rw [Int.natCast_emod, Int.natCast_ediv, Int.natCast_pow]
    rfl
  rw [e2]
  exact decide_eq_decide.2 (by omega)
theorem rq_ext {a b : Rq} (h1 : a.code = b.code) (h2 : a.addr = b.addr) (h3 : a.cnt = b.cnt) (h4 : a.to_ = b.to_) (h5 : a.words = b.words) (h6 : a.bits = b.bits) (h7 : a.and_ = b.and_) (h8 : a.or_ = b.or_) : a = b := by
  cases a
  cases b
  simp_all
theorem list0 {α : Type} {l : List α} {n : Int} (h : (l.length : Int) = n) (hn : n = 0) : l = [] := List.eq_nil_of_length_eq_zero (by omega)
/-- the texts, code by code, read back -/
theorem text_back (a : Rq) (h : FormedP a) (ho : RqOk a) : readV (textV a) = a ∧ guessV (textV a) = a ∧ headV (textV a) = true ∧ textV a ≠ [] := by
  have hle := formed_le a h
  obtain ⟨hc, k2, k3, k4, k5, k6, _, _, k43, _, _⟩ := h
  have q2 := fit_pos k2 (cntV_le _).1
  have q3 := fit_pos k3 (wrdV_le _).1
  have q4 := fit_pos k4 (bitV_le _).1
  obtain ⟨c, ad, k, t, w, b, an, o⟩ := a
  have ow := ho.w
  have oa := ho.a
  have oo := ho.o
  simp only at hle hc k5 k6 k43 q2 q3 q4 ow oa oo
  obtain ⟨h1, h2, h3, h4, h5, h6, h7, h8⟩ := hle
  have wd := fun e => wdI_wb w e
  have bt := btI_pk b
  have gb := gBits_pk b (by omega)
  have adr : 0 ≤ ad ∧ ad < 65536 := by omega
  have kr : 0 ≤ k ∧ k < 65536 := by omega
  have tr : 0 ≤ t ∧ t < 65536 := by omega
  have br : 0 ≤ (b.length : Int) ∧ (b.length : Int) < 65536 := by omega
  have wr : 0 ≤ (w.length : Int) ∧ (w.length : Int) < 65536 := by omega
  clear k2 k3 k4 ho
  rcases code_cases c with rfl | rfl | rfl | rfl | rfl | rfl | rfl | rfl | rfl | rfl | rfl | e
  case inr.inr.inr.inr.inr.inr.inr.inr.inr.inr.inr => exact absurd hc (by unfold isV; simp [e])
  case inl =>
    rw [show cntV 1 = 2000 from rfl] at q2
    rw [show wrdV 1 = 0 from rfl] at q3
    rw [show bitV 1 = 0 from rfl] at q4
    obtain rfl : w = [] := List.eq_nil_of_length_eq_zero (by omega)
    obtain rfl : b = [] := List.eq_nil_of_length_eq_zero (by omega)
    obtain ⟨rfl, rfl⟩ : an = 0 ∧ o = 0 := by omega
    obtain rfl : t = 0 := by omega
    have ht : textV ⟨1, ad, k, 0, [], [], 0, 0⟩ = 1 :: (twoV ad ++ (twoV k ++ [])) := by simp [textV, tailV]
    rw [ht]
    refine ⟨?_, ?_, rfl, by simp⟩
    · simp only [readV, List.getD_cons_zero, numV_drop, List.drop_drop, Nat.add_zero, Nat.reduceAdd, num_1 _ _ _ adr, num_3 _ _ _ _ kr]
      simp
    · simp only [guessV, List.getD_cons_zero, num_1 _ _ _ adr, num_3 _ _ _ _ kr]
      simp
  case inr.inl =>
    rw [show cntV 2 = 2000 from rfl] at q2
    rw [show wrdV 2 = 0 from rfl] at q3
    rw [show bitV 2 = 0 from rfl] at q4
    obtain rfl : w = [] := List.eq_nil_of_length_eq_zero (by omega)
    obtain rfl : b = [] := List.eq_nil_of_length_eq_zero (by omega)
    obtain ⟨rfl, rfl⟩ : an = 0 ∧ o = 0 := by omega
    obtain rfl : t = 0 := by omega
    have ht : textV ⟨2, ad, k, 0, [], [], 0, 0⟩ = 2 :: (twoV ad ++ (twoV k ++ [])) := by simp [textV, tailV]
    rw [ht]
    refine ⟨?_, ?_, rfl, by simp⟩
    · simp only [readV, List.getD_cons_zero, numV_drop, List.drop_drop, Nat.add_zero, Nat.reduceAdd, num_1 _ _ _ adr, num_3 _ _ _ _ kr]
      simp
    · simp only [guessV, List.getD_cons_zero, num_1 _ _ _ adr, num_3 _ _ _ _ kr]
      simp
  case inr.inr.inl =>
    rw [show cntV 3 = 125 from rfl] at q2
    rw [show wrdV 3 = 0 from rfl] at q3
    rw [show bitV 3 = 0 from rfl] at q4
    obtain rfl : w = [] := List.eq_nil_of_length_eq_zero (by omega)
    obtain rfl : b = [] := List.eq_nil_of_length_eq_zero (by omega)
    obtain ⟨rfl, rfl⟩ : an = 0 ∧ o = 0 := by omega
    obtain rfl : t = 0 := by omega
    have ht : textV ⟨3, ad, k, 0, [], [], 0, 0⟩ = 3 :: (twoV ad ++ (twoV k ++ [])) := by simp [textV, tailV]
    rw [ht]
    refine ⟨?_, ?_, rfl, by simp⟩
    · simp only [readV, List.getD_cons_zero, numV_drop, List.drop_drop, Nat.add_zero, Nat.reduceAdd, num_1 _ _ _ adr, num_3 _ _ _ _ kr]
      simp
    · simp only [guessV, List.getD_cons_zero, num_1 _ _ _ adr, num_3 _ _ _ _ kr]
      simp
  case inr.inr.inr.inl =>
    rw [show cntV 4 = 125 from rfl] at q2
    rw [show wrdV 4 = 0 from rfl] at q3
    rw [show bitV 4 = 0 from rfl] at q4
    obtain rfl : w = [] := List.eq_nil_of_length_eq_zero (by omega)
    obtain rfl : b = [] := List.eq_nil_of_length_eq_zero (by omega)
    obtain ⟨rfl, rfl⟩ : an = 0 ∧ o = 0 := by omega
    obtain rfl : t = 0 := by omega
    have ht : textV ⟨4, ad, k, 0, [], [], 0, 0⟩ = 4 :: (twoV ad ++ (twoV k ++ [])) := by simp [textV, tailV]
    rw [ht]
    refine ⟨?_, ?_, rfl, by simp⟩
    · simp only [readV, List.getD_cons_zero, numV_drop, List.drop_drop, Nat.add_zero, Nat.reduceAdd, num_1 _ _ _ adr, num_3 _ _ _ _ kr]
      simp
    · simp only [guessV, List.getD_cons_zero, num_1 _ _ _ adr, num_3 _ _ _ _ kr]
      simp
  case inr.inr.inr.inr.inl =>
    rw [show cntV 5 = 0 from rfl] at q2
    rw [show wrdV 5 = 0 from rfl] at q3
    rw [show bitV 5 = 1 from rfl] at q4
    obtain rfl : k = 0 := by omega
    obtain rfl : w = [] := List.eq_nil_of_length_eq_zero (by omega)
    obtain ⟨rfl, rfl⟩ : an = 0 ∧ o = 0 := by omega
    obtain rfl : t = 0 := by omega
    obtain ⟨x, rfl⟩ : ∃ x, b = [x] := by
      cases b with
      | nil => simp at q4
      | cons x b => cases b with
        | nil => exact ⟨x, rfl⟩
        | cons y b => simp at q4; omega
    have ht : textV ⟨5, ad, 0, 0, [], [x], 0, 0⟩ = 5 :: (twoV ad ++ (twoV (if x = true then 65280 else 0) ++ [])) := by cases x <;> simp [textV, tailV, twoV]
    have xr : 0 ≤ (if x = true then (65280 : Int) else 0) ∧ (if x = true then (65280 : Int) else 0) < 65536 := by split <;> omega
    rw [ht]
    refine ⟨?_, ?_, rfl, by simp⟩
    · simp only [readV, List.getD_cons_zero, numV_drop, List.drop_drop, Nat.add_zero, Nat.reduceAdd, num_1 _ _ _ adr, num_3 _ _ _ _ xr]
      cases x <;> simp
    · simp only [guessV, List.getD_cons_zero, num_1 _ _ _ adr, num_3 _ _ _ _ xr]
      cases x <;> simp
  case inr.inr.inr.inr.inr.inl =>
    rw [show cntV 6 = 0 from rfl] at q2
    rw [show wrdV 6 = 1 from rfl] at q3
    rw [show bitV 6 = 0 from rfl] at q4
    obtain rfl : k = 0 := by omega
    obtain rfl : b = [] := List.eq_nil_of_length_eq_zero (by omega)
    obtain ⟨rfl, rfl⟩ : an = 0 ∧ o = 0 := by omega
    obtain rfl : t = 0 := by omega
    obtain ⟨x, rfl⟩ : ∃ x, w = [x] := by
      cases w with
      | nil => simp at q3
      | cons x w => cases w with
        | nil => exact ⟨x, rfl⟩
        | cons y w => simp at q3; omega
    have xr : 0 ≤ x ∧ x < 65536 := ow x (by simp)
    have ht : textV ⟨6, ad, 0, 0, [x], [], 0, 0⟩ = 6 :: (twoV ad ++ (twoV x ++ [])) := by
      have : x / 256 % 256 = x / 256 := by omega
      simp [textV, tailV, wbI_cons x [] xr, wbI_nil, twoV, this]
    rw [ht]
    refine ⟨?_, ?_, rfl, by simp⟩
    · simp only [readV, List.getD_cons_zero, numV_drop, List.drop_drop, Nat.add_zero, Nat.reduceAdd, num_1 _ _ _ adr, num_3 _ _ _ _ xr]
      simp
    · simp only [guessV, List.getD_cons_zero, num_1 _ _ _ adr, num_3 _ _ _ _ xr]
      simp
  case inr.inr.inr.inr.inr.inr.inl =>
    rw [show cntV 15 = 0 from rfl] at q2
    rw [show wrdV 15 = 0 from rfl] at q3
    rw [show bitV 15 = 1968 from rfl] at q4
    obtain rfl : k = 0 := by omega
    obtain rfl : w = [] := List.eq_nil_of_length_eq_zero (by omega)
    obtain ⟨rfl, rfl⟩ : an = 0 ∧ o = 0 := by omega
    obtain rfl : t = 0 := by omega
    have ht : textV ⟨15, ad, 0, 0, [], b, 0, 0⟩ = 15 :: (twoV ad ++ (twoV b.length ++ ((pkI b).length : Int) % 256 :: pkI b)) := by simp [textV, tailV, btV]
    rw [ht]
    refine ⟨?_, ?_, rfl, by simp⟩
    · simp only [readV, List.getD_cons_zero, numV_drop, List.drop_drop, Nat.add_zero, Nat.reduceAdd, num_1 _ _ _ adr, num_3 _ _ _ _ br, drop_6, bt.1, gb]
      simp
    · simp only [guessV, List.getD_cons_zero, num_1 _ _ _ adr, num_3 _ _ _ _ br, drop_6, bt.1, gb]
      simp
  case inr.inr.inr.inr.inr.inr.inr.inl =>
    rw [show cntV 16 = 0 from rfl] at q2
    rw [show wrdV 16 = 123 from rfl] at q3
    rw [show bitV 16 = 0 from rfl] at q4
    obtain rfl : k = 0 := by omega
    obtain rfl : b = [] := List.eq_nil_of_length_eq_zero (by omega)
    obtain ⟨rfl, rfl⟩ : an = 0 ∧ o = 0 := by omega
    obtain rfl : t = 0 := by omega
    have ht : textV ⟨16, ad, 0, 0, w, [], 0, 0⟩ = 16 :: (twoV ad ++ (twoV w.length ++ ((wbI w).length : Int) % 256 :: wbI w)) := by simp [textV, tailV, wtV]
    rw [ht]
    refine ⟨?_, ?_, rfl, by simp⟩
    · simp only [readV, List.getD_cons_zero, numV_drop, List.drop_drop, Nat.add_zero, Nat.reduceAdd, num_1 _ _ _ adr, drop_6, (wd ow).1]
      simp
    · simp only [guessV, List.getD_cons_zero, num_1 _ _ _ adr, drop_6, (wd ow).1]
      simp
  case inr.inr.inr.inr.inr.inr.inr.inr.inl =>
    rw [show cntV 22 = 0 from rfl] at q2
    rw [show wrdV 22 = 0 from rfl] at q3
    rw [show bitV 22 = 0 from rfl] at q4
    obtain rfl : k = 0 := by omega
    obtain rfl : w = [] := List.eq_nil_of_length_eq_zero (by omega)
    obtain rfl : b = [] := List.eq_nil_of_length_eq_zero (by omega)
    obtain rfl : t = 0 := by omega
    have ht : textV ⟨22, ad, 0, 0, [], [], an, o⟩ = 22 :: (twoV ad ++ (twoV an ++ (twoV o ++ []))) := by simp [textV, tailV]
    rw [ht]
    refine ⟨?_, ?_, rfl, by simp⟩
    · simp only [readV, List.getD_cons_zero, numV_drop, List.drop_drop, Nat.add_zero, Nat.reduceAdd, num_1 _ _ _ adr, num_3 _ _ _ _ oa, num_5 _ _ _ _ _ oo]
      simp
    · simp only [guessV, List.getD_cons_zero, num_1 _ _ _ adr, num_3 _ _ _ _ oa, num_5 _ _ _ _ _ oo]
      simp
  case inr.inr.inr.inr.inr.inr.inr.inr.inr.inl =>
    rw [show cntV 23 = 125 from rfl] at q2
    rw [show wrdV 23 = 121 from rfl] at q3
    rw [show bitV 23 = 0 from rfl] at q4
    obtain rfl : b = [] := List.eq_nil_of_length_eq_zero (by omega)
    obtain ⟨rfl, rfl⟩ : an = 0 ∧ o = 0 := by omega
    have ht : textV ⟨23, ad, k, t, w, [], 0, 0⟩ = 23 :: (twoV ad ++ (twoV k ++ (twoV t ++ (twoV w.length ++ ((wbI w).length : Int) % 256 :: wbI w)))) := by simp [textV, tailV, wtV]
    rw [ht]
    refine ⟨?_, ?_, rfl, by simp⟩
    · simp only [readV, List.getD_cons_zero, numV_drop, List.drop_drop, Nat.add_zero, Nat.reduceAdd, num_1 _ _ _ adr, num_3 _ _ _ _ kr, num_5 _ _ _ _ _ tr, drop_10, (wd ow).1]
      simp
    · simp only [guessV, List.getD_cons_zero, num_1 _ _ _ adr, num_3 _ _ _ _ kr, num_5 _ _ _ _ _ tr, drop_10, (wd ow).1]
      simp
  case inr.inr.inr.inr.inr.inr.inr.inr.inr.inr.inl =>
    rw [show cntV 43 = 4 from rfl] at q2
    rw [show wrdV 43 = 0 from rfl] at q3
    rw [show bitV 43 = 0 from rfl] at q4
    obtain rfl : w = [] := List.eq_nil_of_length_eq_zero (by omega)
    obtain rfl : b = [] := List.eq_nil_of_length_eq_zero (by omega)
    obtain ⟨rfl, rfl⟩ : an = 0 ∧ o = 0 := by omega
    obtain rfl : t = 0 := by omega
    have ad2 : ad ≤ 255 := k43 rfl
    have ht : textV ⟨43, ad, k, 0, [], [], 0, 0⟩ = [43, 14, k, ad] := by
      have e1 : k % 256 = k := by omega
      have e2 : ad % 256 = ad := by omega
      simp [textV, e1, e2]
    have m1 : numV [43, 14, k, ad] 1 % 256 = k := by rw [show numV [43, 14, k, ad] 1 = 256 * 14 + k from rfl]; omega
    have m2 : numV [43, 14, k, ad] 2 % 256 = ad := by rw [show numV [43, 14, k, ad] 2 = 256 * k + ad from rfl]; omega
    rw [ht]
    refine ⟨?_, rfl, rfl, by simp⟩
    show (⟨43, numV [43, 14, k, ad] 2 % 256, numV [43, 14, k, ad] 1 % 256, 0, [], [], 0, 0⟩ : Rq) = _
    rw [m1, m2]
end Go.Proofs.Ytjkofefcoeejbaa

/- Requests: program and document parse alike; what is cut off is none. -/
namespace Go.Proofs.Ytjkofefcoeejbaa
open Go
set_option linter.unusedSimpArgs false
set_option linter.unusedVariables false
set_option maxRecDepth 100000
theorem parse_same (b : List Int) (h : Bytes b) (hl : b.length ≤ 600) : refParseV b = parseV b := by
  have r := readV_ok b h hl
  have g := guessV_ok b h hl
  have k : ∀ a, FormedP a → RqOk a → textV a = b → readV b = a ∧ guessV b = a := by
    intro a h1 h2 h3
    have := text_back a h1 h2
    rw [h3] at this
    exact ⟨this.1, this.2.1⟩
  by_cases p : FormedP (readV b) ∧ textV (readV b) = b
  · have e := (k _ p.1 r p.2).2
    unfold refParseV parseV
    rw [e]
  · have q : ¬ (FormedP (guessV b) ∧ textV (guessV b) = b) := by
      intro q
      have e := (k _ q.1 g q.2).1
      rw [← e] at q
      exact p q
    unfold refParseV parseV
    rw [if_pos q, if_pos p]
theorem parse_text (a : Rq) (h : RightP a) (ho : RqOk a) : parseV (textV a) = (a, 0) := by
  obtain ⟨e1, e2, e3, e4⟩ := text_back a h.1 ho
  unfold parseV
  rw [e1, if_neg (by simp [e3, e4]), if_neg (by simp [h.1]), if_neg (by simp [h.2])]
theorem parse_back (b : List Int) (h : (parseV b).2 = 0) : RightP (parseV b).1 ∧ textV (parseV b).1 = b ∧ parseV b = (readV b, 0) := by
  unfold parseV at h ⊢
  split
  · rename_i c; rw [if_pos c] at h; exact absurd h (by decide)
  · rename_i c
    rw [if_neg c] at h
    split
    · rename_i d; rw [if_pos d] at h; exact absurd h (by decide)
    · rename_i d
      rw [if_neg d] at h
      split
      · rename_i e; rw [if_pos e] at h; exact absurd h (by decide)
      · rename_i e
        have d' := Decidable.not_not.1 d
        exact ⟨⟨d'.1, Decidable.not_not.1 e⟩, d'.2, rfl⟩
theorem parse_zero (b : List Int) (h : (parseV b).2 ≠ 0) : (parseV b).1 = rqZ := by
  unfold parseV at h ⊢
  split
  · rfl
  · rename_i c
    rw [if_neg c] at h
    split
    · rfl
    · rename_i d
      rw [if_neg d] at h
      split
      · rfl
      · rename_i e
        rw [if_neg e] at h
        exact absurd rfl h
def lenF (c w b : Nat) : Nat := if c = 43 then 4 else if c = 15 then 6 + (b + 7) / 8 else if c = 16 then 6 + 2 * w else if c = 22 then 7 else if c = 23 then 10 + 2 * w else 5
theorem text_shape (a : Rq) (h : FormedP a) : (textV a).getD 0 0 = a.code ∧ (textV a).length = lenF a.code.toNat a.words.length a.bits.length ∧ (a.code = 15 → numV (textV a) 3 = a.bits.length) ∧ (a.code = 16 → numV (textV a) 3 = a.words.length) ∧ (a.code = 23 → numV (textV a) 7 = a.words.length) := by
  have hle := formed_le a h
  obtain ⟨hc, k2, k3, k4, k5, k6, _, _, k43, _, _⟩ := h
  have q3 := fit_pos k3 (wrdV_le _).1
  obtain ⟨c, ad, k, t, w, b, an, o⟩ := a
  simp only at hle hc q3
  have br : 0 ≤ (b.length : Int) ∧ (b.length : Int) < 65536 := by omega
  have wr : 0 ≤ (w.length : Int) ∧ (w.length : Int) < 65536 := by omega
  rcases code_cases c with rfl | rfl | rfl | rfl | rfl | rfl | rfl | rfl | rfl | rfl | rfl | e
  case inr.inr.inr.inr.inr.inr.inr.inr.inr.inr.inr => exact absurd hc (by unfold isV; simp [e])
  case inr.inr.inr.inr.inr.inl =>
    rw [show wrdV 6 = 1 from rfl] at q3
    have : w.length = 1 := by omega
    refine ⟨by simp [textV], ?_, by simp, by simp, by simp⟩
    simp [textV, tailV, twoV, lenF, wbI_length, this]
  case inr.inr.inr.inr.inr.inr.inl =>
    have ht : textV ⟨15, ad, k, t, w, b, an, o⟩ = 15 :: (twoV ad ++ (twoV b.length ++ ((pkI b).length : Int) % 256 :: pkI b)) := by simp [textV, tailV, btV]
    rw [ht]
    exact ⟨rfl, by simp [twoV, lenF, pkI_length]; omega, fun _ => num_3 _ _ _ _ br, by simp, by simp⟩
  case inr.inr.inr.inr.inr.inr.inr.inl =>
    have ht : textV ⟨16, ad, k, t, w, b, an, o⟩ = 16 :: (twoV ad ++ (twoV w.length ++ ((wbI w).length : Int) % 256 :: wbI w)) := by simp [textV, tailV, wtV]
    rw [ht]
    exact ⟨rfl, by simp [twoV, lenF, wbI_length]; omega, by simp, fun _ => num_3 _ _ _ _ wr, by simp⟩
  case inr.inr.inr.inr.inr.inr.inr.inr.inr.inl =>
    have ht : textV ⟨23, ad, k, t, w, b, an, o⟩ = 23 :: (twoV ad ++ (twoV k ++ (twoV t ++ (twoV w.length ++ ((wbI w).length : Int) % 256 :: wbI w)))) := by simp [textV, tailV, wtV]
    rw [ht]
    refine ⟨rfl, by simp [twoV, lenF, wbI_length]; omega, by simp, by simp, fun _ => ?_⟩
    show numV (23 :: ad / 256 % 256 :: ad % 256 :: k / 256 % 256 :: k % 256 :: t / 256 % 256 :: t % 256 :: (twoV w.length ++ ((wbI w).length : Int) % 256 :: wbI w)) 7 = w.length
    rw [numV_c, numV_c, numV_c, numV_c, numV_c, numV_c, numV_c, two_mod _ wr]
  case inr.inr.inr.inr.inl =>
    refine ⟨by simp [textV], ?_, by simp, by simp, by simp⟩
    simp [textV, tailV, twoV, lenF]
    split <;> rfl
  all_goals
    refine ⟨by simp [textV], ?_, by simp, by simp, by simp⟩
    simp [textV, tailV, twoV, lenF]
theorem text_most (a : Rq) (h : FormedP a) : (textV a).length ≤ 253 := by
  rw [(text_shape a h).2.1]
  have := formed_le a h
  have q3 := fit_pos h.2.2.1 (wrdV_le _).1
  have q4 : wrdV a.code = 121 ∨ a.code ≠ 23 := by
    by_cases e : a.code = 23
    · exact .inl (by rw [e]; rfl)
    · exact .inr e
  have hc : isV a.code = true := h.1
  unfold isV at hc
  have := of_decide_eq_true hc
  unfold lenF
  repeat' split
  all_goals omega
theorem getD_take (l : List Int) (n i : Nat) (h : i < n) : (l.take n).getD i 0 = l.getD i 0 := by
  simp only [List.getD_eq_getElem?_getD, List.getElem?_take, h, if_true]
theorem numV_take (l : List Int) (n i : Nat) (h : i + 2 ≤ n) (hn : n ≤ l.length) : numV (l.take n) i = numV l i := by
  unfold numV
  rw [getD_take l n i (by omega), getD_take l n (i + 1) (by omega), if_pos (by simp; omega), if_pos (by omega)]
theorem cut_none (a : Rq) (h : FormedP a) (ho : RqOk a) (cut : Nat) (h1 : 1 ≤ cut) (h2 : cut < (textV a).length) : parseV ((textV a).take cut) = (rqZ, 3) := by
  obtain ⟨_, _, hh, _⟩ := text_back a h ho
  obtain ⟨s1, s2, s3, s4, s5⟩ := text_shape a h
  have hm := text_most a h
  have hb : Bytes ((textV a).take cut) := fun x hx => text_bytes a x (List.mem_of_mem_take hx)
  have hl : ((textV a).take cut).length = cut := by simp; omega
  have g0 := getD_take (textV a) cut 0 (by omega)
  have hd : headV ((textV a).take cut) = true := by
    unfold headV at hh ⊢
    rw [g0, hl]
    by_cases c1 : 1 < cut
    · rw [getD_take (textV a) cut 1 c1]
      have : decide (1 < cut) = decide (1 < (textV a).length) := by rw [decide_eq_true c1, decide_eq_true (by omega)]
      rw [this]
      exact hh
    · simp only [Bool.and_eq_true] at hh
      simp [hh.1, c1]
      simpa using hh.1
  have hn : (textV a).take cut ≠ [] := by intro e; rw [e] at hl; simp at hl; omega
  have key : ¬ (FormedP (readV ((textV a).take cut)) ∧ textV (readV ((textV a).take cut)) = (textV a).take cut) := by
    rintro ⟨p1, p2⟩
    have ho' := readV_ok _ hb (by omega)
    generalize readV ((textV a).take cut) = a' at p1 p2 ho'
    obtain ⟨r1, r2, r3, r4, r5⟩ := text_shape a' p1
    rw [p2] at r1 r2 r3 r4 r5
    rw [g0, s1] at r1
    rw [hl] at r2
    rw [← r1] at r2 r3 r4 r5
    have n3 := fun hx => numV_take (textV a) cut 3 hx (by omega)
    have n7 := fun hx => numV_take (textV a) cut 7 hx (by omega)
    rw [s2] at h2
    have hc : isV a.code = true := h.1
    unfold isV at hc
    have hc' := of_decide_eq_true hc
    unfold lenF at r2 h2
    have : ∀ c : Nat, a.code = c ↔ a.code.toNat = c := by intro c; omega
    by_cases c15 : a.code = 15
    · have e1 := s3 c15
      have e2 := r3 c15
      rw [c15] at r2 h2
      simp at r2 h2
      rw [n3 (by omega), e1] at e2
      omega
    · by_cases c16 : a.code = 16
      · have e1 := s4 c16
        have e2 := r4 c16
        rw [c16] at r2 h2
        simp at r2 h2
        rw [n3 (by omega), e1] at e2
        omega
      · by_cases c23 : a.code = 23
        · have e1 := s5 c23
          have e2 := r5 c23
          rw [c23] at r2 h2
          simp at r2 h2
          rw [n7 (by omega), e1] at e2
          omega
        · have x1 : ¬ a.code.toNat = 15 := by omega
          have x2 : ¬ a.code.toNat = 16 := by omega
          have x3 : ¬ a.code.toNat = 23 := by omega
          simp only [x1, x2, x3, if_false] at r2 h2
          omega
  unfold parseV
  rw [if_neg (by simp [hd, hn]), if_pos key]
theorem parse_ok (b : List Int) (h : Bytes b) (hl : b.length ≤ 600) : RqOk (parseV b).1 := by
  have z : RqOk rqZ := ⟨by intro x hx; simp [rqZ] at hx, by simp [rqZ], by simp [rqZ], by simp [rqZ], by simp [rqZ]⟩
  unfold parseV
  split
  · exact z
  · split
    · exact z
    · split
      · exact z
      · exact readV_ok b h hl
end Go.Proofs.Ytjkofefcoeejbaa
