/- Texts of mine, laid together: GVoteM, GVoteV, GImg, GImg2, GRef11, FJudge, GJudge, GJudge2, GJudge3. -/
import Derived.Test.YtbhnkdnfmlnajaaKT5
/- The document's median. -/
namespace Go.Proofs.Ytbhnkdnfmlnajaa
open Go
set_option linter.unusedSimpArgs false
set_option linter.unusedVariables false
set_option maxRecDepth 100000
def medV : List Int → Int × Bool
  | [a] => (a, true)
  | [a, b] => ((a + b) / 2, true)
  | [a, b, c] => (max (min a b) (min (max a b) c), true)
  | _ => (0, false)
theorem medV_other (l : List Int) (h1 : l.length ≠ 1) (h2 : l.length ≠ 2) (h3 : l.length ≠ 3) : medV l = (0, false) := by
  match l, h1, h2, h3 with
  | [], _, _, _ => rfl
  | [a], h1, _, _ => exact absurd rfl h1
  | [a, b], _, h2, _ => exact absurd rfl h2
  | [a, b, c], _, _, h3 => exact absurd rfl h3
  | _ :: _ :: _ :: _ :: _, _, _, _ => rfl
def oneI (p : Prop) [Decidable p] : Int := if p then 1 else 0
theorem oneI_le (p : Prop) [Decidable p] : 0 ≤ oneI p ∧ oneI p ≤ 1 := by unfold oneI; split <;> omega
theorem rmed_step (n fl : Nat) (H : Heap) (l : List Int) (hl : l.length = 3) (K : Ex → KF) (m i k : Nat) (lo hi : Int) (hi3 : i < l.length) (hk : k < l.length) (b1 : 0 ≤ lo ∧ lo ≤ 100) (b2 : 0 ≤ hi ∧ hi ≤ 100) :
    s_triuneref12_Median_L1 n fl K (m + 1) (LV 1 (I .u16) l .sh) (I .i64 i) (I .i64 lo) (I .i64 hi) (I .i64 k) H = s_triuneref12_Median_L1 n fl K m (LV 1 (I .u16) l .sh) (I .i64 i) (I .i64 (lo + oneI (l[k] < l[i]))) (I .i64 (hi + oneI (l[i] < l[k]))) (I .i64 (k + 1)) H := by
  have hk3 : (k : Int) < 3 := by omega
  rw [s_triuneref12_Median_L1, s_triuneref12_Median_B1]
  by_cases h1 : l[k] < l[i]
  · have h2 : ¬ l[i] < l[k] := by omega
    have e1 : oneI (l[k] < l[i]) = 1 := if_pos h1
    have e2 : oneI (l[i] < l[k]) = 0 := if_neg h2
    rw [e1, e2, Int.add_zero]
    simp -implicitDefEqProofs (disch := first | omega | (simp only [List.length_set, List.length_append, List.length_cons, List.length_nil, List.length_take, List.length_drop, List.length_map]; omega) | simp) [wrap_i64, wrap_u16_id, wrap_u8_id, tdiv_pos, tmod_pos, -getElem?_pos, -getElem?_neg, -List.length_eq_zero_iff, -List.getElem_cons_drop, hk3, hk, hi3, h1, h2]
  · have e1 : oneI (l[k] < l[i]) = 0 := if_neg h1
    rw [e1, Int.add_zero]
    by_cases h2 : l[i] < l[k]
    · have e2 : oneI (l[i] < l[k]) = 1 := if_pos h2
      rw [e2]
      simp -implicitDefEqProofs (disch := first | omega | (simp only [List.length_set, List.length_append, List.length_cons, List.length_nil, List.length_take, List.length_drop, List.length_map]; omega) | simp) [wrap_i64, wrap_u16_id, wrap_u8_id, tdiv_pos, tmod_pos, -getElem?_pos, -getElem?_neg, -List.length_eq_zero_iff, -List.getElem_cons_drop, hk3, hk, hi3, h1, h2]
    · have e2 : oneI (l[i] < l[k]) = 0 := if_neg h2
      rw [e2, Int.add_zero]
      simp -implicitDefEqProofs (disch := first | omega | (simp only [List.length_set, List.length_append, List.length_cons, List.length_nil, List.length_take, List.length_drop, List.length_map]; omega) | simp) [wrap_i64, wrap_u16_id, wrap_u8_id, tdiv_pos, tmod_pos, -getElem?_pos, -getElem?_neg, -List.length_eq_zero_iff, -List.getElem_cons_drop, hk3, hk, hi3, h1, h2]
theorem rmed_L1 (n fl : Nat) (H : Heap) (l : List Int) (hl : l.length = 3) (K : Ex → KF) (m i : Nat) (hi3 : i < l.length) :
    s_triuneref12_Median_L1 n fl K (m + 4) (LV 1 (I .u16) l .sh) (I .i64 i) (I .i64 0) (I .i64 0) (I .i64 0) H = K (.exit 2) (s_triuneref12_Median_O1 (LV 1 (I .u16) l .sh) (I .i64 i) (I .i64 (oneI (l[0] < l[i]) + oneI (l[1] < l[i]) + oneI (l[2] < l[i]))) (I .i64 (oneI (l[i] < l[0]) + oneI (l[i] < l[1]) + oneI (l[i] < l[2])))) H := by
  have o1 := oneI_le (l[0] < l[i])
  have o2 := oneI_le (l[1] < l[i])
  have o3 := oneI_le (l[i] < l[0])
  have o4 := oneI_le (l[i] < l[1])
  have s0 := rmed_step n fl H l hl K (m + 3) i 0 0 0 hi3 (by omega) (by omega) (by omega)
  have s1 := rmed_step n fl H l hl K (m + 2) i 1 (oneI (l[0] < l[i])) (oneI (l[i] < l[0])) hi3 (by omega) (by omega) (by omega)
  have s2 := rmed_step n fl H l hl K (m + 1) i 2 (oneI (l[0] < l[i]) + oneI (l[1] < l[i])) (oneI (l[i] < l[0]) + oneI (l[i] < l[1])) hi3 (by omega) (by omega) (by omega)
  simp only [Int.zero_add, Int.natCast_zero] at s0
  refine Eq.trans s0 (Eq.trans s1 (Eq.trans s2 ?_))
  rw [s_triuneref12_Median_L1, s_triuneref12_Median_B1]
  simp -implicitDefEqProofs (disch := first | omega | (simp only [List.length_set, List.length_append, List.length_cons, List.length_nil, List.length_take, List.length_drop, List.length_map]; omega) | simp) [wrap_i64, wrap_u16_id, wrap_u8_id, tdiv_pos, tmod_pos, -getElem?_pos, -getElem?_neg, -List.length_eq_zero_iff, -List.getElem_cons_drop]
def loI (l : List Int) (i : Nat) : Int := oneI (l.getD 0 0 < l.getD i 0) + oneI (l.getD 1 0 < l.getD i 0) + oneI (l.getD 2 0 < l.getD i 0)
def hiI (l : List Int) (i : Nat) : Int := oneI (l.getD i 0 < l.getD 0 0) + oneI (l.getD i 0 < l.getD 1 0) + oneI (l.getD i 0 < l.getD 2 0)
theorem rmed_round (n : Nat) (hn : 10 ≤ n) (fl : Nat) (H : Heap) (l : List Int) (hl : l.length = 3) (K : Ex → KF) (m i : Nat) (hi3 : i < l.length) :
    s_triuneref12_Median_L0 n fl K (m + 1) (LV 1 (I .u16) l .sh) (I .i64 i) H = if loI l i ≤ 1 ∧ hiI l i ≤ 1 then K .ret (s_triuneref12_Median_O0 (I .u16 l[i]) (Bo true)) H else s_triuneref12_Median_L0 n fl K m (LV 1 (I .u16) l .sh) (I .i64 (i + 1)) H := by
  obtain ⟨n', rfl⟩ : ∃ n', n = n' + 4 := ⟨n - 4, by omega⟩
  have hk3 : (i : Int) < 3 := by omega
  have q : ∀ K, loopG [0, 4, 5, 6, 7] [0, 4, 5, 6] 71 (s_triuneref12_Median_b1 (n' + 4) fl) (n' + 4) (s_triuneref12_Median_I1 (LV 1 (I .u16) l .sh) (I .i64 i) (I .i64 0) (I .i64 0) (I .i64 0)) H K = _ := fun K => (s_triuneref12_Median_L1_eq _ _ _ _ _ _ _ _ _ _).trans (rmed_L1 (n' + 4) fl H l hl K n' i hi3)
  have g0 : l.getD 0 0 = l[0] := by simp [hl]
  have g1 : l.getD 1 0 = l[1] := by simp [hl]
  have g2 : l.getD 2 0 = l[2] := by simp [hl]
  have gi : l.getD i 0 = l[i] := by simp [hi3]
  have e1 : loI l i = oneI (l[0] < l[i]) + oneI (l[1] < l[i]) + oneI (l[2] < l[i]) := by unfold loI; simp only [g0, g1, g2, gi]
  have e2 : hiI l i = oneI (l[i] < l[0]) + oneI (l[i] < l[1]) + oneI (l[i] < l[2]) := by unfold hiI; simp only [g0, g1, g2, gi]
  rw [← e1, ← e2] at q
  rw [s_triuneref12_Median_L0, s_triuneref12_Median_B0]
  generalize loI l i = lo at *
  generalize hiI l i = hi at *
  by_cases h1 : lo ≤ 1
  · by_cases h2 : hi ≤ 1
    · rw [if_pos ⟨h1, h2⟩]
      simp -implicitDefEqProofs (disch := first | omega | (simp only [List.length_set, List.length_append, List.length_cons, List.length_nil, List.length_take, List.length_drop, List.length_map]; omega) | simp) [wrap_i64, wrap_u16_id, wrap_u8_id, tdiv_pos, tmod_pos, -getElem?_pos, -getElem?_neg, -List.length_eq_zero_iff, -List.getElem_cons_drop, hk3, q, s_triuneref12_Median_O1, h1, h2, hi3]
    · rw [if_neg (fun h => h2 h.2)]
      simp -implicitDefEqProofs (disch := first | omega | (simp only [List.length_set, List.length_append, List.length_cons, List.length_nil, List.length_take, List.length_drop, List.length_map]; omega) | simp) [wrap_i64, wrap_u16_id, wrap_u8_id, tdiv_pos, tmod_pos, -getElem?_pos, -getElem?_neg, -List.length_eq_zero_iff, -List.getElem_cons_drop, hk3, q, s_triuneref12_Median_O1, h1, h2, hi3]
  · rw [if_neg (fun h => h1 h.1)]
    simp -implicitDefEqProofs (disch := first | omega | (simp only [List.length_set, List.length_append, List.length_cons, List.length_nil, List.length_take, List.length_drop, List.length_map]; omega) | simp) [wrap_i64, wrap_u16_id, wrap_u8_id, tdiv_pos, tmod_pos, -getElem?_pos, -getElem?_neg, -List.length_eq_zero_iff, -List.getElem_cons_drop, hk3, q, s_triuneref12_Median_O1, h1, hi3]
theorem med_good (a b c : Int) (i : Nat) (hi : i < 3) (h : loI [a, b, c] i ≤ 1 ∧ hiI [a, b, c] i ≤ 1) : max (min a b) (min (max a b) c) = [a, b, c].getD i 0 := by
  have hi' : i = 0 ∨ i = 1 ∨ i = 2 := by omega
  unfold loI hiI oneI at h
  rcases hi' with rfl | rfl | rfl <;> simp only [List.getD_cons_zero, List.getD_cons_succ] at h ⊢ <;> omega
theorem med_some (a b c : Int) (h0 : ¬ (loI [a, b, c] 0 ≤ 1 ∧ hiI [a, b, c] 0 ≤ 1)) (h1 : ¬ (loI [a, b, c] 1 ≤ 1 ∧ hiI [a, b, c] 1 ≤ 1)) : loI [a, b, c] 2 ≤ 1 ∧ hiI [a, b, c] 2 ≤ 1 := by
  unfold loI hiI oneI at *
  simp only [List.getD_cons_zero, List.getD_cons_succ] at h0 h1 ⊢
  omega
theorem len1 : ∀ (l : List Int), l.length = 1 → ∃ a, l = [a]
  | [a], _ => ⟨a, rfl⟩
theorem len2 : ∀ (l : List Int), l.length = 2 → ∃ a b, l = [a, b]
  | [a, b], _ => ⟨a, b, rfl⟩
theorem len3 : ∀ (l : List Int), l.length = 3 → ∃ a b c, l = [a, b, c]
  | [a, b, c], _ => ⟨a, b, c, rfl⟩
theorem ref12_Median_c (n : Nat) (hn : 20 ≤ n) (l : List Int) (hw : Words l) (hl : l.length ≤ 1000) (t : Tag) : cP n 108 false [LV 1 (I .u16) l t] = some (.tup [I .u16 (medV l).1, Bo (medV l).2]) := by
  obtain ⟨n, rfl⟩ : ∃ m, n = m + 1 := ⟨n - 1, by omega⟩
  have fin : ∀ v B, (∃ H', s_triuneref12_Median n [] 0 (LV 1 (I .u16) l .sh) = some (.tup [I .u16 v, Bo B], H')) → medV l = (v, B) → cP (n + 1) 108 false [LV 1 (I .u16) l t] = some (.tup [I .u16 (medV l).1, Bo (medV l).2]) := by
    rintro v B ⟨H', h1⟩ h2
    rw [h2]
    exact cP_of (args' := [LV 1 (I .u16) l .sh]) (by simp [argEl_eq]) ((s_triuneref12_Median_eq _ _ _ _).trans h1) (by simp)
  by_cases h1 : l.length = 1
  · obtain ⟨a, rfl⟩ : ∃ a, l = [a] := len1 l h1
    exact fin a true ⟨_, by unfold s_triuneref12_Median; simp -implicitDefEqProofs (disch := first | omega | (simp only [List.length_set, List.length_append, List.length_cons, List.length_nil, List.length_take, List.length_drop, List.length_map]; omega) | simp) [wrap_i64, wrap_u16_id, wrap_u8_id, tdiv_pos, tmod_pos, -getElem?_pos, -getElem?_neg, -List.length_eq_zero_iff, -List.getElem_cons_drop]; first | rfl | exact ⟨rfl, rfl⟩⟩ rfl
  · have h1' : ¬ (l.length : Int) = 1 := by omega
    by_cases h2 : l.length = 2
    · obtain ⟨a, b, rfl⟩ : ∃ a b, l = [a, b] := len2 l h2
      have ha := hw a (by simp)
      have hb := hw b (by simp)
      have e1 : IntKind.wrap .u16 ((a + b) / 2) = (a + b) / 2 := wrap_u16_id _ (by omega) (by omega)
      exact fin ((a + b) / 2) true ⟨_, by unfold s_triuneref12_Median; simp -implicitDefEqProofs (disch := first | omega | (simp only [List.length_set, List.length_append, List.length_cons, List.length_nil, List.length_take, List.length_drop, List.length_map]; omega) | simp) [wrap_i64, wrap_u16_id, wrap_u8_id, tdiv_pos, tmod_pos, -getElem?_pos, -getElem?_neg, -List.length_eq_zero_iff, -List.getElem_cons_drop, e1]; first | rfl | exact ⟨rfl, rfl⟩⟩ rfl
    · have h2' : ¬ (l.length : Int) = 2 := by omega
      by_cases h3 : l.length = 3
      · have h3' : (l.length : Int) = 3 := by omega
        have lq : ∀ K H, loopG [0, 4] [2, 3] 71 (s_triuneref12_Median_b0 n 0) n (s_triuneref12_Median_I0 (LV 1 (I .u16) l .sh) (I .i64 0)) H K = _ := fun K H => s_triuneref12_Median_L0_eq _ _ _ _ _ _ _
        obtain ⟨m, rfl⟩ : ∃ m, n = m + 3 := ⟨n - 3, by omega⟩
        have r0 := fun K H => rmed_round (m + 3) (by omega) 0 H l h3 K (m + 2) 0 (by omega)
        have r1 := fun K H => rmed_round (m + 3) (by omega) 0 H l h3 K (m + 1) 1 (by omega)
        have r2 := fun K H => rmed_round (m + 3) (by omega) 0 H l h3 K m 2 (by omega)
        have all : ∃ i, ∃ hi : i < l.length, (medV l = (l[i], true)) ∧ ∀ K H, s_triuneref12_Median_L0 (m + 3) 0 K (m + 3) (LV 1 (I .u16) l .sh) (I .i64 0) H = K .ret (s_triuneref12_Median_O0 (I .u16 l[i]) (Bo true)) H := by
          obtain ⟨a, b, c, rfl⟩ : ∃ a b c, l = [a, b, c] := len3 l h3
          have md : ∀ i (h : i < 3), (loI [a, b, c] i ≤ 1 ∧ hiI [a, b, c] i ≤ 1) → medV [a, b, c] = ([a, b, c][i], true) := by
            intro i h g
            have := med_good a b c i h g
            show (max (min a b) (min (max a b) c), true) = _
            rw [this]
            simp [h]
          by_cases g0 : loI [a, b, c] 0 ≤ 1 ∧ hiI [a, b, c] 0 ≤ 1
          · exact ⟨0, by simp, md 0 (by omega) g0, fun K H => by rw [show (I .i64 0) = I .i64 ((0 : Nat) : Int) from rfl, r0 K H, if_pos g0]⟩
          · by_cases g1 : loI [a, b, c] 1 ≤ 1 ∧ hiI [a, b, c] 1 ≤ 1
            · exact ⟨1, by simp, md 1 (by omega) g1, fun K H => by
                rw [show (I .i64 0) = I .i64 ((0 : Nat) : Int) from rfl, r0 K H, if_neg g0]
                rw [show I .i64 (((0 : Nat) : Int) + 1) = I .i64 ((1 : Nat) : Int) from rfl, r1 K H, if_pos g1]⟩
            · have g2 := med_some a b c g0 g1
              exact ⟨2, by simp, md 2 (by omega) g2, fun K H => by
                rw [show (I .i64 0) = I .i64 ((0 : Nat) : Int) from rfl, r0 K H, if_neg g0]
                rw [show I .i64 (((0 : Nat) : Int) + 1) = I .i64 ((1 : Nat) : Int) from rfl, r1 K H, if_neg g1]
                rw [show I .i64 (((1 : Nat) : Int) + 1) = I .i64 ((2 : Nat) : Int) from rfl, r2 K H, if_pos g2]⟩
        obtain ⟨i, hi, e1, e2⟩ := all
        exact fin l[i] true ⟨_, by unfold s_triuneref12_Median; simp -implicitDefEqProofs (disch := first | omega | (simp only [List.length_set, List.length_append, List.length_cons, List.length_nil, List.length_take, List.length_drop, List.length_map]; omega) | simp) [wrap_i64, wrap_u16_id, wrap_u8_id, tdiv_pos, tmod_pos, -getElem?_pos, -getElem?_neg, -List.length_eq_zero_iff, -List.getElem_cons_drop, h1', h2', h3', lq, e2, s_triuneref12_Median_O0]; first | rfl | exact ⟨rfl, rfl⟩⟩ e1
      · have h3' : ¬ (l.length : Int) = 3 := by omega
        exact fin 0 false ⟨_, by unfold s_triuneref12_Median; simp -implicitDefEqProofs (disch := first | omega | (simp only [List.length_set, List.length_append, List.length_cons, List.length_nil, List.length_take, List.length_drop, List.length_map]; omega) | simp) [wrap_i64, wrap_u16_id, wrap_u8_id, tdiv_pos, tmod_pos, -getElem?_pos, -getElem?_neg, -List.length_eq_zero_iff, -List.getElem_cons_drop, h1', h2', h3']; first | rfl | exact ⟨rfl, rfl⟩⟩ (medV_other l h1 h2 h3)
end Go.Proofs.Ytbhnkdnfmlnajaa

/- Votes: the vote of a point, both sides; the program's median is wanted as a premise (its contract is not proved yet). -/
namespace Go.Proofs.Ytbhnkdnfmlnajaa
open Go
set_option linter.unusedSimpArgs false
set_option linter.unusedVariables false
set_option maxRecDepth 100000
def pickV (kind : Int) (l : List Int) : Int × Bool := if kind ≤ 1 then medV l else majV l
def voteV (p : Pt) (l : List Int) : Int × Bool := if (pickV p.kind l).2 = true then ((pickV p.kind l).1, true) else (p.safe % 65536, false)
theorem ref12_Vote_c (n : Nat) (hn : 1020 ≤ n) (p : Pt) (l : List Int) (hw : Words l) (hl : l.length ≤ 1000) (t : Tag) : cP n 82 false [ptE p, LV 1 (I .u16) l t] = some (.tup [I .u16 (voteV p l).1, Bo (voteV p l).2]) := by
  obtain ⟨n, rfl⟩ : ∃ m, n = m + 1 := ⟨n - 1, by omega⟩
  have e1 := ref12_Majority_c n l hw .sh hl (by omega)
  have e2 := ref12_Median_c n (by omega) l hw hl .sh
  obtain ⟨k, ad, at_, band, safe⟩ := p
  have fin : ∀ v B, (∃ H', s_triuneref12_Vote n [] 0 (ptE ⟨k, ad, at_, band, safe⟩) (LV 1 (I .u16) l .sh) = some (.tup [I .u16 v, Bo B], H')) → voteV ⟨k, ad, at_, band, safe⟩ l = (v, B) → cP (n + 1) 82 false [ptE ⟨k, ad, at_, band, safe⟩, LV 1 (I .u16) l t] = some (.tup [I .u16 (voteV ⟨k, ad, at_, band, safe⟩ l).1, Bo (voteV ⟨k, ad, at_, band, safe⟩ l).2]) := by
    rintro v B ⟨H', h1⟩ h2
    rw [h2]
    exact cP_of (args' := [ptE ⟨k, ad, at_, band, safe⟩, LV 1 (I .u16) l .sh]) (by simp [argEl_eq, ptE]) ((s_triuneref12_Vote_eq _ _ _ _ _).trans h1) (by simp)
  unfold voteV pickV at fin ⊢
  simp only at fin ⊢
  generalize medV l = m1 at *
  generalize majV l = m2 at *
  obtain ⟨v1, b1⟩ := m1
  obtain ⟨v2, b2⟩ := m2
  simp only at e1 e2
  by_cases h : k ≤ 1
  · simp only [h, if_true] at fin ⊢
    cases b1 with
    | true => exact fin v1 true ⟨_, by unfold s_triuneref12_Vote ptE; simp -implicitDefEqProofs (disch := first | omega | (simp only [List.length_set, List.length_append, List.length_cons, List.length_nil, List.length_take, List.length_drop, List.length_map]; omega) | simp) [wrap_i64, wrap_u16_id, wrap_u8_id, tdiv_pos, tmod_pos, -getElem?_pos, -getElem?_neg, -List.length_eq_zero_iff, -List.getElem_cons_drop, e1, e2, h]; first | rfl | exact ⟨rfl, rfl⟩⟩ (by simp)
    | false => exact fin (safe % 65536) false ⟨_, by unfold s_triuneref12_Vote ptE; simp -implicitDefEqProofs (disch := first | omega | (simp only [List.length_set, List.length_append, List.length_cons, List.length_nil, List.length_take, List.length_drop, List.length_map]; omega) | simp) [wrap_i64, wrap_u16_id, wrap_u8_id, tdiv_pos, tmod_pos, -getElem?_pos, -getElem?_neg, -List.length_eq_zero_iff, -List.getElem_cons_drop, e1, e2, h, wrap_u16]; first | rfl | exact ⟨rfl, rfl⟩⟩ (by simp)
  · simp only [h, if_false] at fin ⊢
    cases b2 with
    | true => exact fin v2 true ⟨_, by unfold s_triuneref12_Vote ptE; simp -implicitDefEqProofs (disch := first | omega | (simp only [List.length_set, List.length_append, List.length_cons, List.length_nil, List.length_take, List.length_drop, List.length_map]; omega) | simp) [wrap_i64, wrap_u16_id, wrap_u8_id, tdiv_pos, tmod_pos, -getElem?_pos, -getElem?_neg, -List.length_eq_zero_iff, -List.getElem_cons_drop, e1, e2, h]; first | rfl | exact ⟨rfl, rfl⟩⟩ (by simp)
    | false => exact fin (safe % 65536) false ⟨_, by unfold s_triuneref12_Vote ptE; simp -implicitDefEqProofs (disch := first | omega | (simp only [List.length_set, List.length_append, List.length_cons, List.length_nil, List.length_take, List.length_drop, List.length_map]; omega) | simp) [wrap_i64, wrap_u16_id, wrap_u8_id, tdiv_pos, tmod_pos, -getElem?_pos, -getElem?_neg, -List.length_eq_zero_iff, -List.getElem_cons_drop, e1, e2, h, wrap_u16]; first | rfl | exact ⟨rfl, rfl⟩⟩ (by simp)
@[simp] theorem leaf_fnV (i : Nat) : (DV.flat (.func (.func i) #[] #[])).leaf = true := rfl
@[simp] theorem leaf_nilV : (DV.flat .nilFunc).leaf = true := rfl
def fnV (i : Nat) : DV := .flat (.func (.func i) #[] #[])
theorem of_c (n : Nat) (hn : 1 ≤ n) (k : Int) : cP n 109 false [I .i64 k] = some (.agg [fnV (if k = 0 ∨ k = 1 then 116 else 117)]) := by
  obtain ⟨n, rfl⟩ : ∃ m, n = m + 1 := ⟨n - 1, by omega⟩
  by_cases h : k = 0
  · subst h
    exact cP_of (r := .agg [fnV 116]) (args' := [I .i64 0]) rfl ((s_vote_of_eq _ _ _ _).trans (by unfold s_vote_of; simp -implicitDefEqProofs (disch := first | omega | (simp only [List.length_set, List.length_append, List.length_cons, List.length_nil, List.length_take, List.length_drop, List.length_map]; omega) | simp) [wrap_i64, wrap_u16_id, wrap_u8_id, tdiv_pos, tmod_pos, -getElem?_pos, -getElem?_neg, -List.length_eq_zero_iff, -List.getElem_cons_drop]; first | exact rfl | exact ⟨rfl, rfl⟩)) rfl
  · by_cases h1 : k = 1
    · subst h1
      exact cP_of (r := .agg [fnV 116]) (args' := [I .i64 1]) rfl ((s_vote_of_eq _ _ _ _).trans (by unfold s_vote_of; simp -implicitDefEqProofs (disch := first | omega | (simp only [List.length_set, List.length_append, List.length_cons, List.length_nil, List.length_take, List.length_drop, List.length_map]; omega) | simp) [wrap_i64, wrap_u16_id, wrap_u8_id, tdiv_pos, tmod_pos, -getElem?_pos, -getElem?_neg, -List.length_eq_zero_iff, -List.getElem_cons_drop]; first | exact rfl | exact ⟨rfl, rfl⟩)) rfl
    · rw [if_neg (by omega)]
      exact cP_of (r := .agg [fnV 117]) (args' := [I .i64 k]) rfl ((s_vote_of_eq _ _ _ _).trans (by unfold s_vote_of; simp -implicitDefEqProofs (disch := first | omega | (simp only [List.length_set, List.length_append, List.length_cons, List.length_nil, List.length_take, List.length_drop, List.length_map]; omega) | simp) [wrap_i64, wrap_u16_id, wrap_u8_id, tdiv_pos, tmod_pos, -getElem?_pos, -getElem?_neg, -List.length_eq_zero_iff, -List.getElem_cons_drop, h, h1]; first | exact rfl | exact ⟨rfl, rfl⟩)) rfl
theorem cV_pure {n fl i : Nat} {args : List DV} {H : Heap} {d : DV} (hm : ENV.md i = .pure false) (h : cP n i false args = some d) : cV n fl (fnV i) args H = some (d, H) := by
  unfold cV callVG callV
  have : fnOf (fnV i) = some (i, []) := rfl
  rw [this]
  simp only [hm, List.append_nil, callD, effH]
  unfold cP callP at h
  cases h1 : mapO argEl args with
  | none => rw [h1] at h; cases h
  | some bs =>
    rw [h1, bi_some] at h
    cases h2 : callG Try.prog ENV n i bs [] 0 with
    | none => rw [h2] at h; cases h
    | some r =>
      rw [h2, bi_some] at h
      simp only [Option.bind_some, h2, h]
      rfl
theorem Vote_c (n : Nat) (hn : 1020 ≤ n) (p : Pt) (l : List Int) (hw : Words l) (hl : l.length ≤ 1000) (t : Tag) (hk : 0 ≤ p.kind)
    (hM : cP (n - 1) 116 false [LV 1 (I .u16) l .sh] = some (.tup [I .u16 (medV l).1, Bo (medV l).2])) :
    cP n 85 false [ptE p, LV 1 (I .u16) l t] = some (.tup [I .u16 (voteV p l).1, Bo (voteV p l).2]) := by
  obtain ⟨n, rfl⟩ : ∃ m, n = m + 1 := ⟨n - 1, by omega⟩
  have e1 := Majority_c n l hw .sh hl (by omega)
  rw [Nat.add_sub_cancel] at hM
  obtain ⟨k, ad, at_, band, safe⟩ := p
  have eo := of_c n (by omega) k
  have fin : ∀ v B, (∃ H', s_vote_Vote n [] 0 (ptE ⟨k, ad, at_, band, safe⟩) (LV 1 (I .u16) l .sh) = some (.tup [I .u16 v, Bo B], H')) → voteV ⟨k, ad, at_, band, safe⟩ l = (v, B) → cP (n + 1) 85 false [ptE ⟨k, ad, at_, band, safe⟩, LV 1 (I .u16) l t] = some (.tup [I .u16 (voteV ⟨k, ad, at_, band, safe⟩ l).1, Bo (voteV ⟨k, ad, at_, band, safe⟩ l).2]) := by
    rintro v B ⟨H', h1⟩ h2
    rw [h2]
    exact cP_of (args' := [ptE ⟨k, ad, at_, band, safe⟩, LV 1 (I .u16) l .sh]) (by simp [argEl_eq, ptE]) ((s_vote_Vote_eq _ _ _ _ _).trans h1) (by simp)
  have fld : ∀ i, fldD false 1 0 (.agg [fnV i]) = some (fnV i) := fun i => rfl
  unfold voteV pickV at fin ⊢
  simp only at fin ⊢ hk
  by_cases h : k ≤ 1
  · rw [if_pos (by omega)] at eo
    simp only [h, if_true] at fin ⊢
    have ev := fun H => cV_pure (fl := 0) (H := H) (by kernel_rfl) hM
    generalize medV l = m1 at *
    obtain ⟨v1, b1⟩ := m1
    simp only at ev
    cases b1 with
    | true => exact fin v1 true ⟨_, by unfold s_vote_Vote ptE; simp -implicitDefEqProofs (disch := first | omega | (simp only [List.length_set, List.length_append, List.length_cons, List.length_nil, List.length_take, List.length_drop, List.length_map]; omega) | simp) [wrap_i64, wrap_u16_id, wrap_u8_id, tdiv_pos, tmod_pos, -getElem?_pos, -getElem?_neg, -List.length_eq_zero_iff, -List.getElem_cons_drop, eo, fld, ev]; first | rfl | exact ⟨rfl, rfl⟩⟩ (by simp)
    | false => exact fin (safe % 65536) false ⟨_, by unfold s_vote_Vote ptE; simp -implicitDefEqProofs (disch := first | omega | (simp only [List.length_set, List.length_append, List.length_cons, List.length_nil, List.length_take, List.length_drop, List.length_map]; omega) | simp) [wrap_i64, wrap_u16_id, wrap_u8_id, tdiv_pos, tmod_pos, -getElem?_pos, -getElem?_neg, -List.length_eq_zero_iff, -List.getElem_cons_drop, eo, fld, ev, wrap_u16]; first | rfl | exact ⟨rfl, rfl⟩⟩ (by simp)
  · rw [if_neg (by omega)] at eo
    simp only [h, if_false] at fin ⊢
    have ev := fun H => cV_pure (fl := 0) (H := H) (by kernel_rfl) e1
    generalize majV l = m2 at *
    obtain ⟨v2, b2⟩ := m2
    simp only at ev
    cases b2 with
    | true => exact fin v2 true ⟨_, by unfold s_vote_Vote ptE; simp -implicitDefEqProofs (disch := first | omega | (simp only [List.length_set, List.length_append, List.length_cons, List.length_nil, List.length_take, List.length_drop, List.length_map]; omega) | simp) [wrap_i64, wrap_u16_id, wrap_u8_id, tdiv_pos, tmod_pos, -getElem?_pos, -getElem?_neg, -List.length_eq_zero_iff, -List.getElem_cons_drop, eo, fld, ev]; first | rfl | exact ⟨rfl, rfl⟩⟩ (by simp)
    | false => exact fin (safe % 65536) false ⟨_, by unfold s_vote_Vote ptE; simp -implicitDefEqProofs (disch := first | omega | (simp only [List.length_set, List.length_append, List.length_cons, List.length_nil, List.length_take, List.length_drop, List.length_map]; omega) | simp) [wrap_i64, wrap_u16_id, wrap_u8_id, tdiv_pos, tmod_pos, -getElem?_pos, -getElem?_neg, -List.length_eq_zero_iff, -List.getElem_cons_drop, eo, fld, ev, wrap_u16]; first | rfl | exact ⟨rfl, rfl⟩⟩ (by simp)
/-- the contract of vote.Median -/
def MedC : Prop := ∀ (m : Nat) (l : List Int) (t : Tag), 100 ≤ m → Words l → l.length ≤ 1000 → cP m 116 false [LV 1 (I .u16) l t] = some (.tup [I .u16 (medV l).1, Bo (medV l).2])
theorem medI_V (l : List Int) : medI l = medV l := by
  unfold medI medV
  rfl
theorem mapO_dWI_words (l : List Int) (h : Words l) : mapO dWI (l.map (I .u16)) = some l := by
  induction l with
  | nil => rfl
  | cons a l ih =>
    rw [List.map_cons, mapO_cons, ih (fun x hx => h x (by simp [hx]))]
    have : dWI (I .u16 a) = some a := by unfold dWI; simp only; rw [if_pos (h a (by simp))]
    rw [this]
    rfl
theorem medC : MedC := by
  intro m l t hm hw hl
  obtain ⟨m, rfl⟩ : ∃ k, m = k + 1 := ⟨m - 1, by omega⟩
  refine cP_of (H' := []) (args' := [LV 1 (I .u16) l .sh]) (r := .tup [I .u16 (medV l).1, Bo (medV l).2]) (by simp [argEl_eq]) ((prim_call rfl m _ [] 0).trans ?_) (by simp)
  obtain ⟨s, h1, _⟩ := LV_list 1 (I .u16) l .sh
  rw [h1]
  unfold primMed
  simp only
  rw [mapO_dWI_words l hw, Option.bind_some, if_pos (by omega), medI_V]
end Go.Proofs.Ytbhnkdnfmlnajaa

/- The image: made, put, read. -/
namespace Go.Proofs.Ytbhnkdnfmlnajaa
open Go
set_option linter.unusedSimpArgs false
set_option linter.unusedVariables false
set_option maxRecDepth 100000
/-- a sample -/
structure Sm where
  v : Int
  r : Int
  is : Bool
def smC (s : Sm) : List DV := [I .u16 s.v, I .i64 s.r, Bo s.is]
def smL (l : List Sm) : List DV := (l.map smC).flatten
theorem smL_cons (a : Sm) (l : List Sm) : smL (a :: l) = I .u16 a.v :: I .i64 a.r :: Bo a.is :: smL l := rfl
theorem smL_len (l : List Sm) : (smL l).length = 3 * l.length := by
  induction l with
  | nil => rfl
  | cons a l ih => rw [smL_cons]; simp only [List.length_cons, ih]; omega
theorem smL_part : ∀ (l : List Sm) (i : Nat) (h : i < l.length), ((smL l).drop (i * 3)).take 3 = smC l[i]
  | a :: l, 0, _ => by rw [smL_cons]; rfl
  | a :: l, i + 1, h => by
    rw [smL_cons, show (i + 1) * 3 = i * 3 + 3 by omega]
    simp only [List.drop_succ_cons, List.getElem_cons_succ]
    exact smL_part l i (by simpa using h)
theorem smL_get : ∀ (l : List Sm) (i : Nat) (h : i < l.length), (smL l)[i * 3]? = some (I .u16 l[i].v)
  | a :: l, 0, _ => by rw [smL_cons]; rfl
  | a :: l, i + 1, h => by
    rw [smL_cons, show (i + 1) * 3 = i * 3 + 3 by omega]
    simp only [List.getElem?_cons_succ, List.getElem_cons_succ]
    exact smL_get l i (by simpa using h)
theorem smL_set : ∀ (l : List Sm) (i : Nat) (h : i < l.length) (x : Sm), (smL l).take (i * 3) ++ smC x ++ (smL l).drop (i * 3 + 3) = smL (l.set i x)
  | a :: l, 0, _, x => by rw [smL_cons, List.set_cons_zero, smL_cons]; rfl
  | a :: l, i + 1, h, x => by
    rw [smL_cons, List.set_cons_succ, smL_cons, show (i + 1) * 3 = i * 3 + 3 by omega]
    simp only [List.take_succ_cons, List.drop_succ_cons, List.cons_append]
    rw [smL_set l i (by simpa using h) x]
def rw3 (k n : Nat) : DV := .row true 3 k 0 n n
/-- an image stands in the heap -/
structure IA (H : Heap) (k n k0 k1 k2 : Nat) (s0 s1 s2 : List Sm) : Prop where
  b : H[k]? = some (.cells 186 [rw3 k0 n, rw3 k1 n, rw3 k2 n])
  r0 : H[k0]? = some (.cells 182 (smL s0))
  r1 : H[k1]? = some (.cells 182 (smL s1))
  r2 : H[k2]? = some (.cells 182 (smL s2))
  l0 : s0.length = n
  l1 : s1.length = n
  l2 : s2.length = n
theorem IA.app {H : Heap} {k n k0 k1 k2 : Nat} {s0 s1 s2 : List Sm} (h : IA H k n k0 k1 k2 s0 s1 s2) (X : Heap) : IA (H ++ X) k n k0 k1 k2 s0 s1 s2 :=
  ⟨by rw [hp_get_left _ _ _ (hp_lt h.b)]; exact h.b, by rw [hp_get_left _ _ _ (hp_lt h.r0)]; exact h.r0, by rw [hp_get_left _ _ _ (hp_lt h.r1)]; exact h.r1, by rw [hp_get_left _ _ _ (hp_lt h.r2)]; exact h.r2, h.l0, h.l1, h.l2⟩
def fr (s : Sm) (r : Int) : Bool := s.is && (s.r == r)
theorem eql_sm (v r r2 : Int) (is : Bool) (x y : Operand) : binD Try.prog .eql 182 x y (.agg [I .u16 v, I .i64 r, Bo is]) (.agg [I .u16 v, I .i64 r2, Bo true]) = some (Bo (is && (r == r2))) := by
  have h := binD_eql_agg (P := Try.prog) (t := 182) (x := x) (y := y) (us := [I .u16 v, I .i64 r, Bo is]) (ws := [I .u16 v, I .i64 r2, Bo true]) (va := [.int .u16 v, .int .i64 r, .bool is]) (vb := [.int .u16 v, .int .i64 r2, .bool true]) (r := is && (r == r2)) rfl rfl (by kernel_rfl) (by
    refine (pr_equalIn_struct 9999 _ _ _ (by kernel_rfl) (by kernel_rfl)).trans ?_
    have h1 : pureRun Try.prog (Op.equalIn 9999 75 (.int .u16 v) (.int .u16 v)) = some true := by rw [pr_equalIn_int 9998 _ _ .u16 _ _ Try.underlying75]; simp
    have h2 : pureRun Try.prog (Op.equalIn 9999 3 (.int .i64 r) (.int .i64 r2)) = some (r == r2) := pr_equalIn_int 9998 _ _ .i64 _ _ Try.underlying3
    have h3 : pureRun Try.prog (Op.equalIn 9999 4 (.bool is) (.bool true)) = some is := by rw [pr_equalIn_bool 9998 _ _ _ Try.underlying4]; cases is <;> rfl
    simp only [Program.fieldsOf, Try.underlying182]
    refine Eq.trans (pr_eqFields_cons (a := .int .u16 v) (b := .int .u16 v) (r := true) ?_ ?_ ?_ ?_) ?_
    · decide
    · exact pr_part_int Try.underlying75 rfl
    · exact pr_part_int Try.underlying75 rfl
    · exact h1
    rw [if_pos rfl]
    refine Eq.trans (pr_eqFields_cons (a := .int .i64 r) (b := .int .i64 r2) (r := r == r2) ?_ ?_ ?_ ?_) ?_
    · decide
    · exact pr_part_int Try.underlying3 rfl
    · exact pr_part_int Try.underlying3 rfl
    · exact h2
    cases hr : (r == r2) with
    | false => rw [if_neg (by simp), Bool.and_false]
    | true =>
      rw [if_pos rfl]
      refine Eq.trans (pr_eqFields_cons (a := .bool is) (b := .bool true) (r := is) ?_ ?_ ?_ ?_) ?_
      · decide
      · exact pr_part_bool Try.underlying4 rfl
      · exact pr_part_bool Try.underlying4 rfl
      · exact h3
      cases is with
      | false => rfl
      | true => rfl)
  exact h
theorem of_img_c (n : Nat) (hn : 1 ≤ n) (s : Sm) (r : Int) : cP n 92 false [.agg (smC s), I .i64 r] = some (Bo (fr s r)) := by
  obtain ⟨n, rfl⟩ : ∃ m, n = m + 1 := ⟨n - 1, by omega⟩
  have q := fun x y => eql_sm s.v s.r r s.is x y
  exact cP_of (args' := [.agg (smC s), I .i64 r]) (r := Bo (fr s r)) rfl ((s__image_Sample__of_eq _ _ _ _ _).trans (by unfold s__image_Sample__of smC; simp -implicitDefEqProofs (disch := first | omega | (simp only [List.length_set, List.length_append, List.length_cons, List.length_nil, List.length_take, List.length_drop, List.length_map]; omega) | simp) [wrap_i64, wrap_u16_id, wrap_u8_id, tdiv_pos, tmod_pos, -getElem?_pos, -getElem?_neg, -List.length_eq_zero_iff, -List.getElem_cons_drop, q]; first | exact rfl | exact ⟨rfl, rfl⟩)) rfl
theorem at_c (n : Nat) (hn : 1 ≤ n) {H : Heap} {k m k0 k1 k2 : Nat} {s0 s1 s2 : List Sm} (h : IA H k m k0 k1 k2 s0 s1 s2) (i : Nat) (hi : i < m) :
    cO n 102 [.ptr k 0, I .i64 0, I .i64 i] H = some (.tup [.ptr k0 (i * 3), Bo true]) ∧
    cO n 102 [.ptr k 0, I .i64 1, I .i64 i] H = some (.tup [.ptr k1 (i * 3), Bo true]) ∧
    cO n 102 [.ptr k 0, I .i64 2, I .i64 i] H = some (.tup [.ptr k2 (i * 3), Bo true]) := by
  obtain ⟨n, rfl⟩ : ∃ m, n = m + 1 := ⟨n - 1, by omega⟩
  have hb := h.b
  unfold rw3 at hb
  have c0 := hp_lt h.r0
  have c1 := hp_lt h.r1
  have c2 := hp_lt h.r2
  have hi2 : ¬ ((i : Int) < 0) := by omega
  have hi3 : ¬ ((m : Int) ≤ (i : Int)) := by omega
  refine ⟨?_, ?_, ?_⟩
  · exact cO_of (H' := H) (r := .tup [.ptr k0 (i * 3), Bo true]) ((s___image_rows_image_Sample___at_eq _ _ _ _ _ _).trans (by unfold s___image_rows_image_Sample___at; simp -implicitDefEqProofs (disch := first | omega | (simp only [List.length_set, List.length_append, List.length_cons, List.length_nil, List.length_take, List.length_drop, List.length_map]; omega) | simp) [wrap_i64, wrap_u16_id, wrap_u8_id, tdiv_pos, tmod_pos, -getElem?_pos, -getElem?_neg, -List.length_eq_zero_iff, -List.getElem_cons_drop, hb, hi2, hi3, idxArr_k, lenD] <;> first | exact rfl | exact ⟨rfl, rfl⟩)) (by simp [oldEl, oldLeaf, DV.leaf, inSc, c0])
  · exact cO_of (H' := H) (r := .tup [.ptr k1 (i * 3), Bo true]) ((s___image_rows_image_Sample___at_eq _ _ _ _ _ _).trans (by unfold s___image_rows_image_Sample___at; simp -implicitDefEqProofs (disch := first | omega | (simp only [List.length_set, List.length_append, List.length_cons, List.length_nil, List.length_take, List.length_drop, List.length_map]; omega) | simp) [wrap_i64, wrap_u16_id, wrap_u8_id, tdiv_pos, tmod_pos, -getElem?_pos, -getElem?_neg, -List.length_eq_zero_iff, -List.getElem_cons_drop, hb, hi2, hi3, idxArr_k, lenD] <;> first | exact rfl | exact ⟨rfl, rfl⟩)) (by simp [oldEl, oldLeaf, DV.leaf, inSc, c1])
  · exact cO_of (H' := H) (r := .tup [.ptr k2 (i * 3), Bo true]) ((s___image_rows_image_Sample___at_eq _ _ _ _ _ _).trans (by unfold s___image_rows_image_Sample___at; simp -implicitDefEqProofs (disch := first | omega | (simp only [List.length_set, List.length_append, List.length_cons, List.length_nil, List.length_take, List.length_drop, List.length_map]; omega) | simp) [wrap_i64, wrap_u16_id, wrap_u8_id, tdiv_pos, tmod_pos, -getElem?_pos, -getElem?_neg, -List.length_eq_zero_iff, -List.getElem_cons_drop, hb, hi2, hi3, idxArr_k, lenD] <;> first | exact rfl | exact ⟨rfl, rfl⟩)) (by simp [oldEl, oldLeaf, DV.leaf, inSc, c2])
theorem appG_o {α : Type} {e : TypeId} {ag : Bool} {sz by_ : Nat} {enc : α → DV} {xs ys : List α} {t' : Tag} {H : Heap} {fl k : Nat} (hk : H[k]? = some (.token e sz xs.length)) (hf : fl ≤ k) (hne : ys ≠ []) (hc : chunkOk ag sz 0 = true) (hb : (xs.length + ys.length) * by_ ≤ 140737488355328) (hb2 : xs.length + ys.length ≤ 140737488355328) :
    appG e ag sz by_ (LV sz enc xs (.own k)) (LV sz enc ys t') H fl = some (LV sz enc (xs ++ ys) (.own k), H.set k (.token e sz (xs ++ ys).length)) := by
  have hl : LV sz enc (xs ++ ys) (.own k) = .list sz (xs.map enc ++ ys.map enc) (.own k) := by
    cases xs with
    | nil => cases ys with
      | nil => exact absurd rfl hne
      | cons y ys => rfl
    | cons x xs => simp [LV, mkl]
  obtain ⟨s1, h1, g1⟩ := LV_list sz enc xs (.own k)
  obtain ⟨s2, h2, g2⟩ := LV_list sz enc ys t'
  rw [hl, h1, h2]
  unfold appG appendD srcD
  simp only [g2, if_true]
  cases ys with
  | nil => exact absurd rfl hne
  | cons y ys =>
    have g3 : ¬xs = [] → s1 = sz := by
      intro h
      have : xs.isEmpty = false := by cases xs <;> simp_all
      simpa [this] using g1
    simp only [List.map_cons, List.length_map, List.length_cons] at *
    simp [hc, hb, hb2, effH, Eff.heap, hk, hf]
    exact g3
theorem appG_n {α : Type} {e : TypeId} {ag : Bool} {sz by_ : Nat} {enc : α → DV} {ys : List α} {t' : Tag} {H : Heap} {fl : Nat} (hne : ys ≠ []) (hc : chunkOk ag sz 0 = true) (hb : ys.length * by_ ≤ 140737488355328) (hb2 : ys.length ≤ 140737488355328) :
    appG e ag sz by_ (.list 0 [] .ti) (LV sz enc ys t') H fl = some (LV sz enc ys (.own H.length), H ++ [.token e sz ys.length]) := by
  have := appG_ti (e := e) (ag := ag) (sz := sz) (by_ := by_) (enc := enc) (xs := []) (ys := ys) (t' := t') (H := H) (fl := fl) hne hc (by simpa using hb) (by simpa using hb2)
  rw [show LV sz enc [] .ti = .list 0 [] .ti from rfl] at this
  simpa using this
/-- of three, those that are so -/
def vals (b0 b1 b2 : Bool) (x0 x1 x2 : Int) : List Int := (if b0 then [x0] else []) ++ ((if b1 then [x1] else []) ++ (if b2 then [x2] else []))
theorem Fresh_c (n : Nat) (hn : 20 ≤ n) {H : Heap} {k m k0 k1 k2 : Nat} {s0 s1 s2 : List Sm} (h : IA H k m k0 k1 k2 s0 s1 s2) (i : Nat) (hi : i < m) (x0 x1 x2 : Sm) (e0 : s0[i]? = some x0) (e1 : s1[i]? = some x1) (e2 : s2[i]? = some x2) (r : Int) (i0 i1 i2 : Bool) :
    ∃ t t2, okT t ∧ okT t2 ∧ cO n 105 [.ptr k 0, I .i64 i, I .i64 r, .agg [Bo i0, Bo i1, Bo i2]] H = some (.tup [LV 1 (I .u16) (vals (i0 && fr x0 r) (i1 && fr x1 r) (i2 && fr x2 r) x0.v x1.v x2.v) t, LV 1 (I .i64) (vals (i0 && fr x0 r) (i1 && fr x1 r) (i2 && fr x2 r) 0 1 2) t2]) := by
  obtain ⟨n, rfl⟩ : ∃ m, n = m + 5 := ⟨n - 5, by omega⟩
  have fin : ∀ va vb ta tb, oT H.length ta → oT H.length tb → (∃ H', s___image_Image__Fresh (n + 4) H H.length (.ptr k 0) (I .i64 i) (I .i64 r) (.agg [Bo i0, Bo i1, Bo i2]) = some (.tup [LV 1 (I .u16) va ta, LV 1 (I .i64) vb tb], H')) → ∃ t t2, okT t ∧ okT t2 ∧ cO (n + 5) 105 [.ptr k 0, I .i64 i, I .i64 r, .agg [Bo i0, Bo i1, Bo i2]] H = some (.tup [LV 1 (I .u16) va t, LV 1 (I .i64) vb t2]) := by
    rintro va vb ta tb hta htb ⟨H', hs⟩
    obtain ⟨t, ht, et⟩ := oldLeaf_oT hta H' 1 (I .u16) va
    obtain ⟨t2, ht2, et2⟩ := oldLeaf_oT htb H' 1 (I .i64) vb
    exact ⟨t, t2, ht, ht2, cO_of ((s___image_Image__Fresh_eq _ _ _ _ _ _ _).trans hs) (by simp [et, et2])⟩
  have a0 := fun X => (at_c (n + 4) (by omega) (h.app X) i hi).1
  have a1 := fun X => (at_c (n + 4) (by omega) (h.app X) i hi).2.1
  have a2 := fun X => (at_c (n + 4) (by omega) (h.app X) i hi).2.2
  have c0 := hp_lt h.r0
  have c1 := hp_lt h.r1
  have c2 := hp_lt h.r2
  obtain ⟨j0, g0⟩ := List.getElem?_eq_some_iff.1 e0
  obtain ⟨j1, g1⟩ := List.getElem?_eq_some_iff.1 e1
  obtain ⟨j2, g2⟩ := List.getElem?_eq_some_iff.1 e2
  have p0 := smL_part s0 i j0
  have p1 := smL_part s1 i j1
  have p2 := smL_part s2 i j2
  have q0 := smL_get s0 i j0
  have q1 := smL_get s1 i j1
  have q2 := smL_get s2 i j2
  rw [g0] at p0 q0
  rw [g1] at p1 q1
  rw [g2] at p2 q2
  have b0 : i * 3 + 3 ≤ (smL s0).length := by rw [smL_len]; omega
  have b1 : i * 3 + 3 ≤ (smL s1).length := by rw [smL_len]; omega
  have b2 : i * 3 + 3 ≤ (smL s2).length := by rw [smL_len]; omega
  have r0 := h.r0
  have r1 := h.r1
  have r2 := h.r2
  have o0 := of_img_c (n + 4) (by omega) x0 r
  have o1 := of_img_c (n + 4) (by omega) x1 r
  have o2 := of_img_c (n + 4) (by omega) x2 r
  have lq := fun K (H : Heap) (l : Nat) => s___image_Image__Fresh_L0_eq (n + 4) l K (n + 4) (.ptr k 0) (I .i64 i) (I .i64 r) (.ptr H.length 0) (.list 0 [] .ti) (.list 0 [] .ti) (I .i64 0)
  generalize fr x0 r = f0 at *
  generalize fr x1 r = f1 at *
  generalize fr x2 r = f2 at *
  obtain ⟨B0, hB0⟩ : ∃ B0, (i0 && f0) = B0 := ⟨_, rfl⟩
  obtain ⟨B1, hB1⟩ : ∃ B1, (i1 && f1) = B1 := ⟨_, rfl⟩
  obtain ⟨B2, hB2⟩ : ∃ B2, (i2 && f2) = B2 := ⟨_, rfl⟩
  rw [hB0, hB1, hB2]
  have ck : chunkOk false 1 0 = true := rfl
  cases B0 <;> cases B1 <;> cases B2
  · exact fin _ _ .ti .ti (.inl rfl) (.inl rfl) ⟨_, by unfold s___image_Image__Fresh; simp -implicitDefEqProofs (disch := first | omega | (simp only [List.length_set, List.length_append, List.length_cons, List.length_nil, List.length_take, List.length_drop, List.length_map]; omega) | simp) [wrap_i64, wrap_u16_id, wrap_u8_id, tdiv_pos, tmod_pos, -getElem?_pos, -getElem?_neg, -List.length_eq_zero_iff, -List.getElem_cons_drop, -Bool.not_and, -Bool.not_or, -wantF_n, wantF_sy, wantF_sn, gO_some, gO_loadG, gO_lenD, gO_notD, gO_eqK1, gO_neK1, gO_ltK1, gO_leK1, gO_gtK1, gO_geK1, gO_max1, gO_addK1, gO_mulK1, gO_addK2, gO_ltK2, gO_leK2, gO_max2, gO_cvK, gO_idx, gO_pick, gO_pick2, gO_cP1, gO_cP1b, gO_cP2, gO_cP2a, gO_eqB, pick_t, pick_t2, pick_f, pick_f2, gd_gd, wantF_gt, wantF_gf, gO_pkf, gO_pkt, gO_pktn, gO_eqK2, gO_neK2, gO_gtK2, gO_geK2, gO_subK1, gO_subK2, gO_min1, gO_min2, gO_remK1, gO_cP3, gO_nilD, gO_fieldD, gO_idxArr1, gO_idxArr2, gO_idx2, gO_extD, lq, s___image_Image__Fresh_L0, s___image_Image__Fresh_B0, a0, a1, a2, r0, r1, r2, p0, p1, p2, q0, q1, q2, b0, b1, b2, o0, o1, o2, idxArr_k, hB0, hB1, hB2, condR_b, vals, s___image_Image__Fresh_O0]; first | rfl | exact ⟨rfl, rfl⟩ | exact ⟨⟨rfl, rfl⟩, rfl⟩⟩
  all_goals
    exact fin _ _ (.own (H.length + 1)) (.own (H.length + 2)) (.inr ⟨_, rfl, by omega⟩) (.inr ⟨_, rfl, by omega⟩) ⟨_, by unfold s___image_Image__Fresh; simp -implicitDefEqProofs (disch := first | omega | (simp only [List.length_set, List.length_append, List.length_cons, List.length_nil, List.length_take, List.length_drop, List.length_map]; omega) | simp) [wrap_i64, wrap_u16_id, wrap_u8_id, tdiv_pos, tmod_pos, -getElem?_pos, -getElem?_neg, -List.length_eq_zero_iff, -List.getElem_cons_drop, -Bool.not_and, -Bool.not_or, -wantF_n, wantF_sy, wantF_sn, gO_some, gO_loadG, gO_lenD, gO_notD, gO_eqK1, gO_neK1, gO_ltK1, gO_leK1, gO_gtK1, gO_geK1, gO_max1, gO_addK1, gO_mulK1, gO_addK2, gO_ltK2, gO_leK2, gO_max2, gO_cvK, gO_idx, gO_pick, gO_pick2, gO_cP1, gO_cP1b, gO_cP2, gO_cP2a, gO_eqB, pick_t, pick_t2, pick_f, pick_f2, gd_gd, wantF_gt, wantF_gf, gO_pkf, gO_pkt, gO_pktn, gO_eqK2, gO_neK2, gO_gtK2, gO_geK2, gO_subK1, gO_subK2, gO_min1, gO_min2, gO_remK1, gO_cP3, gO_nilD, gO_fieldD, gO_idxArr1, gO_idxArr2, gO_idx2, gO_extD, lq, s___image_Image__Fresh_L0, s___image_Image__Fresh_B0, a0, a1, a2, r0, r1, r2, p0, p1, p2, q0, q1, q2, b0, b1, b2, o0, o1, o2, idxArr_k, hB0, hB1, hB2, condR_b, ck, appG_n, appG_o, vals, s___image_Image__Fresh_O0]; first | rfl | exact ⟨rfl, rfl⟩ | exact ⟨⟨rfl, rfl⟩, rfl⟩⟩
end Go.Proofs.Ytbhnkdnfmlnajaa

/- The image: made, put; whole channels. -/
namespace Go.Proofs.Ytbhnkdnfmlnajaa
open Go
set_option linter.unusedSimpArgs false
set_option linter.unusedVariables false
set_option maxRecDepth 100000
theorem smL_flat (l : List Sm) : ∀ d ∈ smL l, ∃ v, d = .flat v ∧ isOne v = true := by
  intro d hd
  obtain ⟨x, hx, hd⟩ := List.mem_flatten.1 hd
  obtain ⟨s, _, rfl⟩ := List.mem_map.1 hx
  simp only [smC, List.mem_cons, List.not_mem_nil, or_false] at hd
  rcases hd with rfl | rfl | rfl <;> exact ⟨_, rfl, rfl⟩
theorem smL_wf (n : Nat) (e : TypeId) (l : List Sm) : WfB n (.cells e (smL l)) := by
  intro d hd
  obtain ⟨v, rfl, hv⟩ := smL_flat l d hd
  simp [DV.leaf, hv]
theorem smL_rep (n : Nat) (s : Sm) : (List.replicate n (smC s)).flatten = smL (List.replicate n s) := by
  unfold smL
  rw [List.map_replicate]
theorem makeG_sm (by_ : Nat) (e : TypeId) (m : Nat) (nid : Nat) (H : Heap) (h1 : m ≤ 100000) (hb : by_ ≤ 24) :
    makeG true 3 by_ e (.agg [I .u16 0, I .i64 0, Bo false]) (I .i64 m) (I .i64 m) nid H = some (rw3 nid m, H.set nid (.cells e (smL (List.replicate m ⟨0, 0, false⟩)))) := by
  have hm : (m : Int) * (by_ : Int) ≤ 140737488355328 := by
    have : (m : Int) * (by_ : Int) ≤ 100000 * 24 := by
      refine Int.mul_le_mul (by omega) (by omega) (by omega) (by omega)
    omega
  have e1 := smL_rep m ⟨0, 0, false⟩
  unfold smC at e1
  unfold makeG makeD
  simp [intD, hm, show (m : Int) ≤ 140737488355328 by omega, effH, Eff.heap, e1, rw3]
theorem image_New_c (n : Nat) (hn : 10 ≤ n) (H : Heap) (fl m : Nat) (h1 : 1 ≤ m) (h2 : m ≤ 48) (hfl : fl ≤ H.length) :
    cK n 71 [I .i64 m] H fl = some (.tup [.ptr H.length 0, I .i64 0], H ++ [.cells 186 [rw3 (H.length + 1) m, rw3 (H.length + 2) m, rw3 (H.length + 3) m], .cells 182 (smL (List.replicate m ⟨0, 0, false⟩)), .cells 182 (smL (List.replicate m ⟨0, 0, false⟩)), .cells 182 (smL (List.replicate m ⟨0, 0, false⟩))]) := by
  obtain ⟨n, rfl⟩ : ∃ m, n = m + 5 := ⟨n - 5, by omega⟩
  have hm1 : ¬ ((m : Int) < 1) := by omega
  have hm2 : ¬ ((48 : Int) < (m : Int)) := by omega
  have lq := fun K (H : Heap) k => s_image_New_L0_eq (n + 4) fl K (n + 4) (I .i64 m) (.ptr k 0) (I .i64 0) H
  have lf : ∀ k m, (rw3 k m).leaf = true := fun _ _ => rfl
  have lc : ∀ k m, (rw3 k m).cells = [rw3 k m] := fun _ _ => rfl
  have mk := fun nid H => makeG_sm 24 182 m nid H (by omega) (by omega)
  refine (s_image_New_eq _ _ _ _).trans ?_
  unfold s_image_New
  simp -implicitDefEqProofs (disch := first | omega | (simp only [List.length_set, List.length_append, List.length_cons, List.length_nil, List.length_take, List.length_drop, List.length_map]; omega) | simp) [wrap_i64, wrap_u16_id, wrap_u8_id, tdiv_pos, tmod_pos, -getElem?_pos, -getElem?_neg, -List.length_eq_zero_iff, -List.getElem_cons_drop, lq, hm1, hm2, s_image_New_L0, s_image_New_B0, mk, idxArr_k, lf, lc, s_image_New_O0]
def sel {α : Type} (c : Nat) (x0 x1 x2 : α) : α := if c = 0 then x0 else if c = 1 then x1 else x2
theorem Put1_c (n : Nat) (hn : 2 ≤ n) {H : Heap} {k m k0 k1 k2 : Nat} {s0 s1 s2 : List Sm} (h : IA H k m k0 k1 k2 s0 s1 s2) (c : Nat) (hc : c < 3) (i : Nat) (hi : i < m) (a b : Nat) (e1 e2 : TypeId) (ha : H[a]? = some (.cells e1 [.ptr k 0])) (hb : H[b]? = some (.cells e2 [I .i64 c])) :
    cO n 101 ([I .i64 i] ++ [.ptr a 0, .ptr b 0]) H = some (Bo false) := by
  obtain ⟨n, rfl⟩ : ∃ m, n = m + 1 := ⟨n - 1, by omega⟩
  obtain ⟨t0, t1, t2⟩ := at_c n (by omega) h i hi
  have hc' : c = 0 ∨ c = 1 ∨ c = 2 := by omega
  rcases hc' with rfl | rfl | rfl
  · exact cO_of (H' := H) (r := Bo false) ((s___image_Image__Put_1_eq _ _ _ _ _ _).trans (by unfold s___image_Image__Put_1; simp -implicitDefEqProofs (disch := first | omega | (simp only [List.length_set, List.length_append, List.length_cons, List.length_nil, List.length_take, List.length_drop, List.length_map]; omega) | simp) [wrap_i64, wrap_u16_id, wrap_u8_id, tdiv_pos, tmod_pos, -getElem?_pos, -getElem?_neg, -List.length_eq_zero_iff, -List.getElem_cons_drop, ha, hb, t0] <;> first | exact rfl | exact ⟨rfl, rfl⟩)) (by simp)
  · exact cO_of (H' := H) (r := Bo false) ((s___image_Image__Put_1_eq _ _ _ _ _ _).trans (by unfold s___image_Image__Put_1; simp -implicitDefEqProofs (disch := first | omega | (simp only [List.length_set, List.length_append, List.length_cons, List.length_nil, List.length_take, List.length_drop, List.length_map]; omega) | simp) [wrap_i64, wrap_u16_id, wrap_u8_id, tdiv_pos, tmod_pos, -getElem?_pos, -getElem?_neg, -List.length_eq_zero_iff, -List.getElem_cons_drop, ha, hb, t1] <;> first | exact rfl | exact ⟨rfl, rfl⟩)) (by simp)
  · exact cO_of (H' := H) (r := Bo false) ((s___image_Image__Put_1_eq _ _ _ _ _ _).trans (by unfold s___image_Image__Put_1; simp -implicitDefEqProofs (disch := first | omega | (simp only [List.length_set, List.length_append, List.length_cons, List.length_nil, List.length_take, List.length_drop, List.length_map]; omega) | simp) [wrap_i64, wrap_u16_id, wrap_u8_id, tdiv_pos, tmod_pos, -getElem?_pos, -getElem?_neg, -List.length_eq_zero_iff, -List.getElem_cons_drop, ha, hb, t2] <;> first | exact rfl | exact ⟨rfl, rfl⟩)) (by simp)
theorem channel_c (n : Nat) (hn : 1 ≤ n) (c : Nat) (hc : c < 3) : cP n 89 false [I .i64 c] = some (Bo true) := by
  obtain ⟨n, rfl⟩ : ∃ m, n = m + 1 := ⟨n - 1, by omega⟩
  have h1 : (0 : Int) ≤ c := by omega
  have h2 : (c : Int) < 3 := by omega
  exact cP_of (H' := []) (args' := [I .i64 c]) (r := Bo true) rfl ((s_image_channel_eq _ _ _ _).trans (by unfold s_image_channel; simp -implicitDefEqProofs (disch := first | omega | (simp only [List.length_set, List.length_append, List.length_cons, List.length_nil, List.length_take, List.length_drop, List.length_map]; omega) | simp) [wrap_i64, wrap_u16_id, wrap_u8_id, tdiv_pos, tmod_pos, -getElem?_pos, -getElem?_neg, -List.length_eq_zero_iff, -List.getElem_cons_drop, h1, h2] <;> first | exact rfl | exact ⟨rfl, rfl⟩)) rfl
theorem cVro {n fl f : Nat} {caps args : List DV} {H : Heap} {d : DV} (hm : ENV.md f = .ro) (h : cO n f (args ++ caps) H = some d) : cV n fl (.clo (.func f) [] caps) args H = some (d, H) := by
  unfold cV callVG callV
  simp only [fnOf, hm]
  have := callO_ok (cf' := callG Try.prog ENV n) (fun _ _ _ _ _ h => h) (fl := fl) h
  unfold callO at this
  rw [this]
  rfl
/-- no number of a list of one is so -/
theorem contains1_c (n : Nat) (hn : 10 ≤ n) (i : Int) (f : DV) (H : Heap) (t : Tag) (hf : ∀ m fl, 5 ≤ m → cV m fl f [I .i64 i] H = some (Bo false, H)) : cO n 103 [LV 1 (I .i64) [i] t, f] H = some (Bo false) := by
  obtain ⟨n, rfl⟩ : ∃ m, n = m + 5 := ⟨n - 5, by omega⟩
  have hI : cO (n + 4) 115 [LV 1 (I .i64) [i] t, f] H = some (I .i64 (-1)) := by
    have lq := fun K => s_slices_IndexFunc___int_int__L0_eq (n + 3) H.length K (n + 3) (LV 1 (I .i64) [i] t) f (I .i64 1) (I .i64 0) H
    have hf' := fun fl => hf (n + 3) fl (by omega)
    exact cO_of (H' := H) (r := I .i64 (-1)) ((s_slices_IndexFunc___int_int__eq _ _ _ _ _).trans (by unfold s_slices_IndexFunc___int_int_; simp -implicitDefEqProofs (disch := first | omega | (simp only [List.length_set, List.length_append, List.length_cons, List.length_nil, List.length_take, List.length_drop, List.length_map]; omega) | simp) [wrap_i64, wrap_u16_id, wrap_u8_id, tdiv_pos, tmod_pos, -getElem?_pos, -getElem?_neg, -List.length_eq_zero_iff, -List.getElem_cons_drop, lq, s_slices_IndexFunc___int_int__L0, s_slices_IndexFunc___int_int__B0, hf'] <;> first | exact rfl | exact ⟨rfl, rfl⟩)) (by simp)
  exact cO_of (H' := H) (r := Bo false) ((s_slices_ContainsFunc___int_int__eq _ _ _ _ _).trans (by unfold s_slices_ContainsFunc___int_int_; simp -implicitDefEqProofs (disch := first | omega | (simp only [List.length_set, List.length_append, List.length_cons, List.length_nil, List.length_take, List.length_drop, List.length_map]; omega) | simp) [wrap_i64, wrap_u16_id, wrap_u8_id, tdiv_pos, tmod_pos, -getElem?_pos, -getElem?_neg, -List.length_eq_zero_iff, -List.getElem_cons_drop, hI] <;> first | exact rfl | exact ⟨rfl, rfl⟩)) (by simp)
theorem cutH_put {H H' : Heap} (hw : WfH H) {k : Nat} {e : TypeId} {l : List Sm} (hk : k < H.length) (hb : H'[k]? = some (.cells e (smL l))) (hj : ∀ j, j < H.length → j ≠ k → H'[j]? = H[j]?) : cutH H.length H' = some (H.set k (.cells e (smL l))) :=
  cutH_set hw hk hb hj (oldBlk_wf (smL_wf _ _ _))
theorem image_Put_c (n : Nat) (hn : 30 ≤ n) {H : Heap} (hw : WfH H) {k m k0 k1 k2 : Nat} {s0 s1 s2 : List Sm} (h : IA H k m k0 k1 k2 s0 s1 s2) (c : Nat) (hc : c < 3) (i : Nat) (hi : i < m) (v r : Int) (fl : Nat) (hfl : fl ≤ sel c k0 k1 k2) :
    cW n 73 [.ptr k 0, I .i64 c, LV 1 (I .i64) [(i : Int)] .ti, LV 1 (I .u16) [v] .ti, I .i64 r] H fl = some (I .i64 0, H.set (sel c k0 k1 k2) (.cells 182 (smL ((sel c s0 s1 s2).set i ⟨v, r, true⟩)))) := by
  obtain ⟨n, rfl⟩ : ∃ m, n = m + 5 := ⟨n - 5, by omega⟩
  have hb := h.b
  unfold rw3 at hb
  have ck := hp_lt hb
  have hC := fun f t H hf => contains1_c (n + 4) (by omega) i f H t hf
  have h1 := channel_c (n + 4) (by omega) c hc
  have hP := contains1_c (n + 4) (by omega) i (.clo (.func 101) [] [.ptr H.length 0, .ptr (H.length + 1) 0]) (H ++ [.cells 105 [.ptr k 0], .cells 3 [I .i64 c]]) .ti (fun m fl hm => cVro (by kernel_rfl) (Put1_c m (by omega) (h.app _) c hc i hi H.length (H.length + 1) 105 3 (hp_get_0 _ _ _ _ rfl) (hp_get_1 _ _ _ _ _ rfl)))
  have lq := fun K (H H' : Heap) => s___image_Image__Put_L0_eq (n + 4) fl K (n + 4) (LV 1 (I .u16) [v] .ti) (I .i64 r) (.ptr (List.length H) 0) (.ptr (List.length H + 1) 0) (LV 1 (I .i64) [(i : Int)] .ti) (I .i64 1) (I .i64 0) H'
  have hc' : c = 0 ∨ c = 1 ∨ c = 2 := by omega
  have hi0 : (0 : Int) ≤ i := by omega
  rcases hc' with rfl | rfl | rfl
  · have hk := h.r0
    have ckk := hp_lt hk
    have p := smL_set s0 i (by rw [h.l0]; exact hi) ⟨v, r, true⟩
    have b0 : i * 3 + 3 ≤ (smL s0).length := by have := h.l0; rw [smL_len]; omega
    have z : ((0 : Nat) : Int) = 0 := rfl
    rw [z] at h1 hP ⊢
    unfold smC at p
    simp only [List.append_assoc, List.cons_append, List.nil_append] at p
    have hs : sel 0 k0 k1 k2 = k0 := rfl
    have hs2 : sel 0 s0 s1 s2 = s0 := rfl
    rw [hs] at hfl
    rw [hs, hs2]
    refine cW_of (H' := (H.set k0 (.cells 182 (smL (s0.set i ⟨v, r, true⟩)))) ++ [.cells 105 [.ptr k 0], .cells 3 [I .i64 0]]) (r := I .i64 0) ((s___image_Image__Put_eq _ _ _ _ _ _ _ _).trans ?_) (by simp) (cutH_put hw ckk (by rw [hp_get_left _ _ _ (by simpa using ckk)]; exact hp_set_get _ _ _ ckk) (fun j hj hne => by rw [hp_get_left _ _ _ (by simpa using hj)]; exact hp_set_ne _ _ _ _ hne))
    unfold s___image_Image__Put
    simp -implicitDefEqProofs (disch := first | omega | (simp only [List.length_set, List.length_append, List.length_cons, List.length_nil, List.length_take, List.length_drop, List.length_map]; omega) | simp) [wrap_i64, wrap_u16_id, wrap_u8_id, tdiv_pos, tmod_pos, -getElem?_pos, -getElem?_neg, -List.length_eq_zero_iff, -List.getElem_cons_drop, h1, hP, lq, s___image_Image__Put_L0, s___image_Image__Put_B0, hb, idxArr_k, hk, b0, p, s___image_Image__Put_O0]
  · have hk := h.r1
    have ckk := hp_lt hk
    have p := smL_set s1 i (by rw [h.l1]; exact hi) ⟨v, r, true⟩
    have b0 : i * 3 + 3 ≤ (smL s1).length := by have := h.l1; rw [smL_len]; omega
    have z : ((1 : Nat) : Int) = 1 := rfl
    rw [z] at h1 hP ⊢
    unfold smC at p
    simp only [List.append_assoc, List.cons_append, List.nil_append] at p
    have hs : sel 1 k0 k1 k2 = k1 := rfl
    have hs2 : sel 1 s0 s1 s2 = s1 := rfl
    rw [hs] at hfl
    rw [hs, hs2]
    refine cW_of (H' := (H.set k1 (.cells 182 (smL (s1.set i ⟨v, r, true⟩)))) ++ [.cells 105 [.ptr k 0], .cells 3 [I .i64 1]]) (r := I .i64 0) ((s___image_Image__Put_eq _ _ _ _ _ _ _ _).trans ?_) (by simp) (cutH_put hw ckk (by rw [hp_get_left _ _ _ (by simpa using ckk)]; exact hp_set_get _ _ _ ckk) (fun j hj hne => by rw [hp_get_left _ _ _ (by simpa using hj)]; exact hp_set_ne _ _ _ _ hne))
    unfold s___image_Image__Put
    simp -implicitDefEqProofs (disch := first | omega | (simp only [List.length_set, List.length_append, List.length_cons, List.length_nil, List.length_take, List.length_drop, List.length_map]; omega) | simp) [wrap_i64, wrap_u16_id, wrap_u8_id, tdiv_pos, tmod_pos, -getElem?_pos, -getElem?_neg, -List.length_eq_zero_iff, -List.getElem_cons_drop, h1, hP, lq, s___image_Image__Put_L0, s___image_Image__Put_B0, hb, idxArr_k, hk, b0, p, s___image_Image__Put_O0]
  · have hk := h.r2
    have ckk := hp_lt hk
    have p := smL_set s2 i (by rw [h.l2]; exact hi) ⟨v, r, true⟩
    have b0 : i * 3 + 3 ≤ (smL s2).length := by have := h.l2; rw [smL_len]; omega
    have z : ((2 : Nat) : Int) = 2 := rfl
    rw [z] at h1 hP ⊢
    unfold smC at p
    simp only [List.append_assoc, List.cons_append, List.nil_append] at p
    have hs : sel 2 k0 k1 k2 = k2 := rfl
    have hs2 : sel 2 s0 s1 s2 = s2 := rfl
    rw [hs] at hfl
    rw [hs, hs2]
    refine cW_of (H' := (H.set k2 (.cells 182 (smL (s2.set i ⟨v, r, true⟩)))) ++ [.cells 105 [.ptr k 0], .cells 3 [I .i64 2]]) (r := I .i64 0) ((s___image_Image__Put_eq _ _ _ _ _ _ _ _).trans ?_) (by simp) (cutH_put hw ckk (by rw [hp_get_left _ _ _ (by simpa using ckk)]; exact hp_set_get _ _ _ ckk) (fun j hj hne => by rw [hp_get_left _ _ _ (by simpa using hj)]; exact hp_set_ne _ _ _ _ hne))
    unfold s___image_Image__Put
    simp -implicitDefEqProofs (disch := first | omega | (simp only [List.length_set, List.length_append, List.length_cons, List.length_nil, List.length_take, List.length_drop, List.length_map]; omega) | simp) [wrap_i64, wrap_u16_id, wrap_u8_id, tdiv_pos, tmod_pos, -getElem?_pos, -getElem?_neg, -List.length_eq_zero_iff, -List.getElem_cons_drop, h1, hP, lq, s___image_Image__Put_L0, s___image_Image__Put_B0, hb, idxArr_k, hk, b0, p, s___image_Image__Put_O0]
theorem whole1_c (n : Nat) (hn : 3 ≤ n) (H : Heap) (a : Nat) (e : TypeId) (s : Sm) (r : Int) (ha : H[a]? = some (.cells e [I .i64 r])) : cO n 91 ([.agg (smC s)] ++ [.ptr a 0]) H = some (Bo (!fr s r)) := by
  obtain ⟨n, rfl⟩ : ∃ m, n = m + 1 := ⟨n - 1, by omega⟩
  have o := of_img_c n (by omega) s r
  have ca := hp_lt ha
  have hl : (smC s).all DV.leaf = true := rfl
  have hl3 : (smC s).length = 3 := rfl
  unfold smC at o hl hl3 ⊢
  exact cO_of (H' := H ++ [.cells 182 (smC s)]) (r := Bo (!fr s r)) ((s___image_Image__Whole_1_eq _ _ _ _ _).trans (by unfold s___image_Image__Whole_1 smC; simp -implicitDefEqProofs (disch := first | omega | (simp only [List.length_set, List.length_append, List.length_cons, List.length_nil, List.length_take, List.length_drop, List.length_map]; omega) | simp) [wrap_i64, wrap_u16_id, wrap_u8_id, tdiv_pos, tmod_pos, -getElem?_pos, -getElem?_neg, -List.length_eq_zero_iff, -List.getElem_cons_drop, ha, o] <;> first | exact rfl | exact ⟨rfl, rfl⟩)) (by simp)
theorem idxS_L (n fl : Nat) (hn : 5 ≤ n) (H : Heap) (f : DV) (r : Int) (k m : Nat) (e : TypeId) (l : List Sm) (hk : H[k]? = some (.cells e (smL l))) (hl : l.length = m) (hm : m ≤ 100) (hf : ∀ s, cV n fl f [.agg (smC s)] H = some (Bo (!fr s r), H)) : ∀ (q i : Nat), l.length < q + i → i ≤ l.length →
    ((l.drop i).all (fun s => fr s r) = true → ∀ K, s_slices_IndexFunc___image_Sample_image_Sample__L0 n fl K q (rw3 k m) f (I .i64 m) (I .i64 i) H = K (.exit 0) (s_slices_IndexFunc___image_Sample_image_Sample__O0 .any) H) ∧
    ((l.drop i).all (fun s => fr s r) = false → ∃ j : Int, 0 ≤ j ∧ ∀ K, s_slices_IndexFunc___image_Sample_image_Sample__L0 n fl K q (rw3 k m) f (I .i64 m) (I .i64 i) H = K .ret (s_slices_IndexFunc___image_Sample_image_Sample__O0 (I .i64 j)) H) := by
  intro q
  induction q with
  | zero => intro i h; omega
  | succ q ih =>
    intro i hq hi
    by_cases h : i < l.length
    · have hd : l.drop i = l[i] :: l.drop (i + 1) := List.drop_eq_getElem_cons h
      obtain ⟨g1, g2⟩ := ih (i + 1) (by omega) (by omega)
      have hi2 : ((i + 1 : Nat) : Int) = (i : Int) + 1 := by omega
      rw [hi2] at g1 g2
      have him : (i : Int) < (m : Int) := by omega
      have p := smL_part l i h
      have b0 : i * 3 + 3 ≤ (smL l).length := by rw [smL_len]; omega
      have hq := hf l[i]
      rw [hd, List.all_cons]
      unfold rw3 at g1 g2 ⊢
      cases hb : fr l[i] r with
      | false =>
        rw [hb] at hq
        refine ⟨fun h => by simp at h, fun _ => ⟨i, by omega, fun K => ?_⟩⟩
        unfold s_slices_IndexFunc___image_Sample_image_Sample__L0 s_slices_IndexFunc___image_Sample_image_Sample__B0
        simp -implicitDefEqProofs (disch := first | omega | (simp only [List.length_set, List.length_append, List.length_cons, List.length_nil, List.length_take, List.length_drop, List.length_map]; omega) | simp) [wrap_i64, wrap_u16_id, wrap_u8_id, tdiv_pos, tmod_pos, -getElem?_pos, -getElem?_neg, -List.length_eq_zero_iff, -List.getElem_cons_drop, him, hk, p, b0, hq]
      | true =>
        rw [hb] at hq
        simp only [Bool.not_true] at hq
        have st : ∀ K, s_slices_IndexFunc___image_Sample_image_Sample__L0 n fl K (q + 1) (.row true 3 k 0 m m) f (I .i64 m) (I .i64 i) H = s_slices_IndexFunc___image_Sample_image_Sample__L0 n fl K q (.row true 3 k 0 m m) f (I .i64 m) (I .i64 (i + 1)) H := by
          intro K
          rw [s_slices_IndexFunc___image_Sample_image_Sample__L0, s_slices_IndexFunc___image_Sample_image_Sample__B0]
          simp -implicitDefEqProofs (disch := first | omega | (simp only [List.length_set, List.length_append, List.length_cons, List.length_nil, List.length_take, List.length_drop, List.length_map]; omega) | simp) [wrap_i64, wrap_u16_id, wrap_u8_id, tdiv_pos, tmod_pos, -getElem?_pos, -getElem?_neg, -List.length_eq_zero_iff, -List.getElem_cons_drop, him, hk, p, b0, hq]
        refine ⟨fun h K => ?_, fun h => ?_⟩
        · rw [st]; exact g1 (by simpa using h) K
        · obtain ⟨j, hj, g⟩ := g2 (by simpa using h)
          exact ⟨j, hj, fun K => by rw [st]; exact g K⟩
    · have hd : l.drop i = [] := by simp; omega
      have hi' : i = m := by omega
      subst hi'
      rw [hd]
      refine ⟨fun _ K => ?_, fun h => by simp at h⟩
      unfold s_slices_IndexFunc___image_Sample_image_Sample__L0 s_slices_IndexFunc___image_Sample_image_Sample__B0
      simp -implicitDefEqProofs (disch := first | omega | (simp only [List.length_set, List.length_append, List.length_cons, List.length_nil, List.length_take, List.length_drop, List.length_map]; omega) | simp) [wrap_i64, wrap_u16_id, wrap_u8_id, tdiv_pos, tmod_pos, -getElem?_pos, -getElem?_neg, -List.length_eq_zero_iff, -List.getElem_cons_drop]
theorem contS_c (n : Nat) (hn : 300 ≤ n) (H : Heap) (f : DV) (r : Int) (k m : Nat) (e : TypeId) (l : List Sm) (hk : H[k]? = some (.cells e (smL l))) (hl : l.length = m) (hm : m ≤ 100) (hf : ∀ q s fl, 10 ≤ q → cV q fl f [.agg (smC s)] H = some (Bo (!fr s r), H)) :
    cO n 90 [rw3 k m, f] H = some (Bo (!l.all (fun s => fr s r))) := by
  obtain ⟨n, rfl⟩ : ∃ m, n = m + 5 := ⟨n - 5, by omega⟩
  obtain ⟨g1, g2⟩ := idxS_L (n + 3) H.length (by omega) H f r k m e l hk hl hm (fun s => hf _ s _ (by omega)) (n + 3) 0 (by omega) (by omega)
  rw [List.drop_zero] at g1 g2
  have lq := fun K => s_slices_IndexFunc___image_Sample_image_Sample__L0_eq (n + 3) H.length K (n + 3) (rw3 k m) f (I .i64 m) (I .i64 0) H
  have ln : lenD (rw3 k m) = some (I .i64 m) := rfl
  cases hb : l.all (fun s => fr s r) with
  | true =>
    have g := g1 hb
    simp only [Int.natCast_zero] at g
    have hI : cO (n + 4) 110 [rw3 k m, f] H = some (I .i64 (-1)) :=
      cO_of (H' := H) (r := I .i64 (-1)) ((s_slices_IndexFunc___image_Sample_image_Sample__eq _ _ _ _ _).trans (by unfold s_slices_IndexFunc___image_Sample_image_Sample_; simp -implicitDefEqProofs (disch := first | omega | (simp only [List.length_set, List.length_append, List.length_cons, List.length_nil, List.length_take, List.length_drop, List.length_map]; omega) | simp) [wrap_i64, wrap_u16_id, wrap_u8_id, tdiv_pos, tmod_pos, -getElem?_pos, -getElem?_neg, -List.length_eq_zero_iff, -List.getElem_cons_drop, lq, ln, g] <;> first | exact rfl | exact ⟨rfl, rfl⟩)) (by simp)
    exact cO_of (H' := H) (r := Bo false) ((s_slices_ContainsFunc___image_Sample_image_Sample__eq _ _ _ _ _).trans (by unfold s_slices_ContainsFunc___image_Sample_image_Sample_; simp -implicitDefEqProofs (disch := first | omega | (simp only [List.length_set, List.length_append, List.length_cons, List.length_nil, List.length_take, List.length_drop, List.length_map]; omega) | simp) [wrap_i64, wrap_u16_id, wrap_u8_id, tdiv_pos, tmod_pos, -getElem?_pos, -getElem?_neg, -List.length_eq_zero_iff, -List.getElem_cons_drop, hI] <;> first | exact rfl | exact ⟨rfl, rfl⟩)) (by simp)
  | false =>
    obtain ⟨j, hj, g⟩ := g2 hb
    simp only [Int.natCast_zero] at g
    have hI : cO (n + 4) 110 [rw3 k m, f] H = some (I .i64 j) :=
      cO_of (H' := H) (r := I .i64 j) ((s_slices_IndexFunc___image_Sample_image_Sample__eq _ _ _ _ _).trans (by unfold s_slices_IndexFunc___image_Sample_image_Sample_; simp -implicitDefEqProofs (disch := first | omega | (simp only [List.length_set, List.length_append, List.length_cons, List.length_nil, List.length_take, List.length_drop, List.length_map]; omega) | simp) [wrap_i64, wrap_u16_id, wrap_u8_id, tdiv_pos, tmod_pos, -getElem?_pos, -getElem?_neg, -List.length_eq_zero_iff, -List.getElem_cons_drop, lq, ln, g, s_slices_IndexFunc___image_Sample_image_Sample__O0] <;> first | exact rfl | exact ⟨rfl, rfl⟩)) (by simp)
    exact cO_of (H' := H) (r := Bo true) ((s_slices_ContainsFunc___image_Sample_image_Sample__eq _ _ _ _ _).trans (by unfold s_slices_ContainsFunc___image_Sample_image_Sample_; simp -implicitDefEqProofs (disch := first | omega | (simp only [List.length_set, List.length_append, List.length_cons, List.length_nil, List.length_take, List.length_drop, List.length_map]; omega) | simp) [wrap_i64, wrap_u16_id, wrap_u8_id, tdiv_pos, tmod_pos, -getElem?_pos, -getElem?_neg, -List.length_eq_zero_iff, -List.getElem_cons_drop, hI, hj] <;> first | exact rfl | exact ⟨rfl, rfl⟩)) (by simp)
theorem Whole_c (n : Nat) (hn : 310 ≤ n) {H : Heap} {k m k0 k1 k2 : Nat} {s0 s1 s2 : List Sm} (h : IA H k m k0 k1 k2 s0 s1 s2) (hm : m ≤ 100) (c : Nat) (hc : c < 3) (r : Int) :
    cO n 53 [.ptr k 0, I .i64 c, I .i64 r] H = some (Bo ((sel c s0 s1 s2).all (fun s => fr s r))) := by
  obtain ⟨n, rfl⟩ : ∃ m, n = m + 5 := ⟨n - 5, by omega⟩
  have hb := h.b
  have ck := hp_lt hb
  have h1 := channel_c (n + 4) (by omega) c hc
  have hW : ∀ (kc : Nat) (s : List Sm), H[kc]? = some (.cells 182 (smL s)) → s.length = m → cO (n + 4) 90 [rw3 kc m, .clo (.func 91) [] [.ptr H.length 0]] (H ++ [.cells 3 [I .i64 r]]) = some (Bo (!s.all (fun s => fr s r))) := fun kc s h1 h2 =>
    contS_c (n + 4) (by omega) _ _ r kc m 182 s (by rw [hp_get_left _ _ _ (hp_lt h1)]; exact h1) h2 hm (fun q s fl hq => cVro (by kernel_rfl) (whole1_c q (by omega) _ H.length 3 s r (hp_get_0 _ _ _ _ rfl)))
  have hc' : c = 0 ∨ c = 1 ∨ c = 2 := by omega
  rcases hc' with rfl | rfl | rfl
  · have z : ((0 : Nat) : Int) = 0 := rfl
    rw [z] at h1 ⊢
    have w := hW k0 s0 h.r0 h.l0
    exact cO_of (H' := H ++ [.cells 3 [I .i64 r]]) (r := Bo (s0.all fun s => fr s r)) ((s___image_Image__Whole_eq _ _ _ _ _ _).trans (by unfold s___image_Image__Whole; simp -implicitDefEqProofs (disch := first | omega | (simp only [List.length_set, List.length_append, List.length_cons, List.length_nil, List.length_take, List.length_drop, List.length_map]; omega) | simp) [wrap_i64, wrap_u16_id, wrap_u8_id, tdiv_pos, tmod_pos, -getElem?_pos, -getElem?_neg, -List.length_eq_zero_iff, -List.getElem_cons_drop, h1, hb, w, idxArr_k] <;> first | exact rfl | exact ⟨rfl, rfl⟩)) (by simp [sel])
  · have z : ((1 : Nat) : Int) = 1 := rfl
    rw [z] at h1 ⊢
    have w := hW k1 s1 h.r1 h.l1
    exact cO_of (H' := H ++ [.cells 3 [I .i64 r]]) (r := Bo (s1.all fun s => fr s r)) ((s___image_Image__Whole_eq _ _ _ _ _ _).trans (by unfold s___image_Image__Whole; simp -implicitDefEqProofs (disch := first | omega | (simp only [List.length_set, List.length_append, List.length_cons, List.length_nil, List.length_take, List.length_drop, List.length_map]; omega) | simp) [wrap_i64, wrap_u16_id, wrap_u8_id, tdiv_pos, tmod_pos, -getElem?_pos, -getElem?_neg, -List.length_eq_zero_iff, -List.getElem_cons_drop, h1, hb, w, idxArr_k] <;> first | exact rfl | exact ⟨rfl, rfl⟩)) (by simp [sel])
  · have z : ((2 : Nat) : Int) = 2 := rfl
    rw [z] at h1 ⊢
    have w := hW k2 s2 h.r2 h.l2
    exact cO_of (H' := H ++ [.cells 3 [I .i64 r]]) (r := Bo (s2.all fun s => fr s r)) ((s___image_Image__Whole_eq _ _ _ _ _ _).trans (by unfold s___image_Image__Whole; simp -implicitDefEqProofs (disch := first | omega | (simp only [List.length_set, List.length_append, List.length_cons, List.length_nil, List.length_take, List.length_drop, List.length_map]; omega) | simp) [wrap_i64, wrap_u16_id, wrap_u8_id, tdiv_pos, tmod_pos, -getElem?_pos, -getElem?_neg, -List.length_eq_zero_iff, -List.getElem_cons_drop, h1, hb, w, idxArr_k] <;> first | exact rfl | exact ⟨rfl, rfl⟩)) (by simp [sel])
end Go.Proofs.Ytbhnkdnfmlnajaa

/- The document's image. -/
namespace Go.Proofs.Ytbhnkdnfmlnajaa
open Go
set_option linter.unusedSimpArgs false
set_option linter.unusedVariables false
set_option maxRecDepth 100000
@[simp] theorem hp_get_4 (H X : Heap) (a b c d e : DBlk) (n : Nat) (h : n = H.length + 4) : (H ++ a :: b :: c :: d :: e :: X)[n]? = some e := by
  subst h; rw [List.getElem?_append_right (by omega)]; simp
@[simp] theorem hp_set_4 (H X : Heap) (a b c d e y : DBlk) (n : Nat) (h : n = H.length + 4) : (H ++ a :: b :: c :: d :: e :: X).set n y = H ++ a :: b :: c :: d :: y :: X := by
  subst h; rw [List.set_append_right _ _ (by omega), Nat.add_sub_cancel_left]; rfl
@[simp] theorem hp_get_5 (H X : Heap) (a b c d e f : DBlk) (n : Nat) (h : n = H.length + 5) : (H ++ a :: b :: c :: d :: e :: f :: X)[n]? = some f := by
  subst h; rw [List.getElem?_append_right (by omega)]; simp
@[simp] theorem hp_set_5 (H X : Heap) (a b c d e f y : DBlk) (n : Nat) (h : n = H.length + 5) : (H ++ a :: b :: c :: d :: e :: f :: X).set n y = H ++ a :: b :: c :: d :: e :: y :: X := by
  subst h; rw [List.set_append_right _ _ (by omega), Nat.add_sub_cancel_left]; rfl
@[simp] theorem hp_get_6 (H X : Heap) (a b c d e f g : DBlk) (n : Nat) (h : n = H.length + 6) : (H ++ a :: b :: c :: d :: e :: f :: g :: X)[n]? = some g := by
  subst h; rw [List.getElem?_append_right (by omega)]; simp
@[simp] theorem hp_set_6 (H X : Heap) (a b c d e f g y : DBlk) (n : Nat) (h : n = H.length + 6) : (H ++ a :: b :: c :: d :: e :: f :: g :: X).set n y = H ++ a :: b :: c :: d :: e :: f :: y :: X := by
  subst h; rw [List.set_append_right _ _ (by omega), Nat.add_sub_cancel_left]; rfl
/-- the document's image stands in the heap -/
structure RA (H : Heap) (k n k0 k1 k2 : Nat) (s0 s1 s2 : List Sm) : Prop where
  b : H[k]? = some (.cells 199 [I .i64 n, rw3 k0 n, rw3 k1 n, rw3 k2 n])
  r0 : H[k0]? = some (.cells 177 (smL s0))
  r1 : H[k1]? = some (.cells 177 (smL s1))
  r2 : H[k2]? = some (.cells 177 (smL s2))
  l0 : s0.length = n
  l1 : s1.length = n
  l2 : s2.length = n
theorem RA.app {H : Heap} {k n k0 k1 k2 : Nat} {s0 s1 s2 : List Sm} (h : RA H k n k0 k1 k2 s0 s1 s2) (X : Heap) : RA (H ++ X) k n k0 k1 k2 s0 s1 s2 :=
  ⟨by rw [hp_get_left _ _ _ (hp_lt h.b)]; exact h.b, by rw [hp_get_left _ _ _ (hp_lt h.r0)]; exact h.r0, by rw [hp_get_left _ _ _ (hp_lt h.r1)]; exact h.r1, by rw [hp_get_left _ _ _ (hp_lt h.r2)]; exact h.r2, h.l0, h.l1, h.l2⟩
theorem ref11_New_c (n : Nat) (hn : 10 ≤ n) (H : Heap) (fl m : Nat) (h1 : 1 ≤ m) (h2 : m ≤ 48) (hfl : fl ≤ H.length) :
    cK n 72 [I .i64 m] H fl = some (.tup [.ptr H.length 0, I .i64 0], H ++ [.cells 199 [I .i64 m, rw3 (H.length + 1) m, rw3 (H.length + 2) m, rw3 (H.length + 3) m], .cells 177 (smL (List.replicate m ⟨0, 0, false⟩)), .cells 177 (smL (List.replicate m ⟨0, 0, false⟩)), .cells 177 (smL (List.replicate m ⟨0, 0, false⟩))]) := by
  obtain ⟨n, rfl⟩ : ∃ m, n = m + 5 := ⟨n - 5, by omega⟩
  have hm1 : ¬ ((m : Int) < 1) := by omega
  have hm2 : ¬ ((48 : Int) < (m : Int)) := by omega
  have lq := fun K (H : Heap) k => s_triuneref11_New_L0_eq (n + 4) fl K (n + 4) (I .i64 m) (.ptr k 0) (I .i64 0) H
  have lf : ∀ k m, (rw3 k m).leaf = true := fun _ _ => rfl
  have lc : ∀ k m, (rw3 k m).cells = [rw3 k m] := fun _ _ => rfl
  have mk := fun nid H => makeG_sm 24 177 m nid H (by omega) (by omega)
  refine (s_triuneref11_New_eq _ _ _ _).trans ?_
  unfold s_triuneref11_New
  simp -implicitDefEqProofs (disch := first | omega | (simp only [List.length_set, List.length_append, List.length_cons, List.length_nil, List.length_take, List.length_drop, List.length_map]; omega) | simp) [wrap_i64, wrap_u16_id, wrap_u8_id, tdiv_pos, tmod_pos, -getElem?_pos, -getElem?_neg, -List.length_eq_zero_iff, -List.getElem_cons_drop, lq, hm1, hm2, s_triuneref11_New_L0, s_triuneref11_New_B0, mk, idxArr_k, lf, lc, s_triuneref11_New_O0]
theorem there_c (n : Nat) (hn : 1 ≤ n) {H : Heap} {k m k0 k1 k2 : Nat} {s0 s1 s2 : List Sm} (h : RA H k m k0 k1 k2 s0 s1 s2) (i : Nat) (hi : i < m) :
    cO n 104 [.ptr k 0, I .i64 i] H = some (Bo true) := by
  obtain ⟨n, rfl⟩ : ∃ m, n = m + 1 := ⟨n - 1, by omega⟩
  have hb := h.b
  have h1 : (0 : Int) ≤ i := by omega
  have h2 : (i : Int) < m := by omega
  exact cO_of (H' := H) (r := Bo true) ((s___triuneref11_Image__there_eq _ _ _ _ _).trans (by unfold s___triuneref11_Image__there; simp -implicitDefEqProofs (disch := first | omega | (simp only [List.length_set, List.length_append, List.length_cons, List.length_nil, List.length_take, List.length_drop, List.length_map]; omega) | simp) [wrap_i64, wrap_u16_id, wrap_u8_id, tdiv_pos, tmod_pos, -getElem?_pos, -getElem?_neg, -List.length_eq_zero_iff, -List.getElem_cons_drop, hb, h1, h2] <;> first | exact rfl | exact ⟨rfl, rfl⟩)) (by simp)
theorem ref11_Get_c (n : Nat) (hn : 2 ≤ n) {H : Heap} {k m k0 k1 k2 : Nat} {s0 s1 s2 : List Sm} (h : RA H k m k0 k1 k2 s0 s1 s2) (c : Nat) (hc : c < 3) (i : Nat) (hi : i < m) (x : Sm) (hx : (sel c s0 s1 s2)[i]? = some x) :
    cO n 88 [.ptr k 0, I .i64 c, I .i64 i] H = some (.tup [.agg [I .u16 x.v, I .i64 x.r, Bo x.is], I .i64 0]) := by
  obtain ⟨n, rfl⟩ : ∃ m, n = m + 1 := ⟨n - 1, by omega⟩
  have hb := h.b
  unfold rw3 at hb
  have ck := hp_lt hb
  have ht := there_c n (by omega) (h.app [.cells 177 [I .u16 0, I .i64 0, Bo false]]) i hi
  have h1 : (0 : Int) ≤ i := by omega
  have h2 : (i : Int) < m := by omega
  have hc' : c = 0 ∨ c = 1 ∨ c = 2 := by omega
  rcases hc' with rfl | rfl | rfl
  · have z : ((0 : Nat) : Int) = 0 := rfl
    rw [z]
    have hs2 : sel 0 s0 s1 s2 = s0 := rfl
    rw [hs2] at hx
    obtain ⟨j0, g0⟩ := List.getElem?_eq_some_iff.1 hx
    have p := smL_part s0 i j0
    rw [g0] at p
    unfold smC at p
    have hr := h.r0
    have cr := hp_lt hr
    have b0 : i * 3 + 3 ≤ (smL s0).length := by rw [smL_len]; omega
    exact cO_of (r := .tup [.agg [I .u16 x.v, I .i64 x.r, Bo x.is], I .i64 0]) (H' := H ++ [.cells 177 [I .u16 x.v, I .i64 x.r, Bo x.is]]) ((s___triuneref11_Image__Get_eq _ _ _ _ _ _).trans (by unfold s___triuneref11_Image__Get; simp -implicitDefEqProofs (disch := first | omega | (simp only [List.length_set, List.length_append, List.length_cons, List.length_nil, List.length_take, List.length_drop, List.length_map]; omega) | simp) [wrap_i64, wrap_u16_id, wrap_u8_id, tdiv_pos, tmod_pos, -getElem?_pos, -getElem?_neg, -List.length_eq_zero_iff, -List.getElem_cons_drop, hb, h1, h2, ht, idxArr_k, hr, p, b0] <;> first | exact rfl | exact ⟨rfl, rfl⟩)) (by simp)
  · have z : ((1 : Nat) : Int) = 1 := rfl
    rw [z]
    have hs2 : sel 1 s0 s1 s2 = s1 := rfl
    rw [hs2] at hx
    obtain ⟨j0, g0⟩ := List.getElem?_eq_some_iff.1 hx
    have p := smL_part s1 i j0
    rw [g0] at p
    unfold smC at p
    have hr := h.r1
    have cr := hp_lt hr
    have b0 : i * 3 + 3 ≤ (smL s1).length := by rw [smL_len]; omega
    exact cO_of (r := .tup [.agg [I .u16 x.v, I .i64 x.r, Bo x.is], I .i64 0]) (H' := H ++ [.cells 177 [I .u16 x.v, I .i64 x.r, Bo x.is]]) ((s___triuneref11_Image__Get_eq _ _ _ _ _ _).trans (by unfold s___triuneref11_Image__Get; simp -implicitDefEqProofs (disch := first | omega | (simp only [List.length_set, List.length_append, List.length_cons, List.length_nil, List.length_take, List.length_drop, List.length_map]; omega) | simp) [wrap_i64, wrap_u16_id, wrap_u8_id, tdiv_pos, tmod_pos, -getElem?_pos, -getElem?_neg, -List.length_eq_zero_iff, -List.getElem_cons_drop, hb, h1, h2, ht, idxArr_k, hr, p, b0] <;> first | exact rfl | exact ⟨rfl, rfl⟩)) (by simp)
  · have z : ((2 : Nat) : Int) = 2 := rfl
    rw [z]
    have hs2 : sel 2 s0 s1 s2 = s2 := rfl
    rw [hs2] at hx
    obtain ⟨j0, g0⟩ := List.getElem?_eq_some_iff.1 hx
    have p := smL_part s2 i j0
    rw [g0] at p
    unfold smC at p
    have hr := h.r2
    have cr := hp_lt hr
    have b0 : i * 3 + 3 ≤ (smL s2).length := by rw [smL_len]; omega
    exact cO_of (r := .tup [.agg [I .u16 x.v, I .i64 x.r, Bo x.is], I .i64 0]) (H' := H ++ [.cells 177 [I .u16 x.v, I .i64 x.r, Bo x.is]]) ((s___triuneref11_Image__Get_eq _ _ _ _ _ _).trans (by unfold s___triuneref11_Image__Get; simp -implicitDefEqProofs (disch := first | omega | (simp only [List.length_set, List.length_append, List.length_cons, List.length_nil, List.length_take, List.length_drop, List.length_map]; omega) | simp) [wrap_i64, wrap_u16_id, wrap_u8_id, tdiv_pos, tmod_pos, -getElem?_pos, -getElem?_neg, -List.length_eq_zero_iff, -List.getElem_cons_drop, hb, h1, h2, ht, idxArr_k, hr, p, b0] <;> first | exact rfl | exact ⟨rfl, rfl⟩)) (by simp)
theorem ref11_Put_c (n : Nat) (hn : 30 ≤ n) {H : Heap} (hw : WfH H) {k m k0 k1 k2 : Nat} {s0 s1 s2 : List Sm} (h : RA H k m k0 k1 k2 s0 s1 s2) (c : Nat) (hc : c < 3) (i : Nat) (hi : i < m) (v r : Int) (fl : Nat) (hfl : fl ≤ sel c k0 k1 k2) :
    cW n 74 [.ptr k 0, I .i64 c, LV 1 (I .i64) [(i : Int)] .ti, LV 1 (I .u16) [v] .ti, I .i64 r] H fl = some (I .i64 0, H.set (sel c k0 k1 k2) (.cells 177 (smL ((sel c s0 s1 s2).set i ⟨v, r, true⟩)))) := by
  obtain ⟨n, rfl⟩ : ∃ m, n = m + 5 := ⟨n - 5, by omega⟩
  have hb := h.b
  unfold rw3 at hb
  have ck := hp_lt hb
  have ht := there_c (n + 4) (by omega) h i hi
  have lq := fun K (H : Heap) x1 => s___triuneref11_Image__Put_L0_eq (n + 4) fl K (n + 4) (.ptr k 0) x1 (LV 1 (I .i64) [(i : Int)] .ti) (LV 1 (I .u16) [v] .ti) (I .i64 r) (I .i64 0) H
  have lq1 := fun K (H : Heap) x1 => s___triuneref11_Image__Put_L1_eq (n + 4) fl K (n + 4) (.ptr k 0) x1 (LV 1 (I .i64) [(i : Int)] .ti) (LV 1 (I .u16) [v] .ti) (I .i64 r) (I .i64 0) H
  have hc' : c = 0 ∨ c = 1 ∨ c = 2 := by omega
  have hi0 : (0 : Int) ≤ i := by omega
  rcases hc' with rfl | rfl | rfl
  · have hk := h.r0
    have ckk := hp_lt hk
    have p := smL_set s0 i (by rw [h.l0]; exact hi) ⟨v, r, true⟩
    have b0 : i * 3 + 3 ≤ (smL s0).length := by have := h.l0; rw [smL_len]; omega
    have z : ((0 : Nat) : Int) = 0 := rfl
    rw [z]
    unfold smC at p
    simp only [List.append_assoc, List.cons_append, List.nil_append] at p
    have hs : sel 0 k0 k1 k2 = k0 := rfl
    have hs2 : sel 0 s0 s1 s2 = s0 := rfl
    rw [hs] at hfl
    rw [hs, hs2]
    refine cW_of (H' := H.set k0 (.cells 177 (smL (s0.set i ⟨v, r, true⟩)))) (r := I .i64 0) ((s___triuneref11_Image__Put_eq _ _ _ _ _ _ _ _).trans ?_) (by simp) (cutH_put hw ckk (hp_set_get _ _ _ ckk) (fun j hj hne => hp_set_ne _ _ _ _ hne))
    unfold s___triuneref11_Image__Put
    simp -implicitDefEqProofs (disch := first | omega | (simp only [List.length_set, List.length_append, List.length_cons, List.length_nil, List.length_take, List.length_drop, List.length_map]; omega) | simp) [wrap_i64, wrap_u16_id, wrap_u8_id, tdiv_pos, tmod_pos, -getElem?_pos, -getElem?_neg, -List.length_eq_zero_iff, -List.getElem_cons_drop, ht, lq, lq1, s___triuneref11_Image__Put_L0, s___triuneref11_Image__Put_B0, s___triuneref11_Image__Put_L1, s___triuneref11_Image__Put_B1, hb, idxArr_k, hk, b0, p, s___triuneref11_Image__Put_O0, s___triuneref11_Image__Put_O1]
  · have hk := h.r1
    have ckk := hp_lt hk
    have p := smL_set s1 i (by rw [h.l1]; exact hi) ⟨v, r, true⟩
    have b0 : i * 3 + 3 ≤ (smL s1).length := by have := h.l1; rw [smL_len]; omega
    have z : ((1 : Nat) : Int) = 1 := rfl
    rw [z]
    unfold smC at p
    simp only [List.append_assoc, List.cons_append, List.nil_append] at p
    have hs : sel 1 k0 k1 k2 = k1 := rfl
    have hs2 : sel 1 s0 s1 s2 = s1 := rfl
    rw [hs] at hfl
    rw [hs, hs2]
    refine cW_of (H' := H.set k1 (.cells 177 (smL (s1.set i ⟨v, r, true⟩)))) (r := I .i64 0) ((s___triuneref11_Image__Put_eq _ _ _ _ _ _ _ _).trans ?_) (by simp) (cutH_put hw ckk (hp_set_get _ _ _ ckk) (fun j hj hne => hp_set_ne _ _ _ _ hne))
    unfold s___triuneref11_Image__Put
    simp -implicitDefEqProofs (disch := first | omega | (simp only [List.length_set, List.length_append, List.length_cons, List.length_nil, List.length_take, List.length_drop, List.length_map]; omega) | simp) [wrap_i64, wrap_u16_id, wrap_u8_id, tdiv_pos, tmod_pos, -getElem?_pos, -getElem?_neg, -List.length_eq_zero_iff, -List.getElem_cons_drop, ht, lq, lq1, s___triuneref11_Image__Put_L0, s___triuneref11_Image__Put_B0, s___triuneref11_Image__Put_L1, s___triuneref11_Image__Put_B1, hb, idxArr_k, hk, b0, p, s___triuneref11_Image__Put_O0, s___triuneref11_Image__Put_O1]
  · have hk := h.r2
    have ckk := hp_lt hk
    have p := smL_set s2 i (by rw [h.l2]; exact hi) ⟨v, r, true⟩
    have b0 : i * 3 + 3 ≤ (smL s2).length := by have := h.l2; rw [smL_len]; omega
    have z : ((2 : Nat) : Int) = 2 := rfl
    rw [z]
    unfold smC at p
    simp only [List.append_assoc, List.cons_append, List.nil_append] at p
    have hs : sel 2 k0 k1 k2 = k2 := rfl
    have hs2 : sel 2 s0 s1 s2 = s2 := rfl
    rw [hs] at hfl
    rw [hs, hs2]
    refine cW_of (H' := H.set k2 (.cells 177 (smL (s2.set i ⟨v, r, true⟩)))) (r := I .i64 0) ((s___triuneref11_Image__Put_eq _ _ _ _ _ _ _ _).trans ?_) (by simp) (cutH_put hw ckk (hp_set_get _ _ _ ckk) (fun j hj hne => hp_set_ne _ _ _ _ hne))
    unfold s___triuneref11_Image__Put
    simp -implicitDefEqProofs (disch := first | omega | (simp only [List.length_set, List.length_append, List.length_cons, List.length_nil, List.length_take, List.length_drop, List.length_map]; omega) | simp) [wrap_i64, wrap_u16_id, wrap_u8_id, tdiv_pos, tmod_pos, -getElem?_pos, -getElem?_neg, -List.length_eq_zero_iff, -List.getElem_cons_drop, ht, lq, lq1, s___triuneref11_Image__Put_L0, s___triuneref11_Image__Put_B0, s___triuneref11_Image__Put_L1, s___triuneref11_Image__Put_B1, hb, idxArr_k, hk, b0, p, s___triuneref11_Image__Put_O0, s___triuneref11_Image__Put_O1]
theorem ref11_Fresh_c (n : Nat) (hn : 20 ≤ n) {H : Heap} {k m k0 k1 k2 : Nat} {s0 s1 s2 : List Sm} (h : RA H k m k0 k1 k2 s0 s1 s2) (i : Nat) (hi : i < m) (x0 x1 x2 : Sm) (e0 : s0[i]? = some x0) (e1 : s1[i]? = some x1) (e2 : s2[i]? = some x2) (r : Int) (i0 i1 i2 : Bool) :
    ∃ t t2, okT t ∧ okT t2 ∧ cO n 81 [.ptr k 0, I .i64 i, I .i64 r, .agg [Bo i0, Bo i1, Bo i2]] H = some (.tup [LV 1 (I .u16) (vals (i0 && fr x0 r) (i1 && fr x1 r) (i2 && fr x2 r) x0.v x1.v x2.v) t, LV 1 (I .i64) (vals (i0 && fr x0 r) (i1 && fr x1 r) (i2 && fr x2 r) 0 1 2) t2]) := by
  obtain ⟨n, rfl⟩ : ∃ m, n = m + 5 := ⟨n - 5, by omega⟩
  have fin : ∀ va vb ta tb, oT H.length ta → oT H.length tb → (∃ H', s___triuneref11_Image__Fresh (n + 4) H H.length (.ptr k 0) (I .i64 i) (I .i64 r) (.agg [Bo i0, Bo i1, Bo i2]) = some (.tup [LV 1 (I .u16) va ta, LV 1 (I .i64) vb tb], H')) → ∃ t t2, okT t ∧ okT t2 ∧ cO (n + 5) 81 [.ptr k 0, I .i64 i, I .i64 r, .agg [Bo i0, Bo i1, Bo i2]] H = some (.tup [LV 1 (I .u16) va t, LV 1 (I .i64) vb t2]) := by
    rintro va vb ta tb hta htb ⟨H', hs⟩
    obtain ⟨t, ht, et⟩ := oldLeaf_oT hta H' 1 (I .u16) va
    obtain ⟨t2, ht2, et2⟩ := oldLeaf_oT htb H' 1 (I .i64) vb
    exact ⟨t, t2, ht, ht2, cO_of ((s___triuneref11_Image__Fresh_eq _ _ _ _ _ _ _).trans hs) (by simp [et, et2])⟩
  have a0 := fun X => ref11_Get_c (n + 4) (by omega) (h.app X) 0 (by omega) i hi x0 e0
  have a1 := fun X => ref11_Get_c (n + 4) (by omega) (h.app X) 1 (by omega) i hi x1 e1
  have a2 := fun X => ref11_Get_c (n + 4) (by omega) (h.app X) 2 (by omega) i hi x2 e2
  have z0 : ((0 : Nat) : Int) = 0 := rfl
  have z1 : ((1 : Nat) : Int) = 1 := rfl
  have z2 : ((2 : Nat) : Int) = 2 := rfl
  rw [z0] at a0
  rw [z1] at a1
  rw [z2] at a2
  have lq := fun K (H : Heap) (l : Nat) => s___triuneref11_Image__Fresh_L0_eq (n + 4) l K (n + 4) (.ptr k 0) (I .i64 i) (I .i64 r) (.ptr H.length 0) (.list 0 [] .ti) (.list 0 [] .ti) (I .i64 0)
  have f0 : (i0 && fr x0 r) = (i0 && x0.is && decide (x0.r = r)) := by unfold fr; cases i0 <;> cases x0.is <;> rfl
  have f1 : (i1 && fr x1 r) = (i1 && x1.is && decide (x1.r = r)) := by unfold fr; cases i1 <;> cases x1.is <;> rfl
  have f2 : (i2 && fr x2 r) = (i2 && x2.is && decide (x2.r = r)) := by unfold fr; cases i2 <;> cases x2.is <;> rfl
  rw [f0, f1, f2]
  obtain ⟨B0, hB0⟩ : ∃ B0, (i0 && x0.is && decide (x0.r = r)) = B0 := ⟨_, rfl⟩
  obtain ⟨B1, hB1⟩ : ∃ B1, (i1 && x1.is && decide (x1.r = r)) = B1 := ⟨_, rfl⟩
  obtain ⟨B2, hB2⟩ : ∃ B2, (i2 && x2.is && decide (x2.r = r)) = B2 := ⟨_, rfl⟩
  rw [hB0, hB1, hB2]
  have ck : chunkOk false 1 0 = true := rfl
  cases B0 <;> cases B1 <;> cases B2
  · exact fin _ _ .ti .ti (.inl rfl) (.inl rfl) ⟨_, by unfold s___triuneref11_Image__Fresh; simp -implicitDefEqProofs (disch := first | omega | (simp only [List.length_set, List.length_append, List.length_cons, List.length_nil, List.length_take, List.length_drop, List.length_map]; omega) | simp) [wrap_i64, wrap_u16_id, wrap_u8_id, tdiv_pos, tmod_pos, -getElem?_pos, -getElem?_neg, -List.length_eq_zero_iff, -List.getElem_cons_drop, -Bool.not_and, -Bool.not_or, -wantF_n, wantF_sy, wantF_sn, gO_some, gO_loadG, gO_lenD, gO_notD, gO_eqK1, gO_neK1, gO_ltK1, gO_leK1, gO_gtK1, gO_geK1, gO_max1, gO_addK1, gO_mulK1, gO_addK2, gO_ltK2, gO_leK2, gO_max2, gO_cvK, gO_idx, gO_pick, gO_pick2, gO_cP1, gO_cP1b, gO_cP2, gO_cP2a, gO_eqB, pick_t, pick_t2, pick_f, pick_f2, gd_gd, wantF_gt, wantF_gf, gO_pkf, gO_pkt, gO_pktn, gO_eqK2, gO_neK2, gO_gtK2, gO_geK2, gO_subK1, gO_subK2, gO_min1, gO_min2, gO_remK1, gO_cP3, gO_nilD, gO_fieldD, gO_idxArr1, gO_idxArr2, gO_idx2, gO_extD, lq, s___triuneref11_Image__Fresh_L0, s___triuneref11_Image__Fresh_B0, a0, a1, a2, idxArr_k, hB0, hB1, hB2, condR_b, ck, appG_n, appG_o, vals, s___triuneref11_Image__Fresh_O0]; first | rfl | exact ⟨rfl, rfl⟩ | exact ⟨⟨rfl, rfl⟩, rfl⟩⟩
  · exact fin _ _ (.own (H.length + 4)) (.own (H.length + 5)) (.inr ⟨_, rfl, by omega⟩) (.inr ⟨_, rfl, by omega⟩) ⟨_, by unfold s___triuneref11_Image__Fresh; simp -implicitDefEqProofs (disch := first | omega | (simp only [List.length_set, List.length_append, List.length_cons, List.length_nil, List.length_take, List.length_drop, List.length_map]; omega) | simp) [wrap_i64, wrap_u16_id, wrap_u8_id, tdiv_pos, tmod_pos, -getElem?_pos, -getElem?_neg, -List.length_eq_zero_iff, -List.getElem_cons_drop, -Bool.not_and, -Bool.not_or, -wantF_n, wantF_sy, wantF_sn, gO_some, gO_loadG, gO_lenD, gO_notD, gO_eqK1, gO_neK1, gO_ltK1, gO_leK1, gO_gtK1, gO_geK1, gO_max1, gO_addK1, gO_mulK1, gO_addK2, gO_ltK2, gO_leK2, gO_max2, gO_cvK, gO_idx, gO_pick, gO_pick2, gO_cP1, gO_cP1b, gO_cP2, gO_cP2a, gO_eqB, pick_t, pick_t2, pick_f, pick_f2, gd_gd, wantF_gt, wantF_gf, gO_pkf, gO_pkt, gO_pktn, gO_eqK2, gO_neK2, gO_gtK2, gO_geK2, gO_subK1, gO_subK2, gO_min1, gO_min2, gO_remK1, gO_cP3, gO_nilD, gO_fieldD, gO_idxArr1, gO_idxArr2, gO_idx2, gO_extD, lq, s___triuneref11_Image__Fresh_L0, s___triuneref11_Image__Fresh_B0, a0, a1, a2, idxArr_k, hB0, hB1, hB2, condR_b, ck, appG_n, appG_o, vals, s___triuneref11_Image__Fresh_O0]; first | rfl | exact ⟨rfl, rfl⟩ | exact ⟨⟨rfl, rfl⟩, rfl⟩⟩
  · exact fin _ _ (.own (H.length + 3)) (.own (H.length + 4)) (.inr ⟨_, rfl, by omega⟩) (.inr ⟨_, rfl, by omega⟩) ⟨_, by unfold s___triuneref11_Image__Fresh; simp -implicitDefEqProofs (disch := first | omega | (simp only [List.length_set, List.length_append, List.length_cons, List.length_nil, List.length_take, List.length_drop, List.length_map]; omega) | simp) [wrap_i64, wrap_u16_id, wrap_u8_id, tdiv_pos, tmod_pos, -getElem?_pos, -getElem?_neg, -List.length_eq_zero_iff, -List.getElem_cons_drop, -Bool.not_and, -Bool.not_or, -wantF_n, wantF_sy, wantF_sn, gO_some, gO_loadG, gO_lenD, gO_notD, gO_eqK1, gO_neK1, gO_ltK1, gO_leK1, gO_gtK1, gO_geK1, gO_max1, gO_addK1, gO_mulK1, gO_addK2, gO_ltK2, gO_leK2, gO_max2, gO_cvK, gO_idx, gO_pick, gO_pick2, gO_cP1, gO_cP1b, gO_cP2, gO_cP2a, gO_eqB, pick_t, pick_t2, pick_f, pick_f2, gd_gd, wantF_gt, wantF_gf, gO_pkf, gO_pkt, gO_pktn, gO_eqK2, gO_neK2, gO_gtK2, gO_geK2, gO_subK1, gO_subK2, gO_min1, gO_min2, gO_remK1, gO_cP3, gO_nilD, gO_fieldD, gO_idxArr1, gO_idxArr2, gO_idx2, gO_extD, lq, s___triuneref11_Image__Fresh_L0, s___triuneref11_Image__Fresh_B0, a0, a1, a2, idxArr_k, hB0, hB1, hB2, condR_b, ck, appG_n, appG_o, vals, s___triuneref11_Image__Fresh_O0]; first | rfl | exact ⟨rfl, rfl⟩ | exact ⟨⟨rfl, rfl⟩, rfl⟩⟩
  · exact fin _ _ (.own (H.length + 3)) (.own (H.length + 4)) (.inr ⟨_, rfl, by omega⟩) (.inr ⟨_, rfl, by omega⟩) ⟨_, by unfold s___triuneref11_Image__Fresh; simp -implicitDefEqProofs (disch := first | omega | (simp only [List.length_set, List.length_append, List.length_cons, List.length_nil, List.length_take, List.length_drop, List.length_map]; omega) | simp) [wrap_i64, wrap_u16_id, wrap_u8_id, tdiv_pos, tmod_pos, -getElem?_pos, -getElem?_neg, -List.length_eq_zero_iff, -List.getElem_cons_drop, -Bool.not_and, -Bool.not_or, -wantF_n, wantF_sy, wantF_sn, gO_some, gO_loadG, gO_lenD, gO_notD, gO_eqK1, gO_neK1, gO_ltK1, gO_leK1, gO_gtK1, gO_geK1, gO_max1, gO_addK1, gO_mulK1, gO_addK2, gO_ltK2, gO_leK2, gO_max2, gO_cvK, gO_idx, gO_pick, gO_pick2, gO_cP1, gO_cP1b, gO_cP2, gO_cP2a, gO_eqB, pick_t, pick_t2, pick_f, pick_f2, gd_gd, wantF_gt, wantF_gf, gO_pkf, gO_pkt, gO_pktn, gO_eqK2, gO_neK2, gO_gtK2, gO_geK2, gO_subK1, gO_subK2, gO_min1, gO_min2, gO_remK1, gO_cP3, gO_nilD, gO_fieldD, gO_idxArr1, gO_idxArr2, gO_idx2, gO_extD, lq, s___triuneref11_Image__Fresh_L0, s___triuneref11_Image__Fresh_B0, a0, a1, a2, idxArr_k, hB0, hB1, hB2, condR_b, ck, appG_n, appG_o, vals, s___triuneref11_Image__Fresh_O0]; first | rfl | exact ⟨rfl, rfl⟩ | exact ⟨⟨rfl, rfl⟩, rfl⟩⟩
  · exact fin _ _ (.own (H.length + 2)) (.own (H.length + 3)) (.inr ⟨_, rfl, by omega⟩) (.inr ⟨_, rfl, by omega⟩) ⟨_, by unfold s___triuneref11_Image__Fresh; simp -implicitDefEqProofs (disch := first | omega | (simp only [List.length_set, List.length_append, List.length_cons, List.length_nil, List.length_take, List.length_drop, List.length_map]; omega) | simp) [wrap_i64, wrap_u16_id, wrap_u8_id, tdiv_pos, tmod_pos, -getElem?_pos, -getElem?_neg, -List.length_eq_zero_iff, -List.getElem_cons_drop, -Bool.not_and, -Bool.not_or, -wantF_n, wantF_sy, wantF_sn, gO_some, gO_loadG, gO_lenD, gO_notD, gO_eqK1, gO_neK1, gO_ltK1, gO_leK1, gO_gtK1, gO_geK1, gO_max1, gO_addK1, gO_mulK1, gO_addK2, gO_ltK2, gO_leK2, gO_max2, gO_cvK, gO_idx, gO_pick, gO_pick2, gO_cP1, gO_cP1b, gO_cP2, gO_cP2a, gO_eqB, pick_t, pick_t2, pick_f, pick_f2, gd_gd, wantF_gt, wantF_gf, gO_pkf, gO_pkt, gO_pktn, gO_eqK2, gO_neK2, gO_gtK2, gO_geK2, gO_subK1, gO_subK2, gO_min1, gO_min2, gO_remK1, gO_cP3, gO_nilD, gO_fieldD, gO_idxArr1, gO_idxArr2, gO_idx2, gO_extD, lq, s___triuneref11_Image__Fresh_L0, s___triuneref11_Image__Fresh_B0, a0, a1, a2, idxArr_k, hB0, hB1, hB2, condR_b, ck, appG_n, appG_o, vals, s___triuneref11_Image__Fresh_O0]; first | rfl | exact ⟨rfl, rfl⟩ | exact ⟨⟨rfl, rfl⟩, rfl⟩⟩
  · exact fin _ _ (.own (H.length + 2)) (.own (H.length + 3)) (.inr ⟨_, rfl, by omega⟩) (.inr ⟨_, rfl, by omega⟩) ⟨_, by unfold s___triuneref11_Image__Fresh; simp -implicitDefEqProofs (disch := first | omega | (simp only [List.length_set, List.length_append, List.length_cons, List.length_nil, List.length_take, List.length_drop, List.length_map]; omega) | simp) [wrap_i64, wrap_u16_id, wrap_u8_id, tdiv_pos, tmod_pos, -getElem?_pos, -getElem?_neg, -List.length_eq_zero_iff, -List.getElem_cons_drop, -Bool.not_and, -Bool.not_or, -wantF_n, wantF_sy, wantF_sn, gO_some, gO_loadG, gO_lenD, gO_notD, gO_eqK1, gO_neK1, gO_ltK1, gO_leK1, gO_gtK1, gO_geK1, gO_max1, gO_addK1, gO_mulK1, gO_addK2, gO_ltK2, gO_leK2, gO_max2, gO_cvK, gO_idx, gO_pick, gO_pick2, gO_cP1, gO_cP1b, gO_cP2, gO_cP2a, gO_eqB, pick_t, pick_t2, pick_f, pick_f2, gd_gd, wantF_gt, wantF_gf, gO_pkf, gO_pkt, gO_pktn, gO_eqK2, gO_neK2, gO_gtK2, gO_geK2, gO_subK1, gO_subK2, gO_min1, gO_min2, gO_remK1, gO_cP3, gO_nilD, gO_fieldD, gO_idxArr1, gO_idxArr2, gO_idx2, gO_extD, lq, s___triuneref11_Image__Fresh_L0, s___triuneref11_Image__Fresh_B0, a0, a1, a2, idxArr_k, hB0, hB1, hB2, condR_b, ck, appG_n, appG_o, vals, s___triuneref11_Image__Fresh_O0]; first | rfl | exact ⟨rfl, rfl⟩ | exact ⟨⟨rfl, rfl⟩, rfl⟩⟩
  · exact fin _ _ (.own (H.length + 2)) (.own (H.length + 3)) (.inr ⟨_, rfl, by omega⟩) (.inr ⟨_, rfl, by omega⟩) ⟨_, by unfold s___triuneref11_Image__Fresh; simp -implicitDefEqProofs (disch := first | omega | (simp only [List.length_set, List.length_append, List.length_cons, List.length_nil, List.length_take, List.length_drop, List.length_map]; omega) | simp) [wrap_i64, wrap_u16_id, wrap_u8_id, tdiv_pos, tmod_pos, -getElem?_pos, -getElem?_neg, -List.length_eq_zero_iff, -List.getElem_cons_drop, -Bool.not_and, -Bool.not_or, -wantF_n, wantF_sy, wantF_sn, gO_some, gO_loadG, gO_lenD, gO_notD, gO_eqK1, gO_neK1, gO_ltK1, gO_leK1, gO_gtK1, gO_geK1, gO_max1, gO_addK1, gO_mulK1, gO_addK2, gO_ltK2, gO_leK2, gO_max2, gO_cvK, gO_idx, gO_pick, gO_pick2, gO_cP1, gO_cP1b, gO_cP2, gO_cP2a, gO_eqB, pick_t, pick_t2, pick_f, pick_f2, gd_gd, wantF_gt, wantF_gf, gO_pkf, gO_pkt, gO_pktn, gO_eqK2, gO_neK2, gO_gtK2, gO_geK2, gO_subK1, gO_subK2, gO_min1, gO_min2, gO_remK1, gO_cP3, gO_nilD, gO_fieldD, gO_idxArr1, gO_idxArr2, gO_idx2, gO_extD, lq, s___triuneref11_Image__Fresh_L0, s___triuneref11_Image__Fresh_B0, a0, a1, a2, idxArr_k, hB0, hB1, hB2, condR_b, ck, appG_n, appG_o, vals, s___triuneref11_Image__Fresh_O0]; first | rfl | exact ⟨rfl, rfl⟩ | exact ⟨⟨rfl, rfl⟩, rfl⟩⟩
  · exact fin _ _ (.own (H.length + 2)) (.own (H.length + 3)) (.inr ⟨_, rfl, by omega⟩) (.inr ⟨_, rfl, by omega⟩) ⟨_, by unfold s___triuneref11_Image__Fresh; simp -implicitDefEqProofs (disch := first | omega | (simp only [List.length_set, List.length_append, List.length_cons, List.length_nil, List.length_take, List.length_drop, List.length_map]; omega) | simp) [wrap_i64, wrap_u16_id, wrap_u8_id, tdiv_pos, tmod_pos, -getElem?_pos, -getElem?_neg, -List.length_eq_zero_iff, -List.getElem_cons_drop, -Bool.not_and, -Bool.not_or, -wantF_n, wantF_sy, wantF_sn, gO_some, gO_loadG, gO_lenD, gO_notD, gO_eqK1, gO_neK1, gO_ltK1, gO_leK1, gO_gtK1, gO_geK1, gO_max1, gO_addK1, gO_mulK1, gO_addK2, gO_ltK2, gO_leK2, gO_max2, gO_cvK, gO_idx, gO_pick, gO_pick2, gO_cP1, gO_cP1b, gO_cP2, gO_cP2a, gO_eqB, pick_t, pick_t2, pick_f, pick_f2, gd_gd, wantF_gt, wantF_gf, gO_pkf, gO_pkt, gO_pktn, gO_eqK2, gO_neK2, gO_gtK2, gO_geK2, gO_subK1, gO_subK2, gO_min1, gO_min2, gO_remK1, gO_cP3, gO_nilD, gO_fieldD, gO_idxArr1, gO_idxArr2, gO_idx2, gO_extD, lq, s___triuneref11_Image__Fresh_L0, s___triuneref11_Image__Fresh_B0, a0, a1, a2, idxArr_k, hB0, hB1, hB2, condR_b, ck, appG_n, appG_o, vals, s___triuneref11_Image__Fresh_O0]; first | rfl | exact ⟨rfl, rfl⟩ | exact ⟨⟨rfl, rfl⟩, rfl⟩⟩
end Go.Proofs.Ytbhnkdnfmlnajaa

/- Go functions as Lean functions on deep values; printed by a program of mine. -/
namespace Go.Proofs.Ytbhnkdnfmlnajaa
open Go
set_option maxRecDepth 100000
set_option linter.unusedVariables false
/-! triune/judge.count -/
def s_judge_count_I0 (x3 x6 x7 : DV) : List DV := [.any, .any, .any, x3, .any, .any, x6, x7, .any, .any, .any, .any, .any, .any, .any]
def s_judge_count_O0 (x3 : DV) : List DV := [.any, .any, .any, x3, .any, .any, .any, .any, .any, .any, .any, .any, .any, .any, .any]
noncomputable abbrev s_judge_count_b0 (n fl : Nat) : List DV → Heap → (Ex → KF) → R := execG ⟨Try.prog, callG Try.prog ENV n, ENV.md, fl, 15⟩ n (loopAt (bodyOf Try.f75) 0) []
noncomputable def s_judge_count_B0 (n fl : Nat) (rec : DV → DV → DV → Heap → R) (k : Ex → KF) (x3 x6 x7 : DV) (H : Heap) : R :=
  bi (ltK .i64 x7 (I .i64 3)) fun d0 =>
  condR d0 (
  bi (idxV false 1 3 x6 x7) fun d1 =>
  condR d1 (
   bi (addK .i64 x3 (I .i64 1)) fun d2 =>
  bi (addK .i64 x7 (I .i64 1)) fun d3 =>
  rec d2 x6 d3 H) (
  bi (addK .i64 x7 (I .i64 1)) fun d4 =>
  rec x3 x6 d4 H)) (
  k (.exit 0) (s_judge_count_O0 x3) H)
noncomputable def s_judge_count_L0 (n fl : Nat) (k : Ex → KF) : Nat → DV → DV → DV → Heap → R
  | 0, _, _, _, _ => none
  | m + 1, x3, x6, x7, H => s_judge_count_B0 n fl (s_judge_count_L0 n fl k m) k x3 x6 x7 H
theorem s_judge_count_S0 (n fl m : Nat) (k : Ex → KF) (x3 x6 x7 : DV) (H : Heap) : loopG [3, 6, 7] [3] 15 (s_judge_count_b0 n fl) (m + 1) (s_judge_count_I0 x3 x6 x7) H k = s_judge_count_B0 n fl (fun x3 x6 x7 H => loopG [3, 6, 7] [3] 15 (s_judge_count_b0 n fl) m (s_judge_count_I0 x3 x6 x7) H k) k x3 x6 x7 H := by kernel_rfl
theorem s_judge_count_L0_eq (n fl : Nat) (k : Ex → KF) : ∀ (m : Nat) (x3 x6 x7 : DV) (H : Heap), loopG [3, 6, 7] [3] 15 (s_judge_count_b0 n fl) m (s_judge_count_I0 x3 x6 x7) H k = s_judge_count_L0 n fl k m x3 x6 x7 H := by
  intro m
  induction m with
  | zero => intros; rfl
  | succ m ih =>
    intro x3 x6 x7 H
    rw [s_judge_count_S0, show (fun x3 x6 x7 H => loopG [3, 6, 7] [3] 15 (s_judge_count_b0 n fl) m (s_judge_count_I0 x3 x6 x7) H k) = s_judge_count_L0 n fl k m from by funext x3 x6 x7 H; exact ih _ _ _ _]
    rw [s_judge_count_L0]
noncomputable def s_judge_count (n : Nat) (H : Heap) (fl : Nat) (a0 : DV) : R :=
  bi (allocG 52 a0 (List.length H) (H ++ [.hole])) fun h0 =>
  bi (loadG true 3 (.ptr (List.length H) 0) h0) fun d1 =>
  loopG [3, 6, 7] [3] 15 (s_judge_count_b0 n fl) n (s_judge_count_I0 (I .i64 0) d1 (I .i64 0)) h0 fun x S2 h2 => match x with
  | .normal => none
  | .exit i2 => (
  if i2 = 0 then (
  some ((S2.getD 3 .any), h2)) else (
  none))
  | .ret => (
  some (.any, h2))
theorem s_judge_count_eq (n : Nat) (H : Heap) (fl : Nat) (a0 : DV) : callG Try.prog ENV (n + 1) 75 [a0] H fl = s_judge_count n H fl a0 := by kernel_rfl

/-! (triune/judge.look).missing -/
def s__judge_look__missing_I0 (x3 x4 x8 x9 x10 : DV) : List DV := [.any, .any, .any, x3, x4, .any, .any, .any, x8, x9, x10, .any, .any, .any, .any, .any, .any, .any]
def s__judge_look__missing_O0 (x3 x4 : DV) : List DV := [.any, .any, .any, x3, x4, .any, .any, .any, .any, .any, .any, .any, .any, .any, .any, .any, .any, .any]
noncomputable abbrev s__judge_look__missing_b0 (n fl : Nat) : List DV → Heap → (Ex → KF) → R := execG ⟨Try.prog, callG Try.prog ENV n, ENV.md, fl, 18⟩ n (loopAt (bodyOf Try.f78) 0) []
noncomputable def s__judge_look__missing_B0 (n fl : Nat) (rec : DV → DV → DV → DV → DV → Heap → R) (k : Ex → KF) (x3 x4 x8 x9 x10 : DV) (H : Heap) : R :=
  bi (ltK .i64 x10 x9) fun d0 =>
  condR d0 (
  bi (idxSl 1 x8 x10) fun d1 =>
  bi (loadG false 1 d1 H) fun d2 =>
  bi (idxArr 3 1 x3 d2) fun d3 =>
  bi (storeG 1 d3 (Bo false) H fl) fun h4 =>
  bi (addK .i64 x10 (I .i64 1)) fun d5 =>
  rec x3 x4 x8 x9 d5 h4) (
  k (.exit 0) (s__judge_look__missing_O0 x3 x4) H)
noncomputable def s__judge_look__missing_L0 (n fl : Nat) (k : Ex → KF) : Nat → DV → DV → DV → DV → DV → Heap → R
  | 0, _, _, _, _, _, _ => none
  | m + 1, x3, x4, x8, x9, x10, H => s__judge_look__missing_B0 n fl (s__judge_look__missing_L0 n fl k m) k x3 x4 x8 x9 x10 H
theorem s__judge_look__missing_S0 (n fl m : Nat) (k : Ex → KF) (x3 x4 x8 x9 x10 : DV) (H : Heap) : loopG [3, 4, 8, 9, 10] [3, 4] 18 (s__judge_look__missing_b0 n fl) (m + 1) (s__judge_look__missing_I0 x3 x4 x8 x9 x10) H k = s__judge_look__missing_B0 n fl (fun x3 x4 x8 x9 x10 H => loopG [3, 4, 8, 9, 10] [3, 4] 18 (s__judge_look__missing_b0 n fl) m (s__judge_look__missing_I0 x3 x4 x8 x9 x10) H k) k x3 x4 x8 x9 x10 H := by kernel_rfl
theorem s__judge_look__missing_L0_eq (n fl : Nat) (k : Ex → KF) : ∀ (m : Nat) (x3 x4 x8 x9 x10 : DV) (H : Heap), loopG [3, 4, 8, 9, 10] [3, 4] 18 (s__judge_look__missing_b0 n fl) m (s__judge_look__missing_I0 x3 x4 x8 x9 x10) H k = s__judge_look__missing_L0 n fl k m x3 x4 x8 x9 x10 H := by
  intro m
  induction m with
  | zero => intros; rfl
  | succ m ih =>
    intro x3 x4 x8 x9 x10 H
    rw [s__judge_look__missing_S0, show (fun x3 x4 x8 x9 x10 H => loopG [3, 4, 8, 9, 10] [3, 4] 18 (s__judge_look__missing_b0 n fl) m (s__judge_look__missing_I0 x3 x4 x8 x9 x10) H k) = s__judge_look__missing_L0 n fl k m from by funext x3 x4 x8 x9 x10 H; exact ih _ _ _ _ _ _]
    rw [s__judge_look__missing_L0]
noncomputable def s__judge_look__missing (n : Nat) (H : Heap) (fl : Nat) (a0 a1 : DV) : R :=
  bi (allocG 167 a0 (List.length H) (H ++ [.hole, .hole, .hole])) fun h0 =>
  bi (allocG 52 a1 (List.length H + 1) h0) fun h1 =>
  bi (allocG 52 (.agg [(Bo false), (Bo false), (Bo false)]) (List.length H + 1 + 1) h1) fun h2 =>
  bi (loadG false 1 (.ptr (List.length H) 6) h2) fun d3 =>
  bi (lenD d3) fun d4 =>
  loopG [3, 4, 8, 9, 10] [3, 4] 18 (s__judge_look__missing_b0 n fl) n (s__judge_look__missing_I0 (.ptr (List.length H + 1) 0) (.ptr (List.length H + 1 + 1) 0) d3 d4 (I .i64 0)) h2 fun x S5 h5 => match x with
  | .normal => none
  | .exit i5 => (
  if i5 = 0 then (
  bi (loadG true 3 (S5.getD 3 .any) h5) fun d6 =>
  bi (storeG 3 (S5.getD 4 .any) d6 h5 fl) fun h7 =>
  bi (cellR true 3 (S5.getD 4 .any) h7) fun r0 =>
  some (r0, h7)) else (
  none))
  | .ret => (
  bi (cellR true 3 (S5.getD 4 .any) h5) fun r0 =>
  some (r0, h5))
theorem s__judge_look__missing_eq (n : Nat) (H : Heap) (fl : Nat) (a0 a1 : DV) : callG Try.prog ENV (n + 1) 78 [a0, a1] H fl = s__judge_look__missing n H fl a0 a1 := by kernel_rfl

/-! (triune/judge.look).odd -/
def s__judge_look__odd_I0 (x1 x2 x3 x21 x22 x23 : DV) : List DV := [.any, x1, x2, x3, .any, .any, .any, .any, .any, .any, .any, .any, .any, .any, .any, .any, .any, .any, .any, .any, .any, x21, x22, x23, .any, .any, .any, .any, .any, .any, .any, .any, .any, .any, .any, .any, .any, .any, .any, .any, .any]
def s__judge_look__odd_O0 (x2 : DV) : List DV := [.any, .any, x2, .any, .any, .any, .any, .any, .any, .any, .any, .any, .any, .any, .any, .any, .any, .any, .any, .any, .any, .any, .any, .any, .any, .any, .any, .any, .any, .any, .any, .any, .any, .any, .any, .any, .any, .any, .any, .any, .any]
noncomputable abbrev s__judge_look__odd_b0 (n fl : Nat) : List DV → Heap → (Ex → KF) → R := execG ⟨Try.prog, callG Try.prog ENV n, ENV.md, fl, 41⟩ n (loopAt (bodyOf Try.f79) 0) []
noncomputable def s__judge_look__odd_B0 (n fl : Nat) (rec : DV → DV → DV → DV → DV → DV → Heap → R) (k : Ex → KF) (x1 x2 x3 x21 x22 x23 : DV) (H : Heap) : R :=
  bi (ltK .i64 x23 x22) fun d0 =>
  condR d0 (
  bi (idxSl 1 x21 x23) fun d1 =>
  bi (loadG false 1 d1 H) fun d2 =>
  bi (fieldD 0 5 x1) fun d3 =>
  bi (loadG true 5 d3 H) fun d4 =>
  bi (fieldD 5 1 x1) fun d5 =>
  bi (loadG false 1 d5 H) fun d6 =>
  bi (idxSl 1 d6 x23) fun d7 =>
  bi (loadG false 1 d7 H) fun d8 =>
  bi (cP n 106 false [d4, d8, x3]) fun d9 =>
  bi (idxArr 3 1 x2 d2) fun d10 =>
  bi (storeG 1 d10 d9 H fl) fun h11 =>
  bi (addK .i64 x23 (I .i64 1)) fun d12 =>
  rec x1 x2 x3 x21 x22 d12 h11) (
  k (.exit 0) (s__judge_look__odd_O0 x2) H)
noncomputable def s__judge_look__odd_L0 (n fl : Nat) (k : Ex → KF) : Nat → DV → DV → DV → DV → DV → DV → Heap → R
  | 0, _, _, _, _, _, _, _ => none
  | m + 1, x1, x2, x3, x21, x22, x23, H => s__judge_look__odd_B0 n fl (s__judge_look__odd_L0 n fl k m) k x1 x2 x3 x21 x22 x23 H
theorem s__judge_look__odd_S0 (n fl m : Nat) (k : Ex → KF) (x1 x2 x3 x21 x22 x23 : DV) (H : Heap) : loopG [1, 2, 3, 21, 22, 23] [2] 41 (s__judge_look__odd_b0 n fl) (m + 1) (s__judge_look__odd_I0 x1 x2 x3 x21 x22 x23) H k = s__judge_look__odd_B0 n fl (fun x1 x2 x3 x21 x22 x23 H => loopG [1, 2, 3, 21, 22, 23] [2] 41 (s__judge_look__odd_b0 n fl) m (s__judge_look__odd_I0 x1 x2 x3 x21 x22 x23) H k) k x1 x2 x3 x21 x22 x23 H := by kernel_rfl
theorem s__judge_look__odd_L0_eq (n fl : Nat) (k : Ex → KF) : ∀ (m : Nat) (x1 x2 x3 x21 x22 x23 : DV) (H : Heap), loopG [1, 2, 3, 21, 22, 23] [2] 41 (s__judge_look__odd_b0 n fl) m (s__judge_look__odd_I0 x1 x2 x3 x21 x22 x23) H k = s__judge_look__odd_L0 n fl k m x1 x2 x3 x21 x22 x23 H := by
  intro m
  induction m with
  | zero => intros; rfl
  | succ m ih =>
    intro x1 x2 x3 x21 x22 x23 H
    rw [s__judge_look__odd_S0, show (fun x1 x2 x3 x21 x22 x23 H => loopG [1, 2, 3, 21, 22, 23] [2] 41 (s__judge_look__odd_b0 n fl) m (s__judge_look__odd_I0 x1 x2 x3 x21 x22 x23) H k) = s__judge_look__odd_L0 n fl k m from by funext x1 x2 x3 x21 x22 x23 H; exact ih _ _ _ _ _ _ _]
    rw [s__judge_look__odd_L0]
noncomputable def s__judge_look__odd (n : Nat) (H : Heap) (fl : Nat) (a0 : DV) : R :=
  bi (allocG 167 a0 (List.length H) (H ++ [.hole, .hole])) fun h0 =>
  bi (allocG 52 (.agg [(Bo false), (Bo false), (Bo false)]) (List.length H + 1) h0) fun h1 =>
  bi (loadG false 1 (.ptr (List.length H) 5) h1) fun d2 =>
  bi (lenD d2) fun d3 =>
  bi (ltK .i64 d3 (I .i64 3)) fun d4 =>
  condR d4 (
   bi (loadG true 3 (.ptr (List.length H + 1) 0) h1) fun d5 =>
   bi (storeG 3 (.ptr (List.length H + 1) 0) d5 h1 fl) fun h6 =>
  bi (cellR true 3 (.ptr (List.length H + 1) 0) h6) fun r0 =>
  some (r0, h6)) (
  bi (loadG true 5 (.ptr (List.length H) 0) h1) fun d7 =>
  bi (loadG false 1 (.ptr (List.length H) 5) h1) fun d8 =>
  bi (cP n 85 false [d7, d8]) fun d9 =>
  bi (extD 0 d9) fun d10 =>
  bi (extD 1 d9) fun d11 =>
  bi (loadG false 1 (.ptr (List.length H) 6) h1) fun d12 =>
  bi (lenD d12) fun d13 =>
  loopG [1, 2, 3, 21, 22, 23] [2] 41 (s__judge_look__odd_b0 n fl) n (s__judge_look__odd_I0 (.ptr (List.length H) 0) (.ptr (List.length H + 1) 0) d10 d12 d13 (I .i64 0)) h1 fun x S14 h14 => match x with
  | .normal => none
  | .exit i14 => (
  if i14 = 0 then (
  bi (loadG true 3 (S14.getD 2 .any) h14) fun d15 =>
  bi (storeG 3 (S14.getD 2 .any) d15 h14 fl) fun h16 =>
  bi (cellR true 3 (S14.getD 2 .any) h16) fun r0 =>
  some (r0, h16)) else (
  none))
  | .ret => (
  bi (cellR true 3 (S14.getD 2 .any) h14) fun r0 =>
  some (r0, h14)))
theorem s__judge_look__odd_eq (n : Nat) (H : Heap) (fl : Nat) (a0 : DV) : callG Try.prog ENV (n + 1) 79 [a0] H fl = s__judge_look__odd n H fl a0 := by kernel_rfl

/-! (triune/judge.look).split -/
noncomputable def s__judge_look__split (n : Nat) (H : Heap) (fl : Nat) (a0 : DV) : R :=
  bi (allocG 167 a0 (List.length H) (H ++ [.hole])) fun h0 =>
  bi (loadG false 1 (.ptr (List.length H) 5) h0) fun d1 =>
  bi (lenD d1) fun d2 =>
  bi (eqK .i64 d2 (I .i64 2)) fun d3 =>
  bi (wantF d3 true (some (.ptr (List.length H) 0))) fun d4 =>
  bi (wantF d3 true (loadG true 5 d4 h0)) fun d5 =>
  bi (wantF d3 true (some (.ptr (List.length H) 5))) fun d6 =>
  bi (wantF d3 true (loadG false 1 d6 h0)) fun d7 =>
  bi (wantF d3 true (idxSl 1 d7 (I .i64 0))) fun d8 =>
  bi (wantF d3 true (loadG false 1 d8 h0)) fun d9 =>
  bi (wantF d3 true (some (.ptr (List.length H) 5))) fun d10 =>
  bi (wantF d3 true (loadG false 1 d10 h0)) fun d11 =>
  bi (wantF d3 true (idxSl 1 d11 (I .i64 1))) fun d12 =>
  bi (wantF d3 true (loadG false 1 d12 h0)) fun d13 =>
  bi (wantF d3 true (cP n 106 false [d5, d9, d13])) fun d14 =>
  bi (pickD d3 d14 (Bo false)) fun d15 =>
  some (d15, h0)
theorem s__judge_look__split_eq (n : Nat) (H : Heap) (fl : Nat) (a0 : DV) : callG Try.prog ENV (n + 1) 80 [a0] H fl = s__judge_look__split n H fl a0 := by kernel_rfl

/-! triune/judge.each -/
def s_judge_each_I0 (x1 x2 x4 x8 x14 x15 x16 : DV) : List DV := [.any, x1, x2, .any, x4, .any, .any, .any, x8, .any, .any, .any, .any, .any, x14, x15, x16, .any, .any, .any, .any, .any, .any, .any, .any, .any, .any, .any, .any, .any, .any, .any, .any, .any, .any, .any]
def s_judge_each_O0 : List DV := [.any, .any, .any, .any, .any, .any, .any, .any, .any, .any, .any, .any, .any, .any, .any, .any, .any, .any, .any, .any, .any, .any, .any, .any, .any, .any, .any, .any, .any, .any, .any, .any, .any, .any, .any, .any]
noncomputable abbrev s_judge_each_b0 (n fl : Nat) : List DV → Heap → (Ex → KF) → R := execG ⟨Try.prog, callG Try.prog ENV n, ENV.md, fl, 36⟩ n (loopAt (bodyOf Try.f76) 0) []
noncomputable def s_judge_each_B0 (n fl : Nat) (rec : DV → DV → DV → DV → DV → DV → DV → Heap → R) (k : Ex → KF) (x1 x2 x4 x8 x14 x15 x16 : DV) (H : Heap) : R :=
  bi (ltK .i64 x16 x15) fun d0 =>
  condR d0 (
  bi (idxSl 5 x14 x16) fun d1 =>
  bi (loadG true 5 d1 (H ++ [.hole])) fun d2 =>
  bi (allocG 87 (.agg [(I .i64 0), (I .i64 0), (I .i64 0), (I .i64 0), (I .i64 0)]) (List.length H) (H ++ [.hole])) fun h3 =>
  bi (storeG 5 (.ptr (List.length H) 0) d2 h3 fl) fun h4 =>
  bi (loadG true 3 x8 h4) fun d5 =>
  bi (cO n 105 [x1, x16, x2, d5] h4) fun d6 =>
  bi (extD 0 d6) fun d7 =>
  bi (extD 1 d6) fun d8 =>
  bi (loadG true 5 (.ptr (List.length H) 0) h4) fun d9 =>
  bi (buildS (.agg [(I .i64 0), (I .i64 0), (I .i64 0), (I .i64 0), (I .i64 0), (.list 0 [] .ti), (.list 0 [] .ti)]) [(0, 5), (5, 1), (6, 1)] [(0, d9), (1, d7), (2, d8)]) fun d10 =>
  bi (cV n fl x4 [d10] h4) fun p11 =>
  bi (addK .i64 x16 (I .i64 1)) fun d12 =>
  rec x1 x2 x4 x8 x14 x15 d12 p11.2) (
  k (.exit 0) (s_judge_each_O0 ) H)
noncomputable def s_judge_each_L0 (n fl : Nat) (k : Ex → KF) : Nat → DV → DV → DV → DV → DV → DV → DV → Heap → R
  | 0, _, _, _, _, _, _, _, _ => none
  | m + 1, x1, x2, x4, x8, x14, x15, x16, H => s_judge_each_B0 n fl (s_judge_each_L0 n fl k m) k x1 x2 x4 x8 x14 x15 x16 H
theorem s_judge_each_S0 (n fl m : Nat) (k : Ex → KF) (x1 x2 x4 x8 x14 x15 x16 : DV) (H : Heap) : loopG [1, 2, 4, 8, 14, 15, 16] [] 36 (s_judge_each_b0 n fl) (m + 1) (s_judge_each_I0 x1 x2 x4 x8 x14 x15 x16) H k = s_judge_each_B0 n fl (fun x1 x2 x4 x8 x14 x15 x16 H => loopG [1, 2, 4, 8, 14, 15, 16] [] 36 (s_judge_each_b0 n fl) m (s_judge_each_I0 x1 x2 x4 x8 x14 x15 x16) H k) k x1 x2 x4 x8 x14 x15 x16 H := by kernel_rfl
theorem s_judge_each_L0_eq (n fl : Nat) (k : Ex → KF) : ∀ (m : Nat) (x1 x2 x4 x8 x14 x15 x16 : DV) (H : Heap), loopG [1, 2, 4, 8, 14, 15, 16] [] 36 (s_judge_each_b0 n fl) m (s_judge_each_I0 x1 x2 x4 x8 x14 x15 x16) H k = s_judge_each_L0 n fl k m x1 x2 x4 x8 x14 x15 x16 H := by
  intro m
  induction m with
  | zero => intros; rfl
  | succ m ih =>
    intro x1 x2 x4 x8 x14 x15 x16 H
    rw [s_judge_each_S0, show (fun x1 x2 x4 x8 x14 x15 x16 H => loopG [1, 2, 4, 8, 14, 15, 16] [] 36 (s_judge_each_b0 n fl) m (s_judge_each_I0 x1 x2 x4 x8 x14 x15 x16) H k) = s_judge_each_L0 n fl k m from by funext x1 x2 x4 x8 x14 x15 x16 H; exact ih _ _ _ _ _ _ _ _]
    rw [s_judge_each_L0]
noncomputable def s_judge_each (n : Nat) (H : Heap) (fl : Nat) (a0 a1 a2 a3 a4 : DV) : R :=
  bi (allocG 52 a3 (List.length H) (H ++ [.hole])) fun h0 =>
  bi (lenD a0) fun d1 =>
  loopG [1, 2, 4, 8, 14, 15, 16] [] 36 (s_judge_each_b0 n fl) n (s_judge_each_I0 a1 a2 a4 (.ptr (List.length H) 0) a0 d1 (I .i64 0)) h0 fun x S2 h2 => match x with
  | .normal => none
  | .exit i2 => (
  if i2 = 0 then (
  some ((.tup []), h2)) else (
  none))
  | .ret => (
  some ((.tup []), h2))
theorem s_judge_each_eq (n : Nat) (H : Heap) (fl : Nat) (a0 a1 a2 a3 a4 : DV) : callG Try.prog ENV (n + 1) 76 [a0, a1, a2, a3, a4] H fl = s_judge_each n H fl a0 a1 a2 a3 a4 := by kernel_rfl

/-! triune/judge.Round$1 -/
def s_judge_Round_1_I0 (x2 x3 x4 x5 x6 x13 : DV) : List DV := [.any, .any, x2, x3, x4, x5, x6, .any, .any, .any, .any, .any, .any, x13, .any, .any, .any, .any, .any, .any, .any, .any, .any, .any, .any, .any, .any, .any, .any, .any, .any, .any, .any, .any, .any, .any, .any, .any, .any, .any, .any, .any, .any, .any, .any]
def s_judge_Round_1_O0 (x2 x3 x4 : DV) : List DV := [.any, .any, x2, x3, x4, .any, .any, .any, .any, .any, .any, .any, .any, .any, .any, .any, .any, .any, .any, .any, .any, .any, .any, .any, .any, .any, .any, .any, .any, .any, .any, .any, .any, .any, .any, .any, .any, .any, .any, .any, .any, .any, .any, .any, .any]
noncomputable abbrev s_judge_Round_1_b0 (n fl : Nat) : List DV → Heap → (Ex → KF) → R := execG ⟨Try.prog, callG Try.prog ENV n, ENV.md, fl, 45⟩ n (loopAt (bodyOf Try.f77) 0) []
noncomputable def s_judge_Round_1_B0 (n fl : Nat) (rec : DV → DV → DV → DV → DV → DV → Heap → R) (k : Ex → KF) (x2 x3 x4 x5 x6 x13 : DV) (H : Heap) : R :=
  bi (ltK .i64 x13 (I .i64 3)) fun d0 =>
  condR d0 (
  bi (fieldD 0 3 x2) fun d1 =>
  bi (idxArr 3 1 d1 x13) fun d2 =>
  bi (loadG false 1 d2 H) fun d3 =>
  bi (wantF d3 false (some x13)) fun d4 =>
  bi (wantF d3 false (idxArr 3 1 x5 d4)) fun d5 =>
  bi (wantF d3 false (loadG false 1 d5 H)) fun d6 =>
  bi (pickD d3 (Bo true) d6) fun d7 =>
  bi (wantF d7 false (some x13)) fun d8 =>
  bi (wantF d7 false (idxArr 3 1 x6 d8)) fun d9 =>
  bi (wantF d7 false (loadG false 1 d9 H)) fun d10 =>
  bi (pickD d7 (Bo true) d10) fun d11 =>
  bi (fieldD 0 3 x2) fun d12 =>
  bi (idxArr 3 1 d12 x13) fun d13 =>
  bi (storeG 1 d13 d11 H fl) fun h14 =>
  bi (addK .i64 x13 (I .i64 1)) fun d15 =>
  rec x2 x3 x4 x5 x6 d15 h14) (
  k (.exit 0) (s_judge_Round_1_O0 x2 x3 x4) H)
noncomputable def s_judge_Round_1_L0 (n fl : Nat) (k : Ex → KF) : Nat → DV → DV → DV → DV → DV → DV → Heap → R
  | 0, _, _, _, _, _, _, _ => none
  | m + 1, x2, x3, x4, x5, x6, x13, H => s_judge_Round_1_B0 n fl (s_judge_Round_1_L0 n fl k m) k x2 x3 x4 x5 x6 x13 H
theorem s_judge_Round_1_S0 (n fl m : Nat) (k : Ex → KF) (x2 x3 x4 x5 x6 x13 : DV) (H : Heap) : loopG [2, 3, 4, 5, 6, 13] [2, 3, 4] 45 (s_judge_Round_1_b0 n fl) (m + 1) (s_judge_Round_1_I0 x2 x3 x4 x5 x6 x13) H k = s_judge_Round_1_B0 n fl (fun x2 x3 x4 x5 x6 x13 H => loopG [2, 3, 4, 5, 6, 13] [2, 3, 4] 45 (s_judge_Round_1_b0 n fl) m (s_judge_Round_1_I0 x2 x3 x4 x5 x6 x13) H k) k x2 x3 x4 x5 x6 x13 H := by kernel_rfl
theorem s_judge_Round_1_L0_eq (n fl : Nat) (k : Ex → KF) : ∀ (m : Nat) (x2 x3 x4 x5 x6 x13 : DV) (H : Heap), loopG [2, 3, 4, 5, 6, 13] [2, 3, 4] 45 (s_judge_Round_1_b0 n fl) m (s_judge_Round_1_I0 x2 x3 x4 x5 x6 x13) H k = s_judge_Round_1_L0 n fl k m x2 x3 x4 x5 x6 x13 H := by
  intro m
  induction m with
  | zero => intros; rfl
  | succ m ih =>
    intro x2 x3 x4 x5 x6 x13 H
    rw [s_judge_Round_1_S0, show (fun x2 x3 x4 x5 x6 x13 H => loopG [2, 3, 4, 5, 6, 13] [2, 3, 4] 45 (s_judge_Round_1_b0 n fl) m (s_judge_Round_1_I0 x2 x3 x4 x5 x6 x13) H k) = s_judge_Round_1_L0 n fl k m from by funext x2 x3 x4 x5 x6 x13 H; exact ih _ _ _ _ _ _ _]
    rw [s_judge_Round_1_L0]
noncomputable def s_judge_Round_1 (n : Nat) (H : Heap) (fl : Nat) (a0 a1 a2 a3 : DV) : R :=
  bi (allocG 167 a0 (List.length H) (H ++ [.hole])) fun h0 =>
  bi (loadG true 7 (.ptr (List.length H) 0) (h0 ++ [.hole, .hole])) fun d1 =>
  bi (loadG true 3 a1 (h0 ++ [.hole, .hole])) fun d2 =>
  bi (cP n 78 false [d1, d2]) fun d3 =>
  bi (loadG true 7 (.ptr (List.length H) 0) (h0 ++ [.hole, .hole])) fun d4 =>
  bi (cP n 79 false [d4]) fun d5 =>
  bi (allocG 52 (.agg [(Bo false), (Bo false), (Bo false)]) (List.length h0) (h0 ++ [.hole, .hole])) fun h6 =>
  bi (allocG 52 (.agg [(Bo false), (Bo false), (Bo false)]) (List.length h0 + 1) h6) fun h7 =>
  bi (storeG 3 (.ptr (List.length h0) 0) d3 h7 fl) fun h8 =>
  bi (storeG 3 (.ptr (List.length h0 + 1) 0) d5 h8 fl) fun h9 =>
  loopG [2, 3, 4, 5, 6, 13] [2, 3, 4] 45 (s_judge_Round_1_b0 n fl) n (s_judge_Round_1_I0 a2 a3 (.ptr (List.length H) 0) (.ptr (List.length h0) 0) (.ptr (List.length h0 + 1) 0) (I .i64 0)) h9 fun x S10 h10 => match x with
  | .normal => none
  | .exit i10 => (
  if i10 = 0 then (
  bi (fieldD 3 1 (S10.getD 2 .any)) fun d11 =>
  bi (loadG false 1 d11 h10) fun d12 =>
  bi (wantF d12 false (loadG false 1 (S10.getD 3 .any) h10)) fun d13 =>
  bi (wantF d12 false (eqK .i64 d13 (I .i64 2))) fun d14 =>
  bi (wantF d12 false (some d14)) fun d15 =>
  bi (wantF d15 true (loadG true 7 (S10.getD 4 .any) h10)) fun d16 =>
  bi (wantF d15 true (cP n 80 false [d16])) fun d17 =>
  bi (wantF d12 false (pickD d15 d17 (Bo false))) fun d18 =>
  bi (pickD d12 (Bo true) d18) fun d19 =>
  bi (fieldD 3 1 (S10.getD 2 .any)) fun d20 =>
  bi (storeG 1 d20 d19 h10 fl) fun h21 =>
  some ((.tup []), h21)) else (
  none))
  | .ret => (
  some ((.tup []), h10))
theorem s_judge_Round_1_eq (n : Nat) (H : Heap) (fl : Nat) (a0 a1 a2 a3 : DV) : callG Try.prog ENV (n + 1) 77 [a0, a1, a2, a3] H fl = s_judge_Round_1 n H fl a0 a1 a2 a3 := by kernel_rfl

/-! triune/judge.Round -/
noncomputable def s_judge_Round (n : Nat) (H : Heap) (fl : Nat) (a0 a1 a2 a3 : DV) : R :=
  bi (allocG 52 a3 (List.length H) (H ++ [.hole, .hole])) fun h0 =>
  bi (allocG 110 (.agg [(Bo false), (Bo false), (Bo false), (Bo false)]) (List.length H + 1) h0) fun h1 =>
  bi (allocG 110 (.agg [(Bo false), (Bo false), (Bo false), (Bo false)]) (List.length h1) (h1 ++ [.hole])) fun h2 =>
  bi (loadG true 3 (.ptr (List.length H) 0) (h2 ++ [.hole])) fun d3 =>
  bi (cP n 75 false [d3]) fun d4 =>
  bi (allocG 3 (I .i64 0) (List.length h2) (h2 ++ [.hole])) fun h5 =>
  bi (storeG 1 (.ptr (List.length h2) 0) d4 h5 fl) fun h6 =>
  bi (loadG true 3 (.ptr (List.length H) 0) h6) fun d7 =>
  bi (cW n 76 [a0, a1, a2, d7, (.clo (.func 77) [] [(.ptr (List.length H) 0), (.ptr (List.length h1) 0), (.ptr (List.length h2) 0)])] h6 fl) fun p8 =>
  bi (loadG true 4 (.ptr (List.length h1) 0) p8.2) fun d9 =>
  bi (storeG 4 (.ptr (List.length H + 1) 0) d9 p8.2 fl) fun h10 =>
  bi (cellR true 4 (.ptr (List.length H + 1) 0) h10) fun r0 =>
  some (r0, h10)
theorem s_judge_Round_eq (n : Nat) (H : Heap) (fl : Nat) (a0 a1 a2 a3 : DV) : callG Try.prog ENV (n + 1) 46 [a0, a1, a2, a3] H fl = s_judge_Round n H fl a0 a1 a2 a3 := by kernel_rfl

/-! triune/judge.all -/
noncomputable def s_judge_all (n : Nat) (H : Heap) (fl : Nat) : R :=
  bi (allocG 52 (.agg [(Bo false), (Bo false), (Bo false)]) (List.length H) (H ++ [.hole])) fun h0 =>
  bi (buildA (.agg [(Bo false), (Bo false), (Bo false)]) 1 [(0, (Bo true)), (1, (Bo true)), (2, (Bo true))]) fun d1 =>
  bi (storeG 3 (.ptr (List.length H) 0) d1 h0 fl) fun h2 =>
  bi (cellR true 3 (.ptr (List.length H) 0) h2) fun r0 =>
  some (r0, h2)
theorem s_judge_all_eq (n : Nat) (H : Heap) (fl : Nat) : callG Try.prog ENV (n + 1) 86 [] H fl = s_judge_all n H fl  := by kernel_rfl

/-! triune/judge.Fine$1 -/
def s_judge_Fine_1_I0 (x1 x3 x4 x5 x14 : DV) : List DV := [.any, x1, .any, x3, x4, x5, .any, .any, .any, .any, .any, .any, .any, .any, x14, .any, .any, .any, .any, .any, .any, .any, .any, .any, .any, .any, .any, .any, .any, .any, .any, .any, .any, .any, .any, .any, .any, .any, .any]
def s_judge_Fine_1_O0 : List DV := [.any, .any, .any, .any, .any, .any, .any, .any, .any, .any, .any, .any, .any, .any, .any, .any, .any, .any, .any, .any, .any, .any, .any, .any, .any, .any, .any, .any, .any, .any, .any, .any, .any, .any, .any, .any, .any, .any, .any]
noncomputable abbrev s_judge_Fine_1_b0 (n fl : Nat) : List DV → Heap → (Ex → KF) → R := execG ⟨Try.prog, callG Try.prog ENV n, ENV.md, fl, 39⟩ n (loopAt (bodyOf Try.f87) 0) []
noncomputable def s_judge_Fine_1_B0 (n fl : Nat) (rec : DV → DV → DV → DV → DV → Heap → R) (k : Ex → KF) (x1 x3 x4 x5 x14 : DV) (H : Heap) : R :=
  bi (ltK .i64 x14 (I .i64 3)) fun d0 =>
  condR d0 (
  bi (idxArr 3 1 x1 x14) fun d1 =>
  bi (loadG false 1 d1 H) fun d2 =>
  bi (wantF d2 true (some x14)) fun d3 =>
  bi (wantF d2 true (idxArr 3 1 x3 d3)) fun d4 =>
  bi (wantF d2 true (loadG false 1 d4 H)) fun d5 =>
  bi (wantF d2 true (notD d5)) fun d6 =>
  bi (pickD d2 d6 (Bo false)) fun d7 =>
  bi (wantF d7 true (some x14)) fun d8 =>
  bi (wantF d7 true (idxArr 3 1 x4 d8)) fun d9 =>
  bi (wantF d7 true (loadG false 1 d9 H)) fun d10 =>
  bi (wantF d7 true (notD d10)) fun d11 =>
  bi (pickD d7 d11 (Bo false)) fun d12 =>
  bi (wantF d12 true (some x5)) fun d13 =>
  bi (wantF d12 true (notD d13)) fun d14 =>
  bi (pickD d12 d14 (Bo false)) fun d15 =>
  bi (idxArr 3 1 x1 x14) fun d16 =>
  bi (storeG 1 d16 d15 H fl) fun h17 =>
  bi (addK .i64 x14 (I .i64 1)) fun d18 =>
  rec x1 x3 x4 x5 d18 h17) (
  k (.exit 0) (s_judge_Fine_1_O0 ) H)
noncomputable def s_judge_Fine_1_L0 (n fl : Nat) (k : Ex → KF) : Nat → DV → DV → DV → DV → DV → Heap → R
  | 0, _, _, _, _, _, _ => none
  | m + 1, x1, x3, x4, x5, x14, H => s_judge_Fine_1_B0 n fl (s_judge_Fine_1_L0 n fl k m) k x1 x3 x4 x5 x14 H
theorem s_judge_Fine_1_S0 (n fl m : Nat) (k : Ex → KF) (x1 x3 x4 x5 x14 : DV) (H : Heap) : loopG [1, 3, 4, 5, 14] [] 39 (s_judge_Fine_1_b0 n fl) (m + 1) (s_judge_Fine_1_I0 x1 x3 x4 x5 x14) H k = s_judge_Fine_1_B0 n fl (fun x1 x3 x4 x5 x14 H => loopG [1, 3, 4, 5, 14] [] 39 (s_judge_Fine_1_b0 n fl) m (s_judge_Fine_1_I0 x1 x3 x4 x5 x14) H k) k x1 x3 x4 x5 x14 H := by kernel_rfl
theorem s_judge_Fine_1_L0_eq (n fl : Nat) (k : Ex → KF) : ∀ (m : Nat) (x1 x3 x4 x5 x14 : DV) (H : Heap), loopG [1, 3, 4, 5, 14] [] 39 (s_judge_Fine_1_b0 n fl) m (s_judge_Fine_1_I0 x1 x3 x4 x5 x14) H k = s_judge_Fine_1_L0 n fl k m x1 x3 x4 x5 x14 H := by
  intro m
  induction m with
  | zero => intros; rfl
  | succ m ih =>
    intro x1 x3 x4 x5 x14 H
    rw [s_judge_Fine_1_S0, show (fun x1 x3 x4 x5 x14 H => loopG [1, 3, 4, 5, 14] [] 39 (s_judge_Fine_1_b0 n fl) m (s_judge_Fine_1_I0 x1 x3 x4 x5 x14) H k) = s_judge_Fine_1_L0 n fl k m from by funext x1 x3 x4 x5 x14 H; exact ih _ _ _ _ _ _]
    rw [s_judge_Fine_1_L0]
noncomputable def s_judge_Fine_1 (n : Nat) (H : Heap) (fl : Nat) (a0 a1 : DV) : R :=
  bi (allocG 167 a0 (List.length H) (H ++ [.hole])) fun h0 =>
  bi (loadG true 7 (.ptr (List.length H) 0) (h0 ++ [.hole, .hole])) fun d1 =>
  bi (cP n 86 false []) fun d2 =>
  bi (cP n 78 false [d1, d2]) fun d3 =>
  bi (loadG true 7 (.ptr (List.length H) 0) (h0 ++ [.hole, .hole])) fun d4 =>
  bi (cP n 79 false [d4]) fun d5 =>
  bi (loadG true 7 (.ptr (List.length H) 0) (h0 ++ [.hole, .hole])) fun d6 =>
  bi (cP n 80 false [d6]) fun d7 =>
  bi (allocG 52 (.agg [(Bo false), (Bo false), (Bo false)]) (List.length h0) (h0 ++ [.hole, .hole])) fun h8 =>
  bi (allocG 52 (.agg [(Bo false), (Bo false), (Bo false)]) (List.length h0 + 1) h8) fun h9 =>
  bi (storeG 3 (.ptr (List.length h0) 0) d3 h9 fl) fun h10 =>
  bi (storeG 3 (.ptr (List.length h0 + 1) 0) d5 h10 fl) fun h11 =>
  loopG [1, 3, 4, 5, 14] [] 39 (s_judge_Fine_1_b0 n fl) n (s_judge_Fine_1_I0 a1 (.ptr (List.length h0) 0) (.ptr (List.length h0 + 1) 0) d7 (I .i64 0)) h11 fun x S12 h12 => match x with
  | .normal => none
  | .exit i12 => (
  if i12 = 0 then (
  some ((.tup []), h12)) else (
  none))
  | .ret => (
  some ((.tup []), h12))
theorem s_judge_Fine_1_eq (n : Nat) (H : Heap) (fl : Nat) (a0 a1 : DV) : callG Try.prog ENV (n + 1) 87 [a0, a1] H fl = s_judge_Fine_1 n H fl a0 a1 := by kernel_rfl

/-! triune/judge.Fine -/
noncomputable def s_judge_Fine (n : Nat) (H : Heap) (fl : Nat) (a0 a1 a2 : DV) : R :=
  bi (allocG 52 (.agg [(Bo false), (Bo false), (Bo false)]) (List.length H) (H ++ [.hole])) fun h0 =>
  bi (cP n 86 false []) fun d1 =>
  bi (allocG 52 (.agg [(Bo false), (Bo false), (Bo false)]) (List.length h0) (h0 ++ [.hole])) fun h2 =>
  bi (storeG 3 (.ptr (List.length h0) 0) d1 h2 fl) fun h3 =>
  bi (loadG true 3 (.ptr (List.length h0) 0) h3) fun d4 =>
  bi (cW n 76 [a0, a1, a2, d4, (.clo (.func 87) [] [(.ptr (List.length h0) 0)])] h3 fl) fun p5 =>
  bi (loadG true 3 (.ptr (List.length h0) 0) p5.2) fun d6 =>
  bi (storeG 3 (.ptr (List.length H) 0) d6 p5.2 fl) fun h7 =>
  bi (cellR true 3 (.ptr (List.length H) 0) h7) fun r0 =>
  some (r0, h7)
theorem s_judge_Fine_eq (n : Nat) (H : Heap) (fl : Nat) (a0 a1 a2 : DV) : callG Try.prog ENV (n + 1) 51 [a0, a1, a2] H fl = s_judge_Fine n H fl a0 a1 a2 := by kernel_rfl

/-! triune/judge.Voted$1 -/
noncomputable def s_judge_Voted_1 (n : Nat) (H : Heap) (fl : Nat) (a0 a1 : DV) : R :=
  bi (allocG 167 a0 (List.length H) (H ++ [.hole])) fun h0 =>
  bi (loadG true 5 (.ptr (List.length H) 0) h0) fun d1 =>
  bi (loadG false 1 (.ptr (List.length H) 5) h0) fun d2 =>
  bi (cP n 85 false [d1, d2]) fun d3 =>
  bi (extD 0 d3) fun d4 =>
  bi (extD 1 d3) fun d5 =>
  bi (loadG false 1 a1 h0) fun d6 =>
  bi (buildL false 1 1 (I .u16 0) [(0, d4)]) fun d7 =>
  bi (appG 75 false 1 2 d6 d7 h0 fl) fun p8 =>
  bi (storeG 1 a1 p8.1 p8.2 fl) fun h9 =>
  some ((.tup []), h9)
theorem s_judge_Voted_1_eq (n : Nat) (H : Heap) (fl : Nat) (a0 a1 : DV) : callG Try.prog ENV (n + 1) 84 [a0, a1] H fl = s_judge_Voted_1 n H fl a0 a1 := by kernel_rfl

/-! triune/judge.Voted -/
noncomputable def s_judge_Voted (n : Nat) (H : Heap) (fl : Nat) (a0 a1 a2 a3 : DV) : R :=
  bi (allocG 52 a3 (List.length H) (H ++ [.hole])) fun h0 =>
  bi (allocG 56 (.list 0 [] .ti) (List.length h0) (h0 ++ [.hole])) fun h1 =>
  bi (loadG true 3 (.ptr (List.length H) 0) h1) fun d2 =>
  bi (cW n 76 [a0, a1, a2, d2, (.clo (.func 84) [] [(.ptr (List.length h0) 0)])] h1 fl) fun p3 =>
  bi (loadG false 1 (.ptr (List.length h0) 0) p3.2) fun d4 =>
  some (d4, p3.2)
theorem s_judge_Voted_eq (n : Nat) (H : Heap) (fl : Nat) (a0 a1 a2 a3 : DV) : callG Try.prog ENV (n + 1) 49 [a0, a1, a2, a3] H fl = s_judge_Voted n H fl a0 a1 a2 a3 := by kernel_rfl

end Go.Proofs.Ytbhnkdnfmlnajaa

/- The judge: what it looks at, point by point. -/
namespace Go.Proofs.Ytbhnkdnfmlnajaa
open Go
set_option linter.unusedSimpArgs false
set_option linter.unusedVariables false
set_option maxRecDepth 100000
theorem medV_word (l : List Int) (hw : Words l) : 0 ≤ (medV l).1 ∧ (medV l).1 < 65536 := by
  match l, hw with
  | [], _ => exact ⟨by decide, by decide⟩
  | [a], hw => exact hw a (by simp)
  | [a, b], hw =>
    have h1 := hw a (by simp)
    have h2 := hw b (by simp)
    show 0 ≤ (a + b) / 2 ∧ (a + b) / 2 < 65536
    omega
  | [a, b, c], hw =>
    have h1 := hw a (by simp)
    have h2 := hw b (by simp)
    have h3 := hw c (by simp)
    show 0 ≤ max (min a b) (min (max a b) c) ∧ max (min a b) (min (max a b) c) < 65536
    omega
  | _ :: _ :: _ :: _ :: _, _ => exact ⟨Int.le_refl 0, by show (0 : Int) < 65536; omega⟩
theorem majV_word (l : List Int) : 0 ≤ (majV l).1 ∧ (majV l).1 < 65536 := by
  unfold majV
  split
  · exact ⟨by decide, by decide⟩
  · split <;> exact ⟨by decide, by decide⟩
theorem voteV_word (p : Pt) (l : List Int) (hw : Words l) : 0 ≤ (voteV p l).1 ∧ (voteV p l).1 < 65536 := by
  have h1 := medV_word l hw
  have h2 := majV_word l
  unfold voteV pickV
  by_cases hk : p.kind ≤ 1
  · simp only [hk, if_true]
    split
    · exact h1
    · simp only; omega
  · simp only [hk, if_false]
    split
    · exact h2
    · simp only; omega
def oddV (p : Pt) : List Int → Bool × Bool × Bool
  | [a, b, c] => (apartV p.band a (voteV p [a, b, c]).1, apartV p.band b (voteV p [a, b, c]).1, apartV p.band c (voteV p [a, b, c]).1)
  | _ => (false, false, false)
def splitV (p : Pt) : List Int → Bool
  | [a, b] => apartV p.band a b
  | _ => false
def lkE (p : Pt) (vs ws : List Int) (t t2 : Tag) : DV := .agg [I .i64 p.kind, I .i64 p.addr, I .i64 p.at_, I .i64 p.band, I .i64 p.safe, LV 1 (I .u16) vs t, LV 1 (I .i64) ws t2]
theorem count_c (n : Nat) (hn : 10 ≤ n) (i0 i1 i2 : Bool) : cP n 75 false [.agg [Bo i0, Bo i1, Bo i2]] = some (I .i64 (i0.toNat + i1.toNat + i2.toNat)) := by
  obtain ⟨n, rfl⟩ : ∃ m, n = m + 5 := ⟨n - 5, by omega⟩
  have lq := fun K (H : Heap) a b c => s_judge_count_L0_eq (n + 4) 0 K (n + 4) a b c H
  cases i0 <;> cases i1 <;> cases i2 <;>
  exact cP_of (args' := [.agg [Bo _, Bo _, Bo _]]) rfl ((s_judge_count_eq _ _ _ _).trans (by unfold s_judge_count; simp -implicitDefEqProofs (disch := first | omega | (simp only [List.length_set, List.length_append, List.length_cons, List.length_nil, List.length_take, List.length_drop, List.length_map]; omega) | simp) [wrap_i64, wrap_u16_id, wrap_u8_id, tdiv_pos, tmod_pos, -getElem?_pos, -getElem?_neg, -List.length_eq_zero_iff, -List.getElem_cons_drop, lq, s_judge_count_L0, s_judge_count_B0, idxV, intD, s_judge_count_O0] <;> first | exact rfl | exact ⟨rfl, rfl⟩)) rfl
theorem all_c (n : Nat) (hn : 10 ≤ n) : cP n 86 false [] = some (.agg [Bo true, Bo true, Bo true]) := by
  obtain ⟨n, rfl⟩ : ∃ m, n = m + 1 := ⟨n - 1, by omega⟩
  exact cP_of (args' := []) (r := .agg [Bo true, Bo true, Bo true]) rfl ((s_judge_all_eq _ _ _).trans (by unfold s_judge_all; simp -implicitDefEqProofs (disch := first | omega | (simp only [List.length_set, List.length_append, List.length_cons, List.length_nil, List.length_take, List.length_drop, List.length_map]; omega) | simp) [wrap_i64, wrap_u16_id, wrap_u8_id, tdiv_pos, tmod_pos, -getElem?_pos, -getElem?_neg, -List.length_eq_zero_iff, -List.getElem_cons_drop] <;> first | exact rfl | exact ⟨rfl, rfl⟩)) rfl
theorem missing_c (n : Nat) (hn : 10 ≤ n) (p : Pt) (vs : List Int) (b0 b1 b2 i0 i1 i2 : Bool) (t t2 : Tag) :
    cP n 78 false [lkE p vs (vals b0 b1 b2 0 1 2) t t2, .agg [Bo i0, Bo i1, Bo i2]] = some (.agg [Bo (i0 && !b0), Bo (i1 && !b1), Bo (i2 && !b2)]) := by
  obtain ⟨n, rfl⟩ : ∃ m, n = m + 5 := ⟨n - 5, by omega⟩
  obtain ⟨k, ad, at_, band, safe⟩ := p
  have lq := fun K (H : Heap) a b c d e => s__judge_look__missing_L0_eq (n + 4) 0 K (n + 4) a b c d e H
  have fin : ∀ ws r, (∃ H', s__judge_look__missing (n + 4) [] 0 (lkE ⟨k, ad, at_, band, safe⟩ vs ws .sh .sh) (.agg [Bo i0, Bo i1, Bo i2]) = some (.agg r, H') ∧ outD false H' (.agg r) = some (.agg r)) → cP (n + 5) 78 false [lkE ⟨k, ad, at_, band, safe⟩ vs ws t t2, .agg [Bo i0, Bo i1, Bo i2]] = some (.agg r) := by
    rintro ws r ⟨H', h1, h2⟩
    exact cP_of (args' := [lkE ⟨k, ad, at_, band, safe⟩ vs ws .sh .sh, .agg [Bo i0, Bo i1, Bo i2]]) (by simp [argEl_eq, lkE]) ((s__judge_look__missing_eq _ _ _ _ _).trans h1) h2
  unfold lkE at fin ⊢
  cases b0 <;> cases b1 <;> cases b2 <;>
  exact fin _ _ ⟨_, by unfold s__judge_look__missing; simp -implicitDefEqProofs (disch := first | omega | (simp only [List.length_set, List.length_append, List.length_cons, List.length_nil, List.length_take, List.length_drop, List.length_map]; omega) | simp) [wrap_i64, wrap_u16_id, wrap_u8_id, tdiv_pos, tmod_pos, -getElem?_pos, -getElem?_neg, -List.length_eq_zero_iff, -List.getElem_cons_drop, lq, s__judge_look__missing_L0, s__judge_look__missing_B0, idxArr_k, vals, s__judge_look__missing_O0]; first | rfl | exact ⟨rfl, rfl⟩ | exact ⟨⟨rfl, rfl, rfl⟩, rfl⟩, by simp⟩
theorem odd_c (n : Nat) (hn : 1100 ≤ n) (p : Pt) (hk : 0 ≤ p.kind) (b0 b1 b2 : Bool) (v0 v1 v2 : Int) (h0 : 0 ≤ v0 ∧ v0 < 65536) (h1 : 0 ≤ v1 ∧ v1 < 65536) (h2 : 0 ≤ v2 ∧ v2 < 65536) (t t2 : Tag) :
    cP n 79 false [lkE p (vals b0 b1 b2 v0 v1 v2) (vals b0 b1 b2 0 1 2) t t2] = some (.agg [Bo (oddV p (vals b0 b1 b2 v0 v1 v2)).1, Bo (oddV p (vals b0 b1 b2 v0 v1 v2)).2.1, Bo (oddV p (vals b0 b1 b2 v0 v1 v2)).2.2]) := by
  obtain ⟨n, rfl⟩ : ∃ m, n = m + 5 := ⟨n - 5, by omega⟩
  have lq := fun K (H : Heap) a b c d e f => s__judge_look__odd_L0_eq (n + 4) 0 K (n + 4) a b c d e f H
  have w3 : Words [v0, v1, v2] := by intro x hx; simp at hx; omega
  have hv := Vote_c (n + 4) (by omega) p [v0, v1, v2] w3 (by simp) .sh hk (medC _ _ _ (by omega) w3 (by simp))
  have hr := voteV_word p [v0, v1, v2] w3
  have a0 := Apart_c (n + 4) (by omega) p v0 (voteV p [v0, v1, v2]).1 h0 hr
  have a1 := Apart_c (n + 4) (by omega) p v1 (voteV p [v0, v1, v2]).1 h1 hr
  have a2 := Apart_c (n + 4) (by omega) p v2 (voteV p [v0, v1, v2]).1 h2 hr
  have od : oddV p [v0, v1, v2] = (apartV p.band v0 (voteV p [v0, v1, v2]).1, apartV p.band v1 (voteV p [v0, v1, v2]).1, apartV p.band v2 (voteV p [v0, v1, v2]).1) := rfl
  have fin : ∀ vs ws r, (∃ H', s__judge_look__odd (n + 4) [] 0 (lkE p vs ws .sh .sh) = some (.agg r, H') ∧ outD false H' (.agg r) = some (.agg r)) → cP (n + 5) 79 false [lkE p vs ws t t2] = some (.agg r) := by
    rintro vs ws r ⟨H', h1, h2⟩
    exact cP_of (args' := [lkE p vs ws .sh .sh]) (by simp [argEl_eq, lkE]) ((s__judge_look__odd_eq _ _ _ _).trans h1) h2
  generalize voteV p [v0, v1, v2] = w at *
  obtain ⟨w1, w2⟩ := w
  simp only at a0 a1 a2 hr od
  obtain ⟨k, ad, at_, band, safe⟩ := p
  unfold lkE at fin ⊢
  unfold ptE at hv a0 a1 a2
  simp only at a0 a1 a2 od
  cases b0 <;> cases b1 <;> cases b2
  all_goals first
    | exact fin _ _ _ ⟨_, by unfold s__judge_look__odd; simp -implicitDefEqProofs (disch := first | omega | (simp only [List.length_set, List.length_append, List.length_cons, List.length_nil, List.length_take, List.length_drop, List.length_map]; omega) | simp) [wrap_i64, wrap_u16_id, wrap_u8_id, tdiv_pos, tmod_pos, -getElem?_pos, -getElem?_neg, -List.length_eq_zero_iff, -List.getElem_cons_drop, vals, oddV]; first | rfl | exact ⟨rfl, rfl⟩ | exact ⟨⟨rfl, rfl, rfl⟩, rfl⟩, by simp [vals, oddV]⟩
    | skip
  have ev : vals true true true v0 v1 v2 = [v0, v1, v2] := rfl
  have ew : vals true true true 0 1 2 = [0, 1, 2] := rfl
  rw [ev, ew, od]
  exact fin _ _ _ ⟨_, by unfold s__judge_look__odd; simp -implicitDefEqProofs (disch := first | omega | (simp only [List.length_set, List.length_append, List.length_cons, List.length_nil, List.length_take, List.length_drop, List.length_map]; omega) | simp) [wrap_i64, wrap_u16_id, wrap_u8_id, tdiv_pos, tmod_pos, -getElem?_pos, -getElem?_neg, -List.length_eq_zero_iff, -List.getElem_cons_drop, lq, s__judge_look__odd_L0, s__judge_look__odd_B0, idxArr_k, hv, a0, a1, a2, s__judge_look__odd_O0]; first | rfl | exact ⟨rfl, rfl⟩ | exact ⟨⟨rfl, rfl, rfl⟩, rfl⟩, by simp⟩
theorem split_c (n : Nat) (hn : 10 ≤ n) (p : Pt) (b0 b1 b2 : Bool) (v0 v1 v2 : Int) (h0 : 0 ≤ v0 ∧ v0 < 65536) (h1 : 0 ≤ v1 ∧ v1 < 65536) (h2 : 0 ≤ v2 ∧ v2 < 65536) (ws : List Int) (t t2 : Tag) :
    cP n 80 false [lkE p (vals b0 b1 b2 v0 v1 v2) ws t t2] = some (Bo (splitV p (vals b0 b1 b2 v0 v1 v2))) := by
  obtain ⟨n, rfl⟩ : ∃ m, n = m + 5 := ⟨n - 5, by omega⟩
  have a01 := Apart_c (n + 4) (by omega) p v0 v1 h0 h1
  have a02 := Apart_c (n + 4) (by omega) p v0 v2 h0 h2
  have a12 := Apart_c (n + 4) (by omega) p v1 v2 h1 h2
  have fin : ∀ vs b, (∃ H', s__judge_look__split (n + 4) [] 0 (lkE p vs ws .sh .sh) = some (Bo b, H')) → splitV p vs = b → cP (n + 5) 80 false [lkE p vs ws t t2] = some (Bo (splitV p vs)) := by
    rintro vs b ⟨H', h1⟩ h2
    rw [h2]
    exact cP_of (args' := [lkE p vs ws .sh .sh]) (by simp [argEl_eq, lkE]) ((s__judge_look__split_eq _ _ _ _).trans h1) rfl
  obtain ⟨k, ad, at_, band, safe⟩ := p
  unfold lkE at fin ⊢
  unfold ptE at a01 a02 a12
  simp only at a01 a02 a12
  cases b0 <;> cases b1 <;> cases b2
  · exact fin _ false ⟨_, by unfold s__judge_look__split; simp -implicitDefEqProofs (disch := first | omega | (simp only [List.length_set, List.length_append, List.length_cons, List.length_nil, List.length_take, List.length_drop, List.length_map]; omega) | simp) [wrap_i64, wrap_u16_id, wrap_u8_id, tdiv_pos, tmod_pos, -getElem?_pos, -getElem?_neg, -List.length_eq_zero_iff, -List.getElem_cons_drop, vals]; first | rfl | exact ⟨rfl, rfl⟩⟩ rfl
  · exact fin _ false ⟨_, by unfold s__judge_look__split; simp -implicitDefEqProofs (disch := first | omega | (simp only [List.length_set, List.length_append, List.length_cons, List.length_nil, List.length_take, List.length_drop, List.length_map]; omega) | simp) [wrap_i64, wrap_u16_id, wrap_u8_id, tdiv_pos, tmod_pos, -getElem?_pos, -getElem?_neg, -List.length_eq_zero_iff, -List.getElem_cons_drop, vals]; first | rfl | exact ⟨rfl, rfl⟩⟩ rfl
  · exact fin _ false ⟨_, by unfold s__judge_look__split; simp -implicitDefEqProofs (disch := first | omega | (simp only [List.length_set, List.length_append, List.length_cons, List.length_nil, List.length_take, List.length_drop, List.length_map]; omega) | simp) [wrap_i64, wrap_u16_id, wrap_u8_id, tdiv_pos, tmod_pos, -getElem?_pos, -getElem?_neg, -List.length_eq_zero_iff, -List.getElem_cons_drop, vals]; first | rfl | exact ⟨rfl, rfl⟩⟩ rfl
  · exact fin _ _ ⟨_, by unfold s__judge_look__split; simp -implicitDefEqProofs (disch := first | omega | (simp only [List.length_set, List.length_append, List.length_cons, List.length_nil, List.length_take, List.length_drop, List.length_map]; omega) | simp) [wrap_i64, wrap_u16_id, wrap_u8_id, tdiv_pos, tmod_pos, -getElem?_pos, -getElem?_neg, -List.length_eq_zero_iff, -List.getElem_cons_drop, vals, a12]; first | rfl | exact ⟨rfl, rfl⟩⟩ rfl
  · exact fin _ false ⟨_, by unfold s__judge_look__split; simp -implicitDefEqProofs (disch := first | omega | (simp only [List.length_set, List.length_append, List.length_cons, List.length_nil, List.length_take, List.length_drop, List.length_map]; omega) | simp) [wrap_i64, wrap_u16_id, wrap_u8_id, tdiv_pos, tmod_pos, -getElem?_pos, -getElem?_neg, -List.length_eq_zero_iff, -List.getElem_cons_drop, vals]; first | rfl | exact ⟨rfl, rfl⟩⟩ rfl
  · exact fin _ _ ⟨_, by unfold s__judge_look__split; simp -implicitDefEqProofs (disch := first | omega | (simp only [List.length_set, List.length_append, List.length_cons, List.length_nil, List.length_take, List.length_drop, List.length_map]; omega) | simp) [wrap_i64, wrap_u16_id, wrap_u8_id, tdiv_pos, tmod_pos, -getElem?_pos, -getElem?_neg, -List.length_eq_zero_iff, -List.getElem_cons_drop, vals, a02]; first | rfl | exact ⟨rfl, rfl⟩⟩ rfl
  · exact fin _ _ ⟨_, by unfold s__judge_look__split; simp -implicitDefEqProofs (disch := first | omega | (simp only [List.length_set, List.length_append, List.length_cons, List.length_nil, List.length_take, List.length_drop, List.length_map]; omega) | simp) [wrap_i64, wrap_u16_id, wrap_u8_id, tdiv_pos, tmod_pos, -getElem?_pos, -getElem?_neg, -List.length_eq_zero_iff, -List.getElem_cons_drop, vals, a01]; first | rfl | exact ⟨rfl, rfl⟩⟩ rfl
  · exact fin _ false ⟨_, by unfold s__judge_look__split; simp -implicitDefEqProofs (disch := first | omega | (simp only [List.length_set, List.length_append, List.length_cons, List.length_nil, List.length_take, List.length_drop, List.length_map]; omega) | simp) [wrap_i64, wrap_u16_id, wrap_u8_id, tdiv_pos, tmod_pos, -getElem?_pos, -getElem?_neg, -List.length_eq_zero_iff, -List.getElem_cons_drop, vals]; first | rfl | exact ⟨rfl, rfl⟩⟩ rfl
end Go.Proofs.Ytbhnkdnfmlnajaa

/- The judge: what it does with each point. -/
namespace Go.Proofs.Ytbhnkdnfmlnajaa
open Go
set_option linter.unusedSimpArgs false
set_option linter.unusedVariables false
set_option maxRecDepth 100000
theorem cVrw_c {n fl f : Nat} {caps args : List DV} {H : Heap} (hm : ENV.md f = .rw) : cV n fl (.clo (.func f) [] caps) args H = cW n f (args ++ caps) H fl := by
  unfold cV callVG callV cW callW
  simp only [fnOf, hm, callD]
  cases callG Try.prog ENV n f (args ++ caps) H fl with
  | none => rfl
  | some r =>
    simp only [Option.bind_some, bi_some]
    cases oldD H.length r.2 r.1 with
    | none => rfl
    | some d =>
      simp only [Option.bind_some, bi_some]
      cases cutH H.length r.2 with
      | none => rfl
      | some H' => rfl
theorem bools_wf (n : Nat) (e : TypeId) (l : List Bool) : WfB n (.cells e (l.map Bo)) := by
  intro d hd
  obtain ⟨b, _, rfl⟩ := List.mem_map.1 hd
  rfl
theorem Round1_c (n : Nat) (hn : 1200 ≤ n) {H : Heap} (hw : WfH H) (p : Pt) (hk : 0 ≤ p.kind) (b0 b1 b2 : Bool) (v0 v1 v2 : Int) (h0 : 0 ≤ v0 ∧ v0 < 65536) (h1 : 0 ≤ v1 ∧ v1 < 65536) (h2 : 0 ≤ v2 ∧ v2 < 65536) (t t2 : Tag) (i0 i1 i2 x0 x1 x2 s : Bool) (many : Int) (a k mn : Nat) (e1 e3 : TypeId) (ha : H[a]? = some (.cells e1 [Bo i0, Bo i1, Bo i2])) (hv : H[k]? = some (.cells 110 [Bo x0, Bo x1, Bo x2, Bo s])) (hm : H[mn]? = some (.cells e3 [I .i64 many])) (hne : mn ≠ k) (fl : Nat) (hfl : fl ≤ k) :
    cW n 77 ([lkE p (vals b0 b1 b2 v0 v1 v2) (vals b0 b1 b2 0 1 2) t t2] ++ [.ptr a 0, .ptr k 0, .ptr mn 0]) H fl = some (.tup [], H.set k (.cells 110 [Bo (x0 || (i0 && !b0) || (oddV p (vals b0 b1 b2 v0 v1 v2)).1), Bo (x1 || (i1 && !b1) || (oddV p (vals b0 b1 b2 v0 v1 v2)).2.1), Bo (x2 || (i2 && !b2) || (oddV p (vals b0 b1 b2 v0 v1 v2)).2.2), Bo (s || (decide (many = 2) && splitV p (vals b0 b1 b2 v0 v1 v2)))])) := by
  obtain ⟨n, rfl⟩ : ∃ m, n = m + 5 := ⟨n - 5, by omega⟩
  have ca := hp_lt ha
  have cv := hp_lt hv
  have cm := hp_lt hm
  have k1 := missing_c (n + 4) (by omega) p (vals b0 b1 b2 v0 v1 v2) b0 b1 b2 i0 i1 i2 t t2
  have k2 := odd_c (n + 4) (by omega) p hk b0 b1 b2 v0 v1 v2 h0 h1 h2 t t2
  have k3 := split_c (n + 4) (by omega) p b0 b1 b2 v0 v1 v2 h0 h1 h2 (vals b0 b1 b2 0 1 2) t t2
  have lq := fun K (H : Heap) a b c d e f => s_judge_Round_1_L0_eq (n + 4) fl K (n + 4) a b c d e f H
  generalize vals b0 b1 b2 v0 v1 v2 = vs at *
  generalize vals b0 b1 b2 0 1 2 = ws at *
  generalize (i0 && !b0) = m0 at *
  generalize (i1 && !b1) = m1 at *
  generalize (i2 && !b2) = m2 at *
  generalize oddV p vs = o at *
  generalize splitV p vs = sp at *
  obtain ⟨o0, o1, o2⟩ := o
  obtain ⟨pk, ad, at_, band, safe⟩ := p
  simp only at k2 ⊢
  unfold lkE at *
  simp only at k1 k2 k3 ⊢
  refine cW_of (r := .tup []) (H' := (H.set k (.cells 110 [Bo (x0 || m0 || o0), Bo (x1 || m1 || o1), Bo (x2 || m2 || o2), Bo (s || (decide (many = 2) && sp))])) ++ [.cells 167 [I .i64 pk, I .i64 ad, I .i64 at_, I .i64 band, I .i64 safe, LV 1 (I .u16) vs t, LV 1 (I .i64) ws t2], .cells 52 [Bo m0, Bo m1, Bo m2], .cells 52 [Bo o0, Bo o1, Bo o2]]) ((s_judge_Round_1_eq _ _ _ _ _ _ _).trans ?_) (by simp)
    (cutH_set hw cv (by rw [hp_get_left _ _ _ (by simpa using cv)]; exact hp_set_get _ _ _ cv) (fun j hj hne => by rw [hp_get_left _ _ _ (by simpa using hj)]; exact hp_set_ne _ _ _ _ hne) (oldBlk_wf (bools_wf _ _ [_, _, _, _])))
  unfold s_judge_Round_1
  simp -implicitDefEqProofs (disch := first | omega | (simp only [List.length_set, List.length_append, List.length_cons, List.length_nil, List.length_take, List.length_drop, List.length_map]; omega) | simp) [wrap_i64, wrap_u16_id, wrap_u8_id, tdiv_pos, tmod_pos, -getElem?_pos, -getElem?_neg, -List.length_eq_zero_iff, -List.getElem_cons_drop, -Bool.not_and, -Bool.not_or, -wantF_n, wantF_sy, wantF_sn, gO_some, gO_loadG, gO_lenD, gO_notD, gO_eqK1, gO_neK1, gO_ltK1, gO_leK1, gO_gtK1, gO_geK1, gO_max1, gO_addK1, gO_mulK1, gO_addK2, gO_ltK2, gO_leK2, gO_max2, gO_cvK, gO_idx, gO_pick, gO_pick2, gO_cP1, gO_cP1b, gO_cP2, gO_cP2a, gO_eqB, pick_t, pick_t2, pick_f, pick_f2, gd_gd, wantF_gt, wantF_gf, gO_pkf, gO_pkt, gO_pktn, gO_eqK2, gO_neK2, gO_gtK2, gO_geK2, gO_subK1, gO_subK2, gO_min1, gO_min2, gO_remK1, gO_cP3, gO_nilD, gO_fieldD, gO_idxArr1, gO_idxArr2, gO_idx2, gO_extD, -List.set_append_right, ha, hv, hm, k1, k2, k3, lq, s_judge_Round_1_L0, s_judge_Round_1_B0, idxArr_k, s_judge_Round_1_O0, hne]
end Go.Proofs.Ytbhnkdnfmlnajaa

/- The judge: rounds. -/
namespace Go.Proofs.Ytbhnkdnfmlnajaa
open Go
set_option linter.unusedSimpArgs false
set_option linter.unusedVariables false
set_option maxRecDepth 100000
/-- a point, and its three samples -/
structure Q where
  p : Pt
  x0 : Sm
  x1 : Sm
  x2 : Sm
def QOk (q : Q) : Prop := 0 ≤ q.p.kind ∧ (0 ≤ q.x0.v ∧ q.x0.v < 65536) ∧ (0 ≤ q.x1.v ∧ q.x1.v < 65536) ∧ (0 ≤ q.x2.v ∧ q.x2.v < 65536)
def Q.vl (q : Q) (r : Int) (i0 i1 i2 : Bool) : List Int := vals (i0 && fr q.x0 r) (i1 && fr q.x1 r) (i2 && fr q.x2 r) q.x0.v q.x1.v q.x2.v
def Q.wh (q : Q) (r : Int) (i0 i1 i2 : Bool) : List Int := vals (i0 && fr q.x0 r) (i1 && fr q.x1 r) (i2 && fr q.x2 r) 0 1 2
def Q.bad0 (r : Int) (i0 i1 i2 : Bool) (q : Q) : Bool := (i0 && !(i0 && fr q.x0 r)) || (oddV q.p (q.vl r i0 i1 i2)).1
def Q.bad1 (r : Int) (i0 i1 i2 : Bool) (q : Q) : Bool := (i1 && !(i1 && fr q.x1 r)) || (oddV q.p (q.vl r i0 i1 i2)).2.1
def Q.bad2 (r : Int) (i0 i1 i2 : Bool) (q : Q) : Bool := (i2 && !(i2 && fr q.x2 r)) || (oddV q.p (q.vl r i0 i1 i2)).2.2
def Q.spl (r : Int) (i0 i1 i2 : Bool) (q : Q) : Bool := decide (((i0.toNat : Int) + i1.toNat + i2.toNat) = 2) && splitV q.p (q.vl r i0 i1 i2)
theorem take_any {α : Type} (f : α → Bool) (l : List α) (i : Nat) (h : i < l.length) : (l.take (i + 1)).any f = ((l.take i).any f || f l[i]) := by
  rw [List.take_succ_eq_append_getElem h, List.any_append]
  simp
theorem take_all {α : Type} (f : α → Bool) (l : List α) (i : Nat) (h : i < l.length) : (l.take (i + 1)).all f = ((l.take i).all f && f l[i]) := by
  rw [List.take_succ_eq_append_getElem h, List.all_append]
  simp
theorem buildS_lk (p : Pt) (vs ws : List Int) (t t2 : Tag) : buildS (.agg [(I .i64 0), (I .i64 0), (I .i64 0), (I .i64 0), (I .i64 0), (.list 0 [] .ti), (.list 0 [] .ti)]) [(0, 5), (5, 1), (6, 1)] [(0, ptE p), (1, LV 1 (I .u16) vs t), (2, LV 1 (I .i64) ws t2)] = some (lkE p vs ws t t2) := by
  unfold lkE ptE
  simp
theorem each_L (n : Nat) (hn : 30 ≤ n) (fl : Nat) (L : List Q) (hL : L.length ≤ 100) (tl : Tag) (f : DV) (r : Int) (i0 i1 i2 : Bool) (k k0 k1 k2 bx : Nat) (eb : TypeId) (Inv : Nat → Heap → Prop)
    (hI : ∀ i H, Inv i H → IA H k L.length k0 k1 k2 (L.map Q.x0) (L.map Q.x1) (L.map Q.x2) ∧ H[bx]? = some (.cells eb [Bo i0, Bo i1, Bo i2]) ∧ fl ≤ H.length)
    (hs : ∀ i (hi : i < L.length) H t t2, okT t → okT t2 → Inv i H → ∃ H' x, cV n fl f [lkE L[i].p (L[i].vl r i0 i1 i2) (L[i].wh r i0 i1 i2) t t2] (H ++ [.cells 87 (ptE L[i].p).cells]) = some (x, H') ∧ Inv (i + 1) H') :
    ∀ (q i : Nat) (H : Heap), L.length < q + i → i ≤ L.length → Inv i H → ∃ H', (∀ K, s_judge_each_L0 n fl K q (.ptr k 0) (I .i64 r) f (.ptr bx 0) (LV 5 ptE (L.map Q.p) tl) (I .i64 L.length) (I .i64 i) H = K (.exit 0) s_judge_each_O0 H') ∧ Inv L.length H' := by
  intro q
  induction q with
  | zero => intro i H h; omega
  | succ q ih =>
    intro i H hq hi hv
    by_cases h : i < L.length
    · obtain ⟨hA, hb, hfl⟩ := hI i H hv
      have cb := hp_lt hb
      obtain ⟨t, t2, ht, ht2, hF⟩ := Fresh_c n (by omega) (hA.app [.cells 87 (ptE L[i].p).cells]) i h L[i].x0 L[i].x1 L[i].x2 (by simp [h]) (by simp [h]) (by simp [h]) r i0 i1 i2
      obtain ⟨H', x, hc, hv'⟩ := hs i h H t t2 ht ht2 hv
      obtain ⟨H2, g1, g2⟩ := ih (i + 1) H' (by omega) (by omega) hv'
      refine ⟨H2, fun K => ?_, g2⟩
      have hi2 : ((i + 1 : Nat) : Int) = (i : Int) + 1 := by omega
      have g1' := g1 K
      rw [hi2] at g1'
      have hlt : (i : Int) < (L.length : Int) := by omega
      have bl := buildS_lk L[i].p (L[i].vl r i0 i1 i2) (L[i].wh r i0 i1 i2) t t2
      unfold Q.vl Q.wh at bl hc
      generalize vals (i0 && fr L[i].x0 r) (i1 && fr L[i].x1 r) (i2 && fr L[i].x2 r) L[i].x0.v L[i].x1.v L[i].x2.v = vs at *
      generalize vals (i0 && fr L[i].x0 r) (i1 && fr L[i].x1 r) (i2 && fr L[i].x2 r) 0 1 2 = ws at *
      unfold ptE lkE at *
      simp only [cells_agg] at hF hc
      rw [s_judge_each_L0, s_judge_each_B0]
      simp -implicitDefEqProofs (disch := first | omega | (simp only [List.length_set, List.length_append, List.length_cons, List.length_nil, List.length_take, List.length_drop, List.length_map]; omega) | simp) [wrap_i64, wrap_u16_id, wrap_u8_id, tdiv_pos, tmod_pos, -getElem?_pos, -getElem?_neg, -List.length_eq_zero_iff, -List.getElem_cons_drop, -List.set_append_right, h, hlt, ptE_cells, hb, hF, bl, hc, g1']
    · have hi' : i = L.length := by omega
      subst hi'
      refine ⟨H, fun K => ?_, hv⟩
      rw [s_judge_each_L0, s_judge_each_B0]
      simp -implicitDefEqProofs (disch := first | omega | (simp only [List.length_set, List.length_append, List.length_cons, List.length_nil, List.length_take, List.length_drop, List.length_map]; omega) | simp) [wrap_i64, wrap_u16_id, wrap_u8_id, tdiv_pos, tmod_pos, -getElem?_pos, -getElem?_neg, -List.length_eq_zero_iff, -List.getElem_cons_drop]
theorem IA.same {H G : Heap} {k n k0 k1 k2 : Nat} {s0 s1 s2 : List Sm} (h : IA H k n k0 k1 k2 s0 s1 s2) (e : ∀ j, j = k ∨ j = k0 ∨ j = k1 ∨ j = k2 → G[j]? = H[j]?) : IA G k n k0 k1 k2 s0 s1 s2 :=
  ⟨(e k (.inl rfl)).trans h.b, (e k0 (.inr (.inl rfl))).trans h.r0, (e k1 (.inr (.inr (.inl rfl)))).trans h.r1, (e k2 (.inr (.inr (.inr rfl)))).trans h.r2, h.l0, h.l1, h.l2⟩
/-- what a run of each leaves: one block is turned -/
structure EI (H : Heap) (v N : Nat) (b : DBlk) (G : Heap) : Prop where
  len : N ≤ G.length
  wf : WfH G
  oth : ∀ j, j < N → j ≠ v → G[j]? = H[j]?
  at_ : G[v]? = some b
def vdB (L : List Q) (r : Int) (i0 i1 i2 : Bool) : DBlk := .cells 110 [Bo (L.any (Q.bad0 r i0 i1 i2)), Bo (L.any (Q.bad1 r i0 i1 i2)), Bo (L.any (Q.bad2 r i0 i1 i2)), Bo (L.any (Q.spl r i0 i1 i2))]
theorem wf_in (n : Nat) (e : TypeId) (i0 i1 i2 : Bool) : WfB n (.cells e [Bo i0, Bo i1, Bo i2]) := bools_wf n e [i0, i1, i2]
theorem wf_pt (n : Nat) (p : Pt) : WfB n (.cells 87 (ptE p).cells) := by
  intro d hd
  rw [ptE_cells] at hd
  simp only [List.mem_cons, List.not_mem_nil, or_false] at hd
  rcases hd with rfl | rfl | rfl | rfl | rfl <;> rfl
theorem each_round_c (n : Nat) (hn : 1300 ≤ n) (L : List Q) (hL : L.length ≤ 100) (hq : ∀ q ∈ L, QOk q) (tl : Tag) (r : Int) (i0 i1 i2 : Bool) {H : Heap} (hw : WfH H) {k k0 k1 k2 : Nat} (hA : IA H k L.length k0 k1 k2 (L.map Q.x0) (L.map Q.x1) (L.map Q.x2))
    (a v mn fl : Nat) (e1 e3 : TypeId) (ha : H[a]? = some (.cells e1 [Bo i0, Bo i1, Bo i2])) (hv : H[v]? = some (vdB [] r i0 i1 i2)) (hm : H[mn]? = some (.cells e3 [I .i64 ((i0.toNat : Int) + i1.toNat + i2.toNat)])) (d1 : mn ≠ v) (d2 : a ≠ v) (dk : k ≠ v ∧ k0 ≠ v ∧ k1 ≠ v ∧ k2 ≠ v) (hfl : fl ≤ v) :
    cW n 76 [LV 5 ptE (L.map Q.p) tl, .ptr k 0, I .i64 r, .agg [Bo i0, Bo i1, Bo i2], .clo (.func 77) [] [.ptr a 0, .ptr v 0, .ptr mn 0]] H fl = some (.tup [], H.set v (vdB L r i0 i1 i2)) := by
  obtain ⟨n, rfl⟩ : ∃ m, n = m + 1 := ⟨n - 1, by omega⟩
  have ck := hp_lt hA.b
  have c0 := hp_lt hA.r0
  have c1 := hp_lt hA.r1
  have c2 := hp_lt hA.r2
  have cv := hp_lt hv
  have ca := hp_lt ha
  have cm := hp_lt hm
  obtain ⟨H', g1, g2⟩ := each_L n (by omega) fl L hL tl (.clo (.func 77) [] [.ptr a 0, .ptr v 0, .ptr mn 0]) r i0 i1 i2 k k0 k1 k2 H.length 52
    (fun i G => EI (H ++ [.cells 52 [Bo i0, Bo i1, Bo i2]]) v (H.length + 1) (vdB (L.take i) r i0 i1 i2) G)
    (fun i G hG => ⟨(hA.app _).same fun j hj => hG.oth j (by omega) (by omega), by rw [hG.oth _ (by omega) (by omega)]; exact hp_get_0 _ _ _ _ rfl, by have := hG.len; omega⟩)
    (fun i hi G t t2 _ _ hG => by
      have hG1 := hG.len
      have gv : (G ++ [.cells 87 (ptE L[i].p).cells])[v]? = some (vdB (L.take i) r i0 i1 i2) := by rw [hp_get_left _ _ _ (by omega)]; exact hG.at_
      have ga : (G ++ [.cells 87 (ptE L[i].p).cells])[a]? = some (.cells e1 [Bo i0, Bo i1, Bo i2]) := by rw [hp_get_left _ _ _ (by omega), hG.oth _ (by omega) d2, hp_get_left _ _ _ ca]; exact ha
      have gm : (G ++ [.cells 87 (ptE L[i].p).cells])[mn]? = some (.cells e3 [I .i64 ((i0.toNat : Int) + i1.toNat + i2.toNat)]) := by rw [hp_get_left _ _ _ (by omega), hG.oth _ (by omega) d1, hp_get_left _ _ _ cm]; exact hm
      have hwG : WfH (G ++ [.cells 87 (ptE L[i].p).cells]) := hG.wf.app fun b hb => by
        simp only [List.mem_singleton] at hb
        subst hb
        exact wf_pt _ _
      obtain ⟨q1, q2, q3, q4⟩ := hq _ (List.getElem_mem hi)
      have hR := Round1_c n (by omega) hwG L[i].p q1 (i0 && fr L[i].x0 r) (i1 && fr L[i].x1 r) (i2 && fr L[i].x2 r) L[i].x0.v L[i].x1.v L[i].x2.v q2 q3 q4 t t2 i0 i1 i2 _ _ _ _ _ a v mn e1 e3 ga gv gm d1 fl hfl
      refine ⟨_, _, (cVrw_c (by kernel_rfl)).trans hR, ?_, hwG.set v (bools_wf _ _ [_, _, _, _]), fun j hj hne => ?_, ?_⟩
      · simp; omega
      · rw [hp_set_ne _ _ _ _ hne, hp_get_left _ _ _ (by omega)]
        exact hG.oth j hj hne
      · rw [hp_set_get _ _ _ (by simp; omega)]
        unfold vdB
        rw [take_any _ _ _ hi, take_any _ _ _ hi, take_any _ _ _ hi, take_any _ _ _ hi, Bool.or_assoc, Bool.or_assoc, Bool.or_assoc]
        rfl)
    n 0 (H ++ [.cells 52 [Bo i0, Bo i1, Bo i2]]) (by omega) (by omega) ⟨by simp, hw.app fun b hb => by
      simp only [List.mem_singleton] at hb
      subst hb
      exact wf_in _ _ _ _ _, fun j _ _ => rfl, by rw [hp_get_left _ _ _ cv]; exact hv⟩
  rw [List.take_length] at g2
  have lq := fun K => (s_judge_each_L0_eq n fl K n (.ptr k 0) (I .i64 r) (.clo (.func 77) [] [.ptr a 0, .ptr v 0, .ptr mn 0]) (.ptr H.length 0) (LV 5 ptE (L.map Q.p) tl) (I .i64 L.length) (I .i64 0) (H ++ [.cells 52 [Bo i0, Bo i1, Bo i2]])).trans (g1 K)
  refine cW_of (r := .tup []) (H' := H') ((s_judge_each_eq _ _ _ _ _ _ _ _).trans (by unfold s_judge_each; simp -implicitDefEqProofs (disch := first | omega | (simp only [List.length_set, List.length_append, List.length_cons, List.length_nil, List.length_take, List.length_drop, List.length_map]; omega) | simp) [wrap_i64, wrap_u16_id, wrap_u8_id, tdiv_pos, tmod_pos, -getElem?_pos, -getElem?_neg, -List.length_eq_zero_iff, -List.getElem_cons_drop, lq])) (by simp) (cutH_set hw cv g2.at_ (fun j hj hne => by rw [g2.oth j (by omega) hne, hp_get_left _ _ _ hj]) (oldBlk_wf (bools_wf _ _ [_, _, _, _])))
theorem Round_c (n : Nat) (hn : 1400 ≤ n) (L : List Q) (hL : L.length ≤ 100) (hq : ∀ q ∈ L, QOk q) (tl : Tag) (r : Int) (i0 i1 i2 : Bool) {H : Heap} (hw : WfH H) {k k0 k1 k2 : Nat} (hA : IA H k L.length k0 k1 k2 (L.map Q.x0) (L.map Q.x1) (L.map Q.x2)) :
    cO n 46 [LV 5 ptE (L.map Q.p) tl, .ptr k 0, I .i64 r, .agg [Bo i0, Bo i1, Bo i2]] H = some (.agg [Bo (L.any (Q.bad0 r i0 i1 i2)), Bo (L.any (Q.bad1 r i0 i1 i2)), Bo (L.any (Q.bad2 r i0 i1 i2)), Bo (L.any (Q.spl r i0 i1 i2))]) := by
  obtain ⟨n, rfl⟩ : ∃ m, n = m + 1 := ⟨n - 1, by omega⟩
  have ck := hp_lt hA.b
  have c0 := hp_lt hA.r0
  have c1 := hp_lt hA.r1
  have c2 := hp_lt hA.r2
  have hc := count_c n (by omega) i0 i1 i2
  have hE := (each_round_c n (by omega) L hL hq tl r i0 i1 i2 (H := H ++ [.cells 52 [Bo i0, Bo i1, Bo i2], .cells 110 [Bo false, Bo false, Bo false, Bo false], .cells 110 [Bo false, Bo false, Bo false, Bo false], .cells 3 [I .i64 ((i0.toNat : Int) + i1.toNat + i2.toNat)]])
    (hw.app fun b hb => by
      simp only [List.mem_cons, List.not_mem_nil, or_false] at hb
      rcases hb with rfl | rfl | rfl | rfl
      · exact wf_in _ _ _ _ _
      · exact bools_wf _ _ [false, false, false, false]
      · exact bools_wf _ _ [false, false, false, false]
      · intro d hd
        simp only [List.mem_cons, List.not_mem_nil, or_false] at hd
        subst hd
        rfl) (hA.app _) H.length (H.length + 2) (H.length + 3) H.length 52 3 (hp_get_0 _ _ _ _ rfl) (hp_get_2 _ _ _ _ _ _ rfl) (hp_get_3 _ _ _ _ _ _ _ rfl) (by omega) (by omega) ⟨by omega, by omega, by omega, by omega⟩ (by omega))
  rw [hp_set_2 _ _ _ _ _ _ _ rfl] at hE
  unfold vdB at hE
  generalize L.any (Q.bad0 r i0 i1 i2) = y0 at *
  generalize L.any (Q.bad1 r i0 i1 i2) = y1 at *
  generalize L.any (Q.bad2 r i0 i1 i2) = y2 at *
  generalize L.any (Q.spl r i0 i1 i2) = y3 at *
  exact cO_of (r := .agg [Bo y0, Bo y1, Bo y2, Bo y3]) (H' := H ++ [.cells 52 [Bo i0, Bo i1, Bo i2], .cells 110 [Bo y0, Bo y1, Bo y2, Bo y3], .cells 110 [Bo y0, Bo y1, Bo y2, Bo y3], .cells 3 [I .i64 ((i0.toNat : Int) + i1.toNat + i2.toNat)]]) ((s_judge_Round_eq _ _ _ _ _ _ _).trans (by unfold s_judge_Round; simp -implicitDefEqProofs (disch := first | omega | (simp only [List.length_set, List.length_append, List.length_cons, List.length_nil, List.length_take, List.length_drop, List.length_map]; omega) | simp) [wrap_i64, wrap_u16_id, wrap_u8_id, tdiv_pos, tmod_pos, -getElem?_pos, -getElem?_neg, -List.length_eq_zero_iff, -List.getElem_cons_drop, -List.set_append_right, hc, hE] <;> first | rfl | exact ⟨rfl, rfl⟩)) (by simp)
end Go.Proofs.Ytbhnkdnfmlnajaa
