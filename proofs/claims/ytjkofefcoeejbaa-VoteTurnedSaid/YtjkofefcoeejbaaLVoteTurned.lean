/- The law VoteTurned, with the median's contract as a premise. -/
import Derived.Test.YtjkofefcoeejbaaFLVoteTurned
import Derived.Test.YtjkofefcoeejbaaLVoteTells
import Derived.Test.YtjkofefcoeejbaaLVoteBetween
-- NEEDS: triunelaw12.VoteTurned
namespace Go.Proofs.Ytjkofefcoeejbaa
open Go
set_option linter.unusedSimpArgs false
set_option linter.unusedVariables false
set_option maxRecDepth 100000
def wtE (p : List Int × Tag) : DV := LV 1 (I .u16) p.1 p.2
theorem wtE_cells (p : List Int × Tag) : (wtE p).cells = [LV 1 (I .u16) p.1 p.2] := by unfold wtE; simp
theorem buildL_p (a b c : Int) : buildL false 1 5 (.list 0 [] .ti) [(0, LV 1 (I .u16) [a, c, b] .ti), (1, LV 1 (I .u16) [b, a, c] .ti), (2, LV 1 (I .u16) [b, c, a] .ti), (3, LV 1 (I .u16) [c, a, b] .ti), (4, LV 1 (I .u16) [c, b, a] .ti)] = some (LV 1 wtE [([a, c, b], .ti), ([b, a, c], .ti), ([b, c, a], .ti), ([c, a, b], .ti), ([c, b, a], .ti)] .ti) := by kernel_rfl
theorem maj3 (a b c : Int) : majV [a, b, c] = if (2 ≤ a ∨ 2 ≤ b ∨ 2 ≤ c) ∨ 2 * (a + b + c) = 3 then (0, false) else if 3 < 2 * (a + b + c) then (1, true) else (0, true) := by
  have hs : sumI [a, b, c] = a + b + c := by show a + (b + (c + 0)) = _; omega
  have hl : ([a, b, c].length : Int) = 3 := rfl
  have hx : (∃ x ∈ [a, b, c], 2 ≤ x) ↔ (2 ≤ a ∨ 2 ≤ b ∨ 2 ≤ c) := by simp
  unfold majV
  rw [hs, hl]
  have : ¬ 3 < [a, b, c].length := by simp
  simp only [hx, this, false_or]
theorem maj2 (a b : Int) : majV [a, b] = if (2 ≤ a ∨ 2 ≤ b) ∨ 2 * (a + b) = 2 then (0, false) else if 2 < 2 * (a + b) then (1, true) else (0, true) := by
  have hs : sumI [a, b] = a + b := by show a + (b + 0) = _; omega
  have hl : ([a, b].length : Int) = 2 := rfl
  have hx : (∃ x ∈ [a, b], 2 ≤ x) ↔ (2 ≤ a ∨ 2 ≤ b) := by simp
  unfold majV
  rw [hs, hl]
  have : ¬ 3 < [a, b].length := by simp
  simp only [hx, this, false_or]
theorem pick3 (k a b c x y z : Int) (h : (x = a ∧ y = c ∧ z = b) ∨ (x = b ∧ y = a ∧ z = c) ∨ (x = b ∧ y = c ∧ z = a) ∨ (x = c ∧ y = a ∧ z = b) ∨ (x = c ∧ y = b ∧ z = a)) : pickV k [x, y, z] = pickV k [a, b, c] := by
  unfold pickV
  have m1 : medV [x, y, z] = (max (min x y) (min (max x y) z), true) := rfl
  have m2 : medV [a, b, c] = (max (min a b) (min (max a b) c), true) := rfl
  rw [m1, m2, maj3, maj3, show max (min x y) (min (max x y) z) = max (min a b) (min (max a b) c) by omega]
  split
  · rfl
  · repeat' split
    all_goals first
      | rfl
      | (exfalso; omega)
theorem pick2 (k a b : Int) : pickV k [b, a] = pickV k [a, b] := by
  unfold pickV
  have m1 : medV [b, a] = ((b + a) / 2, true) := rfl
  have m2 : medV [a, b] = ((a + b) / 2, true) := rfl
  rw [m1, m2, maj2, maj2, Int.add_comm b a]
  split
  · rfl
  · repeat' split
    all_goals first
      | rfl
      | (exfalso; omega)
theorem voteV_pick (p : Pt) (l m : List Int) (h : pickV p.kind l = pickV p.kind m) : voteV p l = voteV p m := by unfold voteV; rw [h]
theorem turned_L (n : Nat) (hn : 1020 ≤ n) (hM : MedC) (p : Pt) (hk : 0 ≤ p.kind) (r : Int × Bool) (ls : List (List Int × Tag)) (hl : ls.length ≤ 100) (hr : ∀ q ∈ ls, Words q.1 ∧ q.1.length ≤ 1000 ∧ voteV p q.1 = r) (x7 x8 : DV) (t : Tag) (H : Heap) (hH : H[0]? = some (.cells 65 (ptE p).cells)) : ∀ (m i : Nat), ls.length < m + i → i ≤ ls.length → ∀ K,
    s_triunelaw12_VoteTurned_L0 n 0 K m (.ptr 0 0) (Bo true) x7 x8 (I .u16 r.1) (Bo r.2) (LV 1 wtE ls t) (I .i64 i) H = K (.exit 0) (s_triunelaw12_VoteTurned_O0 (.ptr 0 0) .any (Bo true) x7 x8) H := by
  intro m
  induction m with
  | zero => intro i h; omega
  | succ m ih =>
    intro i hm hi K
    rw [s_triunelaw12_VoteTurned_L0, s_triunelaw12_VoteTurned_B0]
    by_cases h : i < ls.length
    · obtain ⟨q1, q2, q3⟩ := hr _ (List.getElem_mem h)
      have e := Vote_c n hn p ls[i].1 q1 q2 ls[i].2 hk (hM (n - 1) _ .sh (by omega) q1 q2)
      rw [q3] at e
      have ih' := ih (i + 1) (by omega) (by omega) K
      have hi2 : ((i + 1 : Nat) : Int) = (i : Int) + 1 := by omega
      rw [hi2] at ih'
      have hc := wtE_cells ls[i]
      obtain ⟨k, ad, at_, band, safe⟩ := p
      unfold ptE at *
      simp only [cells_agg] at hH
      obtain ⟨r1, r2⟩ := r
      simp only at e ih' ⊢
      cases r2 <;> simp -implicitDefEqProofs (disch := first | omega | (simp only [List.length_set, List.length_append, List.length_cons, List.length_nil, List.length_take, List.length_drop, List.length_map]; omega) | simp) [wrap_i64, wrap_u16_id, wrap_u8_id, tdiv_pos, tmod_pos, -getElem?_pos, -getElem?_neg, -List.length_eq_zero_iff, -List.getElem_cons_drop, h, hc, hH, e, ih']
    · have : i = ls.length := by omega
      subst this
      simp -implicitDefEqProofs (disch := first | omega | (simp only [List.length_set, List.length_append, List.length_cons, List.length_nil, List.length_take, List.length_drop, List.length_map]; omega) | simp) [wrap_i64, wrap_u16_id, wrap_u8_id, tdiv_pos, tmod_pos, -getElem?_pos, -getElem?_neg, -List.length_eq_zero_iff, -List.getElem_cons_drop]
theorem apart_same (band a : Int) (h : 0 ≤ band) : apartV band a a = false := by unfold apartV; simp; omega
theorem apart_sym (band a b : Int) : apartV band b a = apartV band a b := by unfold apartV; rw [Int.max_comm, Int.min_comm]
theorem VoteTurned_run (n : Nat) (up : cP n 35 false [] = some (Bo true)) (hM : MedC) (hn : 2000 ≤ n) (p : Pt) (a b c : Int) (ha : 0 ≤ a ∧ a < 65536) (hb : 0 ≤ b ∧ b < 65536) (hc : 0 ≤ c ∧ c < 65536) :
    ∃ H', s_triunelaw12_VoteTurned n [] 0 (ptE p) (.agg [I .u16 a, I .u16 b, I .u16 c]) = some (Bo true, H') := by
  obtain ⟨B, m1, m2⟩ := May_c n [p] .ti (by simp) (by omega)
  have v := buildL_pt p.kind p.addr p.at_ p.band p.safe
  cases B with
  | false =>
    obtain ⟨k, ad, at_, band, safe⟩ := p
    exact ⟨_, by unfold s_triunelaw12_VoteTurned ptE; simp -implicitDefEqProofs (disch := first | omega | (simp only [List.length_set, List.length_append, List.length_cons, List.length_nil, List.length_take, List.length_drop, List.length_map]; omega) | simp) [wrap_i64, wrap_u16_id, wrap_u8_id, tdiv_pos, tmod_pos, -getElem?_pos, -getElem?_neg, -List.length_eq_zero_iff, -List.getElem_cons_drop, up, v, m1]; first | rfl | exact ⟨rfl, rfl⟩⟩
  | true =>
    have hp := (m2 rfl).2.1 _ (List.mem_cons_self ..)
    have hk := hp.1.1
    have hband : 0 ≤ p.band := hp.2.2.2
    have w3 : ∀ x y z, (0 ≤ x ∧ x < 65536) → (0 ≤ y ∧ y < 65536) → (0 ≤ z ∧ z < 65536) → Words [x, y, z] := by intro x y z h1 h2 h3 q hq; simp at hq; omega
    have w2 : ∀ x y, (0 ≤ x ∧ x < 65536) → (0 ≤ y ∧ y < 65536) → Words [x, y] := by intro x y h1 h2 q hq; simp at hq; omega
    have k1 := Vote_c n (by omega) p [a, b, c] (w3 a b c ha hb hc) (by simp) .ti hk (hM (n - 1) _ .sh (by omega) (w3 a b c ha hb hc) (by simp))
    have k2 := Vote_c n (by omega) p [a, b] (w2 a b ha hb) (by simp) .ti hk (hM (n - 1) _ .sh (by omega) (w2 a b ha hb) (by simp))
    have k3 := Vote_c n (by omega) p [b, a] (w2 b a hb ha) (by simp) .ti hk (hM (n - 1) _ .sh (by omega) (w2 b a hb ha) (by simp))
    rw [voteV_pick p [b, a] [a, b] (pick2 _ _ _)] at k3
    have e1 := buildL_w3 a b c
    have e2 := buildL_w3 a c b
    have e3 := buildL_w3 b a c
    have e4 := buildL_w3 b c a
    have e5 := buildL_w3 c a b
    have e6 := buildL_w3 c b a
    have e7 := buildL_p a b c
    have e8 := buildL_v22 a b
    have e9 := buildL_v22 b a
    have s1 := Apart_c n (by omega) p a a ha ha
    have s2 := Apart_c n (by omega) p a b ha hb
    have s3 := Apart_c n (by omega) p b a hb ha
    rw [apart_same _ _ hband] at s1
    rw [apart_sym] at s3
    have lp := fun K => (s_triunelaw12_VoteTurned_L0_eq n 0 K n (.ptr 0 0) (Bo true) (I .u16 a) (I .u16 b) (I .u16 (voteV p [a, b, c]).1) (Bo (voteV p [a, b, c]).2) (LV 1 wtE [([a, c, b], .ti), ([b, a, c], .ti), ([b, c, a], .ti), ([c, a, b], .ti), ([c, b, a], .ti)] .ti) (I .i64 0) [.cells 65 (ptE p).cells, .cells 74 [I .u16 a, I .u16 b, I .u16 c]]).trans
      (turned_L n (by omega) hM p hk (voteV p [a, b, c]) [([a, c, b], .ti), ([b, a, c], .ti), ([b, c, a], .ti), ([c, a, b], .ti), ([c, b, a], .ti)] (by simp) (by
        intro q hq
        simp only [List.mem_cons, List.not_mem_nil, or_false] at hq
        rcases hq with rfl | rfl | rfl | rfl | rfl
        · exact ⟨w3 a c b ha hc hb, by simp, voteV_pick _ _ _ (pick3 _ _ _ _ _ _ _ (by simp))⟩
        · exact ⟨w3 b a c hb ha hc, by simp, voteV_pick _ _ _ (pick3 _ _ _ _ _ _ _ (by simp))⟩
        · exact ⟨w3 b c a hb hc ha, by simp, voteV_pick _ _ _ (pick3 _ _ _ _ _ _ _ (by simp))⟩
        · exact ⟨w3 c a b hc ha hb, by simp, voteV_pick _ _ _ (pick3 _ _ _ _ _ _ _ (by simp))⟩
        · exact ⟨w3 c b a hc hb ha, by simp, voteV_pick _ _ _ (pick3 _ _ _ _ _ _ _ (by simp))⟩) (I .u16 a) (I .u16 b) .ti _ rfl n 0 (by simp; omega) (by omega) K)
    generalize voteV p [a, b, c] = r at *
    generalize voteV p [a, b] = r2 at *
    generalize apartV p.band a b = w at *
    obtain ⟨r11, r12⟩ := r
    obtain ⟨r21, r22⟩ := r2
    clear m2 hp hM
    obtain ⟨k, ad, at_, band, safe⟩ := p
    unfold ptE at *
    simp only [cells_agg] at lp k1 k2 k3 s1 s2 s3 v m1
    cases r22 <;> cases w <;> exact ⟨_, by unfold s_triunelaw12_VoteTurned; simp -implicitDefEqProofs (disch := first | omega | (simp only [List.length_set, List.length_append, List.length_cons, List.length_nil, List.length_take, List.length_drop, List.length_map]; omega) | simp) [wrap_i64, wrap_u16_id, wrap_u8_id, tdiv_pos, tmod_pos, -getElem?_pos, -getElem?_neg, -List.length_eq_zero_iff, -List.getElem_cons_drop, up, v, m1, e1, e2, e3, e4, e5, e6, e7, e8, e9, k1, k2, k3, s1, s2, s3, lp, s_triunelaw12_VoteTurned_O0]; first | rfl | exact ⟨rfl, rfl⟩⟩
theorem VoteTurned_all (e0 e1 : List DV) (h0 : Shp Try.prog 8 65 e0) (h1 : Shp Try.prog 8 74 e1) :
    ∃ H', callG Try.prog ENV 4000 10 [elOf (isAgT Try.prog 65) e0, elOf (isAgT Try.prog 74) e1] [] 0 = some (.flat (.bool true), H') := by
  obtain ⟨p, r0⟩ := vshp_pt h0
  obtain ⟨a, b, c, r1, ha, hb, hc⟩ := vshp_w3 h1
  obtain ⟨H', h⟩ := VoteTurned_run 3999 awake12 medC (by omega) p a b c ha hb hc
  rw [r0, r1]
  exact ⟨H', (s_triunelaw12_VoteTurned_eq 3999 [] 0 _ _).trans h⟩
end Go.Proofs.Ytjkofefcoeejbaa
