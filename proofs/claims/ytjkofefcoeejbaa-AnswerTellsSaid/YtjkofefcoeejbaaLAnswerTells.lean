/- The law AnswerTells: it answers true. -/
import Derived.Test.YtjkofefcoeejbaaKY10
import Derived.Test.YtjkofefcoeejbaaFLAnswerTells
-- NEEDS: triunelaw07.AnswerTells
-- ENV2
namespace Go.Proofs.Ytjkofefcoeejbaa
open Go
set_option linter.unusedSimpArgs false
set_option linter.unusedVariables false
set_option maxRecDepth 100000
theorem ansByt_shape (a : Rq) (x : An) : ∃ (p : List Int) (e : Int), ansBytV a x = .tup [LV 1 (I .u8) p .sh, I .i64 e] ∧ p.length ≤ 253 := by
  unfold ansBytV
  split
  · split
    · rename_i h
      exact ⟨_, _, rfl, (ansText_len a x h).2⟩
    · exact ⟨[], 2, rfl, by simp⟩
  · exact ⟨[], 1, rfl, by simp⟩
theorem read_small (a : Rq) (b : List Int) (hb : b.length ≤ 600) : (ansReadV a b).1.bits.length ≤ 10000 ∧ (ansReadV a b).1.words.length ≤ 10000 ∧ (ansReadV a b).1.texts.length ≤ 1000 := by
  have key : (guessA a b).bits.length ≤ 10000 ∧ (guessA a b).words.length ≤ 10000 ∧ (guessA a b).texts.length ≤ 1000 := by
    have h3 := (guessA_texts a b hb).2
    refine ⟨?_, ?_, by omega⟩
    · unfold guessA
      split
      · simp
      split
      · have := gBits_len a.cnt (b.drop 2)
        rw [List.length_drop] at this
        show (gBits a.cnt (b.drop 2)).length ≤ 10000
        omega
      split
      · simp
      split
      · simp
      · simp [anZ]
    · unfold guessA
      split
      · simp
      split
      · simp
      split
      · have := wdI_len (b.drop 2)
        rw [List.length_drop] at this
        show (wdI (b.drop 2)).length ≤ 10000
        omega
      split
      · simp
      · simp [anZ]
  unfold ansReadV
  split
  · split
    · exact key
    · simp [anZ]
  · simp [anZ]
def anL (x : An) : List DV := [I .i64 x.exc, LV 1 Bo x.bits .sh, LV 1 (I .u16) x.words .sh, LV 1 Sg x.texts .sh]
theorem shp_anL {d : Nat} {e : List DV} (h : Shp Try.prog (d + 3) 47 e) : ∃ x : An, e = anL x ∧ AnTy x := by
  have h := shp_struct Try.underlying47 h
  simp only [List.map_cons, List.map_nil, ShpFs] at h
  obtain ⟨a, _, rfl, ha, i, _, rfl, hi, g, _, rfl, hg, t, _, rfl, ht, rfl⟩ := h
  obtain ⟨a, rfl, wa⟩ := shp_int (k := .i64) Try.underlying3 ha
  obtain ⟨i, rfl, _, _⟩ := shp_slice (e := 4) Bo (fun _ => True) (sz := 1) Try.underlying23 (by kernel_rfl) (fun x hx => shp_bo hx) hi
  obtain ⟨g, rfl, _, wg⟩ := shp_ints (k := .u16) Try.underlying22 Try.underlying24 (by kernel_rfl) hg
  obtain ⟨t, rfl, _, wt⟩ := shp_slice (e := 9) Sg (fun s => s.size ≤ 281474976710656) (sz := 1) Try.underlying45 (by kernel_rfl) (fun x hx => shp_sg hx) ht
  exact ⟨⟨a, i, g, t⟩, rfl, ⟨fun x hx => wf_u16 (wg x hx), wf_i64 wa, wt⟩⟩
theorem AnswerTells_run (n : Nat) (up : cP2 n 25 false [] = some (Bo true)) (hn : 39000 ≤ n) (a : Rq) (ha : RqTy a) (x y : An) (hx : AnTy x) (hy : AnTy y) (b : List Int) (hb : Bytes b) :
    ∃ H', s_triunelaw07_AnswerTells n [] 0 (rqE a .sh .sh) (.agg (anL x ++ anL y)) (LV 1 (I .u8) b .sh) = some (Bo true, H') := by
  have l1 := cP_up (ref06_Large_c n a .sh .sh (by omega))
  have l2 := cP_up (ref07_Large_c n x .sh .sh .sh hx.s (by omega))
  have l3 := cP_up (ref07_Large_c n y .sh .sh .sh hy.s (by omega))
  unfold anL
  rw [List.cons_append, List.cons_append, List.cons_append, List.cons_append, List.nil_append]
  cases h1 : lgV a with
  | true =>
    rw [h1] at l1
    unfold rqE anE at *
    exact ⟨_, by unfold s_triunelaw07_AnswerTells; simp -implicitDefEqProofs (disch := first | omega | (simp only [List.length_set, List.length_append, List.length_cons, List.length_nil, List.length_take, List.length_drop, List.length_map]; omega) | simp) [wrap_i64, wrap_u16_id, wrap_u8_id, tdiv_pos, tmod_pos, -getElem?_pos, -getElem?_neg, -List.length_eq_zero_iff, -List.getElem_cons_drop, up, l1]; rfl⟩
  | false =>
    rw [h1] at l1
    cases h2 : anLarge x with
    | true =>
      rw [h2] at l2
      unfold rqE anE at *
      exact ⟨_, by unfold s_triunelaw07_AnswerTells; simp -implicitDefEqProofs (disch := first | omega | (simp only [List.length_set, List.length_append, List.length_cons, List.length_nil, List.length_take, List.length_drop, List.length_map]; omega) | simp) [wrap_i64, wrap_u16_id, wrap_u8_id, tdiv_pos, tmod_pos, -getElem?_pos, -getElem?_neg, -List.length_eq_zero_iff, -List.getElem_cons_drop, up, l1, l2]; rfl⟩
    | false =>
      rw [h2] at l2
      cases h3 : anLarge y with
      | true =>
        rw [h3] at l3
        unfold rqE anE at *
        exact ⟨_, by unfold s_triunelaw07_AnswerTells; simp -implicitDefEqProofs (disch := first | omega | (simp only [List.length_set, List.length_append, List.length_cons, List.length_nil, List.length_take, List.length_drop, List.length_map]; omega) | simp) [wrap_i64, wrap_u16_id, wrap_u8_id, tdiv_pos, tmod_pos, -getElem?_pos, -getElem?_neg, -List.length_eq_zero_iff, -List.getElem_cons_drop, up, l1, l2, l3]; rfl⟩
      | false =>
        rw [h3] at l3
        by_cases h4 : 600 < b.length
        · unfold rqE anE at *
          exact ⟨_, by unfold s_triunelaw07_AnswerTells; simp -implicitDefEqProofs (disch := first | omega | (simp only [List.length_set, List.length_append, List.length_cons, List.length_nil, List.length_take, List.length_drop, List.length_map]; omega) | simp) [wrap_i64, wrap_u16_id, wrap_u8_id, tdiv_pos, tmod_pos, -getElem?_pos, -getElem?_neg, -List.length_eq_zero_iff, -List.getElem_cons_drop, up, l1, l2, l3, h4]; rfl⟩
        · have oka := ha.ok h1
          have okx := hx.ok h2
          have oky := hy.ok h3
          obtain ⟨g1, g2, g3, g4⟩ := large_open h2
          obtain ⟨m1, m2, m3, m4⟩ := large_open h3
          have k1 := cP_up (ansBytes_c n (by omega) a oka x okx .sh .sh .sh .sh .sh)
          have k2 := cP_up (ref07_Bytes_c n (by omega) a oka x okx hx.s g3 .sh .sh .sh .sh .sh)
          obtain ⟨p, e, he, hpl⟩ := ansByt_shape a x
          rw [he] at k1 k2
          have k3 := Read_c n (by omega) a oka b hb .sh .sh .sh
          have k4 := cP_up (ref07_Read_c n (by omega) a oka b hb (by omega) .sh .sh .sh)
          obtain ⟨r1, r2, r3⟩ := read_small a b (by omega)
          have k5 := cP_up (ref01_Same_c n p p .sh .sh (by omega) (by omega))
          rw [decide_eq_true rfl] at k5
          have k6 := cP_up (ref07_Same_c n (ansReadV a b).1 (ansReadV a b).1 .sh .sh .sh .sh .sh .sh r1 r2 r3 r1 r2 r3 (by omega))
          simp only [decide_true, Bool.and_self] at k6
          have k7 := cP_up (ansRight_c n (by omega) a x okx .sh .sh .sh .sh .sh)
          have k8 := cP_up (ref07_Right_c n (by omega) a x hx.s g3 .sh .sh .sh .sh .sh)
          have k9 := cP_up (ansSame_c n x y .sh .sh .sh .sh .sh .sh (by omega) (by omega) (by omega) (by omega))
          have k10 := cP_up (ref07_Same_c n x y .sh .sh .sh .sh .sh .sh (by omega) (by omega) (by omega) (by omega) (by omega) (by omega) (by omega))
          generalize (decide (x.exc = y.exc) && decide (x.bits = y.bits) && decide (x.words = y.words) && decide (x.texts = y.texts)) = sm at k9 k10
          generalize ansV a x = rv at k7 k8
          generalize (ansReadV a b).1 = z at *
          generalize (ansReadV a b).2 = ze at *
          unfold rqE anE at *
          cases sm <;> cases rv <;> exact ⟨_, by unfold s_triunelaw07_AnswerTells; simp -implicitDefEqProofs (disch := first | omega | (simp only [List.length_set, List.length_append, List.length_cons, List.length_nil, List.length_take, List.length_drop, List.length_map]; omega) | simp) [wrap_i64, wrap_u16_id, wrap_u8_id, tdiv_pos, tmod_pos, -getElem?_pos, -getElem?_neg, -List.length_eq_zero_iff, -List.getElem_cons_drop, up, l1, l2, l3, h4, k1, k2, k3, k4, k5, k6, k7, k8, k9, k10]; rfl⟩
theorem AnswerTells_all (e0 e1 e2 : List DV) (h0 : Shp Try.prog 8 26 e0) (h1 : Shp Try.prog 8 48 e1) (h2 : Shp Try.prog 8 27 e2) :
    ∃ H', callG Try.prog ENV2 40000 6 [elOf (isAgT Try.prog 26) e0, elOf (isAgT Try.prog 48) e1, elOf (isAgT Try.prog 27) e2] [] 0 = some (.flat (.bool true), H') := by
  obtain ⟨a, r0, a1⟩ := shp_rq (d := 5) h0
  obtain ⟨l, hl, rfl, hty⟩ := shp_array (e := 47) anL AnTy Try.underlying48 (fun x hx => shp_anL (d := 4) hx) h1
  obtain ⟨b, rfl, _, hb⟩ := shp_ints (k := .u8) Try.underlying27 Try.underlying5 (by kernel_rfl) h2
  obtain ⟨x, y, rfl⟩ : ∃ x y, l = [x, y] := by
    match l, hl with
    | [x, y], _ => exact ⟨x, y, rfl⟩
  obtain ⟨H', h⟩ := AnswerTells_run 39999 (awake07 39998 rfl) (by omega) a a1 x y (hty x (by simp)) (hty y (by simp)) b (fun x hx => wf_u8 (hb x hx))
  have r1 : elOf (isAgT Try.prog 48) (([x, y].map anL).flatten) = .agg (anL x ++ anL y) := by kernel_rfl
  have r2 : elOf (isAgT Try.prog 27) [LV 1 (I .u8) b .sh] = LV 1 (I .u8) b .sh := by kernel_rfl
  rw [r0, r1, r2]
  exact ⟨H', (s_triunelaw07_AnswerTells_eq 39999 [] 0 _ _ _).trans h⟩
end Go.Proofs.Ytjkofefcoeejbaa
