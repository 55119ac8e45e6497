/- Requests: compared. -/
import Derived.Test.YtjkofefcoeejbaaFAskE
import Derived.Test.YtjkofefcoeejbaaGSameL
import Derived.Test.YtjkofefcoeejbaaEq2
-- NEEDS: ask.Same; triuneref06.Same; triuneref06.Large
namespace Go.Proofs.Ytjkofefcoeejbaa
open Go
set_option linter.unusedSimpArgs false
set_option linter.unusedVariables false
set_option maxRecDepth 100000
structure Rq where
  code : Int
  addr : Int
  cnt : Int
  to_ : Int
  words : List Int
  bits : List Bool
  and_ : Int
  or_ : Int
  deriving DecidableEq
def rqE (x : Rq) (t t2 : Tag) : DV := .agg [I .i64 x.code, I .i64 x.addr, I .i64 x.cnt, I .i64 x.to_, LV 1 (I .u16) x.words t, LV 1 Bo x.bits t2, I .u16 x.and_, I .u16 x.or_]
def Words (l : List Int) : Prop := ∀ x ∈ l, 0 ≤ x ∧ x < 65536
structure RqOk (x : Rq) : Prop where
  w : Words x.words
  a : 0 ≤ x.and_ ∧ x.and_ < 65536
  o : 0 ≤ x.or_ ∧ x.or_ < 65536
  lw : x.words.length ≤ 3000
  lb : x.bits.length ≤ 30000
section
variable {P : Program}
theorem pr_eqElems_int {d : Nat} {e : TypeId} {k : IntKind} (he : P.underlying e = some (.int k)) (xs ys : List Int) : ∀ (is : List Nat), (∀ i ∈ is, i < xs.length ∧ i < ys.length) →
    pureRun P (eqElems (d + 1) e 1 (xs.map (Value.int k)).toArray (ys.map (Value.int k)).toArray is) = some (is.all fun i => xs.getD i 0 == ys.getD i 0)
  | [], _ => rfl
  | i :: is, h => by
    obtain ⟨h1, h2⟩ := h i (by simp)
    rw [pr_eqElems_cons (a := .int k xs[i]) (b := .int k ys[i]) (r := xs[i] == ys[i]) (pr_part_int he (by simp [h1])) (pr_part_int he (by simp [h2])) (pr_equalIn_int d e k k _ _ he)]
    rw [pr_eqElems_int he xs ys is (fun j hj => h j (by simp [hj]))]
    have g1 : xs.getD i 0 = xs[i] := by simp [h1]
    have g2 : ys.getD i 0 = ys[i] := by simp [h2]
    rw [List.all_cons, g1, g2]
    cases xs[i] == ys[i] <;> rfl
theorem pr_eqL_int {d n : Nat} {t e : TypeId} {k : IntKind} (ht : P.underlying t = some (.array n e)) (he : P.underlying e = some (.int k)) (hs : ((P.info? e).map (·.size)) = some 1) (xs ys : List Int) (hx : xs.length = n) (hy : ys.length = n) :
    pureRun P (Op.equalIn (d + 2) t (.agg (xs.map (Value.int k)).toArray) (.agg (ys.map (Value.int k)).toArray)) = some (decide (xs = ys)) := by
  obtain ⟨i, hi, h1⟩ := info_of hs
  rw [pr_equalIn_array (d + 1) n t e i _ _ ht hi, h1, pr_eqElems_int he xs ys _ (fun j hj => by simp [List.mem_range'] at hj; omega)]
  congr 1
  rw [Bool.eq_iff_iff]
  simp only [List.all_eq_true, beq_iff_eq, decide_eq_true_eq]
  constructor
  · intro h
    refine List.ext_getElem (by omega) fun j a b => ?_
    have := h j (by simp [List.mem_range']; omega)
    simpa [a, b] using this
  · rintro rfl j _
    rfl
end
theorem mapO_flat (k : IntKind) (l : List Int) : mapO flatV (l.map (I k)) = some (l.map (Value.int k)) := by
  induction l with
  | nil => rfl
  | cons a l ih => rw [List.map_cons, mapO_cons, ih]; rfl
theorem eql_a6 (xs ys : List Int) (hx : xs.length = 6) (hy : ys.length = 6) (x y : Operand) : binD Try.prog .eql 87 x y (.agg (xs.map (I .i64))) (.agg (ys.map (I .i64))) = some (Bo (decide (xs = ys))) :=
  binD_eql_agg (va := xs.map (Value.int .i64)) (vb := ys.map (Value.int .i64)) (mapO_flat _ _) (mapO_flat _ _) (by kernel_rfl) (pr_eqL_int Try.underlying87 Try.underlying3 (by kernel_rfl) xs ys hx hy)
theorem eql_6 (a b c d e f a' b' c' d' e' f' : Int) (x y : Operand) : binD Try.prog .eql 87 x y (.agg [I .i64 a, I .i64 b, I .i64 c, I .i64 d, I .i64 e, I .i64 f]) (.agg [I .i64 a', I .i64 b', I .i64 c', I .i64 d', I .i64 e', I .i64 f']) = some (Bo (decide ([a, b, c, d, e, f] = [a', b', c', d', e', f']))) :=
  eql_a6 [a, b, c, d, e, f] [a', b', c', d', e', f'] rfl rfl x y
theorem ask_Same_c (n : Nat) (x y : Rq) (t1 t2 t3 t4 : Tag) (hx : RqOk x) (hy : RqOk y) (hn : 31000 ≤ n) : cP n 24 false [rqE x t1 t2, rqE y t3 t4] = some (Bo (decide (x = y))) := by
  obtain ⟨n, rfl⟩ : ∃ m, n = m + 1 := ⟨n - 1, by omega⟩
  have e1 := eq16_c n x.words y.words .sh .sh (by have := hx.lw; omega) (by have := hx.lw; omega)
  have e2 := eqB_c n x.bits y.bits .sh .sh (by have := hx.lb; omega) (by have := hx.lb; omega)
  have xa := hx.a
  have xo := hx.o
  have ya := hy.a
  have yo := hy.o
  obtain ⟨c, a, k, t, w, b, an, o⟩ := x
  obtain ⟨c', a', k', t', w', b', an', o'⟩ := y
  simp only at e1 e2 xa xo ya yo
  have go : ∀ r, (∃ H', s_ask_Same n [] 0 (rqE ⟨c, a, k, t, w, b, an, o⟩ .sh .sh) (rqE ⟨c', a', k', t', w', b', an', o'⟩ .sh .sh) = some (Bo r, H')) → r = decide ((⟨c, a, k, t, w, b, an, o⟩ : Rq) = ⟨c', a', k', t', w', b', an', o'⟩) → cP (n + 1) 24 false [rqE ⟨c, a, k, t, w, b, an, o⟩ t1 t2, rqE ⟨c', a', k', t', w', b', an', o'⟩ t3 t4] = some (Bo (decide ((⟨c, a, k, t, w, b, an, o⟩ : Rq) = ⟨c', a', k', t', w', b', an', o'⟩))) := by
    intro r ⟨H', h⟩ h2
    rw [← h2]
    exact cP_of (r := Bo r) (args' := [rqE ⟨c, a, k, t, w, b, an, o⟩ .sh .sh, rqE ⟨c', a', k', t', w', b', an', o'⟩ .sh .sh]) (by simp [argEl_eq, rqE]) ((s_ask_Same_eq _ _ _ _ _).trans h) (by simp)
  by_cases hw : w = w'
  · by_cases hb : b = b'
    · have e3 := eql_6 c a k t an o c' a' k' t' an' o'
      rw [decide_eq_true hw] at e1
      rw [decide_eq_true hb] at e2
      refine go (decide ([c, a, k, t, an, o] = [c', a', k', t', an', o'])) ⟨_, by unfold s_ask_Same rqE; simp -implicitDefEqProofs (disch := first | omega | (simp only [List.length_set, List.length_append, List.length_cons, List.length_nil, List.length_take, List.length_drop, List.length_map]; omega) | simp) [wrap_i64, wrap_u16_id, wrap_u8_id, tdiv_pos, tmod_pos, -getElem?_pos, -getElem?_neg, -List.length_eq_zero_iff, -List.getElem_cons_drop, e1, e2, e3]; first | done | rfl⟩ ?_
      subst hw
      subst hb
      simp only [List.cons.injEq, Rq.mk.injEq, and_true, true_and]
    · rw [decide_eq_true hw] at e1
      rw [decide_eq_false hb] at e2
      exact go false ⟨_, by unfold s_ask_Same rqE; simp -implicitDefEqProofs (disch := first | omega | (simp only [List.length_set, List.length_append, List.length_cons, List.length_nil, List.length_take, List.length_drop, List.length_map]; omega) | simp) [wrap_i64, wrap_u16_id, wrap_u8_id, tdiv_pos, tmod_pos, -getElem?_pos, -getElem?_neg, -List.length_eq_zero_iff, -List.getElem_cons_drop, e1, e2]; first | done | rfl⟩ (by simp [hb])
  · rw [decide_eq_false hw] at e1
    exact go false ⟨_, by unfold s_ask_Same rqE; simp -implicitDefEqProofs (disch := first | omega | (simp only [List.length_set, List.length_append, List.length_cons, List.length_nil, List.length_take, List.length_drop, List.length_map]; omega) | simp) [wrap_i64, wrap_u16_id, wrap_u8_id, tdiv_pos, tmod_pos, -getElem?_pos, -getElem?_neg, -List.length_eq_zero_iff, -List.getElem_cons_drop, e1]; first | done | rfl⟩ (by simp [hw])
theorem ref06_Same_c (n : Nat) (x y : Rq) (t1 t2 t3 t4 : Tag) (hx : RqOk x) (hy : RqOk y) (hn : 31000 ≤ n) : cP n 19 false [rqE x t1 t2, rqE y t3 t4] = some (Bo (decide (x = y))) := by
  obtain ⟨n, rfl⟩ : ∃ m, n = m + 1 := ⟨n - 1, by omega⟩
  have e1 := ref02_Same_c n x.words y.words .sh .sh (by have := hx.lw; omega) (by have := hx.lw; omega)
  have e2 := ref02_SameBits_c n x.bits y.bits .sh .sh (by have := hx.lb; omega) (by have := hx.lb; omega)
  obtain ⟨c, a, k, t, w, b, an, o⟩ := x
  obtain ⟨c', a', k', t', w', b', an', o'⟩ := y
  simp only at e1 e2
  have go : ∀ r, (∃ H', s_triuneref06_Same n [] 0 (rqE ⟨c, a, k, t, w, b, an, o⟩ .sh .sh) (rqE ⟨c', a', k', t', w', b', an', o'⟩ .sh .sh) = some (Bo r, H')) → r = decide ((⟨c, a, k, t, w, b, an, o⟩ : Rq) = ⟨c', a', k', t', w', b', an', o'⟩) → cP (n + 1) 19 false [rqE ⟨c, a, k, t, w, b, an, o⟩ t1 t2, rqE ⟨c', a', k', t', w', b', an', o'⟩ t3 t4] = some (Bo (decide ((⟨c, a, k, t, w, b, an, o⟩ : Rq) = ⟨c', a', k', t', w', b', an', o'⟩))) := by
    intro r ⟨H', h⟩ h2
    rw [← h2]
    exact cP_of (r := Bo r) (args' := [rqE ⟨c, a, k, t, w, b, an, o⟩ .sh .sh, rqE ⟨c', a', k', t', w', b', an', o'⟩ .sh .sh]) (by simp [argEl_eq, rqE]) ((s_triuneref06_Same_eq _ _ _ _ _).trans h) (by simp)
  by_cases h1 : c = c'
  case neg => exact go false ⟨_, by unfold s_triuneref06_Same rqE; simp -implicitDefEqProofs (disch := first | omega | (simp only [List.length_set, List.length_append, List.length_cons, List.length_nil, List.length_take, List.length_drop, List.length_map]; omega) | simp) [wrap_i64, wrap_u16_id, wrap_u8_id, tdiv_pos, tmod_pos, -getElem?_pos, -getElem?_neg, -List.length_eq_zero_iff, -List.getElem_cons_drop, h1]; first | done | rfl⟩ (by simp [h1])
  by_cases h2 : a = a'
  case neg => exact go false ⟨_, by unfold s_triuneref06_Same rqE; simp -implicitDefEqProofs (disch := first | omega | (simp only [List.length_set, List.length_append, List.length_cons, List.length_nil, List.length_take, List.length_drop, List.length_map]; omega) | simp) [wrap_i64, wrap_u16_id, wrap_u8_id, tdiv_pos, tmod_pos, -getElem?_pos, -getElem?_neg, -List.length_eq_zero_iff, -List.getElem_cons_drop, h1, h2]; first | done | rfl⟩ (by simp [h2])
  by_cases h3 : k = k'
  case neg => exact go false ⟨_, by unfold s_triuneref06_Same rqE; simp -implicitDefEqProofs (disch := first | omega | (simp only [List.length_set, List.length_append, List.length_cons, List.length_nil, List.length_take, List.length_drop, List.length_map]; omega) | simp) [wrap_i64, wrap_u16_id, wrap_u8_id, tdiv_pos, tmod_pos, -getElem?_pos, -getElem?_neg, -List.length_eq_zero_iff, -List.getElem_cons_drop, h1, h2, h3]; first | done | rfl⟩ (by simp [h3])
  by_cases h4 : t = t'
  case neg => exact go false ⟨_, by unfold s_triuneref06_Same rqE; simp -implicitDefEqProofs (disch := first | omega | (simp only [List.length_set, List.length_append, List.length_cons, List.length_nil, List.length_take, List.length_drop, List.length_map]; omega) | simp) [wrap_i64, wrap_u16_id, wrap_u8_id, tdiv_pos, tmod_pos, -getElem?_pos, -getElem?_neg, -List.length_eq_zero_iff, -List.getElem_cons_drop, h1, h2, h3, h4]; first | done | rfl⟩ (by simp [h4])
  by_cases h5 : an = an'
  case neg => exact go false ⟨_, by unfold s_triuneref06_Same rqE; simp -implicitDefEqProofs (disch := first | omega | (simp only [List.length_set, List.length_append, List.length_cons, List.length_nil, List.length_take, List.length_drop, List.length_map]; omega) | simp) [wrap_i64, wrap_u16_id, wrap_u8_id, tdiv_pos, tmod_pos, -getElem?_pos, -getElem?_neg, -List.length_eq_zero_iff, -List.getElem_cons_drop, h1, h2, h3, h4, h5]; first | done | rfl⟩ (by simp [h5])
  by_cases h6 : o = o'
  case neg => exact go false ⟨_, by unfold s_triuneref06_Same rqE; simp -implicitDefEqProofs (disch := first | omega | (simp only [List.length_set, List.length_append, List.length_cons, List.length_nil, List.length_take, List.length_drop, List.length_map]; omega) | simp) [wrap_i64, wrap_u16_id, wrap_u8_id, tdiv_pos, tmod_pos, -getElem?_pos, -getElem?_neg, -List.length_eq_zero_iff, -List.getElem_cons_drop, h1, h2, h3, h4, h5, h6]; first | done | rfl⟩ (by simp [h6])
  by_cases hw : w = w'
  case neg =>
    rw [decide_eq_false hw] at e1
    exact go false ⟨_, by unfold s_triuneref06_Same rqE; simp -implicitDefEqProofs (disch := first | omega | (simp only [List.length_set, List.length_append, List.length_cons, List.length_nil, List.length_take, List.length_drop, List.length_map]; omega) | simp) [wrap_i64, wrap_u16_id, wrap_u8_id, tdiv_pos, tmod_pos, -getElem?_pos, -getElem?_neg, -List.length_eq_zero_iff, -List.getElem_cons_drop, h1, h2, h3, h4, h5, h6, e1]; first | done | rfl⟩ (by simp [hw])
  rw [decide_eq_true hw] at e1
  refine go (decide (b = b')) ⟨_, by unfold s_triuneref06_Same rqE; simp -implicitDefEqProofs (disch := first | omega | (simp only [List.length_set, List.length_append, List.length_cons, List.length_nil, List.length_take, List.length_drop, List.length_map]; omega) | simp) [wrap_i64, wrap_u16_id, wrap_u8_id, tdiv_pos, tmod_pos, -getElem?_pos, -getElem?_neg, -List.length_eq_zero_iff, -List.getElem_cons_drop, h1, h2, h3, h4, h5, h6, e1, e2]; first | done | rfl⟩ ?_
  simp [h1, h2, h3, h4, h5, h6, hw]
def lgV (x : Rq) : Bool := decide (300 < x.words.length ∨ 3000 < x.bits.length)
theorem ref06_Large_c (n : Nat) (x : Rq) (t1 t2 : Tag) (hn : 1 ≤ n) : cP n 13 false [rqE x t1 t2] = some (Bo (lgV x)) := by
  obtain ⟨n, rfl⟩ : ∃ m, n = m + 1 := ⟨n - 1, by omega⟩
  unfold lgV
  by_cases h1 : 300 < x.words.length
  · rw [decide_eq_true (.inl h1)]
    exact cP_of (r := Bo true) (args' := [rqE x .sh .sh]) (by simp [argEl_eq, rqE]) ((s_triuneref06_Large_eq _ _ _ _).trans (by unfold s_triuneref06_Large rqE; simp -implicitDefEqProofs (disch := first | omega | (simp only [List.length_set, List.length_append, List.length_cons, List.length_nil, List.length_take, List.length_drop, List.length_map]; omega) | simp) [wrap_i64, wrap_u16_id, wrap_u8_id, tdiv_pos, tmod_pos, -getElem?_pos, -getElem?_neg, -List.length_eq_zero_iff, -List.getElem_cons_drop, h1]; first | exact rfl | exact ⟨rfl, rfl⟩)) (by simp)
  · by_cases h2 : 3000 < x.bits.length
    · rw [decide_eq_true (.inr h2)]
      exact cP_of (r := Bo true) (args' := [rqE x .sh .sh]) (by simp [argEl_eq, rqE]) ((s_triuneref06_Large_eq _ _ _ _).trans (by unfold s_triuneref06_Large rqE; simp -implicitDefEqProofs (disch := first | omega | (simp only [List.length_set, List.length_append, List.length_cons, List.length_nil, List.length_take, List.length_drop, List.length_map]; omega) | simp) [wrap_i64, wrap_u16_id, wrap_u8_id, tdiv_pos, tmod_pos, -getElem?_pos, -getElem?_neg, -List.length_eq_zero_iff, -List.getElem_cons_drop, h1, h2]; exact ⟨by omega, rfl⟩)) (by simp)
    · rw [decide_eq_false (by omega)]
      exact cP_of (r := Bo false) (args' := [rqE x .sh .sh]) (by simp [argEl_eq, rqE]) ((s_triuneref06_Large_eq _ _ _ _).trans (by unfold s_triuneref06_Large rqE; simp -implicitDefEqProofs (disch := first | omega | (simp only [List.length_set, List.length_append, List.length_cons, List.length_nil, List.length_take, List.length_drop, List.length_map]; omega) | simp) [wrap_i64, wrap_u16_id, wrap_u8_id, tdiv_pos, tmod_pos, -getElem?_pos, -getElem?_neg, -List.length_eq_zero_iff, -List.getElem_cons_drop, h1, h2]; exact ⟨by omega, rfl⟩)) (by simp)
end Go.Proofs.Ytjkofefcoeejbaa
