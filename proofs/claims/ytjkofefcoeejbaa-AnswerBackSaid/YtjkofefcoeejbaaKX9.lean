/- Texts of mine, laid together: GAnsS, GAw07, GAnsL. -/
import Derived.Test.YtjkofefcoeejbaaKX8
/- Answers compared. -/
namespace Go.Proofs.Ytjkofefcoeejbaa
open Go
set_option linter.unusedSimpArgs false
set_option linter.unusedVariables false
set_option maxRecDepth 100000
theorem str_eq (a b : ByteArray) : (a.toList == b.toList) = decide (a = b) := by
  rw [Bool.eq_iff_iff]
  simp only [beq_iff_eq, decide_eq_true_eq]
  constructor
  · intro h
    rw [ByteArray.toList_eq, ByteArray.toList_eq] at h
    cases a; cases b
    simpa using h
  · rintro rfl; rfl
@[simp] theorem neS_Sg (a b : ByteArray) : neS (Sg a) (Sg b) = some (Bo (!decide (a = b))) := by
  show some (DV.flat (.bool (!(a.toList == b.toList)))) = _
  rw [str_eq]
theorem eqS_L (n fl : Nat) (k : Ex → KF) (l1 l2 : List ByteArray) (hl : l1.length = l2.length) (hl1 : l1.length ≤ 1000000) : ∀ (m i : Nat) (H : Heap), l1.length < m + i → i ≤ l1.length →
    s_slices_Equal___string_string__L0 n fl k m (LV 1 Sg l1 .sh) (LV 1 Sg l2 .sh) (I .i64 l1.length) (I .i64 i) H = if l1.drop i = l2.drop i then k (.exit 0) (s_slices_Equal___string_string__O0 .any) H else k .ret (s_slices_Equal___string_string__O0 (Bo false)) H := by
  intro m
  induction m with
  | zero => intro i H h; omega
  | succ m ih =>
    intro i H hm hi
    unfold s_slices_Equal___string_string__L0 s_slices_Equal___string_string__B0
    by_cases h : i < l1.length
    · have d1 : l1.drop i = l1[i] :: l1.drop (i + 1) := List.drop_eq_getElem_cons h
      have d2 : l2.drop i = l2[i] :: l2.drop (i + 1) := List.drop_eq_getElem_cons (by omega)
      have h' : i < l2.length := by omega
      rw [d1, d2]
      by_cases e : l1[i] = l2[i]
      · have ih' := ih (i + 1) H (by omega) (by omega)
        have hi2 : ((i + 1 : Nat) : Int) = (i : Int) + 1 := by omega
        rw [hi2] at ih'
        simp -implicitDefEqProofs (disch := first | omega | (simp only [List.length_set, List.length_append, List.length_cons, List.length_nil, List.length_take, List.length_drop, List.length_map]; omega) | simp) [wrap_i64, wrap_u16_id, wrap_u8_id, tdiv_pos, tmod_pos, -getElem?_pos, -getElem?_neg, -List.length_eq_zero_iff, -List.getElem_cons_drop, h, h', e, ih']
      · simp -implicitDefEqProofs (disch := first | omega | (simp only [List.length_set, List.length_append, List.length_cons, List.length_nil, List.length_take, List.length_drop, List.length_map]; omega) | simp) [wrap_i64, wrap_u16_id, wrap_u8_id, tdiv_pos, tmod_pos, -getElem?_pos, -getElem?_neg, -List.length_eq_zero_iff, -List.getElem_cons_drop, h, h', e]
    · have d1 : l1.drop i = [] := by simp; omega
      have d2 : l2.drop i = [] := by simp; omega
      rw [d1, d2, if_pos rfl]
      simp -implicitDefEqProofs (disch := first | omega | (simp only [List.length_set, List.length_append, List.length_cons, List.length_nil, List.length_take, List.length_drop, List.length_map]; omega) | simp) [wrap_i64, wrap_u16_id, wrap_u8_id, tdiv_pos, tmod_pos, -getElem?_pos, -getElem?_neg, -List.length_eq_zero_iff, -List.getElem_cons_drop, h]
theorem eqS_c (n : Nat) (l1 l2 : List ByteArray) (t1 t2 : Tag) (hl1 : l1.length ≤ 1000000) (hn : l1.length + 2 ≤ n) : cP n 73 false [LV 1 Sg l1 t1, LV 1 Sg l2 t2] = some (Bo (decide (l1 = l2))) := by
  obtain ⟨n, rfl⟩ : ∃ m, n = m + 1 := ⟨n - 1, by omega⟩
  by_cases hl : l1.length = l2.length
  · have q : ∀ K, loopG [0, 1, 12, 13] [4] 26 (s_slices_Equal___string_string__b0 n 0) n (s_slices_Equal___string_string__I0 (LV 1 Sg l1 .sh) (LV 1 Sg l2 .sh) (I .i64 l1.length) (I .i64 0)) [] K = _ := fun K => (s_slices_Equal___string_string__L0_eq _ _ _ _ _ _ _ _ _).trans (eqS_L n 0 K l1 l2 hl hl1 n 0 [] (by omega) (by omega))
    by_cases e : l1 = l2
    · have q2 := fun K => (q K).trans (if_pos (by simp [e]))
      exact cP_of (r := Bo true) (args' := [LV 1 Sg l1 .sh, LV 1 Sg l2 .sh]) (by simp [argEl_eq]) ((s_slices_Equal___string_string__eq _ _ _ _ _).trans (by unfold s_slices_Equal___string_string_; simp -implicitDefEqProofs (disch := first | omega | (simp only [List.length_set, List.length_append, List.length_cons, List.length_nil, List.length_take, List.length_drop, List.length_map]; omega) | simp) [wrap_i64, wrap_u16_id, wrap_u8_id, tdiv_pos, tmod_pos, -getElem?_pos, -getElem?_neg, -List.length_eq_zero_iff, -List.getElem_cons_drop, q2, s_slices_Equal___string_string__O0]; first | exact rfl | exact ⟨rfl, rfl⟩)) (by simp [e])
    · have q2 := fun K => (q K).trans (if_neg (by simpa using e))
      exact cP_of (r := Bo false) (args' := [LV 1 Sg l1 .sh, LV 1 Sg l2 .sh]) (by simp [argEl_eq]) ((s_slices_Equal___string_string__eq _ _ _ _ _).trans (by unfold s_slices_Equal___string_string_; simp -implicitDefEqProofs (disch := first | omega | (simp only [List.length_set, List.length_append, List.length_cons, List.length_nil, List.length_take, List.length_drop, List.length_map]; omega) | simp) [wrap_i64, wrap_u16_id, wrap_u8_id, tdiv_pos, tmod_pos, -getElem?_pos, -getElem?_neg, -List.length_eq_zero_iff, -List.getElem_cons_drop, q2, s_slices_Equal___string_string__O0]; first | exact rfl | exact ⟨rfl, rfl⟩)) (by simp [e])
  · have e : ¬ l1 = l2 := fun h => hl (by rw [h])
    exact cP_of (r := Bo false) (args' := [LV 1 Sg l1 .sh, LV 1 Sg l2 .sh]) (by simp [argEl_eq]) ((s_slices_Equal___string_string__eq _ _ _ _ _).trans (by unfold s_slices_Equal___string_string_; simp -implicitDefEqProofs (disch := first | omega | (simp only [List.length_set, List.length_append, List.length_cons, List.length_nil, List.length_take, List.length_drop, List.length_map]; omega) | simp) [wrap_i64, wrap_u16_id, wrap_u8_id, tdiv_pos, tmod_pos, -getElem?_pos, -getElem?_neg, -List.length_eq_zero_iff, -List.getElem_cons_drop]; first | exact rfl | exact ⟨rfl, rfl⟩)) (by simp [e])
theorem ansSame_c (n : Nat) (x y : An) (t1 t2 t3 u1 u2 u3 : Tag) (hb : x.bits.length ≤ 10000) (hw : x.words.length ≤ 10000) (ht : x.texts.length ≤ 10000) (hn : 10010 ≤ n) : cP n 34 false [anE x t1 t2 t3, anE y u1 u2 u3] = some (Bo (decide (x.exc = y.exc) && decide (x.bits = y.bits) && decide (x.words = y.words) && decide (x.texts = y.texts))) := by
  obtain ⟨n, rfl⟩ : ∃ m, n = m + 1 := ⟨n - 1, by omega⟩
  have k1 := eqB_c n x.bits y.bits .sh .sh (by omega) (by omega)
  have k2 := eq16_c n x.words y.words .sh .sh (by omega) (by omega)
  have k3 := eqS_c n x.texts y.texts .sh .sh (by omega) (by omega)
  have go : ∀ r, (∃ H', s_answer_Same n [] 0 (anE x .sh .sh .sh) (anE y .sh .sh .sh) = some (Bo r, H')) → cP (n + 1) 34 false [anE x t1 t2 t3, anE y u1 u2 u3] = some (Bo r) := by
    intro r ⟨H', h⟩
    exact cP_of (r := Bo r) (args' := [anE x .sh .sh .sh, anE y .sh .sh .sh]) (by simp [argEl_eq, anE]) ((s_answer_Same_eq _ _ _ _ _).trans h) (by simp)
  generalize decide (x.bits = y.bits) = b1 at *
  generalize decide (x.words = y.words) = b2 at *
  generalize decide (x.texts = y.texts) = b3 at *
  by_cases c0 : x.exc = y.exc
  · rw [decide_eq_true c0]
    cases b1
    · refine go false ?_
      exact ⟨_, by unfold s_answer_Same anE at *; simp -implicitDefEqProofs (disch := first | omega | (simp only [List.length_set, List.length_append, List.length_cons, List.length_nil, List.length_take, List.length_drop, List.length_map]; omega) | simp) [wrap_i64, wrap_u16_id, wrap_u8_id, tdiv_pos, tmod_pos, -getElem?_pos, -getElem?_neg, -List.length_eq_zero_iff, -List.getElem_cons_drop, c0, k1]; rfl⟩
    cases b2
    · refine go false ?_
      exact ⟨_, by unfold s_answer_Same anE at *; simp -implicitDefEqProofs (disch := first | omega | (simp only [List.length_set, List.length_append, List.length_cons, List.length_nil, List.length_take, List.length_drop, List.length_map]; omega) | simp) [wrap_i64, wrap_u16_id, wrap_u8_id, tdiv_pos, tmod_pos, -getElem?_pos, -getElem?_neg, -List.length_eq_zero_iff, -List.getElem_cons_drop, c0, k1, k2]; rfl⟩
    · refine go b3 ?_
      exact ⟨_, by unfold s_answer_Same anE at *; simp -implicitDefEqProofs (disch := first | omega | (simp only [List.length_set, List.length_append, List.length_cons, List.length_nil, List.length_take, List.length_drop, List.length_map]; omega) | simp) [wrap_i64, wrap_u16_id, wrap_u8_id, tdiv_pos, tmod_pos, -getElem?_pos, -getElem?_neg, -List.length_eq_zero_iff, -List.getElem_cons_drop, c0, k1, k2, k3]; rfl⟩
  · rw [decide_eq_false c0]
    refine go false ?_
    exact ⟨_, by unfold s_answer_Same anE at *; simp -implicitDefEqProofs (disch := first | omega | (simp only [List.length_set, List.length_append, List.length_cons, List.length_nil, List.length_take, List.length_drop, List.length_map]; omega) | simp) [wrap_i64, wrap_u16_id, wrap_u8_id, tdiv_pos, tmod_pos, -getElem?_pos, -getElem?_neg, -List.length_eq_zero_iff, -List.getElem_cons_drop, c0]; rfl⟩
end Go.Proofs.Ytjkofefcoeejbaa

/- Answers: the law's awake; the arguments' shapes. -/
namespace Go.Proofs.Ytjkofefcoeejbaa
open Go
set_option linter.unusedSimpArgs false
set_option linter.unusedVariables false
theorem awake07 (n : Nat) (hn : n = 39998) : cP2 (n + 1) 25 false [] = some (Bo true) := by
  have h : (callG Try.prog ENV2 39999 25 [] [] 0).map (·.1) = some (.flat (.bool true)) := by kernel_rfl
  obtain ⟨⟨d, H'⟩, h, rfl⟩ := Option.map_eq_some_iff.1 h
  subst hn
  exact cP2_of (args' := []) (by simp) h (by simp)
end Go.Proofs.Ytjkofefcoeejbaa

/- Answers that come in; what the laws ask of them, in plain words. -/
namespace Go.Proofs.Ytjkofefcoeejbaa
open Go
set_option linter.unusedSimpArgs false
set_option linter.unusedVariables false
structure AnTy (x : An) : Prop where
  w : Words x.words
  c : -9223372036854775808 ≤ x.exc ∧ x.exc < 9223372036854775808
  s : ∀ s ∈ x.texts, s.size ≤ 281474976710656
theorem long_size : ∀ (l : List ByteArray) (n : Int), 0 ≤ n → n ≤ 900 → longI n l ≤ 900 → ∀ s ∈ l, s.size ≤ 900
  | [], _, _, _, _ => by simp
  | s :: l, n, h0, h1, h => by
    unfold longI at h
    rw [if_pos (by omega)] at h
    have hg := longI_ge l (n + 2 + (s.size : Int))
    intro t ht
    rcases List.mem_cons.1 ht with rfl | ht
    · omega
    · exact long_size l _ (by omega) (by omega) h t ht
theorem large_open {x : An} (h : anLarge x = false) : x.bits.length ≤ 3000 ∧ x.words.length ≤ 300 ∧ x.texts.length ≤ 300 ∧ longI 7 x.texts ≤ 900 := by
  unfold anLarge at h
  simp only [Bool.or_eq_false_iff, decide_eq_false_iff_not] at h
  omega
theorem AnTy.ok {x : An} (h : AnTy x) (hl : anLarge x = false) : AnOk x := by
  obtain ⟨h1, h2, h3, h4⟩ := large_open hl
  exact ⟨h.w, fun s hs => Nat.le_trans (long_size x.texts 7 (by omega) (by omega) h4 s hs) (by decide), by omega⟩
theorem shp_sg {d : Nat} {e : List DV} (h : Shp Try.prog (d + 1) 9 e) : ∃ b : ByteArray, elOf (isAgT Try.prog 9) e = Sg b ∧ b.size ≤ 281474976710656 := by
  obtain ⟨b, rfl, hb⟩ := shp_string Try.underlying9 h
  exact ⟨b, by kernel_rfl, Nat.le_trans hb (by decide)⟩
theorem shp_an {d : Nat} {e : List DV} (h : Shp Try.prog (d + 3) 47 e) : ∃ x : An, elOf (isAgT Try.prog 47) e = anE x .sh .sh .sh ∧ AnTy x := by
  have h := shp_struct Try.underlying47 h
  simp only [List.map_cons, List.map_nil, ShpFs] at h
  obtain ⟨a, _, rfl, ha, i, _, rfl, hi, g, _, rfl, hg, t, _, rfl, ht, rfl⟩ := h
  obtain ⟨a, rfl, wa⟩ := shp_int (k := .i64) Try.underlying3 ha
  obtain ⟨i, rfl, _, _⟩ := shp_slice (e := 4) Bo (fun _ => True) (sz := 1) Try.underlying23 (by kernel_rfl) (fun x hx => shp_bo hx) hi
  obtain ⟨g, rfl, _, wg⟩ := shp_ints (k := .u16) Try.underlying22 Try.underlying24 (by kernel_rfl) hg
  obtain ⟨t, rfl, _, wt⟩ := shp_slice (e := 9) Sg (fun s => s.size ≤ 281474976710656) (sz := 1) Try.underlying45 (by kernel_rfl) (fun x hx => shp_sg hx) ht
  exact ⟨⟨a, i, g, t⟩, by kernel_rfl, ⟨fun x hx => wf_u16 (wg x hx), wf_i64 wa, wt⟩⟩
theorem read_text (a : Rq) (x : An) (ok : AnOk x) (h : ansV a x = true) : ansReadV a (ansTextV a x) = (x, 0) := by
  unfold ansReadV
  rw [if_pos (ansV_open h).1, guess_back a x ok h, if_pos ⟨h, rfl⟩]
theorem read_back (a : Rq) (b : List Int) (h : (ansReadV a b).2 = 0) : ansV a (ansReadV a b).1 = true ∧ ansTextV a (ansReadV a b).1 = b := by
  unfold ansReadV at h ⊢
  split
  · rename_i hr
    rw [if_pos hr] at h
    split
    · rename_i hc; exact hc
    · rename_i hc
      rw [if_neg hc] at h
      exact absurd h (by decide)
  · rename_i hr
    rw [if_neg hr] at h
    exact absurd h (by decide)
theorem read_zero (a : Rq) (b : List Int) (h : (ansReadV a b).2 ≠ 0) : (ansReadV a b).1 = anZ := by
  unfold ansReadV at h ⊢
  split
  · rename_i hr
    rw [if_pos hr] at h
    split
    · rename_i hc
      rw [if_pos hc] at h
      exact absurd rfl h
    · rfl
  · rfl
theorem guess_words (a : Rq) (b : List Int) : Words (guessA a b).words := by
  unfold guessA
  split
  · intro x hx; cases hx
  split
  · intro x hx; cases hx
  split
  · exact wdI_words _
  split
  · intro x hx; cases hx
  · intro x hx; cases hx
theorem read_words (a : Rq) (b : List Int) : Words (ansReadV a b).1.words := by
  unfold ansReadV
  split
  · split
    · exact guess_words a b
    · intro x hx; cases hx
  · intro x hx; cases hx
theorem nm_len (addr : Int) : ∀ (l : List ByteArray) (n : Int) (i : Nat), n ≤ 253 → fitT n l = true → n + ((nmI addr i l).length : Int) ≤ 253
  | [], n, i, h, _ => by simpa [nmI] using h
  | s :: l, n, i, h, hf => by
    unfold fitT at hf
    split at hf
    · cases hf
    · rename_i hc
      have ih := nm_len addr l _ (i + 1) (by omega) hf
      have hl := strI_len s
      simp only [nmI, cntI, List.length_cons, List.length_append]
      omega
theorem ansText_len (a : Rq) (x : An) (h : ansV a x = true) : 2 ≤ (ansTextV a x).length ∧ (ansTextV a x).length ≤ 253 := by
  obtain ⟨h0, h1, h2, h3, h4, h5⟩ := ansV_open h
  obtain ⟨l1, l2, l3, l4, _⟩ := formed_le a h0.1
  by_cases hx : 0 < x.exc
  · unfold ansTextV
    rw [if_pos hx]
    simp
  · have hz : x.exc = 0 := by omega
    have hq := fit_pos h0.1.2.1 (cntV_le _).1
    unfold ansTextV
    rw [if_neg hx]
    rcases rd_cases a.code with ⟨c1, c2, c3⟩ | ⟨c1, c2, c3⟩ | ⟨c1, c2, c3⟩ | ⟨c1, c2, c3⟩ <;> simp only [c1, c2, c3, hz, and_true, if_true, Bool.false_eq_true, if_false, false_and, true_and] at h3 h4 h5 ⊢
    · have := pkI_length x.bits
      simp only [cntI, List.length_cons]
      omega
    · have := wbI_length x.words
      have : cntV a.code = 125 := by
        unfold rdWords at c2
        have := of_decide_eq_true c2
        unfold cntV
        rw [if_neg (by omega), if_pos this]
      simp only [cntI, List.length_cons]
      omega
    · obtain ⟨k1, k2, k3, k4⟩ := fitA_open h5
      have := nm_len a.addr x.texts 7 0 (by omega) k4
      simp only [namedV, List.length_cons, List.length_append, List.length_nil]
      omega
    · have h5 := text_five a h0.1 (by simp [c1]) (by simp [c2]) (by simp [c3])
      have hm := text_most a h0.1
      split
      · rename_i e
        have := h5.2 e
        omega
      · rw [List.length_take]
        omega
end Go.Proofs.Ytjkofefcoeejbaa
