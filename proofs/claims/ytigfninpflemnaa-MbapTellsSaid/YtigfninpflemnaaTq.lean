/- The law MbapTells: it answers true. -/
import Derived.Test.YtigfninpflemnaaTz
import Derived.Test.YtigfninpflemnaaShp
namespace Go.Proofs.Ytigfninpflemnaa
open Go
set_option linter.unusedSimpArgs false
theorem awake04 : cP 1999 52 false [] = some (Bo true) := by kernel_rfl
theorem Bytes.part {l : List Int} (h : Bytes l) : Bytes (rdPdu l) := by
  intro x hx
  unfold rdPdu at hx
  split at hx
  · exact h x (List.mem_of_mem_take (List.mem_of_mem_drop hx))
  · simp at hx
theorem rdPdu_len (l : List Int) : (rdPdu l).length ≤ l.length := by
  unfold rdPdu
  split
  · simp; omega
  · simp
theorem MbapTells_run (n : Nat) (up : cP n 52 false [] = some (Bo true)) (hn : 1500 ≤ n) (t u : Int) (p : List Int) (t2 u2 : Int) (p2 : List Int) (b : List Int)
    (h0 : 0 ≤ t) (h1 : t < 65536) (hp : Bytes p) (hp2 : Bytes p2) (hb : Bytes b) :
    ∃ H', s_triunelaw04_MbapTells n [] 0 (frameV t u p .sh) (frameV t2 u2 p2 .sh) (LV 1 (I .u8) b .sh) = some (Bo true, H') := by
  by_cases c1 : 400 < p.length
  · exact ⟨_, by unfold s_triunelaw04_MbapTells frameV; simp -implicitDefEqProofs (disch := first | omega | simp) [wrap_i64, wrap_u16_id, wrap_u8_id, tdiv_pos, tmod_pos, -List.length_eq_zero_iff, -List.getElem_cons_drop, up]; rfl⟩
  by_cases c2 : 400 < p2.length
  · exact ⟨_, by unfold s_triunelaw04_MbapTells frameV; simp -implicitDefEqProofs (disch := first | omega | simp) [wrap_i64, wrap_u16_id, wrap_u8_id, tdiv_pos, tmod_pos, -List.length_eq_zero_iff, -List.getElem_cons_drop, up]; rfl⟩
  by_cases c3 : 600 < b.length
  · exact ⟨_, by unfold s_triunelaw04_MbapTells frameV; simp -implicitDefEqProofs (disch := first | omega | simp) [wrap_i64, wrap_u16_id, wrap_u8_id, tdiv_pos, tmod_pos, -List.length_eq_zero_iff, -List.getElem_cons_drop, up]; rfl⟩
  have k1 := mbap_Bytes_c n (by omega) t u p .sh h0 h1 (by omega)
  have k2 := ref04_Bytes_c n (by omega) t u p .sh h0 h1 (by omega)
  have k3 := mbap_Read_c n b .sh hb (by omega) (by omega)
  have k4 := ref04_Read_c n b .sh hb (by omega) (by omega)
  have k5 : (frameOut t u p).length ≤ 500 := by unfold frameOut; split <;> simp [frameBytes]; omega
  have k6 := ref01_Same_c n (frameOut t u p) (frameOut t u p) .ti .sh (by omega) (by omega)
  have k7 := ref04_Same_c n (rdTid b) (rdUnit b) (rdTid b) (rdUnit b) (rdPdu b) (rdPdu b) .sh .sh (by have := rdPdu_len b; omega) (by have := rdPdu_len b; omega)
  have k8 := mbap_Same_c n t u t2 u2 p p2 .sh .sh hp hp2 (by omega)
  have k9 := ref04_Same_c n t u t2 u2 p p2 .sh .sh (by omega) (by omega)
  simp only [frameV, decide_true, and_self] at k1 k2 k6 k7 k8 k9
  simp only [rdV, frameV] at k3 k4
  exact ⟨_, by unfold s_triunelaw04_MbapTells frameV; simp -implicitDefEqProofs (disch := first | omega | simp) [wrap_i64, wrap_u16_id, wrap_u8_id, tdiv_pos, tmod_pos, -List.length_eq_zero_iff, -List.getElem_cons_drop, up, k1, k2, k3, k4, k6, k7, k8, k9]; rfl⟩

theorem bytes_of {l : List Int} (h : ∀ a ∈ l, (Lit.int .u8 a).wf = true) : Bytes l := fun x hx => wf_u8 (h x hx)
theorem shp_frame {e : List DV} (h : Shp Try.prog 8 68 e) : ∃ t u p, elOf (isAgT Try.prog 68) e = frameV t u p .sh ∧ (0 ≤ t ∧ t < 65536) ∧ (0 ≤ u ∧ u < 256) ∧ Bytes p := by
  have h := shp_struct Try.underlying68 h
  simp only [List.map_cons, List.map_nil, ShpFs] at h
  obtain ⟨a, _, rfl, ha, b, _, rfl, hb, c, _, rfl, hc, rfl⟩ := h
  obtain ⟨t, rfl, ht⟩ := shp_int (k := .u16) Try.underlying22 ha
  obtain ⟨u, rfl, hu⟩ := shp_int (k := .u8) Try.underlying5 hb
  obtain ⟨p, rfl, _, hp⟩ := shp_ints (k := .u8) Try.underlying23 Try.underlying5 (by kernel_rfl) hc
  exact ⟨t, u, p, by kernel_rfl, wf_u16 ht, wf_u8 hu, bytes_of hp⟩
theorem MbapTells_all (e0 e1 e2 : List DV) (h0 : Shp Try.prog 8 68 e0) (h1 : Shp Try.prog 8 68 e1) (h2 : Shp Try.prog 8 23 e2) :
    ∃ H', callG Try.prog ENV 2000 10 [elOf (isAgT Try.prog 68) e0, elOf (isAgT Try.prog 68) e1, elOf (isAgT Try.prog 23) e2] [] 0 = some (.flat (.bool true), H') := by
  obtain ⟨t, u, p, r0, b1, _, b3⟩ := shp_frame h0
  obtain ⟨t2, u2, p2, r1, _, _, c3⟩ := shp_frame h1
  obtain ⟨b, rfl, _, hb⟩ := shp_ints (k := .u8) Try.underlying23 Try.underlying5 (by kernel_rfl) h2
  obtain ⟨H', h⟩ := MbapTells_run 1999 awake04 (by omega) t u p t2 u2 p2 b b1.1 b1.2 b3 c3 (bytes_of hb)
  have r2 : elOf (isAgT Try.prog 23) [LV 1 (I .u8) b .sh] = LV 1 (I .u8) b .sh := by kernel_rfl
  rw [r0, r1, r2]
  exact ⟨H', (s_triunelaw04_MbapTells_eq 1999 [] 0 _ _ _).trans h⟩
end Go.Proofs.Ytigfninpflemnaa
