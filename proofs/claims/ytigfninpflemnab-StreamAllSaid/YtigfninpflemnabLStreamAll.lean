/- The law StreamAll: it answers true. -/
import Derived.Test.YtigfninpflemnabFLStreamAll
import Derived.Test.YtigfninpflemnabGOwn05k
import Derived.Test.YtigfninpflemnabGTakeOf
import Derived.Test.YtigfninpflemnabGMbapB
import Derived.Test.YtigfninpflemnabGShpF
-- NEEDS: triunelaw05.StreamAll
namespace Go.Proofs.Ytigfninpflemnab
open Go
set_option linter.unusedSimpArgs false
set_option linter.unusedVariables false
theorem awake05 : cP 3999 35 false [] = some (Bo true) := by kernel_rfl
def FrTy (f : Fr) : Prop := (0 ≤ f.1 ∧ f.1 < 65536) ∧ (0 ≤ f.2.1 ∧ f.2.1 < 256) ∧ Bytes f.2.2
theorem frB_all_len : ∀ l : List Fr, (∀ f ∈ l, f.2.2.length ≤ 253) → ((l.map frB).flatten).length ≤ 260 * l.length
  | [], _ => by simp
  | f :: l, h => by
    have := frB_all_len l (fun g hg => h g (by simp [hg]))
    have h1 := h f (by simp)
    have h2 := frB_len f
    simp only [List.map_cons, List.flatten_cons, List.length_append, List.length_cons]
    omega
theorem all_L (n : Nat) (hn : 1500 ≤ n) (l : List Fr) (tl : Tag) (x1 : DV) (hl : l.length ≤ 20) (hty : ∀ f ∈ l, FrTy f) : ∀ (m i : Nat) (t : Tag) (H : Heap), l.length < m + i → i ≤ l.length → (∀ f ∈ l.take i, FrVal f) → TgOk t 5 1 0 (((l.take i).map frB).flatten).length H → WfH H →
    (∃ x6 H', ∀ K, s_triunelaw05_StreamAll_L0 n 0 K m (LV 3 frE l tl) x1 (Bo true) (LV 1 (I .u8) (((l.take i).map frB).flatten) t) (I .i64 i) H = K .ret (s_triunelaw05_StreamAll_O0 (LV 3 frE l tl) x1 (Bo true) (Bo true) x6) H') ∨
    (∃ t' H', (∀ K, s_triunelaw05_StreamAll_L0 n 0 K m (LV 3 frE l tl) x1 (Bo true) (LV 1 (I .u8) (((l.take i).map frB).flatten) t) (I .i64 i) H = K (.exit 0) (s_triunelaw05_StreamAll_O0 (LV 3 frE l tl) x1 .any (Bo true) (LV 1 (I .u8) ((l.map frB).flatten) t')) H') ∧ (∀ f ∈ l, FrVal f) ∧ WfH H') := by
  intro m
  induction m with
  | zero => intro i t H h; omega
  | succ m ih =>
    intro i t H hm hi hval ht hw
    by_cases h : i < l.length
    · have hf := hty _ (List.getElem_mem h)
      by_cases c1 : 400 < l[i].2.2.length
      · exact .inl ⟨_, _, fun K => by unfold s_triunelaw05_StreamAll_L0 s_triunelaw05_StreamAll_B0; simp -implicitDefEqProofs (disch := first | omega | (simp only [List.length_set, List.length_append, List.length_cons, List.length_nil, List.length_take, List.length_drop, List.length_map]; omega) | simp) [wrap_i64, wrap_u16_id, wrap_u8_id, tdiv_pos, tmod_pos, -getElem?_pos, -getElem?_neg, -List.length_eq_zero_iff, -List.getElem_cons_drop, h, frE_cells, c1]; rfl⟩
      have hB := mbap_Bytes_c n (by omega) l[i].1 l[i].2.1 l[i].2.2 .sh hf.1.1 hf.1.2 (by omega)
      unfold frameV at hB
      by_cases c2 : frameErr l[i].2.2.length = 0
      · have hv : FrVal l[i] := by
          refine ⟨hf.1, hf.2.1, hf.2.2, ?_⟩
          unfold frameErr at c2
          split at c2
          · omega
          · split at c2
            · omega
            · omega
        have hO : frameOut l[i].1 l[i].2.1 l[i].2.2 = frB l[i] := by unfold frameOut; rw [if_pos c2]; rfl
        rw [hO] at hB
        have hlen : (((l.take i).map frB).flatten).length ≤ 260 * 20 := by
          have := frB_all_len (l.take i) (fun f hf => (hval f hf).2.2.2.2)
          have h2 : (l.take i).length ≤ 20 := by simp; omega
          omega
        have hfl := frB_len l[i]
        obtain ⟨t2, H2, ha, ht2, hl2, hj2, hw2, _⟩ := appG_all (e := 5) (ag := false) (sz := 1) (by_ := 1) (n0 := 0) (enc := I .u8) (xs := ((l.take i).map frB).flatten) (ys := frB l[i]) (t := t) (t' := .ti) (H := H) (fl := 0) (by omega) (by omega) ht rfl (by omega) (by omega)
        have htk : ((l.take i).map frB).flatten ++ frB l[i] = ((l.take (i + 1)).map frB).flatten := by
          rw [List.take_succ_eq_append_getElem h, List.map_append, List.flatten_append]; simp only [List.map_cons, List.map_nil, List.flatten_cons, List.flatten_nil, List.append_nil]
        rw [htk] at ha ht2
        have hi2 : ((i + 1 : Nat) : Int) = (i : Int) + 1 := by omega
        have ih' := ih (i + 1) t2 H2 (by omega) (by omega) (by
          intro f hf2
          rw [List.take_succ_eq_append_getElem h] at hf2
          rcases List.mem_append.mp hf2 with h3 | h3
          · exact hval f h3
          · simp at h3; rw [h3]; exact hv) ht2 (hw2 hw)
        rw [hi2] at ih'
        rcases ih' with ⟨x6, H', q⟩ | ⟨t', H', q, q2, q3⟩
        · exact .inl ⟨x6, H', fun K => by unfold s_triunelaw05_StreamAll_L0 s_triunelaw05_StreamAll_B0; simp -implicitDefEqProofs (disch := first | omega | (simp only [List.length_set, List.length_append, List.length_cons, List.length_nil, List.length_take, List.length_drop, List.length_map]; omega) | simp) [wrap_i64, wrap_u16_id, wrap_u8_id, tdiv_pos, tmod_pos, -getElem?_pos, -getElem?_neg, -List.length_eq_zero_iff, -List.getElem_cons_drop, h, frE_cells, c1, hB, c2, ha, q, -List.map_take]⟩
        · exact .inr ⟨t', H', fun K => by unfold s_triunelaw05_StreamAll_L0 s_triunelaw05_StreamAll_B0; simp -implicitDefEqProofs (disch := first | omega | (simp only [List.length_set, List.length_append, List.length_cons, List.length_nil, List.length_take, List.length_drop, List.length_map]; omega) | simp) [wrap_i64, wrap_u16_id, wrap_u8_id, tdiv_pos, tmod_pos, -getElem?_pos, -getElem?_neg, -List.length_eq_zero_iff, -List.getElem_cons_drop, h, frE_cells, c1, hB, c2, ha, q, -List.map_take], q2, q3⟩
      · exact .inl ⟨_, _, fun K => by unfold s_triunelaw05_StreamAll_L0 s_triunelaw05_StreamAll_B0; simp -implicitDefEqProofs (disch := first | omega | (simp only [List.length_set, List.length_append, List.length_cons, List.length_nil, List.length_take, List.length_drop, List.length_map]; omega) | simp) [wrap_i64, wrap_u16_id, wrap_u8_id, tdiv_pos, tmod_pos, -getElem?_pos, -getElem?_neg, -List.length_eq_zero_iff, -List.getElem_cons_drop, h, frE_cells, c1, hB, c2, -List.map_take]; rfl⟩
    · have : i = l.length := by omega
      subst this
      rw [List.take_length] at hval ht ⊢
      exact .inr ⟨t, H, fun K => by unfold s_triunelaw05_StreamAll_L0 s_triunelaw05_StreamAll_B0; simp -implicitDefEqProofs (disch := first | omega | (simp only [List.length_set, List.length_append, List.length_cons, List.length_nil, List.length_take, List.length_drop, List.length_map]; omega) | simp) [wrap_i64, wrap_u16_id, wrap_u8_id, tdiv_pos, tmod_pos, -getElem?_pos, -getElem?_neg, -List.length_eq_zero_iff, -List.getElem_cons_drop], hval, hw⟩
theorem StreamAll_run (n : Nat) (up : cP n 35 false [] = some (Bo true)) (hn : 1000 ≤ n) (hn2 : 9000 ≤ n) (l : List Fr) (cut : Int) (hty : ∀ f ∈ l, FrTy f) :
    ∃ H', s_triunelaw05_StreamAll n [] 0 (LV 3 frE l .sh) (I .i64 cut) = some (Bo true, H') := by
  by_cases c0 : 20 < l.length
  · exact ⟨_, by unfold s_triunelaw05_StreamAll; simp -implicitDefEqProofs (disch := first | omega | (simp only [List.length_set, List.length_append, List.length_cons, List.length_nil, List.length_take, List.length_drop, List.length_map]; omega) | simp) [wrap_i64, wrap_u16_id, wrap_u8_id, tdiv_pos, tmod_pos, -getElem?_pos, -getElem?_neg, -List.length_eq_zero_iff, -List.getElem_cons_drop, up]; rfl⟩
  rcases all_L n (by omega) l .sh (I .i64 cut) (by omega) hty n 0 .ti [] (by omega) (by omega) (by simp) (.inl rfl) wf_nil with ⟨x6, H', q⟩ | ⟨t', H', q, hval, hw⟩
  · have q' : ∀ K, loopG [0, 1, 5, 6, 7] [0, 1, 4, 5, 6] 98 (s_triunelaw05_StreamAll_b0 n 0) n (s_triunelaw05_StreamAll_I0 (LV 3 frE l .sh) (I .i64 cut) (Bo true) (.list 0 [] .ti) (I .i64 0)) [] K = _ := fun K => (s_triunelaw05_StreamAll_L0_eq _ _ _ _ _ _ _ _ _ _).trans (q K)
    exact ⟨_, by unfold s_triunelaw05_StreamAll; simp -implicitDefEqProofs (disch := first | omega | (simp only [List.length_set, List.length_append, List.length_cons, List.length_nil, List.length_take, List.length_drop, List.length_map]; omega) | simp) [wrap_i64, wrap_u16_id, wrap_u8_id, tdiv_pos, tmod_pos, -getElem?_pos, -getElem?_neg, -List.length_eq_zero_iff, -List.getElem_cons_drop, up, q', s_triunelaw05_StreamAll_O0]; rfl⟩
  · have q' : ∀ K, loopG [0, 1, 5, 6, 7] [0, 1, 4, 5, 6] 98 (s_triunelaw05_StreamAll_b0 n 0) n (s_triunelaw05_StreamAll_I0 (LV 3 frE l .sh) (I .i64 cut) (Bo true) (.list 0 [] .ti) (I .i64 0)) [] K = _ := fun K => (s_triunelaw05_StreamAll_L0_eq _ _ _ _ _ _ _ _ _ _).trans (q K)
    have hBl : ((l.map frB).flatten).length ≤ 5200 := by
      have := frB_all_len l (fun f hf => (hval f hf).2.2.2.2); omega
    have hBb : Bytes ((l.map frB).flatten) := by
      intro x hx
      obtain ⟨y, hy, hxy⟩ := List.mem_flatten.mp hx
      obtain ⟨f, hf, rfl⟩ := List.mem_map.mp hy
      exact frB_bytes (hval f hf) x hxy
    have hF := take_frames l hval
    generalize (l.map frB).flatten = B at *
    have hN := stream_New_c n 0 H' (by omega)
    have hp : ∀ k x, binD Try.prog .eql 87 x (.const (.pointer none)) (.ptr k 0) (.flat (.pointer none)) = some (Bo false) := fun k x => binD_ptr_nil Try.underlying87 _ _ _ _
    obtain ⟨c, hc⟩ : ∃ c : Nat, min (max cut 0) (B.length : Int) = (c : Int) := ⟨(min (max cut 0) (B.length : Int)).toNat, by omega⟩
    have hcl : c ≤ B.length := by omega
    have hw0 : WfH (H' ++ [stB [] .ti false]) := hw.app (by intro b hb; simp at hb; subst hb; intro d hd; simp at hd; rcases hd with rfl | rfl <;> simp <;> rfl)
    obtain ⟨tb1, to1, g1, g2, hT1⟩ := stream_Take_c n H'.length 0 (H' ++ [stB [] .ti false]) [] (B.take c) .ti (slT t' (c == B.length)) false (by simp; omega) (by simp) hw0 (.inr rfl) (by omega) (fun x hx => by simp at hx) (fun x hx => hBb x (List.mem_of_mem_take hx)) (by simp; omega)
    simp only [stOut, stNext, Bool.false_eq_true, if_false, List.nil_append] at hT1
    have happ := takeF_app (B.take c) (B.drop c)
    rw [List.take_append_drop, hF] at happ
    have he1 : (takeF (B.take c)).2.2 ≠ 2 := by
      intro h
      rw [if_pos h] at happ
      simp at happ
    rw [if_neg he1] at happ
    have he1' : (takeF (B.take c)).2.2 = 0 := by rcases takeF_err (B.take c) with h | h; exact h; exact absurd h he1
    have hd1 : decide ((takeF (B.take c)).2.2 = 2) = false := decide_eq_false he1
    simp only [hd1] at hT1
    simp only [he1'] at hT1
    have hset1 : (H' ++ [stB [] .ti false]).set H'.length (stB (takeF (B.take c)).2.1 tb1 false) = H' ++ [stB (takeF (B.take c)).2.1 tb1 false] := hp_set_0 _ _ _ _ _ rfl
    rw [hset1] at hT1
    have hw1 : WfH (H' ++ [stB (takeF (B.take c)).2.1 tb1 false]) := hw.app (by intro b hb; simp at hb; subst hb; intro d hd; simp at hd; rcases hd with rfl | rfl; simp [inSc_okT g1]; rfl)
    have hr1 := takeF_rest (B.take c)
    have hrb1 := takeF_bytes (B.take c) (fun x hx => hBb x (List.mem_of_mem_take hx))
    obtain ⟨tb2, to2, g3, g4, hT2⟩ := stream_Take_c n H'.length 0 (H' ++ [stB (takeF (B.take c)).2.1 tb1 false]) (takeF (B.take c)).2.1 (B.drop c) tb1 (slT t' true) false (by simp; omega) (by simp) hw1 g1 (by omega) hrb1 (hBb.drop _) (by simp; omega)
    simp only [stOut, stNext, Bool.false_eq_true, if_false] at hT2
    have e1 : l = (takeF (B.take c)).1 ++ (takeF ((takeF (B.take c)).2.1 ++ B.drop c)).1 := congrArg Prod.fst happ
    have e2 : (takeF ((takeF (B.take c)).2.1 ++ B.drop c)).2 = ([], 0) := (congrArg Prod.snd happ).symm
    have e3 : (takeF ((takeF (B.take c)).2.1 ++ B.drop c)).2.2 = 0 := by rw [e2]
    have e4 : (takeF ((takeF (B.take c)).2.1 ++ B.drop c)).2.1 = [] := by rw [e2]
    simp only [e3, e4] at hT2
    have hset2 : (H' ++ [stB (takeF (B.take c)).2.1 tb1 false]).set H'.length (stB [] tb2 (decide ((0 : Int) = 2))) = H' ++ [stB [] tb2 false] := hp_set_0 _ _ _ _ _ rfl
    rw [hset2] at hT2
    generalize hF1 : (takeF (B.take c)).1 = F1 at *
    generalize hF2 : (takeF ((takeF (B.take c)).2.1 ++ B.drop c)).1 = F2 at *
    generalize hHs : H' ++ [stB [] tb2 false] = Hs at *
    have hs0 : Hs[H'.length]? = some (stB [] tb2 false) := by rw [← hHs]; simp
    have hsl := hp_lt hs0
    have hl12 : F1.length + F2.length = l.length := by rw [e1]; simp
    obtain ⟨u1, G1, o1, p1, p2, p3, p4⟩ := own05_k n 0 F1 to1 Hs (by omega) (by omega) (by omega)
    obtain ⟨u2, G2, o2, q1, q2, q3, q4⟩ := own05_k n 0 F2 to2 G1 (by omega) (by omega) (by omega)
    have p1' : TgOk u1 132 3 Hs.length F1.length G2 := by
      rcases p1 with rfl | ⟨z, rfl, hz, hzn⟩
      · exact .inl rfl
      · exact .inr ⟨z, rfl, (q3 z (hp_lt hz)).trans hz, hzn⟩
    obtain ⟨u3, G3, o3, r1, r2, r3, r4, _⟩ := appG_all (e := 132) (ag := true) (sz := 3) (by_ := 32) (n0 := Hs.length) (enc := frE) (xs := F1) (ys := F2) (t := u1) (t' := u2) (H := G2) (fl := 0) (by omega) (by omega) p1' rfl (by omega) (by omega)
    obtain ⟨u4, G4, o4, s1, s2, s3, s4⟩ := own05_k n 0 l .sh G3 (by omega) (by omega) (by omega)
    rw [← e1] at o3
    have hfrs : FrsOk l := fun f hf => by have := (hval f hf).2.2.2.2; omega
    have hS := same05_c n l l u3 u4 (by omega) hfrs (by omega)
    simp only [decide_true] at hS
    have hk4 : G4[H'.length]? = some (stB [] tb2 false) := by rw [s3 _ (by omega), r3 _ hsl, q3 _ (by omega), p3 _ hsl]; exact hs0
    have hH := stream_Held_c n H'.length G4 _ _ _ (by omega) hk4
    simp only [List.length_nil] at hH
    have hc2 : (c : Int).toNat = c := by omega
    exact ⟨_, by unfold s_triunelaw05_StreamAll; simp -implicitDefEqProofs (disch := first | omega | (simp only [List.length_set, List.length_append, List.length_cons, List.length_nil, List.length_take, List.length_drop, List.length_map]; omega) | simp) [wrap_i64, wrap_u16_id, wrap_u8_id, tdiv_pos, tmod_pos, -getElem?_pos, -getElem?_neg, -List.length_eq_zero_iff, -List.getElem_cons_drop, up, q', s_triunelaw05_StreamAll_O0, hN, hp, hc, hT1, hT2, o1, o2, o3, o4, hS, hH]; rfl⟩
theorem shp_frT {e : List DV} (h : Shp Try.prog 7 84 e) : ∃ f : Fr, elOf (isAgT Try.prog 84) e = frE f ∧ FrTy f := by
  have h := shp_struct Try.underlying84 h
  simp only [List.map_cons, List.map_nil, ShpFs] at h
  obtain ⟨a, _, rfl, ha, b, _, rfl, hb, c, _, rfl, hc, rfl⟩ := h
  obtain ⟨t, rfl, ht⟩ := shp_int (k := .u16) Try.underlying45 ha
  obtain ⟨u, rfl, hu⟩ := shp_int (k := .u8) Try.underlying5 hb
  obtain ⟨p, rfl, _, hp⟩ := shp_ints (k := .u8) Try.underlying82 Try.underlying5 (by kernel_rfl) hc
  exact ⟨(t, u, p), by kernel_rfl, wf_u16 ht, wf_u8 hu, bytes_of hp⟩
theorem StreamAll_all (e0 e1 : List DV) (h0 : Shp Try.prog 8 81 e0) (h1 : Shp Try.prog 8 3 e1) :
    ∃ H', callG Try.prog ENV 10000 8 [elOf (isAgT Try.prog 81) e0, elOf (isAgT Try.prog 3) e1] [] 0 = some (.flat (.bool true), H') := by
  obtain ⟨l, rfl, _, hl⟩ := shp_slice (e := 84) frE FrTy (sz := 3) Try.underlying81 (by kernel_rfl) (fun x hx => shp_frT hx) h0
  obtain ⟨cut, rfl, _⟩ := shp_int (k := .i64) Try.underlying3 h1
  have r0 : elOf (isAgT Try.prog 81) [LV 3 frE l .sh] = LV 3 frE l .sh := by kernel_rfl
  have r1 : elOf (isAgT Try.prog 3) [.flat (.int .i64 cut)] = I .i64 cut := by kernel_rfl
  obtain ⟨H', h⟩ := StreamAll_run 9999 (by kernel_rfl) (by omega) (by omega) l cut hl
  rw [r0, r1]
  exact ⟨H', (s_triunelaw05_StreamAll_eq 9999 [] 0 _ _).trans h⟩
end Go.Proofs.Ytigfninpflemnab
