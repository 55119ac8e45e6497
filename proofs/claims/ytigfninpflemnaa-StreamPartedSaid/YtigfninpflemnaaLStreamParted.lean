/- The law StreamParted: it answers true. -/
import Derived.Test.YtigfninpflemnaaFLStreamParted
import Derived.Test.YtigfninpflemnaaGSame05
import Derived.Test.YtigfninpflemnaaGShpF
-- NEEDS: triunelaw05.StreamParted
namespace Go.Proofs.Ytigfninpflemnaa
open Go
set_option linter.unusedSimpArgs false
set_option linter.unusedVariables false
theorem getD_app (b c : List Int) (i : Nat) (h : i < b.length) : (b ++ c).getD i 0 = b.getD i 0 := by
  rw [List.getD_eq_getElem?_getD, List.getElem?_append_left h, ← List.getD_eq_getElem?_getD]
/-- more bytes change nothing of a frame that is whole, or wrong -/
theorem rdErr_app {b : List Int} (c : List Int) (h : rdErr b ≠ 3) : rdErr (b ++ c) = rdErr b ∧ (rdErr b = 0 → rdN (b ++ c) = rdN b) := by
  have hl : (b ++ c).length = b.length + c.length := by simp
  have h4 : 4 ≤ b.length → (b ++ c).getD 2 0 = b.getD 2 0 ∧ (b ++ c).getD 3 0 = b.getD 3 0 := fun h => ⟨getD_app b c 2 (by omega), getD_app b c 3 (by omega)⟩
  have h6 : 6 ≤ b.length → rdN (b ++ c) = rdN b := fun h => by unfold rdN; rw [getD_app b c 4 (by omega), getD_app b c 5 (by omega)]
  by_cases c4 : 4 ≤ b.length ∧ 256 * b.getD 2 0 + b.getD 3 0 ≠ 0
  · have e : rdErr b = 2 := by unfold rdErr; rw [if_pos c4]
    refine ⟨?_, fun h0 => by omega⟩
    rw [e]; unfold rdErr
    rw [if_pos ⟨by omega, by rw [(h4 c4.1).1, (h4 c4.1).2]; exact c4.2⟩]
  by_cases c6 : 6 ≤ b.length
  · have hn := h6 c6
    have c4' : ¬ (4 ≤ (b ++ c).length ∧ 256 * (b ++ c).getD 2 0 + (b ++ c).getD 3 0 ≠ 0) := by
      rw [(h4 (by omega)).1, (h4 (by omega)).2]; intro hh; exact c4 ⟨by omega, hh.2⟩
    by_cases c7 : rdN b < 2 ∨ 254 < rdN b
    · have e : rdErr b = 2 := by unfold rdErr; rw [if_neg c4, if_pos ⟨c6, c7⟩]
      refine ⟨?_, fun _ => hn⟩
      rw [e]; unfold rdErr; rw [if_neg c4', hn, if_pos ⟨by omega, c7⟩]
    by_cases c8 : (b.length : Int) < 6 + rdN b
    · exfalso; apply h; unfold rdErr; rw [if_neg c4, if_neg (by omega), if_pos (by omega)]
    · have e : rdErr b = 0 := by unfold rdErr; rw [if_neg c4, if_neg (by omega), if_neg (by omega)]
      refine ⟨?_, fun _ => hn⟩
      rw [e]; unfold rdErr; rw [if_neg c4', hn, if_neg (by omega), if_neg (by omega)]
  · exfalso; apply h; unfold rdErr; rw [if_neg c4, if_neg (by omega), if_pos (by omega)]
theorem rdErr_cases (b : List Int) : rdErr b = 0 ∨ rdErr b = 2 ∨ rdErr b = 3 := by
  unfold rdErr; split
  · exact .inr (.inl rfl)
  split
  · exact .inr (.inl rfl)
  split
  · exact .inr (.inr rfl)
  · exact .inl rfl
theorem rdFr_app {b : List Int} (c : List Int) (h : rdErr b = 0) : rdFr (b ++ c) = rdFr b ∧ (b ++ c).drop (rdLen (b ++ c)).toNat = b.drop (rdLen b).toNat ++ c := by
  have hr := rdN_lo h
  obtain ⟨h1, h2⟩ := rdErr_app c (by omega : rdErr b ≠ 3)
  have h2 := h2 h
  have h1 : rdErr (b ++ c) = 0 := h1.trans h
  constructor
  · unfold rdFr rdTid rdUnit rdPdu
    rw [h1, h, h2]
    simp only [if_true]
    rw [getD_app b c 0 (by omega), getD_app b c 1 (by omega), getD_app b c 6 (by omega), List.take_append_of_le_length (by omega)]
  · unfold rdLen
    rw [h1, h, h2]
    simp only [if_true]
    rw [List.drop_append_of_le_length (by omega)]
theorem takeF_err (b : List Int) : (takeF b).2.2 = 0 ∨ (takeF b).2.2 = 2 := by
  induction b using takeF.induct with
  | case1 b h ih => rw [takeF_0 h]; exact ih
  | case2 b h h2 => rw [takeF_2 h2]; exact .inr rfl
  | case3 b h h2 => rw [takeF_3 h h2]; exact .inl rfl
theorem takeF_rest (b : List Int) : (takeF b).2.1.length < 260 := by
  induction b using takeF.induct with
  | case1 b h ih => rw [takeF_0 h]; exact ih
  | case2 b h h2 => rw [takeF_2 h2]; simp
  | case3 b h h2 =>
    rw [takeF_3 h h2]
    show b.length < 260
    unfold rdErr at h h2
    split at h
    · simp_all
    split at h
    · simp_all
    split at h
    · omega
    · simp_all
theorem takeF_app (b c : List Int) : takeF (b ++ c) = if (takeF b).2.2 = 2 then ((takeF b).1, [], 2) else ((takeF b).1 ++ (takeF ((takeF b).2.1 ++ c)).1, (takeF ((takeF b).2.1 ++ c)).2) := by
  induction b using takeF.induct with
  | case1 b h ih =>
    obtain ⟨h1, h2⟩ := rdFr_app c h
    have h3 : rdErr (b ++ c) = 0 := (rdErr_app c (by omega)).1.trans h
    rw [takeF_0 h, takeF_0 h3, h1, h2, ih]
    dsimp only
    split <;> simp
  | case2 b h h2 =>
    have h3 : rdErr (b ++ c) = 2 := (rdErr_app c (by omega)).1.trans h2
    rw [takeF_2 h2, takeF_2 h3, if_pos rfl]
  | case3 b h h2 =>
    rw [takeF_3 h h2, if_neg (by simp)]
    simp

theorem awake05 : cP 3999 59 false [] = some (Bo true) := by kernel_rfl
theorem Bytes.cut {l : List Int} (h : Bytes l) (a b : Nat) : Bytes ((l.take b).drop a) := fun x hx => h x (List.mem_of_mem_take (List.mem_of_mem_drop hx))
theorem parted_L (n : Nat) (b cuts : List Int) (x5 x6 x8 x9 : DV) (k2 : Nat) (hk2 : k2 < 2) (hn : 2500 ≤ n) (hb : Bytes b) (hbl : b.length ≤ 2000) (hcl : cuts.length ≤ 100) : ∀ (m i at_ : Nat) (tp tt : Tag) (H : Heap), cuts.length + 2 ≤ m + i → i ≤ cuts.length + 1 → at_ ≤ b.length → (i = cuts.length + 1 → at_ = b.length) →
    H[k2]? = some (stB (takeF (b.take at_)).2.1 tt (decide ((takeF (b.take at_)).2.2 = 2))) → okT tt → WfH H → 2 ≤ H.length → TgOk tp 72 3 2 (takeF (b.take at_)).1.length H →
    ∃ t' tt' r H', (∀ K, s_triunelaw05_StreamParted_L0 n 0 K m (LV 1 (I .u8) b .sh) (LV 1 (I .i64) cuts .sh) x5 x6 (.ptr k2 0) x8 x9 (LV 3 frE (takeF (b.take at_)).1 tp) (I .i64 at_) (Bo (decide ((takeF (b.take at_)).2.2 = 2))) (I .i64 i) H = K (.exit 0) (s_triunelaw05_StreamParted_O0 .any x5 x6 (.ptr k2 0) x8 x9 (LV 3 frE (takeF b).1 t') (Bo (decide ((takeF b).2.2 = 2)))) H') ∧
      (∀ j, j < 2 → j ≠ k2 → H'[j]? = H[j]?) ∧ H'[k2]? = some (stB r tt' (decide ((takeF b).2.2 = 2))) ∧ ((takeF b).2.2 ≠ 2 → r = (takeF b).2.1) := by
  intro m
  induction m with
  | zero => intro i at_ tp tt H h; omega
  | succ m ih =>
    intro i at_ tp tt H hm hi hat hend hk ht hw hH hp
    by_cases hbad : (takeF (b.take at_)).2.2 = 2
    · have hb2 : takeF b = ((takeF (b.take at_)).1, [], 2) := by
        have := takeF_app (b.take at_) (b.drop at_)
        rw [List.take_append_drop, if_pos hbad] at this
        exact this
      rw [hb2]
      simp only [hbad, decide_true] at hk ⊢
      exact ⟨tp, tt, _, H, fun K => by unfold s_triunelaw05_StreamParted_L0 s_triunelaw05_StreamParted_B0; by_cases hc : i ≤ cuts.length <;> simp -implicitDefEqProofs (disch := first | omega | (simp only [List.length_set, List.length_append, List.length_cons, List.length_nil, List.length_take, List.length_drop, List.length_map]; omega) | simp) [wrap_i64, wrap_u16_id, wrap_u8_id, tdiv_pos, tmod_pos, -getElem?_pos, -getElem?_neg, -List.length_eq_zero_iff, -List.getElem_cons_drop, hc], fun j _ _ => rfl, hk, fun h => absurd rfl h⟩
    · simp only [hbad, decide_false] at hk ⊢
      have step : ∀ to : Nat, at_ ≤ to → to ≤ b.length → ∃ tb' to_ t2 H2, (cW n 61 [.ptr k2 0, LV 1 (I .u8) ((b.take to).drop at_) .sh] H 0 = some (.tup [LV 3 frE (takeF ((takeF (b.take at_)).2.1 ++ (b.take to).drop at_)).1 to_, I .i64 (takeF (b.take to)).2.2], H.set k2 (stB (takeF (b.take to)).2.1 tb' (decide ((takeF (b.take to)).2.2 = 2))))) ∧
          cP n 64 false [LV 3 frE (takeF ((takeF (b.take at_)).2.1 ++ (b.take to).drop at_)).1 to_] = some (LV 3 frE (takeF ((takeF (b.take at_)).2.1 ++ (b.take to).drop at_)).1 .sh) ∧
          appG 72 true 3 32 (LV 3 frE (takeF (b.take at_)).1 tp) (LV 3 frE (takeF ((takeF (b.take at_)).2.1 ++ (b.take to).drop at_)).1 .sh) (H.set k2 (stB (takeF (b.take to)).2.1 tb' (decide ((takeF (b.take to)).2.2 = 2)))) 0 = some (LV 3 frE (takeF (b.take to)).1 t2, H2) ∧
          cO n 65 [.ptr k2 0] H2 = some (I .i64 (takeF (b.take to)).2.1.length) ∧ okT tb' ∧ WfH H2 ∧ 2 ≤ H2.length ∧ TgOk t2 72 3 2 (takeF (b.take to)).1.length H2 ∧
          H2[k2]? = some (stB (takeF (b.take to)).2.1 tb' (decide ((takeF (b.take to)).2.2 = 2))) ∧ (∀ j, j < 2 → j ≠ k2 → H2[j]? = H[j]?) := by
        intro to h1 h2
        have hkl := hp_lt hk
        have hsp : b.take to = b.take at_ ++ (b.take to).drop at_ := by
          have := List.take_append_drop at_ (b.take to)
          rw [List.take_take, Nat.min_eq_left h1] at this
          exact this.symm
        have hS := takeF_app (b.take at_) ((b.take to).drop at_)
        rw [← hsp, if_neg hbad] at hS
        generalize hpc : (b.take to).drop at_ = pc at *
        have hpl : pc.length ≤ 2000 := by rw [← hpc]; simp; omega
        have hpb : Bytes pc := by rw [← hpc]; exact hb.cut _ _
        have hr := takeF_rest (b.take at_)
        have hrb := takeF_bytes (b.take at_) (fun x hx => hb x (List.mem_of_mem_take hx))
        have hat2 : (b.take at_).length ≤ 2000 := by simp; omega
        have hfl := (takeF_len (b.take at_)).1
        have hfl2 := (takeF_len ((takeF (b.take at_)).2.1 ++ pc)).1
        simp only [List.length_append] at hfl2
        obtain ⟨tb', to_, g1, g2, hT⟩ := stream_Take_c n k2 0 H (takeF (b.take at_)).2.1 pc tt .sh false (by omega) hk hw ht (by omega) hrb hpb (by omega)
        simp only [stOut, stNext, Bool.false_eq_true, if_false] at hT
        have hO := own05_c n (takeF ((takeF (b.take at_)).2.1 ++ pc)).1 to_ (by omega) (by omega)
        have hwX : WfH (H.set k2 (stB (takeF (b.take to)).2.1 tb' (decide ((takeF (b.take to)).2.2 = 2)))) := hw.set k2 (by intro d hd; simp at hd; rcases hd with rfl | rfl; simp [inSc_okT g1]; rfl)
        obtain ⟨t2, H2, ha, ht2, hl2, hj2, hw2, _⟩ := appG_all (e := 72) (ag := true) (sz := 3) (by_ := 32) (n0 := 2) (enc := frE) (xs := (takeF (b.take at_)).1) (ys := (takeF ((takeF (b.take at_)).2.1 ++ pc)).1) (t := tp) (t' := .sh) (H := H.set k2 (stB (takeF (b.take to)).2.1 tb' (decide ((takeF (b.take to)).2.2 = 2)))) (fl := 0) (by omega) (by simpa using hH) (by
          rcases hp with rfl | ⟨q, rfl, hq, hqn⟩
          · exact .inl rfl
          · exact .inr ⟨q, rfl, by rw [hp_set_ne _ _ _ _ (by omega)]; exact hq, hqn⟩) rfl (by omega) (by omega)
        have e1 : (takeF (b.take to)).1 = (takeF (b.take at_)).1 ++ (takeF ((takeF (b.take at_)).2.1 ++ pc)).1 := by rw [hS]
        have e2 : (takeF (b.take to)).2 = (takeF ((takeF (b.take at_)).2.1 ++ pc)).2 := by rw [hS]
        have hk3 : H2[k2]? = some (stB (takeF (b.take to)).2.1 tb' (decide ((takeF (b.take to)).2.2 = 2))) := by rw [hj2 k2 hk2, hp_set_get _ _ _ hkl]
        refine ⟨tb', to_, t2, H2, ?_, hO, ?_, stream_Held_c n k2 _ _ _ _ (by omega) hk3, g1, hw2 hwX, by simp at hl2; omega, ?_, hk3, fun j hj hjk => (hj2 j hj).trans (hp_set_ne _ _ _ _ hjk)⟩
        · rw [e2]; exact hT
        · rw [ha, e1]
        · rw [e1]; exact ht2
      by_cases hi2 : i ≤ cuts.length
      · by_cases hi3 : i < cuts.length
        · obtain ⟨to, hto⟩ : ∃ to : Nat, min (max cuts[i] (at_ : Int)) (b.length : Int) = (to : Int) := ⟨(min (max cuts[i] (at_ : Int)) (b.length : Int)).toNat, by omega⟩
          obtain ⟨tb', to_, t2, H2, s1, s2, s3, s4, s5, s6, s7, s8, s9, s10⟩ := step to (by omega) (by omega)
          obtain ⟨t', tt', r, H', q1, q2, q3, q4⟩ := ih (i + 1) to t2 tb' H2 (by omega) (by omega) (by omega) (by omega) s9 s5 s6 s7 s8
          have hE : decide (¬ (takeF (b.take to)).2.2 = 0) = decide ((takeF (b.take to)).2.2 = 2) := by
            rcases takeF_err (b.take to) with h | h <;> simp [h]
          have hrr := takeF_rest (b.take to)
          have hi4 : ((i + 1 : Nat) : Int) = (i : Int) + 1 := by omega
          rw [hi4] at q1
          refine ⟨t', tt', r, H', fun K => ?_, fun j hj hjk => (q2 j hj hjk).trans (s10 j hj hjk), q3, q4⟩
          unfold s_triunelaw05_StreamParted_L0 s_triunelaw05_StreamParted_B0
          have hto1 : (at_ : Int) ≤ to := by omega
          have hto2 : (to : Int) ≤ b.length := by omega
          simp -implicitDefEqProofs (disch := first | omega | (simp only [List.length_set, List.length_append, List.length_cons, List.length_nil, List.length_take, List.length_drop, List.length_map]; omega) | simp) [wrap_i64, wrap_u16_id, wrap_u8_id, tdiv_pos, tmod_pos, -getElem?_pos, -getElem?_neg, -List.length_eq_zero_iff, -List.getElem_cons_drop, hi2, hi3, hto, s1, s2, s3, s4, hE, q1]
        · obtain ⟨tb', to_, t2, H2, s1, s2, s3, s4, s5, s6, s7, s8, s9, s10⟩ := step b.length hat (Nat.le_refl _)
          obtain ⟨t', tt', r, H', q1, q2, q3, q4⟩ := ih (i + 1) b.length t2 tb' H2 (by omega) (by omega) (by omega) (by omega) s9 s5 s6 s7 s8
          have hE : decide (¬ (takeF (b.take b.length)).2.2 = 0) = decide ((takeF (b.take b.length)).2.2 = 2) := by
            rcases takeF_err (b.take b.length) with h | h <;> (rw [h]; decide)
          have hrr := takeF_rest (b.take b.length)
          have hi4 : ((i + 1 : Nat) : Int) = (i : Int) + 1 := by omega
          rw [hi4] at q1
          refine ⟨t', tt', r, H', fun K => ?_, fun j hj hjk => (q2 j hj hjk).trans (s10 j hj hjk), q3, q4⟩
          unfold s_triunelaw05_StreamParted_L0 s_triunelaw05_StreamParted_B0
          simp only [List.take_length] at s1 s2 s3 s4 hE q1 hrr
          simp -implicitDefEqProofs (disch := first | omega | (simp only [List.length_set, List.length_append, List.length_cons, List.length_nil, List.length_take, List.length_drop, List.length_map]; omega) | simp) [wrap_i64, wrap_u16_id, wrap_u8_id, tdiv_pos, tmod_pos, -getElem?_pos, -getElem?_neg, -List.length_eq_zero_iff, -List.getElem_cons_drop, hi2, hi3, s1, s2, s3, s4, hE, q1]
      · have hab : at_ = b.length := hend (by omega)
        subst hab
        rw [List.take_length] at hk hp hbad ⊢
        simp only [hbad, decide_false]
        exact ⟨tp, tt, _, H, fun K => by unfold s_triunelaw05_StreamParted_L0 s_triunelaw05_StreamParted_B0; simp -implicitDefEqProofs (disch := first | omega | (simp only [List.length_set, List.length_append, List.length_cons, List.length_nil, List.length_take, List.length_drop, List.length_map]; omega) | simp) [wrap_i64, wrap_u16_id, wrap_u8_id, tdiv_pos, tmod_pos, -getElem?_pos, -getElem?_neg, -List.length_eq_zero_iff, -List.getElem_cons_drop], fun j _ _ => rfl, hk, fun _ => rfl⟩

theorem StreamParted_run (n : Nat) (up : cP n 59 false [] = some (Bo true)) (hn : 3500 ≤ n) (b cuts : List Int) (hb : Bytes b) :
    ∃ H', s_triunelaw05_StreamParted n [] 0 (LV 1 (I .u8) b .sh) (LV 1 (I .i64) cuts .sh) = some (Bo true, H') := by
  by_cases c1 : 2000 < b.length
  · exact ⟨_, by unfold s_triunelaw05_StreamParted; simp -implicitDefEqProofs (disch := first | omega | (simp only [List.length_set, List.length_append, List.length_cons, List.length_nil, List.length_take, List.length_drop, List.length_map]; omega) | simp) [wrap_i64, wrap_u16_id, wrap_u8_id, tdiv_pos, tmod_pos, -getElem?_pos, -getElem?_neg, -List.length_eq_zero_iff, -List.getElem_cons_drop, up]; rfl⟩
  by_cases c2 : 100 < cuts.length
  · exact ⟨_, by unfold s_triunelaw05_StreamParted; simp -implicitDefEqProofs (disch := first | omega | (simp only [List.length_set, List.length_append, List.length_cons, List.length_nil, List.length_take, List.length_drop, List.length_map]; omega) | simp) [wrap_i64, wrap_u16_id, wrap_u8_id, tdiv_pos, tmod_pos, -getElem?_pos, -getElem?_neg, -List.length_eq_zero_iff, -List.getElem_cons_drop, up]; rfl⟩
  have hN1 := stream_New_c n 0 [] (by omega)
  have hN2 := stream_New_c n 0 [stB [] .ti false] (by omega)
  have hp : ∀ k x, binD Try.prog .eql 83 x (.const (.pointer none)) (.ptr k 0) (.flat (.pointer none)) = some (Bo false) := fun k x => binD_ptr_nil Try.underlying83 _ _ _ _
  have hw0 : WfH [stB [] .ti false, stB [] .ti false] := by intro b hb; simp at hb; subst hb; intro d hd; simp at hd; rcases hd with rfl | rfl <;> simp <;> rfl
  obtain ⟨tb', to_, g1, g2, hT⟩ := stream_Take_c n 0 0 [stB [] .ti false, stB [] .ti false] [] b .ti .sh false (by simp; omega) rfl hw0 (.inr rfl) (by omega) (fun x hx => by simp at hx) hb (by simp; omega)
  simp only [stOut, stNext, Bool.false_eq_true, if_false, List.nil_append] at hT
  have hw1 : WfH ([stB [] .ti false, stB [] .ti false].set 0 (stB (takeF b).2.1 tb' (decide ((takeF b).2.2 = 2)))) := hw0.set 0 (by intro d hd; simp at hd; rcases hd with rfl | rfl; simp [inSc_okT g1]; rfl)
  simp only [List.set_cons_zero] at hT hw1
  have h0 : takeF (b.take 0) = ([], [], 0) := by rw [List.take_zero, takeF_3 (by decide) (by decide)]
  obtain ⟨t', tt', r, H', q1, q2, q3, q4⟩ := parted_L n b cuts (Bo true) (.ptr 0 0) (LV 3 frE (takeF b).1 to_) (I .i64 (takeF b).2.2) 1 (by omega) (by omega) hb (by omega) (by omega) n 0 0 .ti .ti [stB (takeF b).2.1 tb' (decide ((takeF b).2.2 = 2)), stB [] .ti false] (by omega) (by omega) (by omega) (by omega) (by rw [h0]; rfl) (.inr rfl) hw1 (by simp) (.inl rfl)
  rw [h0] at q1
  have q1' : ∀ K, loopG [0, 1, 5, 6, 7, 8, 9, 10, 11, 12, 13] [4, 5, 6, 7, 8, 9, 10, 12] 123 (s_triunelaw05_StreamParted_b0 n 0) n (s_triunelaw05_StreamParted_I0 (LV 1 (I .u8) b .sh) (LV 1 (I .i64) cuts .sh) (Bo true) (.ptr 0 0) (.ptr 1 0) (LV 3 frE (takeF b).1 to_) (I .i64 (takeF b).2.2) (.list 0 [] .ti) (I .i64 0) (Bo false) (I .i64 0)) [stB (takeF b).2.1 tb' (decide ((takeF b).2.2 = 2)), stB [] .ti false] K = K (.exit 0) (s_triunelaw05_StreamParted_O0 .any (Bo true) (.ptr 0 0) (.ptr 1 0) (LV 3 frE (takeF b).1 to_) (I .i64 (takeF b).2.2) (LV 3 frE (takeF b).1 t') (Bo (decide ((takeF b).2.2 = 2)))) H' := fun K => (s_triunelaw05_StreamParted_L0_eq _ _ _ _ _ _ _ _ _ _ _ _ _ _ _ _).trans (q1 K)
  have hk0 : H'[0]? = some (stB (takeF b).2.1 tb' (decide ((takeF b).2.2 = 2))) := q2 0 (by omega) (by omega)
  have hO := own05_c n (takeF b).1 to_ (by have := (takeF_len b).1; omega) (by have := (takeF_len b).1; omega)
  have hS := same05_c n (takeF b).1 (takeF b).1 .sh t' (by have := (takeF_len b).1; omega) (takeF_frs b) (by have := (takeF_len b).1; omega)
  simp only [decide_true] at hS
  have b1 := stream_Broken_c n 0 H' _ _ _ (by omega) hk0
  have b2 := stream_Broken_c n 1 H' _ _ _ (by omega) q3
  have l1 := stream_Held_c n 0 H' _ _ _ (by omega) hk0
  have l2 := stream_Held_c n 1 H' _ _ _ (by omega) q3
  have hrr : ((takeF b).2.1.length : Int) < 260 := by have := takeF_rest b; omega
  rcases takeF_err b with hE | hE
  · have hr := q4 (by omega)
    subst hr
    have hd : decide ((takeF b).2.2 = 2) = false := by rw [hE]; rfl
    simp only [hd] at q1' b1 b2 hT
    simp only [hE] at q1' hT
    exact ⟨_, by unfold s_triunelaw05_StreamParted; simp -implicitDefEqProofs (disch := first | omega | (simp only [List.length_set, List.length_append, List.length_cons, List.length_nil, List.length_take, List.length_drop, List.length_map]; omega) | simp) [wrap_i64, wrap_u16_id, wrap_u8_id, tdiv_pos, tmod_pos, -getElem?_pos, -getElem?_neg, -List.length_eq_zero_iff, -List.getElem_cons_drop, up, hN1, hN2, hp, hT, q1', s_triunelaw05_StreamParted_O0, hO, hS, b1, b2, l1, l2, hE, hrr]; rfl⟩
  · have hd : decide ((takeF b).2.2 = 2) = true := by rw [hE]; rfl
    simp only [hd] at q1' b1 b2 hT
    simp only [hE] at q1' hT
    exact ⟨_, by unfold s_triunelaw05_StreamParted; simp -implicitDefEqProofs (disch := first | omega | (simp only [List.length_set, List.length_append, List.length_cons, List.length_nil, List.length_take, List.length_drop, List.length_map]; omega) | simp) [wrap_i64, wrap_u16_id, wrap_u8_id, tdiv_pos, tmod_pos, -getElem?_pos, -getElem?_neg, -List.length_eq_zero_iff, -List.getElem_cons_drop, up, hN1, hN2, hp, hT, q1', s_triunelaw05_StreamParted_O0, hO, hS, b1, b2, l1, l2, hE, hrr]; rfl⟩
theorem StreamParted_all (e0 e1 : List DV) (h0 : Shp Try.prog 8 23 e0) (h1 : Shp Try.prog 8 32 e1) :
    ∃ H', callG Try.prog ENV 4000 14 [elOf (isAgT Try.prog 23) e0, elOf (isAgT Try.prog 32) e1] [] 0 = some (.flat (.bool true), H') := by
  obtain ⟨b, rfl, _, hb⟩ := shp_ints (k := .u8) Try.underlying23 Try.underlying5 (by kernel_rfl) h0
  obtain ⟨cuts, rfl, _, _⟩ := shp_ints (k := .i64) Try.underlying32 Try.underlying3 (by kernel_rfl) h1
  have r0 : elOf (isAgT Try.prog 23) [LV 1 (I .u8) b .sh] = LV 1 (I .u8) b .sh := by kernel_rfl
  have r1 : elOf (isAgT Try.prog 32) [LV 1 (I .i64) cuts .sh] = LV 1 (I .i64) cuts .sh := by kernel_rfl
  obtain ⟨H', h⟩ := StreamParted_run 3999 awake05 (by omega) b cuts (bytes_of hb)
  rw [r0, r1]
  exact ⟨H', (s_triunelaw05_StreamParted_eq 3999 [] 0 _ _).trans h⟩
end Go.Proofs.Ytigfninpflemnaa
