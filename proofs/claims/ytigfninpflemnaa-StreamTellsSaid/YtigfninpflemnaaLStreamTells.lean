/- The law StreamTells: it answers true. -/
import Derived.Test.YtigfninpflemnaaFLStreamTells
import Derived.Test.YtigfninpflemnaaGSame05
import Derived.Test.YtigfninpflemnaaGShpF
-- NEEDS: triunelaw05.StreamTells
namespace Go.Proofs.Ytigfninpflemnaa
open Go
set_option linter.unusedSimpArgs false
set_option linter.unusedVariables false
theorem awake05 : cP 19999 59 false [] = some (Bo true) := by kernel_rfl
def bsE (l : List Int) : DV := LV 1 (I .u8) l .sh
def totB : List (List Int) → Int
  | [] => 0
  | l :: ls => (l.length : Int) + 1 + totB ls
theorem totB_nn : ∀ ls, 0 ≤ totB ls
  | [] => by simp [totB]
  | l :: ls => by have := totB_nn ls; simp only [totB]; omega
/-- how much a list of pieces is, as far as it is counted -/
theorem tells_L0 (n fl : Nat) (ls : List (List Int)) (up : DV) (hl : ls.length ≤ 140737488355328) (hb : ∀ l ∈ ls, l.length ≤ 140737488355328) : ∀ (m i : Nat) (N : Int) (H : Heap), 0 ≤ N → N ≤ 140737488365340 → (10001 : Int) ≤ m + N → 1 ≤ m → i ≤ ls.length →
    ∃ N' : Int, (∀ K, s_triunelaw05_StreamTells_L0 n fl K m (LV 1 bsE ls .sh) up (I .i64 N) (I .i64 i) H = K (.exit 0) (s_triunelaw05_StreamTells_O0 (LV 1 bsE ls .sh) up (I .i64 N')) H) ∧ (N' ≤ 3000 → N + totB (ls.drop i) ≤ 3000) := by
  intro m
  induction m with
  | zero => intro i N H h0 h1 h2 h3; omega
  | succ m ih =>
    intro i N H h0 h1 h2 h3 hi
    by_cases h : i < ls.length
    · have hbi := hb _ (List.getElem_mem h)
      have hd : ls.drop i = ls[i] :: ls.drop (i + 1) := List.drop_eq_getElem_cons h
      by_cases hN : N < 10000
      · by_cases hm : m = 0
        · omega
        obtain ⟨N', q1, q2⟩ := ih (i + 1) (N + ls[i].length + 1) H (by omega) (by omega) (by omega) (by omega) (by omega)
        have hi2 : ((i + 1 : Nat) : Int) = (i : Int) + 1 := by omega
        rw [hi2] at q1
        refine ⟨N', ?_, ?_⟩
        · intro K; unfold s_triunelaw05_StreamTells_L0 s_triunelaw05_StreamTells_B0; simp -implicitDefEqProofs (disch := first | omega | (simp only [List.length_set, List.length_append, List.length_cons, List.length_nil, List.length_take, List.length_drop, List.length_map]; omega) | simp) [wrap_i64, wrap_u16_id, wrap_u8_id, tdiv_pos, tmod_pos, -getElem?_pos, -getElem?_neg, -List.length_eq_zero_iff, -List.getElem_cons_drop, h, hN, bsE, q1]
        · intro h4; have := q2 h4; rw [hd, totB]; omega
      · exact ⟨N, fun K => by unfold s_triunelaw05_StreamTells_L0 s_triunelaw05_StreamTells_B0; simp -implicitDefEqProofs (disch := first | omega | (simp only [List.length_set, List.length_append, List.length_cons, List.length_nil, List.length_take, List.length_drop, List.length_map]; omega) | simp) [wrap_i64, wrap_u16_id, wrap_u8_id, tdiv_pos, tmod_pos, -getElem?_pos, -getElem?_neg, -List.length_eq_zero_iff, -List.getElem_cons_drop, h, hN], fun h4 => by omega⟩
    · have hd : ls.drop i = [] := by simp; omega
      exact ⟨N, fun K => by unfold s_triunelaw05_StreamTells_L0 s_triunelaw05_StreamTells_B0; simp -implicitDefEqProofs (disch := first | omega | (simp only [List.length_set, List.length_append, List.length_cons, List.length_nil, List.length_take, List.length_drop, List.length_map]; omega) | simp) [wrap_i64, wrap_u16_id, wrap_u8_id, tdiv_pos, tmod_pos, -getElem?_pos, -getElem?_neg, -List.length_eq_zero_iff, -List.getElem_cons_drop, h], fun h4 => by rw [hd, totB]; omega⟩
/-- the pieces one by one -/
theorem tells_L1 (n fl : Nat) (ls : List (List Int)) (up : DV) (k1 k2 : Nat) (hk12 : k1 ≠ k2) (hf1 : fl ≤ k1) (hf2 : fl ≤ k2) (hb : ∀ l ∈ ls, Bytes l) (hn : 8000 ≤ n) : ∀ (m i : Nat) (b : List Int) (t1 t2 : Tag) (br : Bool) (H : Heap), ls.length < m + i → i ≤ ls.length → ls.length ≤ 3000 → (b.length : Int) + totB (ls.drop i) ≤ 3000 → Bytes b →
    H[k1]? = some (stB b t1 br) → H[k2]? = some (rfB b t2 br) → okT t1 → okT t2 → WfH H →
    ∃ H', ∀ K, s_triunelaw05_StreamTells_L1 n fl K m (LV 1 bsE ls .sh) up (.ptr k1 0) (.ptr k2 0) (I .i64 i) H = K (.exit 2) (s_triunelaw05_StreamTells_O1 .any up) H' := by
  intro m
  induction m with
  | zero => intro i b t1 t2 br H h; omega
  | succ m ih =>
    intro i b t1 t2 br H hm hi hls htot hB hk1 hk2 ht1 ht2 hw
    by_cases h : i < ls.length
    · have hd : ls.drop i = ls[i] :: ls.drop (i + 1) := List.drop_eq_getElem_cons h
      rw [hd, totB] at htot
      have hnn := totB_nn (ls.drop (i + 1))
      have hBi := hb _ (List.getElem_mem h)
      have hl1 := hp_lt hk1
      have hl2 := hp_lt hk2
      obtain ⟨tb1, to1, g1, g2, hT⟩ := stream_Take_c n k1 fl H b ls[i] t1 .sh br (by omega) hk1 hw ht1 hf1 hB hBi (by omega)
      have hw1 : WfH (H.set k1 (stB (stNext b ls[i] br).1 tb1 (stNext b ls[i] br).2)) := hw.set k1 (by intro d hd; simp at hd; rcases hd with rfl | rfl; simp [inSc_okT g1]; rfl)
      obtain ⟨tb2, to2, g3, g4, hT2⟩ := ref05_Take_c n k2 fl (H.set k1 (stB (stNext b ls[i] br).1 tb1 (stNext b ls[i] br).2)) b ls[i] t2 .sh br (by omega) (by rw [hp_set_ne _ _ _ _ (fun e => hk12 e.symm)]; exact hk2) hw1 ht2 hf2 hB hBi (by omega)
      have hw2 := hw1.set k2 (b := rfB (stNext b ls[i] br).1 tb2 (stNext b ls[i] br).2) (by intro d hd; simp at hd; rcases hd with rfl | rfl; simp [inSc_okT g3]; rfl)
      have hk1' : ((H.set k1 (stB (stNext b ls[i] br).1 tb1 (stNext b ls[i] br).2)).set k2 (rfB (stNext b ls[i] br).1 tb2 (stNext b ls[i] br).2))[k1]? = some (stB (stNext b ls[i] br).1 tb1 (stNext b ls[i] br).2) := by rw [hp_set_ne _ _ _ _ hk12, hp_set_get _ _ _ hl1]
      have hk2' : ((H.set k1 (stB (stNext b ls[i] br).1 tb1 (stNext b ls[i] br).2)).set k2 (rfB (stNext b ls[i] br).1 tb2 (stNext b ls[i] br).2))[k2]? = some (rfB (stNext b ls[i] br).1 tb2 (stNext b ls[i] br).2) := hp_set_get _ _ _ (by simpa using hl2)
      have hfl : (stOut b ls[i] br).1.length ≤ b.length + ls[i].length ∧ FrsOk (stOut b ls[i] br).1 := by
        unfold stOut
        split
        · exact ⟨by simp, fun f hf => by simp at hf⟩
        · have := takeF_len (b ++ ls[i]); simp at this; exact ⟨by simp; omega, takeF_frs _⟩
      have hO := own05_c n (stOut b ls[i] br).1 to1 (by omega) (by omega)
      have hS := same05_c n (stOut b ls[i] br).1 (stOut b ls[i] br).1 .sh to2 (by omega) hfl.2 (by omega)
      have hH := stream_Held_c n k1 _ _ _ _ (by omega) hk1'
      have hBr := stream_Broken_c n k1 _ _ _ _ (by omega) hk1'
      have hnx : (stNext b ls[i] br).1.length ≤ b.length + ls[i].length ∧ Bytes (stNext b ls[i] br).1 := by
        unfold stNext
        split
        · exact ⟨by simp, hB⟩
        · have := takeF_len (b ++ ls[i]); simp at this
          exact ⟨by simp; omega, takeF_bytes _ (fun x hx => by rcases List.mem_append.mp hx with h | h; exact hB x h; exact hBi x h)⟩
      obtain ⟨H', q⟩ := ih (i + 1) (stNext b ls[i] br).1 tb1 tb2 (stNext b ls[i] br).2 _ (by omega) (by omega) hls (by omega) hnx.2 hk1' hk2' g1 g3 hw2
      have hi2 : ((i + 1 : Nat) : Int) = (i : Int) + 1 := by omega
      rw [hi2] at q
      simp only [decide_true] at hS
      refine ⟨H', fun K => ?_⟩
      unfold s_triunelaw05_StreamTells_L1 s_triunelaw05_StreamTells_B1
      generalize hHH : (H.set k1 (stB (stNext b ls[i] br).1 tb1 (stNext b ls[i] br).2)).set k2 (rfB (stNext b ls[i] br).1 tb2 (stNext b ls[i] br).2) = HH at *
      unfold rfB at hk2'
      simp -implicitDefEqProofs (disch := first | omega | (simp only [List.length_set, List.length_append, List.length_cons, List.length_nil, List.length_take, List.length_drop, List.length_map]; omega) | simp) [wrap_i64, wrap_u16_id, wrap_u8_id, tdiv_pos, tmod_pos, -getElem?_pos, -getElem?_neg, -List.length_eq_zero_iff, -List.getElem_cons_drop, h, bsE, hT, hT2, hO, hS, hH, hBr, hk2', q]
    · exact ⟨H, fun K => by unfold s_triunelaw05_StreamTells_L1 s_triunelaw05_StreamTells_B1; simp -implicitDefEqProofs (disch := first | omega | (simp only [List.length_set, List.length_append, List.length_cons, List.length_nil, List.length_take, List.length_drop, List.length_map]; omega) | simp) [wrap_i64, wrap_u16_id, wrap_u8_id, tdiv_pos, tmod_pos, -getElem?_pos, -getElem?_neg, -List.length_eq_zero_iff, -List.getElem_cons_drop, h]⟩

theorem StreamTells_run (n : Nat) (up : cP n 59 false [] = some (Bo true)) (hn : 15000 ≤ n) (ls : List (List Int)) (hl : ls.length ≤ 140737488355328) (hb : ∀ l ∈ ls, Bytes l ∧ l.length ≤ 140737488355328) :
    ∃ H', s_triunelaw05_StreamTells n [] 0 (LV 1 bsE ls .sh) = some (Bo true, H') := by
  obtain ⟨N, q1, q2⟩ := tells_L0 n 0 ls (Bo true) hl (fun l h => (hb l h).2) n 0 0 [] (by omega) (by omega) (by omega) (by omega) (by omega)
  have q1' : ∀ K, loopG [0, 3, 4, 5] [0, 3, 4] 96 (s_triunelaw05_StreamTells_b0 n 0) n (s_triunelaw05_StreamTells_I0 (LV 1 bsE ls .sh) (Bo true) (I .i64 0) (I .i64 0)) [] K = K (.exit 0) (s_triunelaw05_StreamTells_O0 (LV 1 bsE ls .sh) (Bo true) (I .i64 N)) [] := fun K => (s_triunelaw05_StreamTells_L0_eq _ _ _ _ _ _ _ _ _).trans (q1 K)
  have hNew := stream_New_c n 0 [] (by omega)
  have hp : binD Try.prog .eql 83 (.tmp 36) (.const (.pointer none)) (.ptr 0 0) (.flat (.pointer none)) = some (Bo false) := binD_ptr_nil Try.underlying83 _ _ _ _
  by_cases c : 3000 < N
  · exact ⟨_, by unfold s_triunelaw05_StreamTells; simp -implicitDefEqProofs (disch := first | omega | (simp only [List.length_set, List.length_append, List.length_cons, List.length_nil, List.length_take, List.length_drop, List.length_map]; omega) | simp) [wrap_i64, wrap_u16_id, wrap_u8_id, tdiv_pos, tmod_pos, -getElem?_pos, -getElem?_neg, -List.length_eq_zero_iff, -List.getElem_cons_drop, up, q1', s_triunelaw05_StreamTells_O0, hNew, hp]; rfl⟩
  · have htot := q2 (by omega)
    have hls : ls.length ≤ 3000 := by
      have : ∀ ls : List (List Int), (ls.length : Int) ≤ totB ls := by
        intro ls
        induction ls with
        | nil => simp [totB]
        | cons l ls ih => simp only [List.length_cons, totB]; omega
      have := this ls
      simp at htot
      omega
    obtain ⟨H', r⟩ := tells_L1 n 0 ls (Bo true) 0 1 (by omega) (by omega) (by omega) (fun l h => (hb l h).1) (by omega) n 0 [] .ti .ti false [stB [] .ti false, rfB [] .ti false] (by omega) (by omega) hls (by simpa using htot) (fun x hx => by simp at hx) rfl rfl (.inr rfl) (.inr rfl) (by intro b hb; simp at hb; rcases hb with rfl | rfl <;> (intro d hd; simp at hd; rcases hd with rfl | rfl <;> simp <;> rfl))
    have r' : ∀ K, loopG [0, 3, 6, 7, 8] [2, 3] 96 (s_triunelaw05_StreamTells_b1 n 0) n (s_triunelaw05_StreamTells_I1 (LV 1 bsE ls .sh) (Bo true) (.ptr 0 0) (.ptr 1 0) (I .i64 0)) [stB [] .ti false, .cells 87 [.list 0 [] .ti, Bo false]] K = K (.exit 2) (s_triunelaw05_StreamTells_O1 .any (Bo true)) H' := fun K => (s_triunelaw05_StreamTells_L1_eq _ _ _ _ _ _ _ _ _ _).trans (r K)
    exact ⟨_, by unfold s_triunelaw05_StreamTells; simp -implicitDefEqProofs (disch := first | omega | (simp only [List.length_set, List.length_append, List.length_cons, List.length_nil, List.length_take, List.length_drop, List.length_map]; omega) | simp) [wrap_i64, wrap_u16_id, wrap_u8_id, tdiv_pos, tmod_pos, -getElem?_pos, -getElem?_neg, -List.length_eq_zero_iff, -List.getElem_cons_drop, up, q1', s_triunelaw05_StreamTells_O0, s_triunelaw05_StreamTells_O1, hNew, hp, r']; rfl⟩
theorem StreamTells_all (e0 : List DV) (h0 : Shp Try.prog 8 82 e0) :
    ∃ H', callG Try.prog ENV 20000 13 [elOf (isAgT Try.prog 82) e0] [] 0 = some (.flat (.bool true), H') := by
  obtain ⟨ls, rfl, hl, hb⟩ := shp_slice (e := 23) bsE (fun l => Bytes l ∧ l.length ≤ 140737488355328) (sz := 1) Try.underlying82 (by kernel_rfl) (fun x hx => by
    obtain ⟨b, rfl, hl, hb⟩ := shp_ints (k := .u8) Try.underlying23 Try.underlying5 (by kernel_rfl) hx
    refine ⟨b, by kernel_rfl, bytes_of hb, ?_⟩
    have : Try.prog.bytesOf 5 = 1 := by kernel_rfl
    rw [this] at hl
    simp only [reachBytes] at hl
    omega) h0
  have hb24 : Try.prog.bytesOf 23 = 24 := by kernel_rfl
  rw [hb24] at hl
  simp only [reachBytes] at hl
  obtain ⟨H', h⟩ := StreamTells_run 19999 awake05 (by omega) ls (by omega) hb
  have r0 : elOf (isAgT Try.prog 82) [LV 1 bsE ls .sh] = LV 1 bsE ls .sh := by kernel_rfl
  rw [r0]
  exact ⟨H', (s_triunelaw05_StreamTells_eq 19999 [] 0 _).trans h⟩
end Go.Proofs.Ytigfninpflemnaa
