/- The bytes of a frame. -/
import Derived.Test.YtigfninpflemnabFMbapB
import Derived.Test.YtigfninpflemnabEv
import Derived.Test.YtigfninpflemnabGPut
import Derived.Test.YtigfninpflemnabGFrame
-- NEEDS: mbap.Bytes
namespace Go.Proofs.Ytigfninpflemnab
open Go
set_option linter.unusedSimpArgs false
theorem rep7 (n : Nat) (l : List Int) (z : Int) : (l ++ List.replicate n z).map (I .u8) = l.map (I .u8) ++ List.replicate n (I .u8 z) := by simp
theorem copy7a (e e2 : TypeId) (z0 : DBlk) (a b c d : Int) (q : Nat) :
    copyG false 1 (.row false 1 1 0 (7 + q) (7 + q)) (.row false 1 2 0 2 2) [z0, .cells e (List.replicate (7 + q) (I .u8 0)), .cells e2 [I .u8 a, I .u8 b], .cells e2 [I .u8 c, I .u8 d]] 0 =
      some (I .i64 2, [z0, .cells e (I .u8 a :: I .u8 b :: I .u8 0 :: I .u8 0 :: I .u8 0 :: I .u8 0 :: I .u8 0 :: List.replicate q (I .u8 0)), .cells e2 [I .u8 a, I .u8 b], .cells e2 [I .u8 c, I .u8 d]]) := by
  have hr : List.replicate (7 + q) (I .u8 0) = (([0, 0, 0, 0, 0, 0, 0] ++ List.replicate q (0 : Int))).map (I .u8) := by
    rw [Nat.add_comm]; simp [List.replicate_succ]
  rw [hr, copyG_row .u8 (.row false 1 2 0 2 2) 1 0 (7 + q) (7 + q) _ 0 e ([0, 0, 0, 0, 0, 0, 0] ++ List.replicate q (0 : Int)) [a, b] rfl rfl (by omega) (by simp; omega)]
  have m1 : min [a, b].length (7 + q) = 2 := by simp; omega
  rw [m1]
  simp
theorem copy7b (e e2 : TypeId) (z0 : DBlk) (a b c d : Int) (q : Nat) :
    copyG false 1 (.row false 1 1 4 (7 + q - 4) (7 + q - 4)) (.row false 1 3 0 2 2) [z0, .cells e (I .u8 a :: I .u8 b :: I .u8 0 :: I .u8 0 :: I .u8 0 :: I .u8 0 :: I .u8 0 :: List.replicate q (I .u8 0)), .cells e2 [I .u8 a, I .u8 b], .cells e2 [I .u8 c, I .u8 d]] 0 =
      some (I .i64 2, [z0, .cells e (I .u8 a :: I .u8 b :: I .u8 0 :: I .u8 0 :: I .u8 c :: I .u8 d :: I .u8 0 :: List.replicate q (I .u8 0)), .cells e2 [I .u8 a, I .u8 b], .cells e2 [I .u8 c, I .u8 d]]) := by
  have hr : (I .u8 a :: I .u8 b :: I .u8 0 :: I .u8 0 :: I .u8 0 :: I .u8 0 :: I .u8 0 :: List.replicate q (I .u8 0)) = (([a, b, 0, 0, 0, 0, 0] ++ List.replicate q (0 : Int))).map (I .u8) := by
    simp
  rw [hr, copyG_row .u8 (.row false 1 3 0 2 2) 1 4 (7 + q - 4) (7 + q - 4) _ 0 e ([a, b, 0, 0, 0, 0, 0] ++ List.replicate q (0 : Int)) [c, d] rfl rfl (by omega) (by simp; omega)]
  have m1 : min [c, d].length (7 + q - 4) = 2 := by simp; omega
  rw [m1]
  simp
theorem copy7c (e e2 : TypeId) (z0 : DBlk) (a b c d u : Int) (p : List Int) (t : Tag) :
    copyG false 1 (.row false 1 1 7 p.length p.length) (LV 1 (I .u8) p t) [z0, .cells e (I .u8 a :: I .u8 b :: I .u8 0 :: I .u8 0 :: I .u8 c :: I .u8 d :: I .u8 u :: List.replicate p.length (I .u8 0)), .cells e2 [I .u8 a, I .u8 b], .cells e2 [I .u8 c, I .u8 d]] 0 =
      some (I .i64 p.length, [z0, .cells e (([a, b, 0, 0, c, d, u] ++ p).map (I .u8)), .cells e2 [I .u8 a, I .u8 b], .cells e2 [I .u8 c, I .u8 d]]) := by
  have hr : (I .u8 a :: I .u8 b :: I .u8 0 :: I .u8 0 :: I .u8 c :: I .u8 d :: I .u8 u :: List.replicate p.length (I .u8 0)) = (([a, b, 0, 0, c, d, u] ++ List.replicate p.length (0 : Int))).map (I .u8) := by
    simp
  rw [hr, copyG_row .u8 _ 1 7 p.length p.length _ 0 e ([a, b, 0, 0, c, d, u] ++ List.replicate p.length (0 : Int)) p rfl (srcD_LV _ _ _ _ _ _) (by omega) (by simp only [List.length_append, List.length_cons, List.length_nil, List.length_replicate]; omega)]
  rw [Nat.min_self]
  simp
  omega
theorem mbap_Bytes_c (n : Nat) (hn : 3 ≤ n) (t u : Int) (p : List Int) (g : Tag) (h0 : 0 ≤ t) (h1 : t < 65536) (hl : p.length ≤ 1000) :
    cP n 36 true [frameV t u p g] = some (.tup [LV 1 (I .u8) (frameOut t u p) .ti, I .i64 (frameErr p.length)]) := by
  obtain ⟨n, rfl⟩ : ∃ m, n = m + 1 := ⟨n - 1, by omega⟩
  by_cases c0 : p.length = 0
  · refine cP_of (by simp [argEl_eq, frameV]; rfl) ((s_mbap_Bytes_eq _ _ _ _).trans (by unfold s_mbap_Bytes; simp -implicitDefEqProofs (disch := first | omega | (simp only [List.length_set, List.length_append, List.length_cons, List.length_nil, List.length_take, List.length_drop, List.length_map]; omega) | simp) [wrap_i64, wrap_u16_id, wrap_u8_id, tdiv_pos, tmod_pos, -getElem?_pos, -getElem?_neg, -List.length_eq_zero_iff, -List.getElem_cons_drop]; exact ⟨rfl, rfl⟩)) ?_
    simp [frameOut, frameErr, c0]; rfl
  by_cases c1 : 253 < p.length
  · refine cP_of (by simp [argEl_eq, frameV]; rfl) ((s_mbap_Bytes_eq _ _ _ _).trans (by unfold s_mbap_Bytes; simp -implicitDefEqProofs (disch := first | omega | (simp only [List.length_set, List.length_append, List.length_cons, List.length_nil, List.length_take, List.length_drop, List.length_map]; omega) | simp) [wrap_i64, wrap_u16_id, wrap_u8_id, tdiv_pos, tmod_pos, -getElem?_pos, -getElem?_neg, -List.length_eq_zero_iff, -List.getElem_cons_drop]; exact ⟨rfl, rfl⟩)) ?_
    simp [frameOut, frameErr, c0, c1]; rfl
  have hP1 := word_Put_c n (by omega) t h0 h1
  have hP2 := word_Put_c n (by omega) (p.length + 1) (by omega) (by omega)
  have hm : (7 + (p.length : Int)).toNat = 7 + p.length := by omega
  refine cP_of (by simp [argEl_eq, frameV]; rfl) ((s_mbap_Bytes_eq _ _ _ _).trans (by unfold s_mbap_Bytes; simp -implicitDefEqProofs (disch := first | omega | (simp only [List.length_set, List.length_append, List.length_cons, List.length_nil, List.length_take, List.length_drop, List.length_map]; omega) | simp) [wrap_i64, wrap_u16_id, wrap_u8_id, tdiv_pos, tmod_pos, -getElem?_pos, -getElem?_neg, -List.length_eq_zero_iff, -List.getElem_cons_drop, hP1, hP2, hm, copy7a, copy7b, copy7c]; first | exact rfl | exact ⟨rfl, rfl⟩)) ?_
  rw [outD_tup, mapO_cons, outEl_row true .u8 1 0 (7 + p.length) (7 + p.length) _ 5 (frameBytes t u p) (by simp [frameBytes]) (by simp [frameBytes]; omega) (by simp [frameBytes]; omega) (Nat.le_refl _)]
  have hf : frameErr p.length = 0 := by simp [frameErr, c0, c1]
  have hlen : (frameBytes t u p).length = 7 + p.length := by simp [frameBytes]; omega
  simp [frameOut, hf, ← hlen]
end Go.Proofs.Ytigfninpflemnab
