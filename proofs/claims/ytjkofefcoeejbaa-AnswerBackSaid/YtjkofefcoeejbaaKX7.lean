/- Texts of mine, laid together: GAnsB, FRef06, FSame01, GSame01, GRef06, GRef6T, GRef6G, GRef6P, GRef6Q. -/
import Derived.Test.YtjkofefcoeejbaaKX6
/- Answers: their bytes, of the program. -/
namespace Go.Proofs.Ytjkofefcoeejbaa
open Go
set_option linter.unusedSimpArgs false
set_option linter.unusedVariables false
/-- bytes behind how many they are -/
def cntI (l : List Int) : List Int := (l.length : Int) % 256 :: l
theorem buildL_y1 (a : Int) : buildL false 1 1 (I .u8 0) [(0, I .u8 a)] = some (LV 1 (I .u8) [a] .ti) := rfl
theorem ansCounted_c (n : Nat) (hn : 1 ≤ n) (l : List Int) (t : Tag) (hl : l.length ≤ 100000) : cP n 62 false [LV 1 (I .u8) l t] = some (LV 1 (I .u8) (cntI l) .sh) := by
  obtain ⟨n, rfl⟩ : ∃ m, n = m + 1 := ⟨n - 1, by omega⟩
  have h1 := buildL_y1 ((l.length : Int) % 256)
  have e1 : IntKind.wrap .u8 (l.length : Int) = (l.length : Int) % 256 := rfl
  obtain ⟨t2, H', ha, _⟩ := appG_all (e := 5) (ag := false) (sz := 1) (by_ := 1) (n0 := 0) (enc := I .u8) (xs := [(l.length : Int) % 256]) (ys := l) (t := .ti) (t' := .sh) (H := []) (fl := 0) (by omega) (by simp) (.inl rfl) rfl (by simp; omega) (by simp; omega)
  rw [List.cons_append, List.nil_append] at ha
  exact cP_of (r := LV 1 (I .u8) (cntI l) t2) (args' := [LV 1 (I .u8) l .sh]) (by simp [argEl_eq]) ((s_answer_counted_eq _ _ _ _).trans (by unfold s_answer_counted cntI; simp -implicitDefEqProofs (disch := first | omega | (simp only [List.length_set, List.length_append, List.length_cons, List.length_nil, List.length_take, List.length_drop, List.length_map]; omega) | simp) [wrap_i64, wrap_u16_id, wrap_u8_id, tdiv_pos, tmod_pos, -getElem?_pos, -getElem?_neg, -List.length_eq_zero_iff, -List.getElem_cons_drop, h1, e1, ha]; first | exact rfl | exact ⟨rfl, rfl⟩)) (by simp)
def strI (s : ByteArray) : List Int := s.data.toList.map fun c => (c.toNat : Int)
theorem strI_len (s : ByteArray) : (strI s).length = s.size := by unfold strI; rw [List.length_map]; exact Array.length_toList
theorem conv_str (s : ByteArray) (h : s.size ≤ 1000000) : convD Try.prog 9 27 (Sg s) = some (LV 1 (I .u8) (strI s) .sh) := by
  have e : bytD Try.prog 9 27 s = some (LV 1 (I .u8) (strI s) .sh) := by
    unfold bytD
    simp only [Try.underlying9, Try.underlying27, Try.underlying5]
    rw [if_pos h]
    unfold LV strI
    rw [List.map_map]
    rfl
  unfold convD Sg
  simp only [e]
/-- texts, each behind its number, as bytes -/
def nmI (addr : Int) : Nat → List ByteArray → List Int
  | _, [] => []
  | i, s :: r => (addr + i) % 256 :: (cntI (strI s) ++ nmI addr (i + 1) r)
theorem nm_L (n fl : Nat) (e0 : TypeId) (cs : List DV) (a : Rq) (ha : 0 ≤ a.addr ∧ a.addr ≤ 65535) (l : List ByteArray) (t : Tag) (hs : ∀ s ∈ l, s.size ≤ 245) (hl : l.length ≤ 300) (hcs : cs[1]? = some (I .i64 a.addr)) (hfl : fl ≤ 1) (hn : 1 ≤ n) : ∀ (m i : Nat) (acc : List Int) (tg : Tag) (H : Heap),
    l.length < m + i → i ≤ l.length → acc.length ≤ 10 + 250 * i → TgOk tg 5 1 1 acc.length H → 1 ≤ H.length → H[0]? = some (.cells e0 cs) →
    ∃ t' H', ∀ K, s_answer_named_L0 n fl K m (.ptr 0 0) (LV 1 (I .u8) acc tg) (LV 1 Sg l t) (I .i64 l.length) (I .i64 i) H = K (.exit 0) (s_answer_named_O0 (LV 1 (I .u8) (acc ++ nmI a.addr i (l.drop i)) t')) H' := by
  intro m
  induction m with
  | zero => intro i acc tg H h; omega
  | succ m ih =>
    intro i acc tg H hm hi hacc ht hH h0
    by_cases h : i < l.length
    · have hz := hs _ (List.getElem_mem h)
      have hzl := strI_len l[i]
      have h1 := buildL_y1 ((a.addr + (i : Int)) % 256)
      have e1 : IntKind.wrap .u8 (a.addr + (i : Int)) = (a.addr + (i : Int)) % 256 := rfl
      have hcv := conv_str l[i] (by omega)
      have hcl : (cntI (strI l[i])).length = l[i].size + 1 := by unfold cntI; simp [hzl]
      have hcc := ansCounted_c n hn (strI l[i]) .sh (by omega)
      obtain ⟨t2, H2, ha2, ht2, hH2, hj2, _⟩ := appG_all (e := 5) (ag := false) (sz := 1) (by_ := 1) (n0 := 1) (enc := I .u8) (xs := acc) (ys := [(a.addr + (i : Int)) % 256]) (t := tg) (t' := .ti) (H := H) (fl := fl) hfl hH ht rfl (by simp; omega) (by simp; omega)
      obtain ⟨t3, H3, ha3, ht3, hH3, hj3, _⟩ := appG_all (e := 5) (ag := false) (sz := 1) (by_ := 1) (n0 := 1) (enc := I .u8) (xs := acc ++ [(a.addr + (i : Int)) % 256]) (ys := cntI (strI l[i])) (t := t2) (t' := .sh) (H := H2) (fl := fl) hfl (by omega) ht2 rfl (by simp; omega) (by simp; omega)
      have h03 : H3[0]? = some (.cells e0 cs) := by rw [hj3 0 (by omega), hj2 0 (by omega)]; exact h0
      obtain ⟨t', H', hK⟩ := ih (i + 1) _ t3 H3 (by omega) (by omega) (by simp; omega) ht3 (by omega) h03
      have hi2 : ((i + 1 : Nat) : Int) = (i : Int) + 1 := by omega
      rw [hi2] at hK
      refine ⟨t', H', fun K => ?_⟩
      rw [List.drop_eq_getElem_cons h]
      have hK := hK K
      simp only [List.append_assoc, List.cons_append, List.nil_append] at hK
      unfold s_answer_named_L0 s_answer_named_B0
      have e2 : acc ++ nmI a.addr i (l[i] :: l.drop (i + 1)) = acc ++ [(a.addr + (i : Int)) % 256] ++ cntI (strI l[i]) ++ nmI a.addr (i + 1) (l.drop (i + 1)) := by simp [nmI]
      rw [e2]
      obtain ⟨g0, g1⟩ := ha
      simp -implicitDefEqProofs (disch := first | omega | (simp only [List.length_set, List.length_append, List.length_cons, List.length_nil, List.length_take, List.length_drop, List.length_map]; omega) | simp) [wrap_i64, wrap_u16_id, wrap_u8_id, tdiv_pos, tmod_pos, -getElem?_pos, -getElem?_neg, -List.length_eq_zero_iff, -List.getElem_cons_drop, h, h0, hcs, h1, e1, hcv, hcc, ha2, ha3, hK]
    · have : i = l.length := by omega
      subst this
      refine ⟨tg, H, fun K => ?_⟩
      unfold s_answer_named_L0 s_answer_named_B0
      rw [List.drop_length]
      simp -implicitDefEqProofs (disch := first | omega | (simp only [List.length_set, List.length_append, List.length_cons, List.length_nil, List.length_take, List.length_drop, List.length_map]; omega) | simp) [wrap_i64, wrap_u16_id, wrap_u8_id, tdiv_pos, tmod_pos, -getElem?_pos, -getElem?_neg, -List.length_eq_zero_iff, -List.getElem_cons_drop, nmI]
theorem buildL_y6 (a b : Int) : buildL false 1 6 (I .u8 0) [(0, I .u8 14), (1, I .u8 a), (2, I .u8 1), (3, I .u8 0), (4, I .u8 0), (5, I .u8 b)] = some (LV 1 (I .u8) [14, a, 1, 0, 0, b] .ti) := by kernel_rfl
def namedV (a : Rq) (l : List ByteArray) : List Int := [14, a.cnt % 256, 1, 0, 0, (l.length : Int) % 256] ++ nmI a.addr 0 l
theorem named_c (n : Nat) (a : Rq) (t1 t2 t : Tag) (l : List ByteArray) (ha : 0 ≤ a.addr ∧ a.addr ≤ 65535) (hs : ∀ s ∈ l, s.size ≤ 245) (hl : l.length ≤ 300) (hn : 310 ≤ n) : cP n 65 false [rqE a t1 t2, LV 1 Sg l t] = some (LV 1 (I .u8) (namedV a l) .sh) := by
  obtain ⟨n, rfl⟩ : ∃ m, n = m + 1 := ⟨n - 1, by omega⟩
  have h6 := buildL_y6 (a.cnt % 256) ((l.length : Int) % 256)
  have e1 : IntKind.wrap .u8 (l.length : Int) = (l.length : Int) % 256 := rfl
  have e2 : IntKind.wrap .u8 a.cnt = a.cnt % 256 := rfl
  obtain ⟨t', H', hK⟩ := nm_L n 0 26 [I .i64 a.code, I .i64 a.addr, I .i64 a.cnt, I .i64 a.to_, LV 1 (I .u16) a.words .sh, LV 1 Bo a.bits .sh, I .u16 a.and_, I .u16 a.or_] a ha l .sh hs hl rfl (by omega) (by omega) n 0 [14, a.cnt % 256, 1, 0, 0, (l.length : Int) % 256] .ti
    [.cells 26 [I .i64 a.code, I .i64 a.addr, I .i64 a.cnt, I .i64 a.to_, LV 1 (I .u16) a.words .sh, LV 1 Bo a.bits .sh, I .u16 a.and_, I .u16 a.or_]] (by omega) (by omega) (by simp) (.inl rfl) (by simp) rfl
  have q : ∀ K, loopG [2, 5, 15, 16, 17] [5] 36 (s_answer_named_b0 n 0) n (s_answer_named_I0 (.ptr 0 0) (LV 1 (I .u8) [14, a.cnt % 256, 1, 0, 0, (l.length : Int) % 256] .ti) (LV 1 Sg l .sh) (I .i64 l.length) (I .i64 0)) [.cells 26 [I .i64 a.code, I .i64 a.addr, I .i64 a.cnt, I .i64 a.to_, LV 1 (I .u16) a.words .sh, LV 1 Bo a.bits .sh, I .u16 a.and_, I .u16 a.or_]] K = _ := fun K => (s_answer_named_L0_eq _ _ _ _ _ _ _ _ _ _).trans (hK K)
  rw [List.drop_zero] at q
  unfold namedV
  refine cP_of (r := LV 1 (I .u8) ([14, a.cnt % 256, 1, 0, 0, (l.length : Int) % 256] ++ nmI a.addr 0 l) t') (H' := H') (args' := [rqE a .sh .sh, LV 1 Sg l .sh]) (by simp [argEl_eq, rqE]) ((s_answer_named_eq _ _ _ _ _).trans ?_) (by simp)
  unfold s_answer_named rqE
  simp -implicitDefEqProofs (disch := first | omega | (simp only [List.length_set, List.length_append, List.length_cons, List.length_nil, List.length_take, List.length_drop, List.length_map]; omega) | simp) [wrap_i64, wrap_u16_id, wrap_u8_id, tdiv_pos, tmod_pos, -getElem?_pos, -getElem?_neg, -List.length_eq_zero_iff, -List.getElem_cons_drop, h6, e1, e2, q, s_answer_named_O0]
end Go.Proofs.Ytjkofefcoeejbaa

/- Go functions as Lean functions on deep values; printed by a program of mine. -/
namespace Go.Proofs.Ytjkofefcoeejbaa
open Go
set_option maxRecDepth 100000
set_option linter.unusedVariables false
/-! triune/triuneref06.two -/
noncomputable def s_triuneref06_two (n : Nat) (H : Heap) (fl : Nat) (a0 : DV) : R :=
  bi (quoK .i64 a0 (I .i64 256)) fun d0 =>
  bi (cvK .u8 d0) fun d1 =>
  bi (remK .i64 a0 (I .i64 256)) fun d2 =>
  bi (cvK .u8 d2) fun d3 =>
  bi (buildL false 1 2 (I .u8 0) [(0, d1), (1, d3)]) fun d4 =>
  some (d4, H)
theorem s_triuneref06_two_eq (n : Nat) (H : Heap) (fl : Nat) (a0 : DV) : callG Try.prog ENV (n + 1) 81 [a0] H fl = s_triuneref06_two n H fl a0 := by kernel_rfl

/-! triune/triuneref06.text -/
noncomputable def s_triuneref06_text (n : Nat) (H : Heap) (fl : Nat) (a0 : DV) : R :=
  bi (allocG 30 a0 (List.length H) (H ++ [.hole])) fun h0 =>
  bi (loadG false 1 (.ptr (List.length H) 0) h0) fun d1 =>
  bi (cvK .u8 d1) fun d2 =>
  bi (buildL false 1 1 (I .u8 0) [(0, d2)]) fun d3 =>
  bi (loadG false 1 (.ptr (List.length H) 1) h0) fun d4 =>
  bi (cP n 81 false [d4]) fun d5 =>
  bi (appG 5 false 1 1 d3 d5 h0 fl) fun p6 =>
  bi (loadG false 1 (.ptr (List.length H) 0) p6.2) fun d7 =>
  bi (eqK .i64 d7 (I .i64 1)) fun d8 =>
  condR d8 (
  condR d8 (
   bi (loadG false 1 (.ptr (List.length H) 2) p6.2) fun d9 =>
   bi (cP n 81 false [d9]) fun d10 =>
   bi (appG 5 false 1 1 p6.1 d10 p6.2 fl) fun p11 =>
  some (p11.1, p11.2)) (
   bi (eqK .i64 d7 (I .i64 5)) fun d12 =>
   condR d12 (
    bi (loadG false 1 (.ptr (List.length H) 5) p6.2) fun d13 =>
    bi (idxSl 1 d13 (I .i64 0)) fun d14 =>
    bi (loadG false 1 d14 p6.2) fun d15 =>
    condR d15 (
     bi (buildL false 1 2 (I .u8 0) [(0, (I .u8 255)), (1, (I .u8 0))]) fun d16 =>
     bi (appG 5 false 1 1 p6.1 d16 p6.2 fl) fun p17 =>
  some (p17.1, p17.2)) (
    bi (buildL false 1 2 (I .u8 0) [(0, (I .u8 0)), (1, (I .u8 0))]) fun d18 =>
    bi (appG 5 false 1 1 p6.1 d18 p6.2 fl) fun p19 =>
  some (p19.1, p19.2))) (
    bi (eqK .i64 d7 (I .i64 6)) fun d20 =>
    condR d20 (
     bi (loadG false 1 (.ptr (List.length H) 4) p6.2) fun d21 =>
     bi (cP n 82 false [d21]) fun d22 =>
     bi (appG 5 false 1 1 p6.1 d22 p6.2 fl) fun p23 =>
  some (p23.1, p23.2)) (
     bi (eqK .i64 d7 (I .i64 15)) fun d24 =>
     condR d24 (
      bi (loadG false 1 (.ptr (List.length H) 5) p6.2) fun d25 =>
      bi (cP n 83 false [d25]) fun d26 =>
      bi (loadG false 1 (.ptr (List.length H) 5) p6.2) fun d27 =>
      bi (lenD d27) fun d28 =>
      bi (cP n 81 false [d28]) fun d29 =>
      bi (appG 5 false 1 1 p6.1 d29 p6.2 fl) fun p30 =>
      bi (lenD d26) fun d31 =>
      bi (cvK .u8 d31) fun d32 =>
      bi (buildL false 1 1 (I .u8 0) [(0, d32)]) fun d33 =>
      bi (appG 5 false 1 1 p30.1 d33 p30.2 fl) fun p34 =>
      bi (appG 5 false 1 1 p34.1 d26 p34.2 fl) fun p35 =>
  some (p35.1, p35.2)) (
      bi (eqK .i64 d7 (I .i64 16)) fun d36 =>
      condR d36 (
       bi (loadG false 1 (.ptr (List.length H) 4) p6.2) fun d37 =>
       bi (cP n 82 false [d37]) fun d38 =>
       bi (loadG false 1 (.ptr (List.length H) 4) p6.2) fun d39 =>
       bi (lenD d39) fun d40 =>
       bi (cP n 81 false [d40]) fun d41 =>
       bi (appG 5 false 1 1 p6.1 d41 p6.2 fl) fun p42 =>
       bi (lenD d38) fun d43 =>
       bi (cvK .u8 d43) fun d44 =>
       bi (buildL false 1 1 (I .u8 0) [(0, d44)]) fun d45 =>
       bi (appG 5 false 1 1 p42.1 d45 p42.2 fl) fun p46 =>
       bi (appG 5 false 1 1 p46.1 d38 p46.2 fl) fun p47 =>
  some (p47.1, p47.2)) (
       bi (eqK .i64 d7 (I .i64 22)) fun d48 =>
       condR d48 (
        bi (loadG false 1 (.ptr (List.length H) 6) p6.2) fun d49 =>
        bi (cvK .i64 d49) fun d50 =>
        bi (cP n 81 false [d50]) fun d51 =>
        bi (appG 5 false 1 1 p6.1 d51 p6.2 fl) fun p52 =>
        bi (loadG false 1 (.ptr (List.length H) 7) p52.2) fun d53 =>
        bi (cvK .i64 d53) fun d54 =>
        bi (cP n 81 false [d54]) fun d55 =>
        bi (appG 5 false 1 1 p52.1 d55 p52.2 fl) fun p56 =>
  some (p56.1, p56.2)) (
        bi (eqK .i64 d7 (I .i64 23)) fun d57 =>
        condR d57 (
         bi (loadG false 1 (.ptr (List.length H) 4) p6.2) fun d58 =>
         bi (cP n 82 false [d58]) fun d59 =>
         bi (loadG false 1 (.ptr (List.length H) 2) p6.2) fun d60 =>
         bi (cP n 81 false [d60]) fun d61 =>
         bi (appG 5 false 1 1 p6.1 d61 p6.2 fl) fun p62 =>
         bi (loadG false 1 (.ptr (List.length H) 3) p62.2) fun d63 =>
         bi (cP n 81 false [d63]) fun d64 =>
         bi (appG 5 false 1 1 p62.1 d64 p62.2 fl) fun p65 =>
         bi (loadG false 1 (.ptr (List.length H) 4) p65.2) fun d66 =>
         bi (lenD d66) fun d67 =>
         bi (cP n 81 false [d67]) fun d68 =>
         bi (appG 5 false 1 1 p65.1 d68 p65.2 fl) fun p69 =>
         bi (lenD d59) fun d70 =>
         bi (cvK .u8 d70) fun d71 =>
         bi (buildL false 1 1 (I .u8 0) [(0, d71)]) fun d72 =>
         bi (appG 5 false 1 1 p69.1 d72 p69.2 fl) fun p73 =>
         bi (appG 5 false 1 1 p73.1 d59 p73.2 fl) fun p74 =>
  some (p74.1, p74.2)) (
  bi (loadG false 1 (.ptr (List.length H) 2) p6.2) fun d75 =>
  bi (cvK .u8 d75) fun d76 =>
  bi (loadG false 1 (.ptr (List.length H) 1) p6.2) fun d77 =>
  bi (cvK .u8 d77) fun d78 =>
  bi (buildL false 1 4 (I .u8 0) [(0, (I .u8 43)), (1, (I .u8 14)), (2, d76), (3, d78)]) fun d79 =>
  some (d79, p6.2))))))))) (
   bi (eqK .i64 d7 (I .i64 2)) fun d80 =>
   condR d80 (
  condR d80 (
   bi (loadG false 1 (.ptr (List.length H) 2) p6.2) fun d81 =>
   bi (cP n 81 false [d81]) fun d82 =>
   bi (appG 5 false 1 1 p6.1 d82 p6.2 fl) fun p83 =>
  some (p83.1, p83.2)) (
   bi (eqK .i64 d7 (I .i64 5)) fun d84 =>
   condR d84 (
    bi (loadG false 1 (.ptr (List.length H) 5) p6.2) fun d85 =>
    bi (idxSl 1 d85 (I .i64 0)) fun d86 =>
    bi (loadG false 1 d86 p6.2) fun d87 =>
    condR d87 (
     bi (buildL false 1 2 (I .u8 0) [(0, (I .u8 255)), (1, (I .u8 0))]) fun d88 =>
     bi (appG 5 false 1 1 p6.1 d88 p6.2 fl) fun p89 =>
  some (p89.1, p89.2)) (
    bi (buildL false 1 2 (I .u8 0) [(0, (I .u8 0)), (1, (I .u8 0))]) fun d90 =>
    bi (appG 5 false 1 1 p6.1 d90 p6.2 fl) fun p91 =>
  some (p91.1, p91.2))) (
    bi (eqK .i64 d7 (I .i64 6)) fun d92 =>
    condR d92 (
     bi (loadG false 1 (.ptr (List.length H) 4) p6.2) fun d93 =>
     bi (cP n 82 false [d93]) fun d94 =>
     bi (appG 5 false 1 1 p6.1 d94 p6.2 fl) fun p95 =>
  some (p95.1, p95.2)) (
     bi (eqK .i64 d7 (I .i64 15)) fun d96 =>
     condR d96 (
      bi (loadG false 1 (.ptr (List.length H) 5) p6.2) fun d97 =>
      bi (cP n 83 false [d97]) fun d98 =>
      bi (loadG false 1 (.ptr (List.length H) 5) p6.2) fun d99 =>
      bi (lenD d99) fun d100 =>
      bi (cP n 81 false [d100]) fun d101 =>
      bi (appG 5 false 1 1 p6.1 d101 p6.2 fl) fun p102 =>
      bi (lenD d98) fun d103 =>
      bi (cvK .u8 d103) fun d104 =>
      bi (buildL false 1 1 (I .u8 0) [(0, d104)]) fun d105 =>
      bi (appG 5 false 1 1 p102.1 d105 p102.2 fl) fun p106 =>
      bi (appG 5 false 1 1 p106.1 d98 p106.2 fl) fun p107 =>
  some (p107.1, p107.2)) (
      bi (eqK .i64 d7 (I .i64 16)) fun d108 =>
      condR d108 (
       bi (loadG false 1 (.ptr (List.length H) 4) p6.2) fun d109 =>
       bi (cP n 82 false [d109]) fun d110 =>
       bi (loadG false 1 (.ptr (List.length H) 4) p6.2) fun d111 =>
       bi (lenD d111) fun d112 =>
       bi (cP n 81 false [d112]) fun d113 =>
       bi (appG 5 false 1 1 p6.1 d113 p6.2 fl) fun p114 =>
       bi (lenD d110) fun d115 =>
       bi (cvK .u8 d115) fun d116 =>
       bi (buildL false 1 1 (I .u8 0) [(0, d116)]) fun d117 =>
       bi (appG 5 false 1 1 p114.1 d117 p114.2 fl) fun p118 =>
       bi (appG 5 false 1 1 p118.1 d110 p118.2 fl) fun p119 =>
  some (p119.1, p119.2)) (
       bi (eqK .i64 d7 (I .i64 22)) fun d120 =>
       condR d120 (
        bi (loadG false 1 (.ptr (List.length H) 6) p6.2) fun d121 =>
        bi (cvK .i64 d121) fun d122 =>
        bi (cP n 81 false [d122]) fun d123 =>
        bi (appG 5 false 1 1 p6.1 d123 p6.2 fl) fun p124 =>
        bi (loadG false 1 (.ptr (List.length H) 7) p124.2) fun d125 =>
        bi (cvK .i64 d125) fun d126 =>
        bi (cP n 81 false [d126]) fun d127 =>
        bi (appG 5 false 1 1 p124.1 d127 p124.2 fl) fun p128 =>
  some (p128.1, p128.2)) (
        bi (eqK .i64 d7 (I .i64 23)) fun d129 =>
        condR d129 (
         bi (loadG false 1 (.ptr (List.length H) 4) p6.2) fun d130 =>
         bi (cP n 82 false [d130]) fun d131 =>
         bi (loadG false 1 (.ptr (List.length H) 2) p6.2) fun d132 =>
         bi (cP n 81 false [d132]) fun d133 =>
         bi (appG 5 false 1 1 p6.1 d133 p6.2 fl) fun p134 =>
         bi (loadG false 1 (.ptr (List.length H) 3) p134.2) fun d135 =>
         bi (cP n 81 false [d135]) fun d136 =>
         bi (appG 5 false 1 1 p134.1 d136 p134.2 fl) fun p137 =>
         bi (loadG false 1 (.ptr (List.length H) 4) p137.2) fun d138 =>
         bi (lenD d138) fun d139 =>
         bi (cP n 81 false [d139]) fun d140 =>
         bi (appG 5 false 1 1 p137.1 d140 p137.2 fl) fun p141 =>
         bi (lenD d131) fun d142 =>
         bi (cvK .u8 d142) fun d143 =>
         bi (buildL false 1 1 (I .u8 0) [(0, d143)]) fun d144 =>
         bi (appG 5 false 1 1 p141.1 d144 p141.2 fl) fun p145 =>
         bi (appG 5 false 1 1 p145.1 d131 p145.2 fl) fun p146 =>
  some (p146.1, p146.2)) (
  bi (loadG false 1 (.ptr (List.length H) 2) p6.2) fun d147 =>
  bi (cvK .u8 d147) fun d148 =>
  bi (loadG false 1 (.ptr (List.length H) 1) p6.2) fun d149 =>
  bi (cvK .u8 d149) fun d150 =>
  bi (buildL false 1 4 (I .u8 0) [(0, (I .u8 43)), (1, (I .u8 14)), (2, d148), (3, d150)]) fun d151 =>
  some (d151, p6.2))))))))) (
    bi (eqK .i64 d7 (I .i64 3)) fun d152 =>
    condR d152 (
  condR d152 (
   bi (loadG false 1 (.ptr (List.length H) 2) p6.2) fun d153 =>
   bi (cP n 81 false [d153]) fun d154 =>
   bi (appG 5 false 1 1 p6.1 d154 p6.2 fl) fun p155 =>
  some (p155.1, p155.2)) (
   bi (eqK .i64 d7 (I .i64 5)) fun d156 =>
   condR d156 (
    bi (loadG false 1 (.ptr (List.length H) 5) p6.2) fun d157 =>
    bi (idxSl 1 d157 (I .i64 0)) fun d158 =>
    bi (loadG false 1 d158 p6.2) fun d159 =>
    condR d159 (
     bi (buildL false 1 2 (I .u8 0) [(0, (I .u8 255)), (1, (I .u8 0))]) fun d160 =>
     bi (appG 5 false 1 1 p6.1 d160 p6.2 fl) fun p161 =>
  some (p161.1, p161.2)) (
    bi (buildL false 1 2 (I .u8 0) [(0, (I .u8 0)), (1, (I .u8 0))]) fun d162 =>
    bi (appG 5 false 1 1 p6.1 d162 p6.2 fl) fun p163 =>
  some (p163.1, p163.2))) (
    bi (eqK .i64 d7 (I .i64 6)) fun d164 =>
    condR d164 (
     bi (loadG false 1 (.ptr (List.length H) 4) p6.2) fun d165 =>
     bi (cP n 82 false [d165]) fun d166 =>
     bi (appG 5 false 1 1 p6.1 d166 p6.2 fl) fun p167 =>
  some (p167.1, p167.2)) (
     bi (eqK .i64 d7 (I .i64 15)) fun d168 =>
     condR d168 (
      bi (loadG false 1 (.ptr (List.length H) 5) p6.2) fun d169 =>
      bi (cP n 83 false [d169]) fun d170 =>
      bi (loadG false 1 (.ptr (List.length H) 5) p6.2) fun d171 =>
      bi (lenD d171) fun d172 =>
      bi (cP n 81 false [d172]) fun d173 =>
      bi (appG 5 false 1 1 p6.1 d173 p6.2 fl) fun p174 =>
      bi (lenD d170) fun d175 =>
      bi (cvK .u8 d175) fun d176 =>
      bi (buildL false 1 1 (I .u8 0) [(0, d176)]) fun d177 =>
      bi (appG 5 false 1 1 p174.1 d177 p174.2 fl) fun p178 =>
      bi (appG 5 false 1 1 p178.1 d170 p178.2 fl) fun p179 =>
  some (p179.1, p179.2)) (
      bi (eqK .i64 d7 (I .i64 16)) fun d180 =>
      condR d180 (
       bi (loadG false 1 (.ptr (List.length H) 4) p6.2) fun d181 =>
       bi (cP n 82 false [d181]) fun d182 =>
       bi (loadG false 1 (.ptr (List.length H) 4) p6.2) fun d183 =>
       bi (lenD d183) fun d184 =>
       bi (cP n 81 false [d184]) fun d185 =>
       bi (appG 5 false 1 1 p6.1 d185 p6.2 fl) fun p186 =>
       bi (lenD d182) fun d187 =>
       bi (cvK .u8 d187) fun d188 =>
       bi (buildL false 1 1 (I .u8 0) [(0, d188)]) fun d189 =>
       bi (appG 5 false 1 1 p186.1 d189 p186.2 fl) fun p190 =>
       bi (appG 5 false 1 1 p190.1 d182 p190.2 fl) fun p191 =>
  some (p191.1, p191.2)) (
       bi (eqK .i64 d7 (I .i64 22)) fun d192 =>
       condR d192 (
        bi (loadG false 1 (.ptr (List.length H) 6) p6.2) fun d193 =>
        bi (cvK .i64 d193) fun d194 =>
        bi (cP n 81 false [d194]) fun d195 =>
        bi (appG 5 false 1 1 p6.1 d195 p6.2 fl) fun p196 =>
        bi (loadG false 1 (.ptr (List.length H) 7) p196.2) fun d197 =>
        bi (cvK .i64 d197) fun d198 =>
        bi (cP n 81 false [d198]) fun d199 =>
        bi (appG 5 false 1 1 p196.1 d199 p196.2 fl) fun p200 =>
  some (p200.1, p200.2)) (
        bi (eqK .i64 d7 (I .i64 23)) fun d201 =>
        condR d201 (
         bi (loadG false 1 (.ptr (List.length H) 4) p6.2) fun d202 =>
         bi (cP n 82 false [d202]) fun d203 =>
         bi (loadG false 1 (.ptr (List.length H) 2) p6.2) fun d204 =>
         bi (cP n 81 false [d204]) fun d205 =>
         bi (appG 5 false 1 1 p6.1 d205 p6.2 fl) fun p206 =>
         bi (loadG false 1 (.ptr (List.length H) 3) p206.2) fun d207 =>
         bi (cP n 81 false [d207]) fun d208 =>
         bi (appG 5 false 1 1 p206.1 d208 p206.2 fl) fun p209 =>
         bi (loadG false 1 (.ptr (List.length H) 4) p209.2) fun d210 =>
         bi (lenD d210) fun d211 =>
         bi (cP n 81 false [d211]) fun d212 =>
         bi (appG 5 false 1 1 p209.1 d212 p209.2 fl) fun p213 =>
         bi (lenD d203) fun d214 =>
         bi (cvK .u8 d214) fun d215 =>
         bi (buildL false 1 1 (I .u8 0) [(0, d215)]) fun d216 =>
         bi (appG 5 false 1 1 p213.1 d216 p213.2 fl) fun p217 =>
         bi (appG 5 false 1 1 p217.1 d203 p217.2 fl) fun p218 =>
  some (p218.1, p218.2)) (
  bi (loadG false 1 (.ptr (List.length H) 2) p6.2) fun d219 =>
  bi (cvK .u8 d219) fun d220 =>
  bi (loadG false 1 (.ptr (List.length H) 1) p6.2) fun d221 =>
  bi (cvK .u8 d221) fun d222 =>
  bi (buildL false 1 4 (I .u8 0) [(0, (I .u8 43)), (1, (I .u8 14)), (2, d220), (3, d222)]) fun d223 =>
  some (d223, p6.2))))))))) (
     bi (eqK .i64 d7 (I .i64 4)) fun d224 =>
  condR d224 (
   bi (loadG false 1 (.ptr (List.length H) 2) p6.2) fun d225 =>
   bi (cP n 81 false [d225]) fun d226 =>
   bi (appG 5 false 1 1 p6.1 d226 p6.2 fl) fun p227 =>
  some (p227.1, p227.2)) (
   bi (eqK .i64 d7 (I .i64 5)) fun d228 =>
   condR d228 (
    bi (loadG false 1 (.ptr (List.length H) 5) p6.2) fun d229 =>
    bi (idxSl 1 d229 (I .i64 0)) fun d230 =>
    bi (loadG false 1 d230 p6.2) fun d231 =>
    condR d231 (
     bi (buildL false 1 2 (I .u8 0) [(0, (I .u8 255)), (1, (I .u8 0))]) fun d232 =>
     bi (appG 5 false 1 1 p6.1 d232 p6.2 fl) fun p233 =>
  some (p233.1, p233.2)) (
    bi (buildL false 1 2 (I .u8 0) [(0, (I .u8 0)), (1, (I .u8 0))]) fun d234 =>
    bi (appG 5 false 1 1 p6.1 d234 p6.2 fl) fun p235 =>
  some (p235.1, p235.2))) (
    bi (eqK .i64 d7 (I .i64 6)) fun d236 =>
    condR d236 (
     bi (loadG false 1 (.ptr (List.length H) 4) p6.2) fun d237 =>
     bi (cP n 82 false [d237]) fun d238 =>
     bi (appG 5 false 1 1 p6.1 d238 p6.2 fl) fun p239 =>
  some (p239.1, p239.2)) (
     bi (eqK .i64 d7 (I .i64 15)) fun d240 =>
     condR d240 (
      bi (loadG false 1 (.ptr (List.length H) 5) p6.2) fun d241 =>
      bi (cP n 83 false [d241]) fun d242 =>
      bi (loadG false 1 (.ptr (List.length H) 5) p6.2) fun d243 =>
      bi (lenD d243) fun d244 =>
      bi (cP n 81 false [d244]) fun d245 =>
      bi (appG 5 false 1 1 p6.1 d245 p6.2 fl) fun p246 =>
      bi (lenD d242) fun d247 =>
      bi (cvK .u8 d247) fun d248 =>
      bi (buildL false 1 1 (I .u8 0) [(0, d248)]) fun d249 =>
      bi (appG 5 false 1 1 p246.1 d249 p246.2 fl) fun p250 =>
      bi (appG 5 false 1 1 p250.1 d242 p250.2 fl) fun p251 =>
  some (p251.1, p251.2)) (
      bi (eqK .i64 d7 (I .i64 16)) fun d252 =>
      condR d252 (
       bi (loadG false 1 (.ptr (List.length H) 4) p6.2) fun d253 =>
       bi (cP n 82 false [d253]) fun d254 =>
       bi (loadG false 1 (.ptr (List.length H) 4) p6.2) fun d255 =>
       bi (lenD d255) fun d256 =>
       bi (cP n 81 false [d256]) fun d257 =>
       bi (appG 5 false 1 1 p6.1 d257 p6.2 fl) fun p258 =>
       bi (lenD d254) fun d259 =>
       bi (cvK .u8 d259) fun d260 =>
       bi (buildL false 1 1 (I .u8 0) [(0, d260)]) fun d261 =>
       bi (appG 5 false 1 1 p258.1 d261 p258.2 fl) fun p262 =>
       bi (appG 5 false 1 1 p262.1 d254 p262.2 fl) fun p263 =>
  some (p263.1, p263.2)) (
       bi (eqK .i64 d7 (I .i64 22)) fun d264 =>
       condR d264 (
        bi (loadG false 1 (.ptr (List.length H) 6) p6.2) fun d265 =>
        bi (cvK .i64 d265) fun d266 =>
        bi (cP n 81 false [d266]) fun d267 =>
        bi (appG 5 false 1 1 p6.1 d267 p6.2 fl) fun p268 =>
        bi (loadG false 1 (.ptr (List.length H) 7) p268.2) fun d269 =>
        bi (cvK .i64 d269) fun d270 =>
        bi (cP n 81 false [d270]) fun d271 =>
        bi (appG 5 false 1 1 p268.1 d271 p268.2 fl) fun p272 =>
  some (p272.1, p272.2)) (
        bi (eqK .i64 d7 (I .i64 23)) fun d273 =>
        condR d273 (
         bi (loadG false 1 (.ptr (List.length H) 4) p6.2) fun d274 =>
         bi (cP n 82 false [d274]) fun d275 =>
         bi (loadG false 1 (.ptr (List.length H) 2) p6.2) fun d276 =>
         bi (cP n 81 false [d276]) fun d277 =>
         bi (appG 5 false 1 1 p6.1 d277 p6.2 fl) fun p278 =>
         bi (loadG false 1 (.ptr (List.length H) 3) p278.2) fun d279 =>
         bi (cP n 81 false [d279]) fun d280 =>
         bi (appG 5 false 1 1 p278.1 d280 p278.2 fl) fun p281 =>
         bi (loadG false 1 (.ptr (List.length H) 4) p281.2) fun d282 =>
         bi (lenD d282) fun d283 =>
         bi (cP n 81 false [d283]) fun d284 =>
         bi (appG 5 false 1 1 p281.1 d284 p281.2 fl) fun p285 =>
         bi (lenD d275) fun d286 =>
         bi (cvK .u8 d286) fun d287 =>
         bi (buildL false 1 1 (I .u8 0) [(0, d287)]) fun d288 =>
         bi (appG 5 false 1 1 p285.1 d288 p285.2 fl) fun p289 =>
         bi (appG 5 false 1 1 p289.1 d275 p289.2 fl) fun p290 =>
  some (p290.1, p290.2)) (
  bi (loadG false 1 (.ptr (List.length H) 2) p6.2) fun d291 =>
  bi (cvK .u8 d291) fun d292 =>
  bi (loadG false 1 (.ptr (List.length H) 1) p6.2) fun d293 =>
  bi (cvK .u8 d293) fun d294 =>
  bi (buildL false 1 4 (I .u8 0) [(0, (I .u8 43)), (1, (I .u8 14)), (2, d292), (3, d294)]) fun d295 =>
  some (d295, p6.2)))))))))))
theorem s_triuneref06_text_eq (n : Nat) (H : Heap) (fl : Nat) (a0 : DV) : callG Try.prog ENV (n + 1) 46 [a0] H fl = s_triuneref06_text n H fl a0 := by kernel_rfl

/-! triune/triuneref06.Bytes -/
noncomputable def s_triuneref06_Bytes (n : Nat) (H : Heap) (fl : Nat) (a0 : DV) : R :=
  bi (allocG 30 a0 (List.length H) (H ++ [.hole])) fun h0 =>
  bi (loadG true 8 (.ptr (List.length H) 0) h0) fun d1 =>
  bi (cP n 21 false [d1]) fun d2 =>
  bi (notD d2) fun d3 =>
  condR d3 (
  some ((.tup [(.list 0 [] .ti), (I .i64 2)]), h0)) (
  bi (loadG true 8 (.ptr (List.length H) 0) h0) fun d4 =>
  bi (cP n 46 false [d4]) fun d5 =>
  some ((.tup [d5, (I .i64 0)]), h0))
theorem s_triuneref06_Bytes_eq (n : Nat) (H : Heap) (fl : Nat) (a0 : DV) : callG Try.prog ENV (n + 1) 15 [a0] H fl = s_triuneref06_Bytes n H fl a0 := by kernel_rfl

/-! triune/triuneref06.number -/
noncomputable def s_triuneref06_number (n : Nat) (H : Heap) (fl : Nat) (a0 a1 : DV) : R :=
  bi (addK .i64 a1 (I .i64 2)) fun d0 =>
  bi (lenD a0) fun d1 =>
  bi (gtK .i64 d0 d1) fun d2 =>
  condR d2 (
  some ((I .i64 0), H)) (
  bi (idxSl 1 a0 a1) fun d3 =>
  bi (loadG false 1 d3 H) fun d4 =>
  bi (cvK .i64 d4) fun d5 =>
  bi (mulK .i64 (I .i64 256) d5) fun d6 =>
  bi (addK .i64 a1 (I .i64 1)) fun d7 =>
  bi (idxSl 1 a0 d7) fun d8 =>
  bi (loadG false 1 d8 H) fun d9 =>
  bi (cvK .i64 d9) fun d10 =>
  bi (addK .i64 d6 d10) fun d11 =>
  some (d11, H))
theorem s_triuneref06_number_eq (n : Nat) (H : Heap) (fl : Nat) (a0 a1 : DV) : callG Try.prog ENV (n + 1) 87 [a0, a1] H fl = s_triuneref06_number n H fl a0 a1 := by kernel_rfl

/-! triune/triuneref06.behind -/
noncomputable def s_triuneref06_behind (n : Nat) (H : Heap) (fl : Nat) (a0 a1 : DV) : R :=
  bi (lenD a0) fun d0 =>
  bi (minI a1 d0) fun d1 =>
  bi (slX 1 a0 (some d1) none none) fun d2 =>
  some (d2, H)
theorem s_triuneref06_behind_eq (n : Nat) (H : Heap) (fl : Nat) (a0 a1 : DV) : callG Try.prog ENV (n + 1) 88 [a0, a1] H fl = s_triuneref06_behind n H fl a0 a1 := by kernel_rfl

/-! triune/triuneref06.guess -/
def s_triuneref06_guess_I1 (x2 x3 x4 x5 x6 x7 x8 : DV) : List DV := [.any, .any, x2, x3, x4, x5, x6, x7, x8, .any, .any, .any, .any, .any, .any, .any, .any, .any, .any, .any, .any, .any, .any, .any, .any, .any, .any, .any, .any, .any, .any, .any, .any, .any, .any, .any, .any, .any, .any, .any, .any, .any, .any, .any, .any, .any, .any, .any, .any, .any, .any, .any, .any, .any, .any, .any, .any, .any, .any, .any, .any, .any, .any, .any, .any, .any, .any, .any, .any, .any, .any, .any, .any, .any, .any, .any, .any, .any, .any, .any, .any, .any, .any, .any, .any, .any, .any, .any, .any, .any, .any, .any, .any, .any, .any, .any, .any, .any, .any, .any, .any, .any, .any, .any, .any, .any, .any, .any, .any, .any, .any, .any, .any, .any, .any, .any, .any, .any, .any, .any, .any, .any, .any, .any, .any, .any, .any, .any, .any, .any, .any]
def s_triuneref06_guess_O1 (x2 x3 x4 x5 x6 x7 : DV) : List DV := [.any, .any, x2, x3, x4, x5, x6, x7, .any, .any, .any, .any, .any, .any, .any, .any, .any, .any, .any, .any, .any, .any, .any, .any, .any, .any, .any, .any, .any, .any, .any, .any, .any, .any, .any, .any, .any, .any, .any, .any, .any, .any, .any, .any, .any, .any, .any, .any, .any, .any, .any, .any, .any, .any, .any, .any, .any, .any, .any, .any, .any, .any, .any, .any, .any, .any, .any, .any, .any, .any, .any, .any, .any, .any, .any, .any, .any, .any, .any, .any, .any, .any, .any, .any, .any, .any, .any, .any, .any, .any, .any, .any, .any, .any, .any, .any, .any, .any, .any, .any, .any, .any, .any, .any, .any, .any, .any, .any, .any, .any, .any, .any, .any, .any, .any, .any, .any, .any, .any, .any, .any, .any, .any, .any, .any, .any, .any, .any, .any, .any, .any]
noncomputable abbrev s_triuneref06_guess_b1 (n fl : Nat) : List DV → Heap → (Ex → KF) → R := execG ⟨Try.prog, callG Try.prog ENV n, ENV.md, fl, 131⟩ n (loopAt (bodyOf Try.f52) 1) []
noncomputable def s_triuneref06_guess_B1 (n fl : Nat) (rec : DV → DV → DV → DV → DV → DV → DV → Heap → R) (k : Ex → KF) (x2 x3 x4 x5 x6 x7 x8 : DV) (H : Heap) : R :=
  bi (remK .i64 x6 (I .i64 8)) fun d0 =>
  bi (ltK .i64 x8 d0) fun d1 =>
  condR d1 (
  bi (quoK .i64 x7 (I .i64 2)) fun d2 =>
  bi (addK .i64 x8 (I .i64 1)) fun d3 =>
  rec x2 x3 x4 x5 x6 d2 d3 H) (
  k (.exit 3) (s_triuneref06_guess_O1 x2 x3 x4 x5 x6 x7) H)
noncomputable def s_triuneref06_guess_L1 (n fl : Nat) (k : Ex → KF) : Nat → DV → DV → DV → DV → DV → DV → DV → Heap → R
  | 0, _, _, _, _, _, _, _, _ => none
  | m + 1, x2, x3, x4, x5, x6, x7, x8, H => s_triuneref06_guess_B1 n fl (s_triuneref06_guess_L1 n fl k m) k x2 x3 x4 x5 x6 x7 x8 H
theorem s_triuneref06_guess_S1 (n fl m : Nat) (k : Ex → KF) (x2 x3 x4 x5 x6 x7 x8 : DV) (H : Heap) : loopG [2, 3, 4, 5, 6, 7, 8] [2, 3, 4, 5, 6, 7] 131 (s_triuneref06_guess_b1 n fl) (m + 1) (s_triuneref06_guess_I1 x2 x3 x4 x5 x6 x7 x8) H k = s_triuneref06_guess_B1 n fl (fun x2 x3 x4 x5 x6 x7 x8 H => loopG [2, 3, 4, 5, 6, 7, 8] [2, 3, 4, 5, 6, 7] 131 (s_triuneref06_guess_b1 n fl) m (s_triuneref06_guess_I1 x2 x3 x4 x5 x6 x7 x8) H k) k x2 x3 x4 x5 x6 x7 x8 H := by kernel_rfl
theorem s_triuneref06_guess_L1_eq (n fl : Nat) (k : Ex → KF) : ∀ (m : Nat) (x2 x3 x4 x5 x6 x7 x8 : DV) (H : Heap), loopG [2, 3, 4, 5, 6, 7, 8] [2, 3, 4, 5, 6, 7] 131 (s_triuneref06_guess_b1 n fl) m (s_triuneref06_guess_I1 x2 x3 x4 x5 x6 x7 x8) H k = s_triuneref06_guess_L1 n fl k m x2 x3 x4 x5 x6 x7 x8 H := by
  intro m
  induction m with
  | zero => intros; rfl
  | succ m ih =>
    intro x2 x3 x4 x5 x6 x7 x8 H
    rw [s_triuneref06_guess_S1, show (fun x2 x3 x4 x5 x6 x7 x8 H => loopG [2, 3, 4, 5, 6, 7, 8] [2, 3, 4, 5, 6, 7] 131 (s_triuneref06_guess_b1 n fl) m (s_triuneref06_guess_I1 x2 x3 x4 x5 x6 x7 x8) H k) = s_triuneref06_guess_L1 n fl k m from by funext x2 x3 x4 x5 x6 x7 x8 H; exact ih _ _ _ _ _ _ _ _]
    rw [s_triuneref06_guess_L1]
def s_triuneref06_guess_I0 (x2 x3 x4 x5 x6 : DV) : List DV := [.any, .any, x2, x3, x4, x5, x6, .any, .any, .any, .any, .any, .any, .any, .any, .any, .any, .any, .any, .any, .any, .any, .any, .any, .any, .any, .any, .any, .any, .any, .any, .any, .any, .any, .any, .any, .any, .any, .any, .any, .any, .any, .any, .any, .any, .any, .any, .any, .any, .any, .any, .any, .any, .any, .any, .any, .any, .any, .any, .any, .any, .any, .any, .any, .any, .any, .any, .any, .any, .any, .any, .any, .any, .any, .any, .any, .any, .any, .any, .any, .any, .any, .any, .any, .any, .any, .any, .any, .any, .any, .any, .any, .any, .any, .any, .any, .any, .any, .any, .any, .any, .any, .any, .any, .any, .any, .any, .any, .any, .any, .any, .any, .any, .any, .any, .any, .any, .any, .any, .any, .any, .any, .any, .any, .any, .any, .any, .any, .any, .any, .any]
def s_triuneref06_guess_O0 (x2 x3 : DV) : List DV := [.any, .any, x2, x3, .any, .any, .any, .any, .any, .any, .any, .any, .any, .any, .any, .any, .any, .any, .any, .any, .any, .any, .any, .any, .any, .any, .any, .any, .any, .any, .any, .any, .any, .any, .any, .any, .any, .any, .any, .any, .any, .any, .any, .any, .any, .any, .any, .any, .any, .any, .any, .any, .any, .any, .any, .any, .any, .any, .any, .any, .any, .any, .any, .any, .any, .any, .any, .any, .any, .any, .any, .any, .any, .any, .any, .any, .any, .any, .any, .any, .any, .any, .any, .any, .any, .any, .any, .any, .any, .any, .any, .any, .any, .any, .any, .any, .any, .any, .any, .any, .any, .any, .any, .any, .any, .any, .any, .any, .any, .any, .any, .any, .any, .any, .any, .any, .any, .any, .any, .any, .any, .any, .any, .any, .any, .any, .any, .any, .any, .any, .any]
noncomputable abbrev s_triuneref06_guess_b0 (n fl : Nat) : List DV → Heap → (Ex → KF) → R := execG ⟨Try.prog, callG Try.prog ENV n, ENV.md, fl, 131⟩ n (loopAt (bodyOf Try.f52) 0) [([2, 3, 4, 5, 6, 7, 8], [2, 3, 4, 5, 6, 7])]
noncomputable def s_triuneref06_guess_B0 (n fl : Nat) (rec : DV → DV → DV → DV → DV → Heap → R) (k : Ex → KF) (x2 x3 x4 x5 x6 : DV) (H : Heap) : R :=
  bi (ltK .i64 x6 x4) fun d0 =>
  bi (wantF d0 true (some x6)) fun d1 =>
  bi (wantF d0 true (some x5)) fun d2 =>
  bi (wantF d0 true (lenD d2)) fun d3 =>
  bi (wantF d0 true (mulK .i64 (I .i64 8) d3)) fun d4 =>
  bi (wantF d0 true (ltK .i64 d1 d4)) fun d5 =>
  bi (pickD d0 d5 (Bo false)) fun d6 =>
  condR d6 (
  bi (quoK .i64 x6 (I .i64 8)) fun d7 =>
  bi (idxSl 1 x5 d7) fun d8 =>
  bi (loadG false 1 d8 H) fun d9 =>
  bi (cvK .i64 d9) fun d10 =>
  loopG [2, 3, 4, 5, 6, 7, 8] [2, 3, 4, 5, 6, 7] 131 (s_triuneref06_guess_b1 n fl) n (s_triuneref06_guess_I1 x2 x3 x4 x5 x6 d10 (I .i64 0)) H fun x S11 h11 => match x with
  | .normal => none
  | .exit i11 => (
  if i11 = 3 then (
  bi (fieldD 5 1 (S11.getD 3 .any)) fun d12 =>
  bi (loadG false 1 d12 h11) fun d13 =>
  bi (remK .i64 (S11.getD 7 .any) (I .i64 2)) fun d14 =>
  bi (eqK .i64 d14 (I .i64 1)) fun d15 =>
  bi (buildL false 1 1 (Bo false) [(0, d15)]) fun d16 =>
  bi (appG 4 false 1 1 d13 d16 h11 fl) fun p17 =>
  bi (fieldD 5 1 (S11.getD 3 .any)) fun d18 =>
  bi (storeG 1 d18 p17.1 p17.2 fl) fun h19 =>
  bi (addK .i64 (S11.getD 6 .any) (I .i64 1)) fun d20 =>
  rec (S11.getD 2 .any) (S11.getD 3 .any) (S11.getD 4 .any) (S11.getD 5 .any) d20 h19) else (
  if i11 = 2 then (
  bi (addK .i64 (S11.getD 6 .any) (I .i64 1)) fun d21 =>
  rec (S11.getD 2 .any) (S11.getD 3 .any) (S11.getD 4 .any) (S11.getD 5 .any) d21 h11) else (
  k (.exit i11) (s_triuneref06_guess_O0 (S11.getD 2 .any) (S11.getD 3 .any)) h11)))
  | .ret => (
  k .ret (s_triuneref06_guess_O0 (S11.getD 2 .any) (S11.getD 3 .any)) h11)) (
  k (.exit 1) (s_triuneref06_guess_O0 x2 x3) H)
noncomputable def s_triuneref06_guess_L0 (n fl : Nat) (k : Ex → KF) : Nat → DV → DV → DV → DV → DV → Heap → R
  | 0, _, _, _, _, _, _ => none
  | m + 1, x2, x3, x4, x5, x6, H => s_triuneref06_guess_B0 n fl (s_triuneref06_guess_L0 n fl k m) k x2 x3 x4 x5 x6 H
theorem s_triuneref06_guess_S0 (n fl m : Nat) (k : Ex → KF) (x2 x3 x4 x5 x6 : DV) (H : Heap) : loopG [2, 3, 4, 5, 6] [2, 3] 131 (s_triuneref06_guess_b0 n fl) (m + 1) (s_triuneref06_guess_I0 x2 x3 x4 x5 x6) H k = s_triuneref06_guess_B0 n fl (fun x2 x3 x4 x5 x6 H => loopG [2, 3, 4, 5, 6] [2, 3] 131 (s_triuneref06_guess_b0 n fl) m (s_triuneref06_guess_I0 x2 x3 x4 x5 x6) H k) k x2 x3 x4 x5 x6 H := by kernel_rfl
theorem s_triuneref06_guess_L0_eq (n fl : Nat) (k : Ex → KF) : ∀ (m : Nat) (x2 x3 x4 x5 x6 : DV) (H : Heap), loopG [2, 3, 4, 5, 6] [2, 3] 131 (s_triuneref06_guess_b0 n fl) m (s_triuneref06_guess_I0 x2 x3 x4 x5 x6) H k = s_triuneref06_guess_L0 n fl k m x2 x3 x4 x5 x6 H := by
  intro m
  induction m with
  | zero => intros; rfl
  | succ m ih =>
    intro x2 x3 x4 x5 x6 H
    rw [s_triuneref06_guess_S0, show (fun x2 x3 x4 x5 x6 H => loopG [2, 3, 4, 5, 6] [2, 3] 131 (s_triuneref06_guess_b0 n fl) m (s_triuneref06_guess_I0 x2 x3 x4 x5 x6) H k) = s_triuneref06_guess_L0 n fl k m from by funext x2 x3 x4 x5 x6 H; exact ih _ _ _ _ _ _]
    rw [s_triuneref06_guess_L0]
noncomputable def s_triuneref06_guess (n : Nat) (H : Heap) (fl : Nat) (a0 : DV) : R :=
  bi (allocG 30 (.agg [(I .i64 0), (I .i64 0), (I .i64 0), (I .i64 0), (.list 0 [] .ti), (.list 0 [] .ti), (I .u16 0), (I .u16 0)]) (List.length H) (H ++ [.hole])) fun h0 =>
  bi (idxSl 1 a0 (I .i64 0)) fun d1 =>
  bi (loadG false 1 d1 (h0 ++ [.hole])) fun d2 =>
  bi (cvK .i64 d2) fun d3 =>
  bi (cP n 87 false [a0, (I .i64 1)]) fun d4 =>
  bi (buildS (.agg [(I .i64 0), (I .i64 0), (I .i64 0), (I .i64 0), (.list 0 [] .ti), (.list 0 [] .ti), (I .u16 0), (I .u16 0)]) [(0, 1), (1, 1), (2, 1), (3, 1), (4, 1), (5, 1), (6, 1), (7, 1)] [(0, d3), (1, d4)]) fun d5 =>
  bi (allocG 30 (.agg [(I .i64 0), (I .i64 0), (I .i64 0), (I .i64 0), (.list 0 [] .ti), (.list 0 [] .ti), (I .u16 0), (I .u16 0)]) (List.length h0) (h0 ++ [.hole])) fun h6 =>
  bi (storeG 8 (.ptr (List.length h0) 0) d5 h6 fl) fun h7 =>
  bi (loadG false 1 (.ptr (List.length h0) 0) h7) fun d8 =>
  bi (eqK .i64 d8 (I .i64 1)) fun d9 =>
  condR d9 (
  condR d9 (
   bi (cP n 87 false [a0, (I .i64 3)]) fun d10 =>
   bi (storeG 1 (.ptr (List.length h0) 2) d10 h7 fl) fun h11 =>
  bi (loadG true 8 (.ptr (List.length h0) 0) h11) fun d12 =>
  bi (storeG 8 (.ptr (List.length H) 0) d12 h11 fl) fun h13 =>
  bi (cellR true 8 (.ptr (List.length H) 0) h13) fun r0 =>
  some (r0, h13)) (
   bi (eqK .i64 d8 (I .i64 5)) fun d14 =>
   condR d14 (
    bi (cP n 87 false [a0, (I .i64 3)]) fun d15 =>
    bi (neK .i64 d15 (I .i64 0)) fun d16 =>
    bi (buildL false 1 1 (Bo false) [(0, d16)]) fun d17 =>
    bi (storeG 1 (.ptr (List.length h0) 5) d17 h7 fl) fun h18 =>
  bi (loadG true 8 (.ptr (List.length h0) 0) h18) fun d19 =>
  bi (storeG 8 (.ptr (List.length H) 0) d19 h18 fl) fun h20 =>
  bi (cellR true 8 (.ptr (List.length H) 0) h20) fun r0 =>
  some (r0, h20)) (
    bi (eqK .i64 d8 (I .i64 6)) fun d21 =>
    condR d21 (
     bi (cP n 87 false [a0, (I .i64 3)]) fun d22 =>
     bi (cvK .u16 d22) fun d23 =>
     bi (buildL false 1 1 (I .u16 0) [(0, d23)]) fun d24 =>
     bi (storeG 1 (.ptr (List.length h0) 4) d24 h7 fl) fun h25 =>
  bi (loadG true 8 (.ptr (List.length h0) 0) h25) fun d26 =>
  bi (storeG 8 (.ptr (List.length H) 0) d26 h25 fl) fun h27 =>
  bi (cellR true 8 (.ptr (List.length H) 0) h27) fun r0 =>
  some (r0, h27)) (
     bi (eqK .i64 d8 (I .i64 15)) fun d28 =>
     condR d28 (
      bi (cP n 87 false [a0, (I .i64 3)]) fun d29 =>
      bi (cP n 88 false [a0, (I .i64 6)]) fun d30 =>
      loopG [2, 3, 4, 5, 6] [2, 3] 131 (s_triuneref06_guess_b0 n fl) n (s_triuneref06_guess_I0 (.ptr (List.length H) 0) (.ptr (List.length h0) 0) d29 d30 (I .i64 0)) h7 fun x S31 h31 => match x with
      | .normal => none
      | .exit i31 => (
      if i31 = 1 then (
  bi (loadG true 8 (S31.getD 3 .any) h31) fun d32 =>
  bi (storeG 8 (S31.getD 2 .any) d32 h31 fl) fun h33 =>
  bi (cellR true 8 (S31.getD 2 .any) h33) fun r0 =>
  some (r0, h33)) else (
  if i31 = 0 then (
  bi (loadG true 8 (S31.getD 3 .any) h31) fun d34 =>
  bi (storeG 8 (S31.getD 2 .any) d34 h31 fl) fun h35 =>
  bi (cellR true 8 (S31.getD 2 .any) h35) fun r0 =>
  some (r0, h35)) else (
  none)))
      | .ret => (
  bi (cellR true 8 (S31.getD 2 .any) h31) fun r0 =>
  some (r0, h31))) (
      bi (eqK .i64 d8 (I .i64 16)) fun d36 =>
      condR d36 (
       bi (cP n 88 false [a0, (I .i64 6)]) fun d37 =>
       bi (cP n 89 false [d37]) fun d38 =>
       bi (extD 0 d38) fun d39 =>
       bi (extD 1 d38) fun d40 =>
       bi (storeG 1 (.ptr (List.length h0) 4) d39 h7 fl) fun h41 =>
  bi (loadG true 8 (.ptr (List.length h0) 0) h41) fun d42 =>
  bi (storeG 8 (.ptr (List.length H) 0) d42 h41 fl) fun h43 =>
  bi (cellR true 8 (.ptr (List.length H) 0) h43) fun r0 =>
  some (r0, h43)) (
       bi (eqK .i64 d8 (I .i64 22)) fun d44 =>
       condR d44 (
        bi (cP n 87 false [a0, (I .i64 3)]) fun d45 =>
        bi (cvK .u16 d45) fun d46 =>
        bi (storeG 1 (.ptr (List.length h0) 6) d46 h7 fl) fun h47 =>
        bi (cP n 87 false [a0, (I .i64 5)]) fun d48 =>
        bi (cvK .u16 d48) fun d49 =>
        bi (storeG 1 (.ptr (List.length h0) 7) d49 h47 fl) fun h50 =>
  bi (loadG true 8 (.ptr (List.length h0) 0) h50) fun d51 =>
  bi (storeG 8 (.ptr (List.length H) 0) d51 h50 fl) fun h52 =>
  bi (cellR true 8 (.ptr (List.length H) 0) h52) fun r0 =>
  some (r0, h52)) (
        bi (eqK .i64 d8 (I .i64 23)) fun d53 =>
        condR d53 (
         bi (cP n 87 false [a0, (I .i64 3)]) fun d54 =>
         bi (storeG 1 (.ptr (List.length h0) 2) d54 h7 fl) fun h55 =>
         bi (cP n 87 false [a0, (I .i64 5)]) fun d56 =>
         bi (storeG 1 (.ptr (List.length h0) 3) d56 h55 fl) fun h57 =>
         bi (cP n 88 false [a0, (I .i64 10)]) fun d58 =>
         bi (cP n 89 false [d58]) fun d59 =>
         bi (extD 0 d59) fun d60 =>
         bi (extD 1 d59) fun d61 =>
         bi (storeG 1 (.ptr (List.length h0) 4) d60 h57 fl) fun h62 =>
  bi (loadG true 8 (.ptr (List.length h0) 0) h62) fun d63 =>
  bi (storeG 8 (.ptr (List.length H) 0) d63 h62 fl) fun h64 =>
  bi (cellR true 8 (.ptr (List.length H) 0) h64) fun r0 =>
  some (r0, h64)) (
         bi (eqK .i64 d8 (I .i64 43)) fun d65 =>
         condR d65 (
          bi (storeG 1 (.ptr (List.length h0) 1) (I .i64 0) h7 fl) fun h66 =>
          bi (lenD a0) fun d67 =>
          bi (eqK .i64 d67 (I .i64 4)) fun d68 =>
          condR d68 (
           bi (idxSl 1 a0 (I .i64 2)) fun d69 =>
           bi (loadG false 1 d69 h66) fun d70 =>
           bi (cvK .i64 d70) fun d71 =>
           bi (storeG 1 (.ptr (List.length h0) 2) d71 h66 fl) fun h72 =>
           bi (idxSl 1 a0 (I .i64 3)) fun d73 =>
           bi (loadG false 1 d73 h72) fun d74 =>
           bi (cvK .i64 d74) fun d75 =>
           bi (storeG 1 (.ptr (List.length h0) 1) d75 h72 fl) fun h76 =>
  bi (loadG true 8 (.ptr (List.length h0) 0) h76) fun d77 =>
  bi (storeG 8 (.ptr (List.length H) 0) d77 h76 fl) fun h78 =>
  bi (cellR true 8 (.ptr (List.length H) 0) h78) fun r0 =>
  some (r0, h78)) (
  bi (loadG true 8 (.ptr (List.length h0) 0) h66) fun d79 =>
  bi (storeG 8 (.ptr (List.length H) 0) d79 h66 fl) fun h80 =>
  bi (cellR true 8 (.ptr (List.length H) 0) h80) fun r0 =>
  some (r0, h80))) (
  bi (loadG true 8 (.ptr (List.length h0) 0) h7) fun d81 =>
  bi (storeG 8 (.ptr (List.length H) 0) d81 h7 fl) fun h82 =>
  bi (cellR true 8 (.ptr (List.length H) 0) h82) fun r0 =>
  some (r0, h82)))))))))) (
   bi (eqK .i64 d8 (I .i64 2)) fun d83 =>
   condR d83 (
  condR d83 (
   bi (cP n 87 false [a0, (I .i64 3)]) fun d84 =>
   bi (storeG 1 (.ptr (List.length h0) 2) d84 h7 fl) fun h85 =>
  bi (loadG true 8 (.ptr (List.length h0) 0) h85) fun d86 =>
  bi (storeG 8 (.ptr (List.length H) 0) d86 h85 fl) fun h87 =>
  bi (cellR true 8 (.ptr (List.length H) 0) h87) fun r0 =>
  some (r0, h87)) (
   bi (eqK .i64 d8 (I .i64 5)) fun d88 =>
   condR d88 (
    bi (cP n 87 false [a0, (I .i64 3)]) fun d89 =>
    bi (neK .i64 d89 (I .i64 0)) fun d90 =>
    bi (buildL false 1 1 (Bo false) [(0, d90)]) fun d91 =>
    bi (storeG 1 (.ptr (List.length h0) 5) d91 h7 fl) fun h92 =>
  bi (loadG true 8 (.ptr (List.length h0) 0) h92) fun d93 =>
  bi (storeG 8 (.ptr (List.length H) 0) d93 h92 fl) fun h94 =>
  bi (cellR true 8 (.ptr (List.length H) 0) h94) fun r0 =>
  some (r0, h94)) (
    bi (eqK .i64 d8 (I .i64 6)) fun d95 =>
    condR d95 (
     bi (cP n 87 false [a0, (I .i64 3)]) fun d96 =>
     bi (cvK .u16 d96) fun d97 =>
     bi (buildL false 1 1 (I .u16 0) [(0, d97)]) fun d98 =>
     bi (storeG 1 (.ptr (List.length h0) 4) d98 h7 fl) fun h99 =>
  bi (loadG true 8 (.ptr (List.length h0) 0) h99) fun d100 =>
  bi (storeG 8 (.ptr (List.length H) 0) d100 h99 fl) fun h101 =>
  bi (cellR true 8 (.ptr (List.length H) 0) h101) fun r0 =>
  some (r0, h101)) (
     bi (eqK .i64 d8 (I .i64 15)) fun d102 =>
     condR d102 (
      bi (cP n 87 false [a0, (I .i64 3)]) fun d103 =>
      bi (cP n 88 false [a0, (I .i64 6)]) fun d104 =>
      loopG [2, 3, 4, 5, 6] [2, 3] 131 (s_triuneref06_guess_b0 n fl) n (s_triuneref06_guess_I0 (.ptr (List.length H) 0) (.ptr (List.length h0) 0) d103 d104 (I .i64 0)) h7 fun x S105 h105 => match x with
      | .normal => none
      | .exit i105 => (
      if i105 = 1 then (
  bi (loadG true 8 (S105.getD 3 .any) h105) fun d106 =>
  bi (storeG 8 (S105.getD 2 .any) d106 h105 fl) fun h107 =>
  bi (cellR true 8 (S105.getD 2 .any) h107) fun r0 =>
  some (r0, h107)) else (
  if i105 = 0 then (
  bi (loadG true 8 (S105.getD 3 .any) h105) fun d108 =>
  bi (storeG 8 (S105.getD 2 .any) d108 h105 fl) fun h109 =>
  bi (cellR true 8 (S105.getD 2 .any) h109) fun r0 =>
  some (r0, h109)) else (
  none)))
      | .ret => (
  bi (cellR true 8 (S105.getD 2 .any) h105) fun r0 =>
  some (r0, h105))) (
      bi (eqK .i64 d8 (I .i64 16)) fun d110 =>
      condR d110 (
       bi (cP n 88 false [a0, (I .i64 6)]) fun d111 =>
       bi (cP n 89 false [d111]) fun d112 =>
       bi (extD 0 d112) fun d113 =>
       bi (extD 1 d112) fun d114 =>
       bi (storeG 1 (.ptr (List.length h0) 4) d113 h7 fl) fun h115 =>
  bi (loadG true 8 (.ptr (List.length h0) 0) h115) fun d116 =>
  bi (storeG 8 (.ptr (List.length H) 0) d116 h115 fl) fun h117 =>
  bi (cellR true 8 (.ptr (List.length H) 0) h117) fun r0 =>
  some (r0, h117)) (
       bi (eqK .i64 d8 (I .i64 22)) fun d118 =>
       condR d118 (
        bi (cP n 87 false [a0, (I .i64 3)]) fun d119 =>
        bi (cvK .u16 d119) fun d120 =>
        bi (storeG 1 (.ptr (List.length h0) 6) d120 h7 fl) fun h121 =>
        bi (cP n 87 false [a0, (I .i64 5)]) fun d122 =>
        bi (cvK .u16 d122) fun d123 =>
        bi (storeG 1 (.ptr (List.length h0) 7) d123 h121 fl) fun h124 =>
  bi (loadG true 8 (.ptr (List.length h0) 0) h124) fun d125 =>
  bi (storeG 8 (.ptr (List.length H) 0) d125 h124 fl) fun h126 =>
  bi (cellR true 8 (.ptr (List.length H) 0) h126) fun r0 =>
  some (r0, h126)) (
        bi (eqK .i64 d8 (I .i64 23)) fun d127 =>
        condR d127 (
         bi (cP n 87 false [a0, (I .i64 3)]) fun d128 =>
         bi (storeG 1 (.ptr (List.length h0) 2) d128 h7 fl) fun h129 =>
         bi (cP n 87 false [a0, (I .i64 5)]) fun d130 =>
         bi (storeG 1 (.ptr (List.length h0) 3) d130 h129 fl) fun h131 =>
         bi (cP n 88 false [a0, (I .i64 10)]) fun d132 =>
         bi (cP n 89 false [d132]) fun d133 =>
         bi (extD 0 d133) fun d134 =>
         bi (extD 1 d133) fun d135 =>
         bi (storeG 1 (.ptr (List.length h0) 4) d134 h131 fl) fun h136 =>
  bi (loadG true 8 (.ptr (List.length h0) 0) h136) fun d137 =>
  bi (storeG 8 (.ptr (List.length H) 0) d137 h136 fl) fun h138 =>
  bi (cellR true 8 (.ptr (List.length H) 0) h138) fun r0 =>
  some (r0, h138)) (
         bi (eqK .i64 d8 (I .i64 43)) fun d139 =>
         condR d139 (
          bi (storeG 1 (.ptr (List.length h0) 1) (I .i64 0) h7 fl) fun h140 =>
          bi (lenD a0) fun d141 =>
          bi (eqK .i64 d141 (I .i64 4)) fun d142 =>
          condR d142 (
           bi (idxSl 1 a0 (I .i64 2)) fun d143 =>
           bi (loadG false 1 d143 h140) fun d144 =>
           bi (cvK .i64 d144) fun d145 =>
           bi (storeG 1 (.ptr (List.length h0) 2) d145 h140 fl) fun h146 =>
           bi (idxSl 1 a0 (I .i64 3)) fun d147 =>
           bi (loadG false 1 d147 h146) fun d148 =>
           bi (cvK .i64 d148) fun d149 =>
           bi (storeG 1 (.ptr (List.length h0) 1) d149 h146 fl) fun h150 =>
  bi (loadG true 8 (.ptr (List.length h0) 0) h150) fun d151 =>
  bi (storeG 8 (.ptr (List.length H) 0) d151 h150 fl) fun h152 =>
  bi (cellR true 8 (.ptr (List.length H) 0) h152) fun r0 =>
  some (r0, h152)) (
  bi (loadG true 8 (.ptr (List.length h0) 0) h140) fun d153 =>
  bi (storeG 8 (.ptr (List.length H) 0) d153 h140 fl) fun h154 =>
  bi (cellR true 8 (.ptr (List.length H) 0) h154) fun r0 =>
  some (r0, h154))) (
  bi (loadG true 8 (.ptr (List.length h0) 0) h7) fun d155 =>
  bi (storeG 8 (.ptr (List.length H) 0) d155 h7 fl) fun h156 =>
  bi (cellR true 8 (.ptr (List.length H) 0) h156) fun r0 =>
  some (r0, h156)))))))))) (
    bi (eqK .i64 d8 (I .i64 3)) fun d157 =>
    condR d157 (
  condR d157 (
   bi (cP n 87 false [a0, (I .i64 3)]) fun d158 =>
   bi (storeG 1 (.ptr (List.length h0) 2) d158 h7 fl) fun h159 =>
  bi (loadG true 8 (.ptr (List.length h0) 0) h159) fun d160 =>
  bi (storeG 8 (.ptr (List.length H) 0) d160 h159 fl) fun h161 =>
  bi (cellR true 8 (.ptr (List.length H) 0) h161) fun r0 =>
  some (r0, h161)) (
   bi (eqK .i64 d8 (I .i64 5)) fun d162 =>
   condR d162 (
    bi (cP n 87 false [a0, (I .i64 3)]) fun d163 =>
    bi (neK .i64 d163 (I .i64 0)) fun d164 =>
    bi (buildL false 1 1 (Bo false) [(0, d164)]) fun d165 =>
    bi (storeG 1 (.ptr (List.length h0) 5) d165 h7 fl) fun h166 =>
  bi (loadG true 8 (.ptr (List.length h0) 0) h166) fun d167 =>
  bi (storeG 8 (.ptr (List.length H) 0) d167 h166 fl) fun h168 =>
  bi (cellR true 8 (.ptr (List.length H) 0) h168) fun r0 =>
  some (r0, h168)) (
    bi (eqK .i64 d8 (I .i64 6)) fun d169 =>
    condR d169 (
     bi (cP n 87 false [a0, (I .i64 3)]) fun d170 =>
     bi (cvK .u16 d170) fun d171 =>
     bi (buildL false 1 1 (I .u16 0) [(0, d171)]) fun d172 =>
     bi (storeG 1 (.ptr (List.length h0) 4) d172 h7 fl) fun h173 =>
  bi (loadG true 8 (.ptr (List.length h0) 0) h173) fun d174 =>
  bi (storeG 8 (.ptr (List.length H) 0) d174 h173 fl) fun h175 =>
  bi (cellR true 8 (.ptr (List.length H) 0) h175) fun r0 =>
  some (r0, h175)) (
     bi (eqK .i64 d8 (I .i64 15)) fun d176 =>
     condR d176 (
      bi (cP n 87 false [a0, (I .i64 3)]) fun d177 =>
      bi (cP n 88 false [a0, (I .i64 6)]) fun d178 =>
      loopG [2, 3, 4, 5, 6] [2, 3] 131 (s_triuneref06_guess_b0 n fl) n (s_triuneref06_guess_I0 (.ptr (List.length H) 0) (.ptr (List.length h0) 0) d177 d178 (I .i64 0)) h7 fun x S179 h179 => match x with
      | .normal => none
      | .exit i179 => (
      if i179 = 1 then (
  bi (loadG true 8 (S179.getD 3 .any) h179) fun d180 =>
  bi (storeG 8 (S179.getD 2 .any) d180 h179 fl) fun h181 =>
  bi (cellR true 8 (S179.getD 2 .any) h181) fun r0 =>
  some (r0, h181)) else (
  if i179 = 0 then (
  bi (loadG true 8 (S179.getD 3 .any) h179) fun d182 =>
  bi (storeG 8 (S179.getD 2 .any) d182 h179 fl) fun h183 =>
  bi (cellR true 8 (S179.getD 2 .any) h183) fun r0 =>
  some (r0, h183)) else (
  none)))
      | .ret => (
  bi (cellR true 8 (S179.getD 2 .any) h179) fun r0 =>
  some (r0, h179))) (
      bi (eqK .i64 d8 (I .i64 16)) fun d184 =>
      condR d184 (
       bi (cP n 88 false [a0, (I .i64 6)]) fun d185 =>
       bi (cP n 89 false [d185]) fun d186 =>
       bi (extD 0 d186) fun d187 =>
       bi (extD 1 d186) fun d188 =>
       bi (storeG 1 (.ptr (List.length h0) 4) d187 h7 fl) fun h189 =>
  bi (loadG true 8 (.ptr (List.length h0) 0) h189) fun d190 =>
  bi (storeG 8 (.ptr (List.length H) 0) d190 h189 fl) fun h191 =>
  bi (cellR true 8 (.ptr (List.length H) 0) h191) fun r0 =>
  some (r0, h191)) (
       bi (eqK .i64 d8 (I .i64 22)) fun d192 =>
       condR d192 (
        bi (cP n 87 false [a0, (I .i64 3)]) fun d193 =>
        bi (cvK .u16 d193) fun d194 =>
        bi (storeG 1 (.ptr (List.length h0) 6) d194 h7 fl) fun h195 =>
        bi (cP n 87 false [a0, (I .i64 5)]) fun d196 =>
        bi (cvK .u16 d196) fun d197 =>
        bi (storeG 1 (.ptr (List.length h0) 7) d197 h195 fl) fun h198 =>
  bi (loadG true 8 (.ptr (List.length h0) 0) h198) fun d199 =>
  bi (storeG 8 (.ptr (List.length H) 0) d199 h198 fl) fun h200 =>
  bi (cellR true 8 (.ptr (List.length H) 0) h200) fun r0 =>
  some (r0, h200)) (
        bi (eqK .i64 d8 (I .i64 23)) fun d201 =>
        condR d201 (
         bi (cP n 87 false [a0, (I .i64 3)]) fun d202 =>
         bi (storeG 1 (.ptr (List.length h0) 2) d202 h7 fl) fun h203 =>
         bi (cP n 87 false [a0, (I .i64 5)]) fun d204 =>
         bi (storeG 1 (.ptr (List.length h0) 3) d204 h203 fl) fun h205 =>
         bi (cP n 88 false [a0, (I .i64 10)]) fun d206 =>
         bi (cP n 89 false [d206]) fun d207 =>
         bi (extD 0 d207) fun d208 =>
         bi (extD 1 d207) fun d209 =>
         bi (storeG 1 (.ptr (List.length h0) 4) d208 h205 fl) fun h210 =>
  bi (loadG true 8 (.ptr (List.length h0) 0) h210) fun d211 =>
  bi (storeG 8 (.ptr (List.length H) 0) d211 h210 fl) fun h212 =>
  bi (cellR true 8 (.ptr (List.length H) 0) h212) fun r0 =>
  some (r0, h212)) (
         bi (eqK .i64 d8 (I .i64 43)) fun d213 =>
         condR d213 (
          bi (storeG 1 (.ptr (List.length h0) 1) (I .i64 0) h7 fl) fun h214 =>
          bi (lenD a0) fun d215 =>
          bi (eqK .i64 d215 (I .i64 4)) fun d216 =>
          condR d216 (
           bi (idxSl 1 a0 (I .i64 2)) fun d217 =>
           bi (loadG false 1 d217 h214) fun d218 =>
           bi (cvK .i64 d218) fun d219 =>
           bi (storeG 1 (.ptr (List.length h0) 2) d219 h214 fl) fun h220 =>
           bi (idxSl 1 a0 (I .i64 3)) fun d221 =>
           bi (loadG false 1 d221 h220) fun d222 =>
           bi (cvK .i64 d222) fun d223 =>
           bi (storeG 1 (.ptr (List.length h0) 1) d223 h220 fl) fun h224 =>
  bi (loadG true 8 (.ptr (List.length h0) 0) h224) fun d225 =>
  bi (storeG 8 (.ptr (List.length H) 0) d225 h224 fl) fun h226 =>
  bi (cellR true 8 (.ptr (List.length H) 0) h226) fun r0 =>
  some (r0, h226)) (
  bi (loadG true 8 (.ptr (List.length h0) 0) h214) fun d227 =>
  bi (storeG 8 (.ptr (List.length H) 0) d227 h214 fl) fun h228 =>
  bi (cellR true 8 (.ptr (List.length H) 0) h228) fun r0 =>
  some (r0, h228))) (
  bi (loadG true 8 (.ptr (List.length h0) 0) h7) fun d229 =>
  bi (storeG 8 (.ptr (List.length H) 0) d229 h7 fl) fun h230 =>
  bi (cellR true 8 (.ptr (List.length H) 0) h230) fun r0 =>
  some (r0, h230)))))))))) (
     bi (eqK .i64 d8 (I .i64 4)) fun d231 =>
  condR d231 (
   bi (cP n 87 false [a0, (I .i64 3)]) fun d232 =>
   bi (storeG 1 (.ptr (List.length h0) 2) d232 h7 fl) fun h233 =>
  bi (loadG true 8 (.ptr (List.length h0) 0) h233) fun d234 =>
  bi (storeG 8 (.ptr (List.length H) 0) d234 h233 fl) fun h235 =>
  bi (cellR true 8 (.ptr (List.length H) 0) h235) fun r0 =>
  some (r0, h235)) (
   bi (eqK .i64 d8 (I .i64 5)) fun d236 =>
   condR d236 (
    bi (cP n 87 false [a0, (I .i64 3)]) fun d237 =>
    bi (neK .i64 d237 (I .i64 0)) fun d238 =>
    bi (buildL false 1 1 (Bo false) [(0, d238)]) fun d239 =>
    bi (storeG 1 (.ptr (List.length h0) 5) d239 h7 fl) fun h240 =>
  bi (loadG true 8 (.ptr (List.length h0) 0) h240) fun d241 =>
  bi (storeG 8 (.ptr (List.length H) 0) d241 h240 fl) fun h242 =>
  bi (cellR true 8 (.ptr (List.length H) 0) h242) fun r0 =>
  some (r0, h242)) (
    bi (eqK .i64 d8 (I .i64 6)) fun d243 =>
    condR d243 (
     bi (cP n 87 false [a0, (I .i64 3)]) fun d244 =>
     bi (cvK .u16 d244) fun d245 =>
     bi (buildL false 1 1 (I .u16 0) [(0, d245)]) fun d246 =>
     bi (storeG 1 (.ptr (List.length h0) 4) d246 h7 fl) fun h247 =>
  bi (loadG true 8 (.ptr (List.length h0) 0) h247) fun d248 =>
  bi (storeG 8 (.ptr (List.length H) 0) d248 h247 fl) fun h249 =>
  bi (cellR true 8 (.ptr (List.length H) 0) h249) fun r0 =>
  some (r0, h249)) (
     bi (eqK .i64 d8 (I .i64 15)) fun d250 =>
     condR d250 (
      bi (cP n 87 false [a0, (I .i64 3)]) fun d251 =>
      bi (cP n 88 false [a0, (I .i64 6)]) fun d252 =>
      loopG [2, 3, 4, 5, 6] [2, 3] 131 (s_triuneref06_guess_b0 n fl) n (s_triuneref06_guess_I0 (.ptr (List.length H) 0) (.ptr (List.length h0) 0) d251 d252 (I .i64 0)) h7 fun x S253 h253 => match x with
      | .normal => none
      | .exit i253 => (
      if i253 = 1 then (
  bi (loadG true 8 (S253.getD 3 .any) h253) fun d254 =>
  bi (storeG 8 (S253.getD 2 .any) d254 h253 fl) fun h255 =>
  bi (cellR true 8 (S253.getD 2 .any) h255) fun r0 =>
  some (r0, h255)) else (
  if i253 = 0 then (
  bi (loadG true 8 (S253.getD 3 .any) h253) fun d256 =>
  bi (storeG 8 (S253.getD 2 .any) d256 h253 fl) fun h257 =>
  bi (cellR true 8 (S253.getD 2 .any) h257) fun r0 =>
  some (r0, h257)) else (
  none)))
      | .ret => (
  bi (cellR true 8 (S253.getD 2 .any) h253) fun r0 =>
  some (r0, h253))) (
      bi (eqK .i64 d8 (I .i64 16)) fun d258 =>
      condR d258 (
       bi (cP n 88 false [a0, (I .i64 6)]) fun d259 =>
       bi (cP n 89 false [d259]) fun d260 =>
       bi (extD 0 d260) fun d261 =>
       bi (extD 1 d260) fun d262 =>
       bi (storeG 1 (.ptr (List.length h0) 4) d261 h7 fl) fun h263 =>
  bi (loadG true 8 (.ptr (List.length h0) 0) h263) fun d264 =>
  bi (storeG 8 (.ptr (List.length H) 0) d264 h263 fl) fun h265 =>
  bi (cellR true 8 (.ptr (List.length H) 0) h265) fun r0 =>
  some (r0, h265)) (
       bi (eqK .i64 d8 (I .i64 22)) fun d266 =>
       condR d266 (
        bi (cP n 87 false [a0, (I .i64 3)]) fun d267 =>
        bi (cvK .u16 d267) fun d268 =>
        bi (storeG 1 (.ptr (List.length h0) 6) d268 h7 fl) fun h269 =>
        bi (cP n 87 false [a0, (I .i64 5)]) fun d270 =>
        bi (cvK .u16 d270) fun d271 =>
        bi (storeG 1 (.ptr (List.length h0) 7) d271 h269 fl) fun h272 =>
  bi (loadG true 8 (.ptr (List.length h0) 0) h272) fun d273 =>
  bi (storeG 8 (.ptr (List.length H) 0) d273 h272 fl) fun h274 =>
  bi (cellR true 8 (.ptr (List.length H) 0) h274) fun r0 =>
  some (r0, h274)) (
        bi (eqK .i64 d8 (I .i64 23)) fun d275 =>
        condR d275 (
         bi (cP n 87 false [a0, (I .i64 3)]) fun d276 =>
         bi (storeG 1 (.ptr (List.length h0) 2) d276 h7 fl) fun h277 =>
         bi (cP n 87 false [a0, (I .i64 5)]) fun d278 =>
         bi (storeG 1 (.ptr (List.length h0) 3) d278 h277 fl) fun h279 =>
         bi (cP n 88 false [a0, (I .i64 10)]) fun d280 =>
         bi (cP n 89 false [d280]) fun d281 =>
         bi (extD 0 d281) fun d282 =>
         bi (extD 1 d281) fun d283 =>
         bi (storeG 1 (.ptr (List.length h0) 4) d282 h279 fl) fun h284 =>
  bi (loadG true 8 (.ptr (List.length h0) 0) h284) fun d285 =>
  bi (storeG 8 (.ptr (List.length H) 0) d285 h284 fl) fun h286 =>
  bi (cellR true 8 (.ptr (List.length H) 0) h286) fun r0 =>
  some (r0, h286)) (
         bi (eqK .i64 d8 (I .i64 43)) fun d287 =>
         condR d287 (
          bi (storeG 1 (.ptr (List.length h0) 1) (I .i64 0) h7 fl) fun h288 =>
          bi (lenD a0) fun d289 =>
          bi (eqK .i64 d289 (I .i64 4)) fun d290 =>
          condR d290 (
           bi (idxSl 1 a0 (I .i64 2)) fun d291 =>
           bi (loadG false 1 d291 h288) fun d292 =>
           bi (cvK .i64 d292) fun d293 =>
           bi (storeG 1 (.ptr (List.length h0) 2) d293 h288 fl) fun h294 =>
           bi (idxSl 1 a0 (I .i64 3)) fun d295 =>
           bi (loadG false 1 d295 h294) fun d296 =>
           bi (cvK .i64 d296) fun d297 =>
           bi (storeG 1 (.ptr (List.length h0) 1) d297 h294 fl) fun h298 =>
  bi (loadG true 8 (.ptr (List.length h0) 0) h298) fun d299 =>
  bi (storeG 8 (.ptr (List.length H) 0) d299 h298 fl) fun h300 =>
  bi (cellR true 8 (.ptr (List.length H) 0) h300) fun r0 =>
  some (r0, h300)) (
  bi (loadG true 8 (.ptr (List.length h0) 0) h288) fun d301 =>
  bi (storeG 8 (.ptr (List.length H) 0) d301 h288 fl) fun h302 =>
  bi (cellR true 8 (.ptr (List.length H) 0) h302) fun r0 =>
  some (r0, h302))) (
  bi (loadG true 8 (.ptr (List.length h0) 0) h7) fun d303 =>
  bi (storeG 8 (.ptr (List.length H) 0) d303 h7 fl) fun h304 =>
  bi (cellR true 8 (.ptr (List.length H) 0) h304) fun r0 =>
  some (r0, h304))))))))))))
theorem s_triuneref06_guess_eq (n : Nat) (H : Heap) (fl : Nat) (a0 : DV) : callG Try.prog ENV (n + 1) 52 [a0] H fl = s_triuneref06_guess n H fl a0 := by kernel_rfl

/-! triune/triuneref06.Parse -/
noncomputable def s_triuneref06_Parse (n : Nat) (H : Heap) (fl : Nat) (a0 : DV) : R :=
  bi (allocG 30 (.agg [(I .i64 0), (I .i64 0), (I .i64 0), (I .i64 0), (.list 0 [] .ti), (.list 0 [] .ti), (I .u16 0), (I .u16 0)]) (List.length H) (H ++ [.hole])) fun h0 =>
  bi (lenD a0) fun d1 =>
  bi (eqK .i64 d1 (I .i64 0)) fun d2 =>
  bi (wantF d2 false (some a0)) fun d3 =>
  bi (wantF d2 false (idxSl 1 d3 (I .i64 0))) fun d4 =>
  bi (wantF d2 false (loadG false 1 d4 h0)) fun d5 =>
  bi (wantF d2 false (cvK .i64 d5)) fun d6 =>
  bi (wantF d2 false (cP n 51 false [d6])) fun d7 =>
  bi (wantF d2 false (notD d7)) fun d8 =>
  bi (pickD d2 (Bo true) d8) fun d9 =>
  bi (wantF d9 false (some a0)) fun d10 =>
  bi (wantF d9 false (idxSl 1 d10 (I .i64 0))) fun d11 =>
  bi (wantF d9 false (loadG false 1 d11 h0)) fun d12 =>
  bi (wantF d9 false (eqK .u8 d12 (I .u8 43))) fun d13 =>
  bi (wantF d9 false (some d13)) fun d14 =>
  bi (wantF d14 true (some a0)) fun d15 =>
  bi (wantF d14 true (lenD d15)) fun d16 =>
  bi (wantF d14 true (gtK .i64 d16 (I .i64 1))) fun d17 =>
  bi (wantF d9 false (pickD d14 d17 (Bo false))) fun d18 =>
  bi (wantF d9 false (some d18)) fun d19 =>
  bi (wantF d19 true (some a0)) fun d20 =>
  bi (wantF d19 true (idxSl 1 d20 (I .i64 1))) fun d21 =>
  bi (wantF d19 true (loadG false 1 d21 h0)) fun d22 =>
  bi (wantF d19 true (neK .u8 d22 (I .u8 14))) fun d23 =>
  bi (wantF d9 false (pickD d19 d23 (Bo false))) fun d24 =>
  bi (pickD d9 (Bo true) d24) fun d25 =>
  condR d25 (
   bi (buildS (.agg [(I .i64 0), (I .i64 0), (I .i64 0), (I .i64 0), (.list 0 [] .ti), (.list 0 [] .ti), (I .u16 0), (I .u16 0)]) [(0, 1), (1, 1), (2, 1), (3, 1), (4, 1), (5, 1), (6, 1), (7, 1)] []) fun d26 =>
   bi (storeG 8 (.ptr (List.length H) 0) d26 h0 fl) fun h27 =>
  bi (cellR true 8 (.ptr (List.length H) 0) h27) fun r0 =>
  some ((.tup [r0, (I .i64 1)]), h27)) (
  bi (cP n 52 false [a0]) fun d28 =>
  bi (allocG 30 (.agg [(I .i64 0), (I .i64 0), (I .i64 0), (I .i64 0), (.list 0 [] .ti), (.list 0 [] .ti), (I .u16 0), (I .u16 0)]) (List.length h0) (h0 ++ [.hole])) fun h29 =>
  bi (storeG 8 (.ptr (List.length h0) 0) d28 h29 fl) fun h30 =>
  bi (loadG true 8 (.ptr (List.length h0) 0) h30) fun d31 =>
  bi (cP n 53 false [d31]) fun d32 =>
  bi (notD d32) fun d33 =>
  bi (wantF d33 false (loadG true 8 (.ptr (List.length h0) 0) h30)) fun d34 =>
  bi (wantF d33 false (cP n 46 false [d34])) fun d35 =>
  bi (wantF d33 false (some a0)) fun d36 =>
  bi (wantF d33 false (cP n 18 false [d35, d36])) fun d37 =>
  bi (wantF d33 false (notD d37)) fun d38 =>
  bi (pickD d33 (Bo true) d38) fun d39 =>
  condR d39 (
   bi (buildS (.agg [(I .i64 0), (I .i64 0), (I .i64 0), (I .i64 0), (.list 0 [] .ti), (.list 0 [] .ti), (I .u16 0), (I .u16 0)]) [(0, 1), (1, 1), (2, 1), (3, 1), (4, 1), (5, 1), (6, 1), (7, 1)] []) fun d40 =>
   bi (storeG 8 (.ptr (List.length H) 0) d40 h30 fl) fun h41 =>
  bi (cellR true 8 (.ptr (List.length H) 0) h41) fun r0 =>
  some ((.tup [r0, (I .i64 3)]), h41)) (
  bi (loadG true 8 (.ptr (List.length h0) 0) h30) fun d42 =>
  bi (cP n 54 false [d42]) fun d43 =>
  bi (notD d43) fun d44 =>
  condR d44 (
   bi (buildS (.agg [(I .i64 0), (I .i64 0), (I .i64 0), (I .i64 0), (.list 0 [] .ti), (.list 0 [] .ti), (I .u16 0), (I .u16 0)]) [(0, 1), (1, 1), (2, 1), (3, 1), (4, 1), (5, 1), (6, 1), (7, 1)] []) fun d45 =>
   bi (storeG 8 (.ptr (List.length H) 0) d45 h30 fl) fun h46 =>
  bi (cellR true 8 (.ptr (List.length H) 0) h46) fun r0 =>
  some ((.tup [r0, (I .i64 2)]), h46)) (
  bi (loadG true 8 (.ptr (List.length h0) 0) h30) fun d47 =>
  bi (storeG 8 (.ptr (List.length H) 0) d47 h30 fl) fun h48 =>
  bi (cellR true 8 (.ptr (List.length H) 0) h48) fun r0 =>
  some ((.tup [r0, (I .i64 0)]), h48))))
theorem s_triuneref06_Parse_eq (n : Nat) (H : Heap) (fl : Nat) (a0 : DV) : callG Try.prog ENV (n + 1) 17 [a0] H fl = s_triuneref06_Parse n H fl a0 := by kernel_rfl

/-! triune/triuneref06.Writes -/
noncomputable def s_triuneref06_Writes (n : Nat) (H : Heap) (fl : Nat) (a0 : DV) : R :=
  bi (eqK .i64 a0 (I .i64 5)) fun d0 =>
  bi (wantF d0 false (some a0)) fun d1 =>
  bi (wantF d0 false (eqK .i64 d1 (I .i64 6))) fun d2 =>
  bi (pickD d0 (Bo true) d2) fun d3 =>
  bi (wantF d3 false (some a0)) fun d4 =>
  bi (wantF d3 false (eqK .i64 d4 (I .i64 15))) fun d5 =>
  bi (pickD d3 (Bo true) d5) fun d6 =>
  bi (wantF d6 false (some a0)) fun d7 =>
  bi (wantF d6 false (eqK .i64 d7 (I .i64 16))) fun d8 =>
  bi (pickD d6 (Bo true) d8) fun d9 =>
  bi (wantF d9 false (some a0)) fun d10 =>
  bi (wantF d9 false (eqK .i64 d10 (I .i64 22))) fun d11 =>
  bi (pickD d9 (Bo true) d11) fun d12 =>
  bi (wantF d12 false (some a0)) fun d13 =>
  bi (wantF d12 false (eqK .i64 d13 (I .i64 23))) fun d14 =>
  bi (pickD d12 (Bo true) d14) fun d15 =>
  some (d15, H)
theorem s_triuneref06_Writes_eq (n : Nat) (H : Heap) (fl : Nat) (a0 : DV) : callG Try.prog ENV (n + 1) 23 [a0] H fl = s_triuneref06_Writes n H fl a0 := by kernel_rfl

/-! triune/triuneref06.most -/
noncomputable def s_triuneref06_most (n : Nat) (H : Heap) (fl : Nat) (a0 : DV) : R :=
  bi (eqK .i64 a0 (I .i64 1)) fun d0 =>
  condR d0 (
  condR d0 (
  some ((.tup [(I .i64 2000), (I .i64 0), (I .i64 0)]), H)) (
   bi (eqK .i64 a0 (I .i64 3)) fun d1 =>
   condR d1 (
   condR d1 (
  some ((.tup [(I .i64 125), (I .i64 0), (I .i64 0)]), H)) (
    bi (eqK .i64 a0 (I .i64 5)) fun d2 =>
    condR d2 (
  some ((.tup [(I .i64 0), (I .i64 0), (I .i64 1)]), H)) (
     bi (eqK .i64 a0 (I .i64 6)) fun d3 =>
     condR d3 (
  some ((.tup [(I .i64 0), (I .i64 1), (I .i64 0)]), H)) (
      bi (eqK .i64 a0 (I .i64 15)) fun d4 =>
      condR d4 (
  some ((.tup [(I .i64 0), (I .i64 0), (I .i64 1968)]), H)) (
       bi (eqK .i64 a0 (I .i64 16)) fun d5 =>
       condR d5 (
  some ((.tup [(I .i64 0), (I .i64 123), (I .i64 0)]), H)) (
        bi (eqK .i64 a0 (I .i64 23)) fun d6 =>
        condR d6 (
  some ((.tup [(I .i64 125), (I .i64 121), (I .i64 0)]), H)) (
         bi (eqK .i64 a0 (I .i64 43)) fun d7 =>
         condR d7 (
  some ((.tup [(I .i64 4), (I .i64 0), (I .i64 0)]), H)) (
  some ((.tup [(I .i64 0), (I .i64 0), (I .i64 0)]), H))))))))) (
    bi (eqK .i64 a0 (I .i64 4)) fun d8 =>
   condR d8 (
  some ((.tup [(I .i64 125), (I .i64 0), (I .i64 0)]), H)) (
    bi (eqK .i64 a0 (I .i64 5)) fun d9 =>
    condR d9 (
  some ((.tup [(I .i64 0), (I .i64 0), (I .i64 1)]), H)) (
     bi (eqK .i64 a0 (I .i64 6)) fun d10 =>
     condR d10 (
  some ((.tup [(I .i64 0), (I .i64 1), (I .i64 0)]), H)) (
      bi (eqK .i64 a0 (I .i64 15)) fun d11 =>
      condR d11 (
  some ((.tup [(I .i64 0), (I .i64 0), (I .i64 1968)]), H)) (
       bi (eqK .i64 a0 (I .i64 16)) fun d12 =>
       condR d12 (
  some ((.tup [(I .i64 0), (I .i64 123), (I .i64 0)]), H)) (
        bi (eqK .i64 a0 (I .i64 23)) fun d13 =>
        condR d13 (
  some ((.tup [(I .i64 125), (I .i64 121), (I .i64 0)]), H)) (
         bi (eqK .i64 a0 (I .i64 43)) fun d14 =>
         condR d14 (
  some ((.tup [(I .i64 4), (I .i64 0), (I .i64 0)]), H)) (
  some ((.tup [(I .i64 0), (I .i64 0), (I .i64 0)]), H))))))))))) (
   bi (eqK .i64 a0 (I .i64 2)) fun d15 =>
  condR d15 (
  some ((.tup [(I .i64 2000), (I .i64 0), (I .i64 0)]), H)) (
   bi (eqK .i64 a0 (I .i64 3)) fun d16 =>
   condR d16 (
   condR d16 (
  some ((.tup [(I .i64 125), (I .i64 0), (I .i64 0)]), H)) (
    bi (eqK .i64 a0 (I .i64 5)) fun d17 =>
    condR d17 (
  some ((.tup [(I .i64 0), (I .i64 0), (I .i64 1)]), H)) (
     bi (eqK .i64 a0 (I .i64 6)) fun d18 =>
     condR d18 (
  some ((.tup [(I .i64 0), (I .i64 1), (I .i64 0)]), H)) (
      bi (eqK .i64 a0 (I .i64 15)) fun d19 =>
      condR d19 (
  some ((.tup [(I .i64 0), (I .i64 0), (I .i64 1968)]), H)) (
       bi (eqK .i64 a0 (I .i64 16)) fun d20 =>
       condR d20 (
  some ((.tup [(I .i64 0), (I .i64 123), (I .i64 0)]), H)) (
        bi (eqK .i64 a0 (I .i64 23)) fun d21 =>
        condR d21 (
  some ((.tup [(I .i64 125), (I .i64 121), (I .i64 0)]), H)) (
         bi (eqK .i64 a0 (I .i64 43)) fun d22 =>
         condR d22 (
  some ((.tup [(I .i64 4), (I .i64 0), (I .i64 0)]), H)) (
  some ((.tup [(I .i64 0), (I .i64 0), (I .i64 0)]), H))))))))) (
    bi (eqK .i64 a0 (I .i64 4)) fun d23 =>
   condR d23 (
  some ((.tup [(I .i64 125), (I .i64 0), (I .i64 0)]), H)) (
    bi (eqK .i64 a0 (I .i64 5)) fun d24 =>
    condR d24 (
  some ((.tup [(I .i64 0), (I .i64 0), (I .i64 1)]), H)) (
     bi (eqK .i64 a0 (I .i64 6)) fun d25 =>
     condR d25 (
  some ((.tup [(I .i64 0), (I .i64 1), (I .i64 0)]), H)) (
      bi (eqK .i64 a0 (I .i64 15)) fun d26 =>
      condR d26 (
  some ((.tup [(I .i64 0), (I .i64 0), (I .i64 1968)]), H)) (
       bi (eqK .i64 a0 (I .i64 16)) fun d27 =>
       condR d27 (
  some ((.tup [(I .i64 0), (I .i64 123), (I .i64 0)]), H)) (
        bi (eqK .i64 a0 (I .i64 23)) fun d28 =>
        condR d28 (
  some ((.tup [(I .i64 125), (I .i64 121), (I .i64 0)]), H)) (
         bi (eqK .i64 a0 (I .i64 43)) fun d29 =>
         condR d29 (
  some ((.tup [(I .i64 4), (I .i64 0), (I .i64 0)]), H)) (
  some ((.tup [(I .i64 0), (I .i64 0), (I .i64 0)]), H)))))))))))
theorem s_triuneref06_most_eq (n : Nat) (H : Heap) (fl : Nat) (a0 : DV) : callG Try.prog ENV (n + 1) 90 [a0] H fl = s_triuneref06_most n H fl a0 := by kernel_rfl

/-! triune/triuneref06.is -/
def s_triuneref06_is_I0 (x0 x3 x4 : DV) : List DV := [x0, .any, .any, x3, x4, .any, .any, .any, .any, .any, .any, .any, .any, .any, .any, .any, .any, .any]
def s_triuneref06_is_O0 (x2 : DV) : List DV := [.any, .any, x2, .any, .any, .any, .any, .any, .any, .any, .any, .any, .any, .any, .any, .any, .any, .any]
noncomputable abbrev s_triuneref06_is_b0 (n fl : Nat) : List DV → Heap → (Ex → KF) → R := execG ⟨Try.prog, callG Try.prog ENV n, ENV.md, fl, 18⟩ n (loopAt (bodyOf Try.f51) 0) []
noncomputable def s_triuneref06_is_B0 (n fl : Nat) (rec : DV → DV → DV → Heap → R) (k : Ex → KF) (x0 x3 x4 : DV) (H : Heap) : R :=
  bi (lenD x3) fun d0 =>
  bi (ltK .i64 x4 d0) fun d1 =>
  condR d1 (
  bi (idxSl 1 x3 x4) fun d2 =>
  bi (loadG false 1 d2 H) fun d3 =>
  bi (eqK .i64 d3 x0) fun d4 =>
  condR d4 (
  k .ret (s_triuneref06_is_O0 (Bo true)) H) (
  bi (addK .i64 x4 (I .i64 1)) fun d5 =>
  rec x0 x3 d5 H)) (
  k (.exit 0) (s_triuneref06_is_O0 .any) H)
noncomputable def s_triuneref06_is_L0 (n fl : Nat) (k : Ex → KF) : Nat → DV → DV → DV → Heap → R
  | 0, _, _, _, _ => none
  | m + 1, x0, x3, x4, H => s_triuneref06_is_B0 n fl (s_triuneref06_is_L0 n fl k m) k x0 x3 x4 H
theorem s_triuneref06_is_S0 (n fl m : Nat) (k : Ex → KF) (x0 x3 x4 : DV) (H : Heap) : loopG [0, 3, 4] [2] 18 (s_triuneref06_is_b0 n fl) (m + 1) (s_triuneref06_is_I0 x0 x3 x4) H k = s_triuneref06_is_B0 n fl (fun x0 x3 x4 H => loopG [0, 3, 4] [2] 18 (s_triuneref06_is_b0 n fl) m (s_triuneref06_is_I0 x0 x3 x4) H k) k x0 x3 x4 H := by kernel_rfl
theorem s_triuneref06_is_L0_eq (n fl : Nat) (k : Ex → KF) : ∀ (m : Nat) (x0 x3 x4 : DV) (H : Heap), loopG [0, 3, 4] [2] 18 (s_triuneref06_is_b0 n fl) m (s_triuneref06_is_I0 x0 x3 x4) H k = s_triuneref06_is_L0 n fl k m x0 x3 x4 H := by
  intro m
  induction m with
  | zero => intros; rfl
  | succ m ih =>
    intro x0 x3 x4 H
    rw [s_triuneref06_is_S0, show (fun x0 x3 x4 H => loopG [0, 3, 4] [2] 18 (s_triuneref06_is_b0 n fl) m (s_triuneref06_is_I0 x0 x3 x4) H k) = s_triuneref06_is_L0 n fl k m from by funext x0 x3 x4 H; exact ih _ _ _ _]
    rw [s_triuneref06_is_L0]
noncomputable def s_triuneref06_is (n : Nat) (H : Heap) (fl : Nat) (a0 : DV) : R :=
  bi (buildL false 1 11 (I .i64 0) [(0, (I .i64 1)), (1, (I .i64 2)), (2, (I .i64 3)), (3, (I .i64 4)), (4, (I .i64 5)), (5, (I .i64 6)), (6, (I .i64 15)), (7, (I .i64 16)), (8, (I .i64 22)), (9, (I .i64 23)), (10, (I .i64 43))]) fun d0 =>
  loopG [0, 3, 4] [2] 18 (s_triuneref06_is_b0 n fl) n (s_triuneref06_is_I0 a0 d0 (I .i64 0)) H fun x S1 h1 => match x with
  | .normal => none
  | .exit i1 => (
  if i1 = 0 then (
  some ((Bo false), h1)) else (
  none))
  | .ret => (
  some ((S1.getD 2 .any), h1))
theorem s_triuneref06_is_eq (n : Nat) (H : Heap) (fl : Nat) (a0 : DV) : callG Try.prog ENV (n + 1) 51 [a0] H fl = s_triuneref06_is n H fl a0 := by kernel_rfl

/-! triune/triuneref06.fits -/
noncomputable def s_triuneref06_fits (n : Nat) (H : Heap) (fl : Nat) (a0 a1 : DV) : R :=
  bi (eqK .i64 a0 (I .i64 0)) fun d0 =>
  bi (wantF d0 true (some a1)) fun d1 =>
  bi (wantF d0 true (eqK .i64 d1 (I .i64 0))) fun d2 =>
  bi (pickD d0 d2 (Bo false)) fun d3 =>
  bi (wantF d3 false (some a0)) fun d4 =>
  bi (wantF d3 false (geK .i64 d4 (I .i64 1))) fun d5 =>
  bi (wantF d3 false (some d5)) fun d6 =>
  bi (wantF d6 true (some a0)) fun d7 =>
  bi (wantF d6 true (some a1)) fun d8 =>
  bi (wantF d6 true (leK .i64 d7 d8)) fun d9 =>
  bi (wantF d3 false (pickD d6 d9 (Bo false))) fun d10 =>
  bi (pickD d3 (Bo true) d10) fun d11 =>
  some (d11, H)
theorem s_triuneref06_fits_eq (n : Nat) (H : Heap) (fl : Nat) (a0 a1 : DV) : callG Try.prog ENV (n + 1) 91 [a0, a1] H fl = s_triuneref06_fits n H fl a0 a1 := by kernel_rfl

/-! triune/triuneref06.formed -/
noncomputable def s_triuneref06_formed (n : Nat) (H : Heap) (fl : Nat) (a0 : DV) : R :=
  bi (allocG 30 a0 (List.length H) (H ++ [.hole])) fun h0 =>
  bi (loadG false 1 (.ptr (List.length H) 0) h0) fun d1 =>
  bi (cP n 90 false [d1]) fun d2 =>
  bi (extD 0 d2) fun d3 =>
  bi (extD 1 d2) fun d4 =>
  bi (extD 2 d2) fun d5 =>
  bi (loadG false 1 (.ptr (List.length H) 0) h0) fun d6 =>
  bi (cP n 51 false [d6]) fun d7 =>
  bi (notD d7) fun d8 =>
  bi (wantF d8 false (some (.ptr (List.length H) 2))) fun d9 =>
  bi (wantF d8 false (loadG false 1 d9 h0)) fun d10 =>
  bi (wantF d8 false (some d3)) fun d11 =>
  bi (wantF d8 false (cP n 91 false [d10, d11])) fun d12 =>
  bi (wantF d8 false (notD d12)) fun d13 =>
  bi (pickD d8 (Bo true) d13) fun d14 =>
  bi (wantF d14 false (some (.ptr (List.length H) 4))) fun d15 =>
  bi (wantF d14 false (loadG false 1 d15 h0)) fun d16 =>
  bi (wantF d14 false (lenD d16)) fun d17 =>
  bi (wantF d14 false (some d4)) fun d18 =>
  bi (wantF d14 false (cP n 91 false [d17, d18])) fun d19 =>
  bi (wantF d14 false (notD d19)) fun d20 =>
  bi (pickD d14 (Bo true) d20) fun d21 =>
  bi (wantF d21 false (some (.ptr (List.length H) 5))) fun d22 =>
  bi (wantF d21 false (loadG false 1 d22 h0)) fun d23 =>
  bi (wantF d21 false (lenD d23)) fun d24 =>
  bi (wantF d21 false (some d5)) fun d25 =>
  bi (wantF d21 false (cP n 91 false [d24, d25])) fun d26 =>
  bi (wantF d21 false (notD d26)) fun d27 =>
  bi (pickD d21 (Bo true) d27) fun d28 =>
  condR d28 (
  some ((Bo false), h0)) (
  bi (loadG false 1 (.ptr (List.length H) 0) h0) fun d29 =>
  bi (neK .i64 d29 (I .i64 22)) fun d30 =>
  bi (wantF d30 true (some (.ptr (List.length H) 6))) fun d31 =>
  bi (wantF d30 true (loadG false 1 d31 h0)) fun d32 =>
  bi (wantF d30 true (neK .u16 d32 (I .u16 0))) fun d33 =>
  bi (wantF d30 true (some d33)) fun d34 =>
  bi (wantF d34 false (some (.ptr (List.length H) 7))) fun d35 =>
  bi (wantF d34 false (loadG false 1 d35 h0)) fun d36 =>
  bi (wantF d34 false (neK .u16 d36 (I .u16 0))) fun d37 =>
  bi (wantF d30 true (pickD d34 (Bo true) d37)) fun d38 =>
  bi (pickD d30 d38 (Bo false)) fun d39 =>
  bi (wantF d39 false (some (.ptr (List.length H) 0))) fun d40 =>
  bi (wantF d39 false (loadG false 1 d40 h0)) fun d41 =>
  bi (wantF d39 false (neK .i64 d41 (I .i64 23))) fun d42 =>
  bi (wantF d39 false (some d42)) fun d43 =>
  bi (wantF d43 true (some (.ptr (List.length H) 3))) fun d44 =>
  bi (wantF d43 true (loadG false 1 d44 h0)) fun d45 =>
  bi (wantF d43 true (neK .i64 d45 (I .i64 0))) fun d46 =>
  bi (wantF d39 false (pickD d43 d46 (Bo false))) fun d47 =>
  bi (pickD d39 (Bo true) d47) fun d48 =>
  condR d48 (
  some ((Bo false), h0)) (
  bi (loadG false 1 (.ptr (List.length H) 1) h0) fun d49 =>
  bi (geK .i64 d49 (I .i64 0)) fun d50 =>
  bi (wantF d50 true (some (.ptr (List.length H) 1))) fun d51 =>
  bi (wantF d50 true (loadG false 1 d51 h0)) fun d52 =>
  bi (wantF d50 true (leK .i64 d52 (I .i64 65535))) fun d53 =>
  bi (pickD d50 d53 (Bo false)) fun d54 =>
  bi (wantF d54 true (some (.ptr (List.length H) 3))) fun d55 =>
  bi (wantF d54 true (loadG false 1 d55 h0)) fun d56 =>
  bi (wantF d54 true (geK .i64 d56 (I .i64 0))) fun d57 =>
  bi (pickD d54 d57 (Bo false)) fun d58 =>
  bi (wantF d58 true (some (.ptr (List.length H) 3))) fun d59 =>
  bi (wantF d58 true (loadG false 1 d59 h0)) fun d60 =>
  bi (wantF d58 true (leK .i64 d60 (I .i64 65535))) fun d61 =>
  bi (pickD d58 d61 (Bo false)) fun d62 =>
  bi (wantF d62 true (some (.ptr (List.length H) 0))) fun d63 =>
  bi (wantF d62 true (loadG false 1 d63 h0)) fun d64 =>
  bi (wantF d62 true (neK .i64 d64 (I .i64 43))) fun d65 =>
  bi (wantF d62 true (some d65)) fun d66 =>
  bi (wantF d66 false (some (.ptr (List.length H) 1))) fun d67 =>
  bi (wantF d66 false (loadG false 1 d67 h0)) fun d68 =>
  bi (wantF d66 false (leK .i64 d68 (I .i64 255))) fun d69 =>
  bi (wantF d62 true (pickD d66 (Bo true) d69)) fun d70 =>
  bi (pickD d62 d70 (Bo false)) fun d71 =>
  some (d71, h0)))
theorem s_triuneref06_formed_eq (n : Nat) (H : Heap) (fl : Nat) (a0 : DV) : callG Try.prog ENV (n + 1) 53 [a0] H fl = s_triuneref06_formed n H fl a0 := by kernel_rfl

/-! triune/triuneref06.placed -/
noncomputable def s_triuneref06_placed (n : Nat) (H : Heap) (fl : Nat) (a0 : DV) : R :=
  bi (allocG 30 a0 (List.length H) (H ++ [.hole])) fun h0 =>
  bi (loadG false 1 (.ptr (List.length H) 2) h0) fun d1 =>
  bi (loadG false 1 (.ptr (List.length H) 5) h0) fun d2 =>
  bi (lenD d2) fun d3 =>
  bi (builtD Try.prog .max #[3, 3, 3] 3 [d1, d3, (I .i64 1)]) fun d4 =>
  bi (loadG false 1 (.ptr (List.length H) 0) h0) fun d5 =>
  bi (eqK .i64 d5 (I .i64 23)) fun d6 =>
  condR d6 (
   bi (loadG false 1 (.ptr (List.length H) 1) h0) fun d7 =>
   bi (loadG false 1 (.ptr (List.length H) 2) h0) fun d8 =>
   bi (addK .i64 d7 d8) fun d9 =>
   bi (leK .i64 d9 (I .i64 65536)) fun d10 =>
   bi (wantF d10 true (some (.ptr (List.length H) 3))) fun d11 =>
   bi (wantF d10 true (loadG false 1 d11 h0)) fun d12 =>
   bi (wantF d10 true (some (.ptr (List.length H) 4))) fun d13 =>
   bi (wantF d10 true (loadG false 1 d13 h0)) fun d14 =>
   bi (wantF d10 true (lenD d14)) fun d15 =>
   bi (wantF d10 true (addK .i64 d12 d15)) fun d16 =>
   bi (wantF d10 true (leK .i64 d16 (I .i64 65536))) fun d17 =>
   bi (pickD d10 d17 (Bo false)) fun d18 =>
  some (d18, h0)) (
  bi (loadG false 1 (.ptr (List.length H) 0) h0) fun d19 =>
  bi (eqK .i64 d19 (I .i64 43)) fun d20 =>
  bi (wantF d20 false (some (.ptr (List.length H) 1))) fun d21 =>
  bi (wantF d20 false (loadG false 1 d21 h0)) fun d22 =>
  bi (wantF d20 false (some d4)) fun d23 =>
  bi (wantF d20 false (some (.ptr (List.length H) 4))) fun d24 =>
  bi (wantF d20 false (loadG false 1 d24 h0)) fun d25 =>
  bi (wantF d20 false (lenD d25)) fun d26 =>
  bi (wantF d20 false (maxI d23 d26)) fun d27 =>
  bi (wantF d20 false (addK .i64 d22 d27)) fun d28 =>
  bi (wantF d20 false (leK .i64 d28 (I .i64 65536))) fun d29 =>
  bi (pickD d20 (Bo true) d29) fun d30 =>
  some (d30, h0))
theorem s_triuneref06_placed_eq (n : Nat) (H : Heap) (fl : Nat) (a0 : DV) : callG Try.prog ENV (n + 1) 54 [a0] H fl = s_triuneref06_placed n H fl a0 := by kernel_rfl

/-! triune/triuneref06.Right -/
noncomputable def s_triuneref06_Right (n : Nat) (H : Heap) (fl : Nat) (a0 : DV) : R :=
  bi (allocG 30 a0 (List.length H) (H ++ [.hole])) fun h0 =>
  bi (loadG true 8 (.ptr (List.length H) 0) h0) fun d1 =>
  bi (cP n 53 false [d1]) fun d2 =>
  bi (wantF d2 true (loadG true 8 (.ptr (List.length H) 0) h0)) fun d3 =>
  bi (wantF d2 true (cP n 54 false [d3])) fun d4 =>
  bi (pickD d2 d4 (Bo false)) fun d5 =>
  some (d5, h0)
theorem s_triuneref06_Right_eq (n : Nat) (H : Heap) (fl : Nat) (a0 : DV) : callG Try.prog ENV (n + 1) 21 [a0] H fl = s_triuneref06_Right n H fl a0 := by kernel_rfl

end Go.Proofs.Ytjkofefcoeejbaa

/- Go functions as Lean functions on deep values; printed by a program of mine. -/
namespace Go.Proofs.Ytjkofefcoeejbaa
open Go
set_option maxRecDepth 100000
set_option linter.unusedVariables false
/-! triune/triuneref01.Same -/
def s_triuneref01_Same_I0 (x0 x1 x5 : DV) : List DV := [x0, x1, .any, .any, .any, x5, .any, .any, .any, .any, .any, .any, .any, .any, .any, .any, .any, .any, .any, .any, .any, .any, .any, .any, .any, .any]
def s_triuneref01_Same_O0 (x4 : DV) : List DV := [.any, .any, .any, .any, x4, .any, .any, .any, .any, .any, .any, .any, .any, .any, .any, .any, .any, .any, .any, .any, .any, .any, .any, .any, .any, .any]
noncomputable abbrev s_triuneref01_Same_b0 (n fl : Nat) : List DV → Heap → (Ex → KF) → R := execG ⟨Try.prog, callG Try.prog ENV n, ENV.md, fl, 26⟩ n (loopAt (bodyOf Try.f18) 0) []
noncomputable def s_triuneref01_Same_B0 (n fl : Nat) (rec : DV → DV → DV → Heap → R) (k : Ex → KF) (x0 x1 x5 : DV) (H : Heap) : R :=
  bi (lenD x0) fun d0 =>
  bi (ltK .i64 x5 d0) fun d1 =>
  condR d1 (
  bi (idxSl 1 x0 x5) fun d2 =>
  bi (loadG false 1 d2 H) fun d3 =>
  bi (idxSl 1 x1 x5) fun d4 =>
  bi (loadG false 1 d4 H) fun d5 =>
  bi (neK .u8 d3 d5) fun d6 =>
  condR d6 (
  k .ret (s_triuneref01_Same_O0 (Bo false)) H) (
  bi (addK .i64 x5 (I .i64 1)) fun d7 =>
  rec x0 x1 d7 H)) (
  k (.exit 0) (s_triuneref01_Same_O0 .any) H)
noncomputable def s_triuneref01_Same_L0 (n fl : Nat) (k : Ex → KF) : Nat → DV → DV → DV → Heap → R
  | 0, _, _, _, _ => none
  | m + 1, x0, x1, x5, H => s_triuneref01_Same_B0 n fl (s_triuneref01_Same_L0 n fl k m) k x0 x1 x5 H
theorem s_triuneref01_Same_S0 (n fl m : Nat) (k : Ex → KF) (x0 x1 x5 : DV) (H : Heap) : loopG [0, 1, 5] [4] 26 (s_triuneref01_Same_b0 n fl) (m + 1) (s_triuneref01_Same_I0 x0 x1 x5) H k = s_triuneref01_Same_B0 n fl (fun x0 x1 x5 H => loopG [0, 1, 5] [4] 26 (s_triuneref01_Same_b0 n fl) m (s_triuneref01_Same_I0 x0 x1 x5) H k) k x0 x1 x5 H := by kernel_rfl
theorem s_triuneref01_Same_L0_eq (n fl : Nat) (k : Ex → KF) : ∀ (m : Nat) (x0 x1 x5 : DV) (H : Heap), loopG [0, 1, 5] [4] 26 (s_triuneref01_Same_b0 n fl) m (s_triuneref01_Same_I0 x0 x1 x5) H k = s_triuneref01_Same_L0 n fl k m x0 x1 x5 H := by
  intro m
  induction m with
  | zero => intros; rfl
  | succ m ih =>
    intro x0 x1 x5 H
    rw [s_triuneref01_Same_S0, show (fun x0 x1 x5 H => loopG [0, 1, 5] [4] 26 (s_triuneref01_Same_b0 n fl) m (s_triuneref01_Same_I0 x0 x1 x5) H k) = s_triuneref01_Same_L0 n fl k m from by funext x0 x1 x5 H; exact ih _ _ _ _]
    rw [s_triuneref01_Same_L0]
noncomputable def s_triuneref01_Same (n : Nat) (H : Heap) (fl : Nat) (a0 a1 : DV) : R :=
  bi (lenD a0) fun d0 =>
  bi (lenD a1) fun d1 =>
  bi (neK .i64 d0 d1) fun d2 =>
  condR d2 (
  some ((Bo false), H)) (
  loopG [0, 1, 5] [4] 26 (s_triuneref01_Same_b0 n fl) n (s_triuneref01_Same_I0 a0 a1 (I .i64 0)) H fun x S3 h3 => match x with
  | .normal => none
  | .exit i3 => (
  if i3 = 0 then (
  some ((Bo true), h3)) else (
  none))
  | .ret => (
  some ((S3.getD 4 .any), h3)))
theorem s_triuneref01_Same_eq (n : Nat) (H : Heap) (fl : Nat) (a0 a1 : DV) : callG Try.prog ENV (n + 1) 18 [a0, a1] H fl = s_triuneref01_Same n H fl a0 a1 := by kernel_rfl

end Go.Proofs.Ytjkofefcoeejbaa

/- Are bytes the same? -/
namespace Go.Proofs.Ytjkofefcoeejbaa
open Go
set_option linter.unusedSimpArgs false
theorem ref01_Same_L (n fl : Nat) (k : Ex → KF) (l1 l2 : List Int) (hl : l1.length = l2.length) (hl1 : l1.length ≤ 1000000) : ∀ (m i : Nat) (H : Heap), l1.length < m + i → i ≤ l1.length →
    s_triuneref01_Same_L0 n fl k m (LV 1 (I .u8) l1 .sh) (LV 1 (I .u8) l2 .sh) (I .i64 i) H = if l1.drop i = l2.drop i then k (.exit 0) (s_triuneref01_Same_O0 .any) H else k .ret (s_triuneref01_Same_O0 (Bo false)) H := by
  intro m
  induction m with
  | zero => intro i H h; omega
  | succ m ih =>
    intro i H hm hi
    unfold s_triuneref01_Same_L0 s_triuneref01_Same_B0
    by_cases h : i < l1.length
    · have d1 : l1.drop i = l1[i] :: l1.drop (i + 1) := List.drop_eq_getElem_cons h
      have d2 : l2.drop i = l2[i] :: l2.drop (i + 1) := List.drop_eq_getElem_cons (by omega)
      have h' : i < l2.length := by omega
      rw [d1, d2]
      by_cases e : l1[i] = l2[i]
      · have ih' := ih (i + 1) H (by omega) (by omega)
        have hi2 : ((i + 1 : Nat) : Int) = (i : Int) + 1 := by omega
        rw [hi2] at ih'
        simp -implicitDefEqProofs (disch := first | omega | (simp only [List.length_set, List.length_append, List.length_cons, List.length_nil, List.length_take, List.length_drop, List.length_map]; omega) | simp) [wrap_i64, wrap_u16_id, wrap_u8_id, tdiv_pos, tmod_pos, -getElem?_pos, -getElem?_neg, -List.length_eq_zero_iff, -List.getElem_cons_drop, h, h', e, ih']
      · simp -implicitDefEqProofs (disch := first | omega | (simp only [List.length_set, List.length_append, List.length_cons, List.length_nil, List.length_take, List.length_drop, List.length_map]; omega) | simp) [wrap_i64, wrap_u16_id, wrap_u8_id, tdiv_pos, tmod_pos, -getElem?_pos, -getElem?_neg, -List.length_eq_zero_iff, -List.getElem_cons_drop, h, h', e]
    · have d1 : l1.drop i = [] := by simp; omega
      have d2 : l2.drop i = [] := by simp; omega
      rw [d1, d2, if_pos rfl]
      simp -implicitDefEqProofs (disch := first | omega | (simp only [List.length_set, List.length_append, List.length_cons, List.length_nil, List.length_take, List.length_drop, List.length_map]; omega) | simp) [wrap_i64, wrap_u16_id, wrap_u8_id, tdiv_pos, tmod_pos, -getElem?_pos, -getElem?_neg, -List.length_eq_zero_iff, -List.getElem_cons_drop, h]
theorem ref01_Same_c (n : Nat) (l1 l2 : List Int) (t1 t2 : Tag) (hl1 : l1.length ≤ 1000000) (hn : l1.length + 2 ≤ n) : cP n 18 false [LV 1 (I .u8) l1 t1, LV 1 (I .u8) l2 t2] = some (Bo (decide (l1 = l2))) := by
  obtain ⟨n, rfl⟩ : ∃ m, n = m + 1 := ⟨n - 1, by omega⟩
  by_cases hl : l1.length = l2.length
  · by_cases e : l1 = l2
    · refine cP_of (args' := [LV 1 (I .u8) l1 .sh, LV 1 (I .u8) l2 .sh]) (by simp [argEl_eq]) ((s_triuneref01_Same_eq _ _ _ _ _).trans (by unfold s_triuneref01_Same; simp -implicitDefEqProofs (disch := first | omega | (simp only [List.length_set, List.length_append, List.length_cons, List.length_nil, List.length_take, List.length_drop, List.length_map]; omega) | simp) [wrap_i64, wrap_u16_id, wrap_u8_id, tdiv_pos, tmod_pos, -getElem?_pos, -getElem?_neg, -List.length_eq_zero_iff, -List.getElem_cons_drop, hl]; rw [s_triuneref01_Same_L0_eq]; erw [ref01_Same_L n 0 _ l1 l2 hl hl1 n 0 [] (by omega) (by omega)]; rw [if_pos (by simp [e])]; first | done | exact rfl)) ?_
      simp [e]
    · refine cP_of (args' := [LV 1 (I .u8) l1 .sh, LV 1 (I .u8) l2 .sh]) (by simp [argEl_eq]) ((s_triuneref01_Same_eq _ _ _ _ _).trans (by unfold s_triuneref01_Same; simp -implicitDefEqProofs (disch := first | omega | (simp only [List.length_set, List.length_append, List.length_cons, List.length_nil, List.length_take, List.length_drop, List.length_map]; omega) | simp) [wrap_i64, wrap_u16_id, wrap_u8_id, tdiv_pos, tmod_pos, -getElem?_pos, -getElem?_neg, -List.length_eq_zero_iff, -List.getElem_cons_drop, hl]; rw [s_triuneref01_Same_L0_eq]; erw [ref01_Same_L n 0 _ l1 l2 hl hl1 n 0 [] (by omega) (by omega)]; rw [if_neg (by simpa using e)]; first | done | exact rfl)) ?_
      simp [e, s_triuneref01_Same_O0]
  · have e : ¬ l1 = l2 := fun h => hl (by rw [h])
    refine cP_of (args' := [LV 1 (I .u8) l1 .sh, LV 1 (I .u8) l2 .sh]) (by simp [argEl_eq]) ((s_triuneref01_Same_eq _ _ _ _ _).trans (by unfold s_triuneref01_Same; simp -implicitDefEqProofs (disch := first | omega | (simp only [List.length_set, List.length_append, List.length_cons, List.length_nil, List.length_take, List.length_drop, List.length_map]; omega) | simp) [wrap_i64, wrap_u16_id, wrap_u8_id, tdiv_pos, tmod_pos, -getElem?_pos, -getElem?_neg, -List.length_eq_zero_iff, -List.getElem_cons_drop, hl]; first | exact rfl | exact ⟨rfl, rfl⟩)) ?_
    simp [e]
end Go.Proofs.Ytjkofefcoeejbaa

/- Requests: the document's. -/
namespace Go.Proofs.Ytjkofefcoeejbaa
open Go
set_option linter.unusedSimpArgs false
set_option linter.unusedVariables false
set_option maxRecDepth 100000
theorem buildL_v2 (a b : Int) : buildL false 1 2 (I .u8 0) [(0, I .u8 a), (1, I .u8 b)] = some (LV 1 (I .u8) [a, b] .ti) := rfl
theorem ref06_two_c (n : Nat) (hn : 1 ≤ n) (x : Int) (h0 : 0 ≤ x) (h1 : x < 9223372036854775808) : cP n 81 false [I .i64 x] = some (LV 1 (I .u8) (twoV x) .sh) := by
  obtain ⟨n, rfl⟩ : ∃ m, n = m + 1 := ⟨n - 1, by omega⟩
  have e := buildL_v2 (x / 256 % 256) (x % 256)
  have e2 : x % 256 % 256 = x % 256 := by omega
  exact cP_of (r := LV 1 (I .u8) (twoV x) .ti) (args' := [I .i64 x]) rfl ((s_triuneref06_two_eq _ _ _ _).trans (by unfold s_triuneref06_two; simp -implicitDefEqProofs (disch := first | omega | (simp only [List.length_set, List.length_append, List.length_cons, List.length_nil, List.length_take, List.length_drop, List.length_map]; omega) | simp) [wrap_i64, wrap_u16_id, wrap_u8_id, tdiv_pos, tmod_pos, -getElem?_pos, -getElem?_neg, -List.length_eq_zero_iff, -List.getElem_cons_drop, wrap_u8, e2, e]; first | done | exact ⟨rfl, rfl⟩)) (by simp)
theorem ref06_number_c (n : Nat) (hn : 1 ≤ n) (l : List Int) (h : Bytes l) (hl : l.length ≤ 100000) (t : Tag) (i : Nat) (hi : i ≤ 100) : cP n 87 false [LV 1 (I .u8) l t, I .i64 i] = some (I .i64 (numV l i)) := by
  obtain ⟨n, rfl⟩ : ∃ m, n = m + 1 := ⟨n - 1, by omega⟩
  by_cases c : i + 2 ≤ l.length
  · have h1 : i < l.length := by omega
    have h2 : i + 1 < l.length := by omega
    have e1 : l.getD i 0 = l[i] := by simp [h1]
    have e2 : l.getD (i + 1) 0 = l[i + 1] := by simp [h2]
    have a1 := h l[i] (List.getElem_mem h1)
    have a2 := h l[i + 1] (List.getElem_mem h2)
    have hx : numV l i = (256 : Int) * l[i] + l[i + 1] := by unfold numV; rw [if_pos c, e1, e2]
    have e4 : ((i : Int) + 1).toNat = i + 1 := by omega
    rw [hx]
    exact cP_of (r := I .i64 ((256 : Int) * l[i] + l[i + 1])) (args' := [LV 1 (I .u8) l .sh, I .i64 i]) (by simp [argEl_eq]) ((s_triuneref06_number_eq _ _ _ _ _).trans (by unfold s_triuneref06_number; simp -implicitDefEqProofs (disch := first | omega | (simp only [List.length_set, List.length_append, List.length_cons, List.length_nil, List.length_take, List.length_drop, List.length_map]; omega) | simp) [wrap_i64, wrap_u16_id, wrap_u8_id, tdiv_pos, tmod_pos, -getElem?_pos, -getElem?_neg, -List.length_eq_zero_iff, -List.getElem_cons_drop, e4, h1, h2]; first | exact rfl | exact ⟨rfl, rfl⟩)) rfl
  · have hx : numV l i = 0 := by unfold numV; rw [if_neg c]
    rw [hx]
    exact cP_of (r := I .i64 0) (args' := [LV 1 (I .u8) l .sh, I .i64 i]) (by simp [argEl_eq]) ((s_triuneref06_number_eq _ _ _ _ _).trans (by unfold s_triuneref06_number; simp -implicitDefEqProofs (disch := first | omega | (simp only [List.length_set, List.length_append, List.length_cons, List.length_nil, List.length_take, List.length_drop, List.length_map]; omega) | simp) [wrap_i64, wrap_u16_id, wrap_u8_id, tdiv_pos, tmod_pos, -getElem?_pos, -getElem?_neg, -List.length_eq_zero_iff, -List.getElem_cons_drop]; first | exact rfl | exact ⟨rfl, rfl⟩)) rfl
theorem ref06_behind_c (n : Nat) (hn : 1 ≤ n) (l : List Int) (t : Tag) (i : Nat) (hl : l.length ≤ 100000) : cP n 88 false [LV 1 (I .u8) l t, I .i64 i] = some (LV 1 (I .u8) (l.drop i) .sh) := by
  obtain ⟨n, rfl⟩ : ∃ m, n = m + 1 := ⟨n - 1, by omega⟩
  have e : l.drop (min (i : Int) l.length).toNat = l.drop i := by
    rcases Nat.lt_or_ge i l.length with h | h
    · rw [show (min (i : Int) l.length).toNat = i by omega]
    · rw [show (min (i : Int) l.length).toNat = l.length by omega, List.drop_length, List.drop_eq_nil_of_le h]
  exact cP_of (r := LV 1 (I .u8) (l.drop i) .sh) (args' := [LV 1 (I .u8) l .sh, I .i64 i]) (by simp [argEl_eq]) ((s_triuneref06_behind_eq _ _ _ _ _).trans (by unfold s_triuneref06_behind; simp -implicitDefEqProofs (disch := first | omega | (simp only [List.length_set, List.length_append, List.length_cons, List.length_nil, List.length_take, List.length_drop, List.length_map]; omega) | simp) [wrap_i64, wrap_u16_id, wrap_u8_id, tdiv_pos, tmod_pos, -getElem?_pos, -getElem?_neg, -List.length_eq_zero_iff, -List.getElem_cons_drop, e]; first | exact rfl | exact ⟨rfl, rfl⟩)) (by simp)
theorem ref06_most_c (n : Nat) (hn : 1 ≤ n) (c : Int) : cP n 90 false [I .i64 c] = some (.tup [I .i64 (cntV c), I .i64 (wrdV c), I .i64 (bitV c)]) := by
  obtain ⟨n, rfl⟩ : ∃ m, n = m + 1 := ⟨n - 1, by omega⟩
  have go : ∀ r, (∃ H', s_triuneref06_most n [] 0 (I .i64 c) = some (r, H')) → (∀ H', outD false H' r = some r) → r = .tup [I .i64 (cntV c), I .i64 (wrdV c), I .i64 (bitV c)] → cP (n + 1) 90 false [I .i64 c] = some (.tup [I .i64 (cntV c), I .i64 (wrdV c), I .i64 (bitV c)]) := by
    intro r ⟨H', h⟩ h1 h2
    rw [← h2]
    exact cP_of rfl ((s_triuneref06_most_eq _ _ _ _).trans h) (h1 H')
  rcases code_cases c with rfl | rfl | rfl | rfl | rfl | rfl | rfl | rfl | rfl | rfl | rfl | h
  all_goals first
    | (refine go _ ⟨_, rfl⟩ (fun H' => rfl) rfl)
    | (refine go (.tup [I .i64 0, I .i64 0, I .i64 0]) ⟨_, by unfold s_triuneref06_most; simp -implicitDefEqProofs (disch := first | omega | (simp only [List.length_set, List.length_append, List.length_cons, List.length_nil, List.length_take, List.length_drop, List.length_map]; omega) | simp) [wrap_i64, wrap_u16_id, wrap_u8_id, tdiv_pos, tmod_pos, -getElem?_pos, -getElem?_neg, -List.length_eq_zero_iff, -List.getElem_cons_drop, h]; first | done | rfl | exact ⟨rfl, rfl⟩⟩ (fun H' => rfl) ?_
       unfold cntV wrdV bitV
       simp [h])
theorem is_L (n fl : Nat) (l : List Int) (x : Int) (t : Tag) (H : Heap) (hl : l.length ≤ 1000) : ∀ (m i : Nat), l.length < m + i → i ≤ l.length →
    (x ∈ l.drop i → ∀ K, s_triuneref06_is_L0 n fl K m (I .i64 x) (LV 1 (I .i64) l t) (I .i64 i) H = K .ret (s_triuneref06_is_O0 (Bo true)) H) ∧
    (x ∉ l.drop i → ∀ K, s_triuneref06_is_L0 n fl K m (I .i64 x) (LV 1 (I .i64) l t) (I .i64 i) H = K (.exit 0) (s_triuneref06_is_O0 .any) H) := by
  intro m
  induction m with
  | zero => intro i h; omega
  | succ m ih =>
    intro i hm hi
    by_cases h : i < l.length
    · obtain ⟨i1, i2⟩ := ih (i + 1) (by omega) (by omega)
      have hi2 : ((i + 1 : Nat) : Int) = (i : Int) + 1 := by omega
      rw [hi2] at i1 i2
      have hd : l.drop i = l[i] :: l.drop (i + 1) := List.drop_eq_getElem_cons h
      rw [hd]
      by_cases hx : l[i] = x
      · have hx' : decide (l[i] = x) = true := by simp [hx]
        exact ⟨fun _ K => by unfold s_triuneref06_is_L0 s_triuneref06_is_B0; simp -implicitDefEqProofs (disch := first | omega | (simp only [List.length_set, List.length_append, List.length_cons, List.length_nil, List.length_take, List.length_drop, List.length_map]; omega) | simp) [wrap_i64, wrap_u16_id, wrap_u8_id, tdiv_pos, tmod_pos, -getElem?_pos, -getElem?_neg, -List.length_eq_zero_iff, -List.getElem_cons_drop, h, hx'], fun q => absurd (List.mem_cons.2 (.inl hx.symm)) q⟩
      · have hx2 : ¬ x = l[i] := fun e => hx e.symm
        refine ⟨fun q K => ?_, fun q K => ?_⟩
        · have e := i1 ((List.mem_cons.1 q).resolve_left hx2)
          unfold s_triuneref06_is_L0 s_triuneref06_is_B0
          simp -implicitDefEqProofs (disch := first | omega | (simp only [List.length_set, List.length_append, List.length_cons, List.length_nil, List.length_take, List.length_drop, List.length_map]; omega) | simp) [wrap_i64, wrap_u16_id, wrap_u8_id, tdiv_pos, tmod_pos, -getElem?_pos, -getElem?_neg, -List.length_eq_zero_iff, -List.getElem_cons_drop, h, hx, e]
        · have e := i2 (fun h' => q (List.mem_cons.2 (.inr h')))
          unfold s_triuneref06_is_L0 s_triuneref06_is_B0
          simp -implicitDefEqProofs (disch := first | omega | (simp only [List.length_set, List.length_append, List.length_cons, List.length_nil, List.length_take, List.length_drop, List.length_map]; omega) | simp) [wrap_i64, wrap_u16_id, wrap_u8_id, tdiv_pos, tmod_pos, -getElem?_pos, -getElem?_neg, -List.length_eq_zero_iff, -List.getElem_cons_drop, h, hx, e]
    · have : i = l.length := by omega
      subst this
      rw [List.drop_length]
      refine ⟨fun q => by simp at q, fun q K => ?_⟩
      unfold s_triuneref06_is_L0 s_triuneref06_is_B0
      simp -implicitDefEqProofs (disch := first | omega | (simp only [List.length_set, List.length_append, List.length_cons, List.length_nil, List.length_take, List.length_drop, List.length_map]; omega) | simp) [wrap_i64, wrap_u16_id, wrap_u8_id, tdiv_pos, tmod_pos, -getElem?_pos, -getElem?_neg, -List.length_eq_zero_iff, -List.getElem_cons_drop]
def codesV : List Int := [1, 2, 3, 4, 5, 6, 15, 16, 22, 23, 43]
theorem buildL_codes : buildL false 1 11 (I .i64 0) [(0, (I .i64 1)), (1, (I .i64 2)), (2, (I .i64 3)), (3, (I .i64 4)), (4, (I .i64 5)), (5, (I .i64 6)), (6, (I .i64 15)), (7, (I .i64 16)), (8, (I .i64 22)), (9, (I .i64 23)), (10, (I .i64 43))] = some (LV 1 (I .i64) codesV .ti) := by kernel_rfl
theorem ref06_is_c (n : Nat) (hn : 20 ≤ n) (c : Int) : cP n 51 false [I .i64 c] = some (Bo (isV c)) := by
  obtain ⟨n, rfl⟩ : ∃ m, n = m + 1 := ⟨n - 1, by omega⟩
  have hl : codesV.length = 11 := rfl
  obtain ⟨i1, i2⟩ := is_L n 0 codesV c .ti [] (by rw [hl]; omega) n 0 (by rw [hl]; omega) (by omega)
  have hm : isV c = decide (c ∈ codesV) := by unfold isV codesV; simp only [List.mem_cons, List.not_mem_nil, or_false]
  rw [hm]
  rw [List.drop_zero] at i1 i2
  have e1 := buildL_codes
  by_cases h : c ∈ codesV
  · have q : ∀ K, loopG [0, 3, 4] [2] 18 (s_triuneref06_is_b0 n 0) n (s_triuneref06_is_I0 (I .i64 c) (LV 1 (I .i64) codesV .ti) (I .i64 0)) [] K = _ := fun K => (s_triuneref06_is_L0_eq _ _ _ _ _ _ _ _).trans (i1 h K)
    rw [decide_eq_true h]
    exact cP_of (r := Bo true) (args' := [I .i64 c]) rfl ((s_triuneref06_is_eq _ _ _ _).trans (by unfold s_triuneref06_is; simp -implicitDefEqProofs (disch := first | omega | (simp only [List.length_set, List.length_append, List.length_cons, List.length_nil, List.length_take, List.length_drop, List.length_map]; omega) | simp) [wrap_i64, wrap_u16_id, wrap_u8_id, tdiv_pos, tmod_pos, -getElem?_pos, -getElem?_neg, -List.length_eq_zero_iff, -List.getElem_cons_drop, e1, q, s_triuneref06_is_O0]; first | exact rfl | exact ⟨rfl, rfl⟩)) rfl
  · have q : ∀ K, loopG [0, 3, 4] [2] 18 (s_triuneref06_is_b0 n 0) n (s_triuneref06_is_I0 (I .i64 c) (LV 1 (I .i64) codesV .ti) (I .i64 0)) [] K = _ := fun K => (s_triuneref06_is_L0_eq _ _ _ _ _ _ _ _).trans (i2 h K)
    rw [decide_eq_false h]
    exact cP_of (r := Bo false) (args' := [I .i64 c]) rfl ((s_triuneref06_is_eq _ _ _ _).trans (by unfold s_triuneref06_is; simp -implicitDefEqProofs (disch := first | omega | (simp only [List.length_set, List.length_append, List.length_cons, List.length_nil, List.length_take, List.length_drop, List.length_map]; omega) | simp) [wrap_i64, wrap_u16_id, wrap_u8_id, tdiv_pos, tmod_pos, -getElem?_pos, -getElem?_neg, -List.length_eq_zero_iff, -List.getElem_cons_drop, e1, q, s_triuneref06_is_O0]; first | exact rfl | exact ⟨rfl, rfl⟩)) rfl
theorem ref06_fits_c (n : Nat) (hn : 1 ≤ n) (x m : Int) : cP n 91 false [I .i64 x, I .i64 m] = some (Bo (fitV x m)) := by
  obtain ⟨n, rfl⟩ : ∃ m, n = m + 1 := ⟨n - 1, by omega⟩
  refine cP_of (r := Bo (decide (x = 0) && decide (m = 0) || decide (1 ≤ x) && decide (x ≤ m))) (args' := [I .i64 x, I .i64 m]) (by simp [argEl_eq]) ((s_triuneref06_fits_eq _ _ _ _ _).trans (by unfold s_triuneref06_fits; simp -implicitDefEqProofs (disch := first | omega | (simp only [List.length_set, List.length_append, List.length_cons, List.length_nil, List.length_take, List.length_drop, List.length_map]; omega) | simp) [wrap_i64, wrap_u16_id, wrap_u8_id, tdiv_pos, tmod_pos, -getElem?_pos, -getElem?_neg, -List.length_eq_zero_iff, -List.getElem_cons_drop, -Bool.not_and, -Bool.not_or, -wantF_n, wantF_sy, wantF_sn, gO_some, gO_loadG, gO_lenD, gO_notD, gO_eqK1, gO_neK1, gO_ltK1, gO_leK1, gO_gtK1, gO_geK1, gO_max1, gO_addK1, gO_mulK1, gO_addK2, gO_ltK2, gO_leK2, gO_max2, gO_cvK, gO_idx, gO_pick, gO_pick2, gO_cP1, gO_cP1b, gO_cP2, gO_cP2a, gO_eqB, pick_t, pick_t2, pick_f, pick_f2, gd_gd, wantF_gt, wantF_gf, gO_pkf, gO_pkt, gO_pktn, gO_eqK2, gO_neK2, gO_gtK2, gO_geK2, gO_subK1, gO_subK2, gO_min1, gO_min2, gO_remK1, gO_cP3, gO_nilD, gO_fieldD, gO_idxArr1, gO_idxArr2, gO_idx2, gO_extD]; first | done | rfl)) ?_
  simp only [outD_flat, Option.some.injEq, DV.flat.injEq, Value.bool.injEq]
  unfold fitV
  rw [Bool.eq_iff_iff]
  simp
theorem ref06_Writes_c (n : Nat) (hn : 1 ≤ n) (c : Int) : cP n 23 false [I .i64 c] = some (Bo (writesV c)) := by
  obtain ⟨n, rfl⟩ : ∃ m, n = m + 1 := ⟨n - 1, by omega⟩
  have fin : ∀ B, (∃ H', s_triuneref06_Writes n [] 0 (I .i64 c) = some (Bo B, H')) → B = writesV c → cP (n + 1) 23 false [I .i64 c] = some (Bo (writesV c)) := by
    rintro B ⟨H', h1⟩ h2
    rw [← h2]
    exact cP_of (r := Bo B) (args' := [I .i64 c]) rfl ((s_triuneref06_Writes_eq _ _ _ _).trans h1) (by simp)
  refine fin _ ⟨_, by unfold s_triuneref06_Writes; simp -implicitDefEqProofs (disch := first | omega | (simp only [List.length_set, List.length_append, List.length_cons, List.length_nil, List.length_take, List.length_drop, List.length_map]; omega) | simp) [wrap_i64, wrap_u16_id, wrap_u8_id, tdiv_pos, tmod_pos, -getElem?_pos, -getElem?_neg, -List.length_eq_zero_iff, -List.getElem_cons_drop, -Bool.not_and, -Bool.not_or, -wantF_n, wantF_sy, wantF_sn, gO_some, gO_loadG, gO_lenD, gO_notD, gO_eqK1, gO_neK1, gO_ltK1, gO_leK1, gO_gtK1, gO_geK1, gO_max1, gO_addK1, gO_mulK1, gO_addK2, gO_ltK2, gO_leK2, gO_max2, gO_cvK, gO_idx, gO_pick, gO_pick2, gO_cP1, gO_cP1b, gO_cP2, gO_cP2a, gO_eqB, pick_t, pick_t2, pick_f, pick_f2, gd_gd, wantF_gt, wantF_gf, gO_pkf, gO_pkt, gO_pktn, gO_eqK2, gO_neK2, gO_gtK2, gO_geK2, gO_subK1, gO_subK2, gO_min1, gO_min2, gO_remK1, gO_cP3, gO_nilD, gO_fieldD, gO_idxArr1, gO_idxArr2, gO_idx2, gO_extD]; exact ⟨rfl, rfl⟩⟩ ?_
  unfold writesV
  rw [Bool.eq_iff_iff]
  simp [or_assoc]
theorem builtD_max3 (a b c : Int) : builtD Try.prog .max #[3, 3, 3] 3 [I .i64 a, I .i64 b, I .i64 c] = some (I .i64 (max (max a b) c)) := by
  have h : builtD Try.prog .max #[3, 3, 3] 3 [I .i64 a, I .i64 b, I .i64 c] = some (I .i64 (if c > (if b > a then b else a) then c else if b > a then b else a)) := rfl
  rw [h, show (if c > (if b > a then b else a) then c else if b > a then b else a) = max (max a b) c by omega]
theorem ref06_formed_c (n : Nat) (hn : 30 ≤ n) (a : Rq) (t1 t2 : Tag) : cP n 53 false [rqE a t1 t2] = some (Bo (decide (FormedP a))) := by
  obtain ⟨n, rfl⟩ : ∃ m, n = m + 1 := ⟨n - 1, by omega⟩
  obtain ⟨c, ad, k, t, w, b, an, o⟩ := a
  have e1 := ref06_most_c n (by omega) c
  have e2 := ref06_is_c n (by omega) c
  have f1 := ref06_fits_c n (by omega) k (cntV c)
  have f2 := ref06_fits_c n (by omega) w.length (wrdV c)
  have f3 := ref06_fits_c n (by omega) b.length (bitV c)
  have fin : ∀ B, (∃ H', s_triuneref06_formed n [] 0 (rqE ⟨c, ad, k, t, w, b, an, o⟩ .sh .sh) = some (Bo B, H')) → B = decide (FormedP ⟨c, ad, k, t, w, b, an, o⟩) → cP (n + 1) 53 false [rqE ⟨c, ad, k, t, w, b, an, o⟩ t1 t2] = some (Bo (decide (FormedP ⟨c, ad, k, t, w, b, an, o⟩))) := by
    rintro B ⟨H', h1⟩ h2
    rw [← h2]
    exact cP_of (r := Bo B) (args' := [rqE ⟨c, ad, k, t, w, b, an, o⟩ .sh .sh]) (by simp [arg_rq]) ((s_triuneref06_formed_eq _ _ _ _).trans h1) (by simp)
  refine fin (decide (FormedP ⟨c, ad, k, t, w, b, an, o⟩)) ⟨[.cells 30 (rqE ⟨c, ad, k, t, w, b, an, o⟩ .sh .sh).cells], ?_⟩ rfl
  unfold s_triuneref06_formed rqE
  simp -implicitDefEqProofs (disch := first | omega | (simp only [List.length_set, List.length_append, List.length_cons, List.length_nil, List.length_take, List.length_drop, List.length_map]; omega) | simp) [wrap_i64, wrap_u16_id, wrap_u8_id, tdiv_pos, tmod_pos, -getElem?_pos, -getElem?_neg, -List.length_eq_zero_iff, -List.getElem_cons_drop, -Bool.not_and, -Bool.not_or, -wantF_n, wantF_sy, wantF_sn, gO_some, gO_loadG, gO_lenD, gO_notD, gO_eqK1, gO_neK1, gO_ltK1, gO_leK1, gO_gtK1, gO_geK1, gO_max1, gO_addK1, gO_mulK1, gO_addK2, gO_ltK2, gO_leK2, gO_max2, gO_cvK, gO_idx, gO_pick, gO_pick2, gO_cP1, gO_cP1b, gO_cP2, gO_cP2a, gO_eqB, pick_t, pick_t2, pick_f, pick_f2, gd_gd, wantF_gt, wantF_gf, gO_pkf, gO_pkt, gO_pktn, gO_eqK2, gO_neK2, gO_gtK2, gO_geK2, gO_subK1, gO_subK2, gO_min1, gO_min2, gO_remK1, gO_cP3, gO_nilD, gO_fieldD, gO_idxArr1, gO_idxArr2, gO_idx2, gO_extD, e1, e2, f1, f2, f3, condR_b]
  clear fin e1 e2 f1 f2 f3
  split
  · rename_i h
    rw [decide_eq_false (show ¬ FormedP ⟨c, ad, k, t, w, b, an, o⟩ by simp only [FormedP]; grind)]
  · rename_i h
    split
    · rename_i h2
      rw [decide_eq_false (show ¬ FormedP ⟨c, ad, k, t, w, b, an, o⟩ by simp only [FormedP]; grind)]
    · rename_i h2
      congr 4
      rw [Bool.eq_iff_iff]
      simp only [FormedP, Bool.and_eq_true, Bool.or_eq_true, decide_eq_true_eq, Bool.not_eq_true', decide_eq_false_iff_not]
      grind
theorem ref06_placed_c (n : Nat) (hn : 3 ≤ n) (a : Rq) (t1 t2 : Tag) (h : FormedP a) : cP n 54 false [rqE a t1 t2] = some (Bo (decide (PlacedP a))) := by
  obtain ⟨n, rfl⟩ : ∃ m, n = m + 1 := ⟨n - 1, by omega⟩
  obtain ⟨h1, h2, h3, h4, h5, h6, h7, h8⟩ := formed_le a h
  have hc : isV a.code = true := h.1
  have q2 := fit_pos h.2.1 (cntV_le _).1
  have q3 := fit_pos h.2.2.1 (wrdV_le _).1
  have q4 := fit_pos h.2.2.2.1 (bitV_le _).1
  obtain ⟨c, ad, k, t, w, b, an, o⟩ := a
  simp only at h1 h2 h3 h4 h5 h6 h7 h8 hc q2 q3 q4
  clear h
  have fin : ∀ B, (∃ H', s_triuneref06_placed n [] 0 (rqE ⟨c, ad, k, t, w, b, an, o⟩ .sh .sh) = some (Bo B, H')) → B = decide (PlacedP ⟨c, ad, k, t, w, b, an, o⟩) → cP (n + 1) 54 false [rqE ⟨c, ad, k, t, w, b, an, o⟩ t1 t2] = some (Bo (decide (PlacedP ⟨c, ad, k, t, w, b, an, o⟩))) := by
    rintro B ⟨H', h1⟩ h2
    rw [← h2]
    exact cP_of (r := Bo B) (args' := [rqE ⟨c, ad, k, t, w, b, an, o⟩ .sh .sh]) (by simp [arg_rq]) ((s_triuneref06_placed_eq _ _ _ _).trans h1) (by simp)
  have e1 := builtD_max3 k b.length 1
  refine fin (decide (PlacedP ⟨c, ad, k, t, w, b, an, o⟩)) ⟨[.cells 30 (rqE ⟨c, ad, k, t, w, b, an, o⟩ .sh .sh).cells], ?_⟩ rfl
  unfold s_triuneref06_placed rqE
  simp -implicitDefEqProofs (disch := first | omega | (simp only [List.length_set, List.length_append, List.length_cons, List.length_nil, List.length_take, List.length_drop, List.length_map]; omega) | simp) [wrap_i64, wrap_u16_id, wrap_u8_id, tdiv_pos, tmod_pos, -getElem?_pos, -getElem?_neg, -List.length_eq_zero_iff, -List.getElem_cons_drop, -Bool.not_and, -Bool.not_or, -wantF_n, wantF_sy, wantF_sn, gO_some, gO_loadG, gO_lenD, gO_notD, gO_eqK1, gO_neK1, gO_ltK1, gO_leK1, gO_gtK1, gO_geK1, gO_max1, gO_addK1, gO_mulK1, gO_addK2, gO_ltK2, gO_leK2, gO_max2, gO_cvK, gO_idx, gO_pick, gO_pick2, gO_cP1, gO_cP1b, gO_cP2, gO_cP2a, gO_eqB, pick_t, pick_t2, pick_f, pick_f2, gd_gd, wantF_gt, wantF_gf, gO_pkf, gO_pkt, gO_pktn, gO_eqK2, gO_neK2, gO_gtK2, gO_geK2, gO_subK1, gO_subK2, gO_min1, gO_min2, gO_remK1, gO_cP3, gO_nilD, gO_fieldD, gO_idxArr1, gO_idxArr2, gO_idx2, gO_extD, e1, condR_b]
  clear fin e1
  split
  · rename_i h
    subst h
    congr 4
    rw [Bool.eq_iff_iff]
    simp [PlacedP, placesV]
    omega
  · rename_i h
    congr 4
    rw [Bool.eq_iff_iff]
    simp only [Bool.or_eq_true, decide_eq_true_eq, PlacedP, placesV]
    have h7' : (w.length : Int) ≤ 123 := by omega
    have h8' : (b.length : Int) ≤ 1968 := by omega
    clear h7 h8
    generalize (w.length : Int) = wl at *
    generalize (b.length : Int) = bl at *
    rcases code_cases c with rfl | rfl | rfl | rfl | rfl | rfl | rfl | rfl | rfl | rfl | rfl | h
    case inr.inr.inr.inr.inr.inr.inr.inr.inr.inr.inr => exact absurd hc (by unfold isV; simp [h])
    all_goals
      simp [cntV, wrdV, bitV] at q2 q3 q4
      try simp
    all_goals omega
theorem ref06_Right_c (n : Nat) (hn : 40 ≤ n) (a : Rq) (t1 t2 : Tag) : cP n 21 false [rqE a t1 t2] = some (Bo (decide (RightP a))) := by
  obtain ⟨n, rfl⟩ : ∃ m, n = m + 1 := ⟨n - 1, by omega⟩
  have e1 := ref06_formed_c n (by omega) a .sh .sh
  by_cases h : FormedP a
  · have e2 := ref06_placed_c n (by omega) a .sh .sh h
    have hr : decide (RightP a) = decide (PlacedP a) := by simp [RightP, h]
    rw [hr]
    unfold rqE at e1 e2
    rw [decide_eq_true h] at e1
    exact cP_of (r := Bo (decide (PlacedP a))) (args' := [rqE a .sh .sh]) (by simp [arg_rq]) ((s_triuneref06_Right_eq _ _ _ _).trans (by unfold s_triuneref06_Right rqE; simp -implicitDefEqProofs (disch := first | omega | (simp only [List.length_set, List.length_append, List.length_cons, List.length_nil, List.length_take, List.length_drop, List.length_map]; omega) | simp) [wrap_i64, wrap_u16_id, wrap_u8_id, tdiv_pos, tmod_pos, -getElem?_pos, -getElem?_neg, -List.length_eq_zero_iff, -List.getElem_cons_drop, e1, e2]; first | exact rfl | exact ⟨rfl, rfl⟩)) (by simp)
  · have hr : decide (RightP a) = false := by simp [RightP, h]
    rw [hr]
    unfold rqE at e1
    rw [decide_eq_false h] at e1
    exact cP_of (r := Bo false) (args' := [rqE a .sh .sh]) (by simp [arg_rq]) ((s_triuneref06_Right_eq _ _ _ _).trans (by unfold s_triuneref06_Right rqE; simp -implicitDefEqProofs (disch := first | omega | (simp only [List.length_set, List.length_append, List.length_cons, List.length_nil, List.length_take, List.length_drop, List.length_map]; omega) | simp) [wrap_i64, wrap_u16_id, wrap_u8_id, tdiv_pos, tmod_pos, -getElem?_pos, -getElem?_neg, -List.length_eq_zero_iff, -List.getElem_cons_drop, e1]; first | exact rfl | exact ⟨rfl, rfl⟩)) (by simp)
end Go.Proofs.Ytjkofefcoeejbaa

/- Requests: the document's text. -/
namespace Go.Proofs.Ytjkofefcoeejbaa
open Go
set_option linter.unusedSimpArgs false
set_option linter.unusedVariables false
set_option maxRecDepth 100000
def hT (b0 : DBlk) (xs : List Int) : Heap := [b0, .token 5 1 xs.length]
theorem hT_get (b0 : DBlk) (xs : List Int) : (hT b0 xs)[0]? = some b0 := rfl
theorem appT0 (c : Int) (ys : List Int) (t : Tag) (b0 : DBlk) (h : ys ≠ []) (hl : ys.length ≤ 100000) : appG 5 false 1 1 (LV 1 (I .u8) [c] .ti) (LV 1 (I .u8) ys t) [b0] 0 = some (LO (c :: ys) 1, hT b0 (c :: ys)) := by
  have := appG_ti (e := 5) (ag := false) (sz := 1) (by_ := 1) (enc := I .u8) (xs := [c]) (ys := ys) (t' := t) (H := [b0]) (fl := 0) h rfl (by simp; omega) (by simp; omega)
  rw [this]
  simp only [List.length_cons, List.length_nil, List.cons_append, List.nil_append]
  congr 2
  unfold hT
  simp
  omega
theorem appT1 (xs ys : List Int) (t : Tag) (b0 : DBlk) (hl : xs.length + ys.length ≤ 1000000) : appG 5 false 1 1 (LO xs 1) (LV 1 (I .u8) ys t) (hT b0 xs) 0 = some (LO (xs ++ ys) 1, hT b0 (xs ++ ys)) := by
  rw [appG_LO xs ys t 1 (hT b0 xs) 0 rfl (by omega) hl]
  cases ys with
  | nil => simp
  | cons y ys => simp [hT]
theorem outD_LO (H : Heap) (x : Int) (xs : List Int) (k : Nat) : outD false H (LO (x :: xs) k) = some (LV 1 (I .u8) (x :: xs) .sh) := rfl
theorem ref06_text_c (n : Nat) (hn : 40 ≤ n) (a : Rq) (h : FormedP a) (ho : RqOk a) (t1 t2 : Tag) : cP n 46 false [rqE a t1 t2] = some (LV 1 (I .u8) (textV a) .sh) := by
  obtain ⟨n, rfl⟩ : ∃ m, n = m + 1 := ⟨n - 1, by omega⟩
  have hle := formed_le a h
  have hc : isV a.code = true := h.1
  have hb5 : a.code = 5 → a.bits ≠ [] := by
    intro e hx
    have := fit_pos h.2.2.2.1 (bitV_le _).1
    rw [e, hx] at this
    simp [bitV] at this
  have hwl := wb_len a ho
  have hpl := pkl_le a ho
  obtain ⟨c, ad, k, t, w, b, an, o⟩ := a
  have ow := ho.w
  have oa := ho.a
  have oo := ho.o
  simp only at hle hc hb5 hwl hpl ow oa oo
  obtain ⟨h1, h2, h3, h4, h5, h6, h7, h8⟩ := hle
  clear h
  have fin : ∀ B, (∃ H', s_triuneref06_text n [] 0 (rqE ⟨c, ad, k, t, w, b, an, o⟩ .sh .sh) = some (B, H')) → (∀ H', outD false H' B = some (LV 1 (I .u8) (textV ⟨c, ad, k, t, w, b, an, o⟩) .sh)) → cP (n + 1) 46 false [rqE ⟨c, ad, k, t, w, b, an, o⟩ t1 t2] = some (LV 1 (I .u8) (textV ⟨c, ad, k, t, w, b, an, o⟩) .sh) := by
    rintro B ⟨H', h1⟩ h2
    exact cP_of (r := B) (args' := [rqE ⟨c, ad, k, t, w, b, an, o⟩ .sh .sh]) (by simp [arg_rq]) ((s_triuneref06_text_eq _ _ _ _).trans h1) (h2 H')
  have e1 := ref06_two_c n (by omega) ad h3 (by omega)
  have e2 := ref06_two_c n (by omega) k h1 (by omega)
  have e3 := ref06_two_c n (by omega) t h5 (by omega)
  have e4 := ref06_two_c n (by omega) b.length (by omega) (by omega)
  have e5 := ref06_two_c n (by omega) w.length (by omega) (by omega)
  have e6 := ref06_two_c n (by omega) an (by omega) (by omega)
  have e7 := ref06_two_c n (by omega) o (by omega) (by omega)
  have f1 := ref02_Bytes_c n w .sh (by omega) ow (by omega)
  have f2 := ref02_Pack_c n b .sh (by omega) (by omega)
  have t2l : ∀ x, (twoV x).length = 2 := fun x => rfl
  have s0 := fun b0 => appT0 c (twoV ad) .sh b0 (by simp [twoV]) (by rw [t2l]; omega)
  have s1 := fun (b0 : DBlk) (ys : List Int) (t : Tag) (hy : ys.length ≤ 7000) => appT1 (c :: twoV ad) ys t b0 (by rw [List.length_cons, t2l]; omega)
  rcases code_cases c with rfl | rfl | rfl | rfl | rfl | rfl | rfl | rfl | rfl | rfl | rfl | h
  case inr.inr.inr.inr.inr.inr.inr.inr.inr.inr.inr => exact absurd hc (by unfold isV; simp [h])
  case inr.inr.inr.inr.inl =>
    cases b with
    | nil => exact absurd rfl (hb5 rfl)
    | cons x b =>
      cases x
      · have s2 := fun b0 => s1 b0 [0, 0] .ti (by simp)
        have v := buildL_v2 0 0
        exact fin _ ⟨_, by unfold s_triuneref06_text rqE; simp -implicitDefEqProofs (disch := first | omega | (simp only [List.length_set, List.length_append, List.length_cons, List.length_nil, List.length_take, List.length_drop, List.length_map]; omega) | simp) [wrap_i64, wrap_u16_id, wrap_u8_id, tdiv_pos, tmod_pos, -getElem?_pos, -getElem?_neg, -List.length_eq_zero_iff, -List.getElem_cons_drop, s0, s2, hT_get, e1, v]; exact ⟨rfl, rfl⟩⟩ (fun H' => outD_LO _ _ _ _)
      · have s2 := fun b0 => s1 b0 [255, 0] .ti (by simp)
        have v := buildL_v2 255 0
        exact fin _ ⟨_, by unfold s_triuneref06_text rqE; simp -implicitDefEqProofs (disch := first | omega | (simp only [List.length_set, List.length_append, List.length_cons, List.length_nil, List.length_take, List.length_drop, List.length_map]; omega) | simp) [wrap_i64, wrap_u16_id, wrap_u8_id, tdiv_pos, tmod_pos, -getElem?_pos, -getElem?_neg, -List.length_eq_zero_iff, -List.getElem_cons_drop, s0, s2, hT_get, e1, v]; exact ⟨rfl, rfl⟩⟩ (fun H' => outD_LO _ _ _ _)
  case inr.inr.inr.inr.inr.inl =>
    have s2 := fun b0 => s1 b0 (wbI w) .sh (by omega)
    exact fin _ ⟨_, by unfold s_triuneref06_text rqE; simp -implicitDefEqProofs (disch := first | omega | (simp only [List.length_set, List.length_append, List.length_cons, List.length_nil, List.length_take, List.length_drop, List.length_map]; omega) | simp) [wrap_i64, wrap_u16_id, wrap_u8_id, tdiv_pos, tmod_pos, -getElem?_pos, -getElem?_neg, -List.length_eq_zero_iff, -List.getElem_cons_drop, s0, s2, hT_get, e1, f1]; exact ⟨rfl, rfl⟩⟩ (fun H' => outD_LO _ _ _ _)
  case inr.inr.inr.inr.inr.inr.inl =>
    have s2 := fun b0 => s1 b0 (twoV b.length) .sh (by rw [t2l]; omega)
    have s3 := fun b0 => appT1 (15 :: twoV ad ++ twoV b.length) [((pkI b).length : Int) % 256] .ti b0 (by simp [t2l])
    have s4 := fun b0 => appT1 (15 :: twoV ad ++ twoV b.length ++ [((pkI b).length : Int) % 256]) (pkI b) .sh b0 (by simp [t2l]; omega)
    simp only [List.cons_append, List.append_assoc, List.nil_append] at s2 s3 s4
    exact fin _ ⟨_, by unfold s_triuneref06_text rqE; simp -implicitDefEqProofs (disch := first | omega | (simp only [List.length_set, List.length_append, List.length_cons, List.length_nil, List.length_take, List.length_drop, List.length_map]; omega) | simp) [wrap_i64, wrap_u16_id, wrap_u8_id, tdiv_pos, tmod_pos, -getElem?_pos, -getElem?_neg, -List.length_eq_zero_iff, -List.getElem_cons_drop, s0, s2, s3, s4, hT_get, e1, e4, f2, wrap_u8]; exact ⟨rfl, rfl⟩⟩ (fun H' => outD_LO _ _ _ _)
  case inr.inr.inr.inr.inr.inr.inr.inl =>
    have s2 := fun b0 => s1 b0 (twoV w.length) .sh (by rw [t2l]; omega)
    have s3 := fun b0 => appT1 (16 :: twoV ad ++ twoV w.length) [((wbI w).length : Int) % 256] .ti b0 (by simp [t2l])
    have s4 := fun b0 => appT1 (16 :: twoV ad ++ twoV w.length ++ [((wbI w).length : Int) % 256]) (wbI w) .sh b0 (by simp [t2l]; omega)
    simp only [List.cons_append, List.append_assoc, List.nil_append] at s2 s3 s4
    exact fin _ ⟨_, by unfold s_triuneref06_text rqE; simp -implicitDefEqProofs (disch := first | omega | (simp only [List.length_set, List.length_append, List.length_cons, List.length_nil, List.length_take, List.length_drop, List.length_map]; omega) | simp) [wrap_i64, wrap_u16_id, wrap_u8_id, tdiv_pos, tmod_pos, -getElem?_pos, -getElem?_neg, -List.length_eq_zero_iff, -List.getElem_cons_drop, s0, s2, s3, s4, hT_get, e1, e5, f1, wrap_u8]; exact ⟨rfl, rfl⟩⟩ (fun H' => outD_LO _ _ _ _)
  case inr.inr.inr.inr.inr.inr.inr.inr.inl =>
    have s2 := fun b0 => s1 b0 (twoV an) .sh (by rw [t2l]; omega)
    have s3 := fun b0 => appT1 (22 :: twoV ad ++ twoV an) (twoV o) .sh b0 (by simp [t2l])
    simp only [List.cons_append, List.append_assoc, List.nil_append] at s2 s3
    exact fin _ ⟨_, by unfold s_triuneref06_text rqE; simp -implicitDefEqProofs (disch := first | omega | (simp only [List.length_set, List.length_append, List.length_cons, List.length_nil, List.length_take, List.length_drop, List.length_map]; omega) | simp) [wrap_i64, wrap_u16_id, wrap_u8_id, tdiv_pos, tmod_pos, -getElem?_pos, -getElem?_neg, -List.length_eq_zero_iff, -List.getElem_cons_drop, s0, s2, s3, hT_get, e1, e6, e7]; exact ⟨rfl, rfl⟩⟩ (fun H' => outD_LO _ _ _ _)
  case inr.inr.inr.inr.inr.inr.inr.inr.inr.inl =>
    have s2 := fun b0 => s1 b0 (twoV k) .sh (by rw [t2l]; omega)
    have s3 := fun b0 => appT1 (23 :: twoV ad ++ twoV k) (twoV t) .sh b0 (by simp [t2l])
    have s4 := fun b0 => appT1 (23 :: twoV ad ++ twoV k ++ twoV t) (twoV w.length) .sh b0 (by simp [t2l])
    have s5 := fun b0 => appT1 (23 :: twoV ad ++ twoV k ++ twoV t ++ twoV w.length) [((wbI w).length : Int) % 256] .ti b0 (by simp [t2l])
    have s6 := fun b0 => appT1 (23 :: twoV ad ++ twoV k ++ twoV t ++ twoV w.length ++ [((wbI w).length : Int) % 256]) (wbI w) .sh b0 (by simp [t2l]; omega)
    simp only [List.cons_append, List.append_assoc, List.nil_append] at s2 s3 s4 s5 s6
    exact fin _ ⟨_, by unfold s_triuneref06_text rqE; simp -implicitDefEqProofs (disch := first | omega | (simp only [List.length_set, List.length_append, List.length_cons, List.length_nil, List.length_take, List.length_drop, List.length_map]; omega) | simp) [wrap_i64, wrap_u16_id, wrap_u8_id, tdiv_pos, tmod_pos, -getElem?_pos, -getElem?_neg, -List.length_eq_zero_iff, -List.getElem_cons_drop, s0, s2, s3, s4, s5, s6, hT_get, e1, e2, e3, e5, f1, wrap_u8]; exact ⟨rfl, rfl⟩⟩ (fun H' => outD_LO _ _ _ _)
  case inr.inr.inr.inr.inr.inr.inr.inr.inr.inr.inl =>
    have v := buildL_u4 43 14 (k % 256) (ad % 256)
    exact fin _ ⟨_, by unfold s_triuneref06_text rqE; simp -implicitDefEqProofs (disch := first | omega | (simp only [List.length_set, List.length_append, List.length_cons, List.length_nil, List.length_take, List.length_drop, List.length_map]; omega) | simp) [wrap_i64, wrap_u16_id, wrap_u8_id, tdiv_pos, tmod_pos, -getElem?_pos, -getElem?_neg, -List.length_eq_zero_iff, -List.getElem_cons_drop, s0, hT_get, e1, v, wrap_u8]; exact ⟨rfl, rfl⟩⟩ (fun H' => rfl)
  all_goals
    have s2 := fun b0 => s1 b0 (twoV k) .sh (by rw [t2l]; omega)
    exact fin _ ⟨_, by unfold s_triuneref06_text rqE; simp -implicitDefEqProofs (disch := first | omega | (simp only [List.length_set, List.length_append, List.length_cons, List.length_nil, List.length_take, List.length_drop, List.length_map]; omega) | simp) [wrap_i64, wrap_u16_id, wrap_u8_id, tdiv_pos, tmod_pos, -getElem?_pos, -getElem?_neg, -List.length_eq_zero_iff, -List.getElem_cons_drop, s0, s2, hT_get, e1, e2]; exact ⟨rfl, rfl⟩⟩ (fun H' => outD_LO _ _ _ _)
end Go.Proofs.Ytjkofefcoeejbaa

/- Requests: the document's guess. -/
namespace Go.Proofs.Ytjkofefcoeejbaa
open Go
set_option linter.unusedSimpArgs false
set_option linter.unusedVariables false
set_option maxRecDepth 100000
def pbit (p : List Int) (i : Nat) : Bool := decide (p.getD (i / 8) 0 / 2 ^ (i % 8) % 2 = 1)
def gBits (n : Int) (p : List Int) : List Bool := (List.range (min n.toNat (8 * p.length))).map (pbit p)
theorem guess_L1 (n fl : Nat) (K : Ex → KF) (x2 x3 x4 x5 : DV) (i : Nat) (hi : i ≤ 1000000) (H : Heap) : ∀ (m k : Nat) (c : Int), 0 ≤ c → c < 256 → k ≤ i % 8 → i % 8 < m + k →
    s_triuneref06_guess_L1 n fl K m x2 x3 x4 x5 (I .i64 i) (I .i64 c) (I .i64 k) H = K (.exit 3) (s_triuneref06_guess_O1 x2 x3 x4 x5 (I .i64 i) (I .i64 (c / 2 ^ (i % 8 - k)))) H := by
  intro m
  induction m with
  | zero => intro k c h0 h1 h2 h3; omega
  | succ m ih =>
    intro k c h0 h1 h2 h3
    unfold s_triuneref06_guess_L1 s_triuneref06_guess_B1
    by_cases h : k < i % 8
    · have ih' := ih (k + 1) (c / 2) (by omega) (by omega) (by omega) (by omega)
      have hk : ((k + 1 : Nat) : Int) = (k : Int) + 1 := by omega
      have hp : c / 2 / 2 ^ (i % 8 - (k + 1)) = c / 2 ^ (i % 8 - k) := by
        have e : i % 8 - k = (i % 8 - (k + 1)) + 1 := by omega
        rw [e, Int.pow_succ, Int.mul_comm, ← Int.ediv_ediv_of_nonneg (by omega)]
      rw [hk, hp] at ih'
      have hd : decide ((k : Int) < (i : Int) % 8) = true := by simp; omega
      simp -implicitDefEqProofs (disch := first | omega | (simp only [List.length_set, List.length_append, List.length_cons, List.length_nil, List.length_take, List.length_drop, List.length_map]; omega) | simp) [wrap_i64, wrap_u16_id, wrap_u8_id, tdiv_pos, tmod_pos, -getElem?_pos, -getElem?_neg, -List.length_eq_zero_iff, -List.getElem_cons_drop, hd, ih']
    · have : k = i % 8 := by omega
      have hd : decide ((k : Int) < (i : Int) % 8) = false := by simp; omega
      have e : i % 8 - k = 0 := by omega
      rw [e]
      simp -implicitDefEqProofs (disch := first | omega | (simp only [List.length_set, List.length_append, List.length_cons, List.length_nil, List.length_take, List.length_drop, List.length_map]; omega) | simp) [wrap_i64, wrap_u16_id, wrap_u8_id, tdiv_pos, tmod_pos, -getElem?_pos, -getElem?_neg, -List.length_eq_zero_iff, -List.getElem_cons_drop, hd]
def LOb (xs : List Bool) (k : Nat) : DV := .list 1 (xs.map Bo) (.own k)
def c0G : DBlk := .cells 30 zE
def c1G (ad : Int) (bl : DV) : DBlk := .cells 30 [I .i64 15, I .i64 ad, I .i64 0, I .i64 0, .list 0 [] .ti, bl, I .u16 0, I .u16 0]
theorem appB0 (x : Bool) (b0 b1 : DBlk) : appG 4 false 1 1 (.list 0 [] .ti) (LV 1 Bo [x] .ti) [b0, b1] 0 = some (LOb [x] 2, [b0, b1, .token 4 1 1]) := rfl
theorem appB1 (xs : List Bool) (x : Bool) (b0 b1 : DBlk) (m : Nat) (hm : m = xs.length) (hl : m ≤ 1000000) : appG 4 false 1 1 (LOb xs 2) (LV 1 Bo [x] .ti) [b0, b1, .token 4 1 m] 0 = some (LOb (xs ++ [x]) 2, [b0, b1, .token 4 1 (m + 1)]) := by
  subst hm
  have hc : chunkOk false 1 0 = true := rfl
  have h3 : xs.length + 1 ≤ 140737488355328 := by omega
  show appG 4 false 1 1 (.list 1 (xs.map Bo) (.own 2)) (.list 1 [Bo x] .ti) _ 0 = _
  unfold appG appendD srcD LOb
  simp [effH, Eff.heap, hc, h3]
theorem LOb_leaf (xs : List Bool) (k : Nat) : (LOb xs k).leaf = true := rfl
theorem LOb_cells (xs : List Bool) (k : Nat) : (LOb xs k).cells = [LOb xs k] := rfl
theorem round_ok (p : List Int) (hp : Bytes p) (i : Nat) (h : i < 8 * p.length) : ∃ h' : i / 8 < p.length, 0 ≤ p[i / 8] ∧ p[i / 8] < 256 ∧ pbit p i = decide (p[i / 8] / 2 ^ (i % 8) % 2 = 1) := by
  have h' : i / 8 < p.length := by omega
  have := hp _ (List.getElem_mem h')
  refine ⟨h', this.1, this.2, ?_⟩
  unfold pbit
  rw [show p.getD (i / 8) 0 = p[i / 8] by simp [h']]
theorem guess_L0 (n : Nat) (hn : 20 ≤ n) (K : Ex → KF) (nn : Int) (h0 : 0 ≤ nn) (hnn : nn < 65536) (p : List Int) (hp : Bytes p) (hpl : p.length ≤ 10000) (ad : Int) : ∀ (m i : Nat), min nn.toNat (8 * p.length) < m + i → 1 ≤ i → i ≤ min nn.toNat (8 * p.length) →
    s_triuneref06_guess_L0 n 0 K m (.ptr 0 0) (.ptr 1 0) (I .i64 nn) (LV 1 (I .u8) p .sh) (I .i64 i) [c0G, c1G ad (LOb ((List.range i).map (pbit p)) 2), .token 4 1 i] = K (.exit 1) (s_triuneref06_guess_O0 (.ptr 0 0) (.ptr 1 0)) [c0G, c1G ad (LOb (gBits nn p) 2), .token 4 1 (min nn.toNat (8 * p.length))] := by
  intro m
  induction m with
  | zero => intro i h h1 h2; omega
  | succ m ih =>
    intro i hm h1 h2
    by_cases h : i < min nn.toNat (8 * p.length)
    · obtain ⟨h', b0, b1, hb⟩ := round_ok p hp i (by omega)
      have q : ∀ K H, loopG [2, 3, 4, 5, 6, 7, 8] [2, 3, 4, 5, 6, 7] 131 (s_triuneref06_guess_b1 n 0) n (s_triuneref06_guess_I1 (.ptr 0 0) (.ptr 1 0) (I .i64 nn) (LV 1 (I .u8) p .sh) (I .i64 i) (I .i64 p[i / 8]) (I .i64 0)) H K = _ := fun K H => (s_triuneref06_guess_L1_eq _ _ _ _ _ _ _ _ _ _ _ _).trans (guess_L1 n 0 K (.ptr 0 0) (.ptr 1 0) (I .i64 nn) (LV 1 (I .u8) p .sh) i (by omega) H n 0 p[i / 8] b0 b1 (by omega) (by omega))
      have a1 := fun b0 b1 => appB1 ((List.range i).map (pbit p)) (decide (p[i / 8] / 2 ^ (i % 8) % 2 = 1)) b0 b1 i (by simp) (by omega)
      rw [← hb, show (List.range i).map (pbit p) ++ [pbit p i] = (List.range (i + 1)).map (pbit p) by rw [List.range_succ, List.map_append]; rfl] at a1
      have ih' := ih (i + 1) (by omega) (by omega) (by omega)
      have hi2 : ((i + 1 : Nat) : Int) = (i : Int) + 1 := by omega
      rw [hi2] at ih'
      have e3 : ((i : Int) / 8).toNat = i / 8 := by omega
      have hpos : 0 ≤ p[i / 8] / 2 ^ (i % 8) := Int.ediv_nonneg b0 (by have := Int.pow_pos (n := 2) (m := i % 8) (by omega); omega)
      have v : buildL false 1 1 (Bo false) [(0, Bo (decide (p[i / 8] / 2 ^ (i % 8) % 2 = 1)))] = some (LV 1 Bo [pbit p i] .ti) := by rw [hb]; exact buildL_b1 _
      have g1 : (i : Int) < nn := by omega
      have g2 : (i : Int) < 8 * p.length := by omega
      have g3 := Int.pow_pos (n := 2) (m := i % 8) (by omega)
      have g4 : p[i / 8] / 2 ^ (i % 8) ≤ p[i / 8] := Int.ediv_le_self _ b0
      unfold s_triuneref06_guess_L0 s_triuneref06_guess_B0
      unfold c0G c1G at *
      simp -implicitDefEqProofs (disch := first | omega | (simp only [List.length_set, List.length_append, List.length_cons, List.length_nil, List.length_take, List.length_drop, List.length_map]; omega) | simp) [wrap_i64, wrap_u16_id, wrap_u8_id, tdiv_pos, tmod_pos, -getElem?_pos, -getElem?_neg, -List.length_eq_zero_iff, -List.getElem_cons_drop, g1, g2, e3, h', q, s_triuneref06_guess_O1, v, a1, LOb_leaf, LOb_cells, ih']
    · have hi : i = min nn.toNat (8 * p.length) := by omega
      have e : (List.range i).map (pbit p) = gBits nn p := by rw [hi]; rfl
      rw [e, ← hi]
      unfold s_triuneref06_guess_L0 s_triuneref06_guess_B0
      by_cases g1 : (i : Int) < nn
      · have g2 : ¬ (i : Int) < 8 * p.length := by omega
        simp -implicitDefEqProofs (disch := first | omega | (simp only [List.length_set, List.length_append, List.length_cons, List.length_nil, List.length_take, List.length_drop, List.length_map]; omega) | simp) [wrap_i64, wrap_u16_id, wrap_u8_id, tdiv_pos, tmod_pos, -getElem?_pos, -getElem?_neg, -List.length_eq_zero_iff, -List.getElem_cons_drop, g1, g2]
      · simp -implicitDefEqProofs (disch := first | omega | (simp only [List.length_set, List.length_append, List.length_cons, List.length_nil, List.length_take, List.length_drop, List.length_map]; omega) | simp) [wrap_i64, wrap_u16_id, wrap_u8_id, tdiv_pos, tmod_pos, -getElem?_pos, -getElem?_neg, -List.length_eq_zero_iff, -List.getElem_cons_drop, g1]
end Go.Proofs.Ytjkofefcoeejbaa

/- Requests: the document's guess, Parse, Bytes. -/
namespace Go.Proofs.Ytjkofefcoeejbaa
open Go
set_option linter.unusedSimpArgs false
set_option linter.unusedVariables false
set_option maxRecDepth 100000
/-- what the document guesses of bytes -/
def guessV (b : List Int) : Rq :=
  let c := b.getD 0 0
  let a : Rq := ⟨c, numV b 1, 0, 0, [], [], 0, 0⟩
  if c = 5 then { a with bits := [decide (¬ numV b 3 = 0)] }
  else if c = 6 then { a with words := [numV b 3] }
  else if c = 15 then { a with bits := gBits (numV b 3) (b.drop 6) }
  else if c = 16 then { a with words := wdI (b.drop 6) }
  else if c = 22 then { a with and_ := numV b 3, or_ := numV b 5 }
  else if c = 23 then { a with cnt := numV b 3, to_ := numV b 5, words := wdI (b.drop 10) }
  else if c = 43 then (if b.length = 4 then ⟨c, b.getD 3 0, b.getD 2 0, 0, [], [], 0, 0⟩ else ⟨c, 0, 0, 0, [], [], 0, 0⟩)
  else { a with cnt := numV b 3 }
theorem gBits_nil (n : Int) (p : List Int) (h : min n.toNat (8 * p.length) = 0) : gBits n p = [] := by unfold gBits; rw [h]; rfl
theorem gBits_len (n : Int) (p : List Int) : (gBits n p).length = min n.toNat (8 * p.length) := by simp [gBits]
theorem outD_rq (H : Heap) (a : Rq) (t1 t2 : Tag) : outD false H (rqE a t1 t2) = some (rqE a .sh .sh) := by simp [rqE]
theorem guess_loop (n : Nat) (hn : 31000 ≤ n) (nn : Int) (h0 : 0 ≤ nn) (hnn : nn < 65536) (p : List Int) (hp : Bytes p) (hpl : p.length ≤ 600) (ad : Int) : ∃ bl H, (∀ H', outLeaf false H' bl = some (LV 1 Bo (gBits nn p) .sh)) ∧ bl.leaf = true ∧ bl.cells = [bl] ∧
    ∀ K, loopG [2, 3, 4, 5, 6] [2, 3] 131 (s_triuneref06_guess_b0 n 0) n (s_triuneref06_guess_I0 (.ptr 0 0) (.ptr 1 0) (I .i64 nn) (LV 1 (I .u8) p .sh) (I .i64 0)) [c0G, c1G ad (.list 0 [] .ti)] K = K (.exit 1) (s_triuneref06_guess_O0 (.ptr 0 0) (.ptr 1 0)) (c0G :: c1G ad bl :: H) := by
  obtain ⟨m, rfl⟩ : ∃ m, n = m + 1 := ⟨n - 1, by omega⟩
  by_cases h : min nn.toNat (8 * p.length) = 0
  · refine ⟨.list 0 [] .ti, [], fun H' => by rw [gBits_nil _ _ h]; rfl, rfl, rfl, fun K => ?_⟩
    rw [s_triuneref06_guess_L0_eq]
    unfold s_triuneref06_guess_L0 s_triuneref06_guess_B0
    by_cases g1 : (0 : Int) < nn
    · have g2 : ¬ (0 : Int) < 8 * p.length := by omega
      simp -implicitDefEqProofs (disch := first | omega | (simp only [List.length_set, List.length_append, List.length_cons, List.length_nil, List.length_take, List.length_drop, List.length_map]; omega) | simp) [wrap_i64, wrap_u16_id, wrap_u8_id, tdiv_pos, tmod_pos, -getElem?_pos, -getElem?_neg, -List.length_eq_zero_iff, -List.getElem_cons_drop, g1, g2]
    · simp -implicitDefEqProofs (disch := first | omega | (simp only [List.length_set, List.length_append, List.length_cons, List.length_nil, List.length_take, List.length_drop, List.length_map]; omega) | simp) [wrap_i64, wrap_u16_id, wrap_u8_id, tdiv_pos, tmod_pos, -getElem?_pos, -getElem?_neg, -List.length_eq_zero_iff, -List.getElem_cons_drop, g1]
  · refine ⟨LOb (gBits nn p) 2, [.token 4 1 (min nn.toNat (8 * p.length))], fun H' => ?_, rfl, rfl, fun K => ?_⟩
    · have hl := gBits_len nn p
      generalize gBits nn p = g at hl
      cases g with
      | nil => exact absurd hl.symm h
      | cons x g => rfl
    · rw [s_triuneref06_guess_L0_eq]
      obtain ⟨h', b0, b1, hb⟩ := round_ok p hp 0 (by omega)
      have q : ∀ K H, loopG [2, 3, 4, 5, 6, 7, 8] [2, 3, 4, 5, 6, 7] 131 (s_triuneref06_guess_b1 (m + 1) 0) (m + 1) (s_triuneref06_guess_I1 (.ptr 0 0) (.ptr 1 0) (I .i64 nn) (LV 1 (I .u8) p .sh) (I .i64 0) (I .i64 p[0 / 8]) (I .i64 0)) H K = _ := fun K H => (s_triuneref06_guess_L1_eq _ _ _ _ _ _ _ _ _ _ _ _).trans (guess_L1 (m + 1) 0 K (.ptr 0 0) (.ptr 1 0) (I .i64 nn) (LV 1 (I .u8) p .sh) 0 (by omega) H (m + 1) 0 p[0 / 8] b0 b1 (by omega) (by omega))
      have a1 := fun b0 b1 => appB0 (pbit p 0) b0 b1
      have ih' := guess_L0 (m + 1) (by omega) K nn h0 hnn p hp (by omega) ad m 1 (by omega) (by omega) (by omega)
      have e5 : (List.range 1).map (pbit p) = [pbit p 0] := rfl
      rw [e5] at ih'
      have v : buildL false 1 1 (Bo false) [(0, Bo (decide (p[0 / 8] / 2 ^ (0 % 8) % 2 = 1)))] = some (LV 1 Bo [pbit p 0] .ti) := by rw [hb]; exact buildL_b1 _
      have g1 : (0 : Int) < nn := by omega
      have g2 : (0 : Int) < 8 * p.length := by omega
      have g5 : 0 < p.length := by omega
      simp only [Nat.zero_div, Nat.zero_mod, Nat.pow_zero, Nat.sub_zero, Int.pow_zero, Int.ediv_one] at q v b0 b1
      unfold s_triuneref06_guess_L0 s_triuneref06_guess_B0
      unfold c0G c1G at *
      simp -implicitDefEqProofs (disch := first | omega | (simp only [List.length_set, List.length_append, List.length_cons, List.length_nil, List.length_take, List.length_drop, List.length_map]; omega) | simp) [wrap_i64, wrap_u16_id, wrap_u8_id, tdiv_pos, tmod_pos, -getElem?_pos, -getElem?_neg, -List.length_eq_zero_iff, -List.getElem_cons_drop, g1, g2, g5, h', q, s_triuneref06_guess_O1, v, a1, LOb_leaf, LOb_cells]
      exact ih'
section
variable (n : Nat) (hn : 5 ≤ n) (l : List Int) (h : Bytes l) (hl : l.length ≤ 10000)
include hn h hl
theorem num1 : cP n 87 false [LV 1 (I .u8) l .sh, I .i64 1] = some (I .i64 (numV l 1)) := ref06_number_c n (by omega) l h (by omega) .sh 1 (by omega)
theorem num3 : cP n 87 false [LV 1 (I .u8) l .sh, I .i64 3] = some (I .i64 (numV l 3)) := ref06_number_c n (by omega) l h (by omega) .sh 3 (by omega)
theorem num5 : cP n 87 false [LV 1 (I .u8) l .sh, I .i64 5] = some (I .i64 (numV l 5)) := ref06_number_c n (by omega) l h (by omega) .sh 5 (by omega)
end
theorem guess_c (n : Nat) (hn : 32000 ≤ n) (b : List Int) (h : Bytes b) (hb0 : b ≠ []) (hl : b.length ≤ 600) (hi : isV (b.getD 0 0) = true) (t : Tag) : cP n 52 false [LV 1 (I .u8) b t] = some (rqE (guessV b) .sh .sh) := by
  obtain ⟨n, rfl⟩ : ∃ m, n = m + 1 := ⟨n - 1, by omega⟩
  have hl0 : 0 < b.length := by cases b with | nil => exact absurd rfl hb0 | cons => simp
  have g0 : b.getD 0 0 = b[0] := by simp [hl0]
  have hw := h b[0] (List.getElem_mem hl0)
  rw [g0] at hi
  have fin : ∀ r, (∃ H', s_triuneref06_guess n [] 0 (LV 1 (I .u8) b .sh) = some (r, H')) → (∀ H', outD false H' r = some (rqE (guessV b) .sh .sh)) → cP (n + 1) 52 false [LV 1 (I .u8) b t] = some (rqE (guessV b) .sh .sh) := by
    rintro r ⟨H', h1⟩ h2
    exact cP_of (args' := [LV 1 (I .u8) b .sh]) (by simp [argEl_eq]) ((s_triuneref06_guess_eq _ _ _ _).trans h1) (h2 H')
  have n1 := num1 n (by omega) b h (by omega)
  have n3 := num3 n (by omega) b h (by omega)
  have n5 := num5 n (by omega) b h (by omega)
  have m1 := numV_le b h 1
  have m3 := numV_le b h 3
  have m5 := numV_le b h 5
  have k6 : cP n 88 false [LV 1 (I .u8) b .sh, I .i64 6] = some (LV 1 (I .u8) (b.drop 6) .sh) := ref06_behind_c n (by omega) b .sh 6 (by omega)
  have k10 : cP n 88 false [LV 1 (I .u8) b .sh, I .i64 10] = some (LV 1 (I .u8) (b.drop 10) .sh) := ref06_behind_c n (by omega) b .sh 10 (by omega)
  have w6 := ref02_Words_c n (b.drop 6) .sh (by omega) (bytes_drop h 6) (by simp; omega)
  have w10 := ref02_Words_c n (b.drop 10) .sh (by omega) (bytes_drop h 10) (by simp; omega)
  rcases code_cases b[0] with e | e | e | e | e | e | e | e | e | e | e | e
  case inr.inr.inr.inr.inr.inr.inr.inr.inr.inr.inr => exact absurd hi (by unfold isV; simp [e])
  case inr.inr.inr.inr.inl =>
    have v := buildL_b1 (!decide (numV b 3 = 0))
    have hg : guessV b = ⟨5, numV b 1, 0, 0, [], [decide (¬ numV b 3 = 0)], 0, 0⟩ := by simp only [guessV, g0]; simp [e]
    refine fin _ ⟨_, by unfold s_triuneref06_guess; simp -implicitDefEqProofs (disch := first | omega | (simp only [List.length_set, List.length_append, List.length_cons, List.length_nil, List.length_take, List.length_drop, List.length_map]; omega) | simp) [wrap_i64, wrap_u16_id, wrap_u8_id, tdiv_pos, tmod_pos, -getElem?_pos, -getElem?_neg, -List.length_eq_zero_iff, -List.getElem_cons_drop, hl0, e, n1, n3, v]; exact ⟨rfl, rfl⟩⟩ (fun H' => by rw [hg]; simp [rqE]; first | rfl | exact ⟨rfl, rfl⟩)
  case inr.inr.inr.inr.inr.inl =>
    have hg : guessV b = ⟨6, numV b 1, 0, 0, [numV b 3], [], 0, 0⟩ := by simp only [guessV, g0]; simp [e]
    refine fin _ ⟨_, by unfold s_triuneref06_guess; simp -implicitDefEqProofs (disch := first | omega | (simp only [List.length_set, List.length_append, List.length_cons, List.length_nil, List.length_take, List.length_drop, List.length_map]; omega) | simp) [wrap_i64, wrap_u16_id, wrap_u8_id, tdiv_pos, tmod_pos, -getElem?_pos, -getElem?_neg, -List.length_eq_zero_iff, -List.getElem_cons_drop, hl0, e, n1, n3]; exact ⟨rfl, rfl⟩⟩ (fun H' => by rw [hg]; simp [rqE]; first | rfl | exact ⟨rfl, rfl⟩)
  case inr.inr.inr.inr.inr.inr.inl =>
    have hg : guessV b = ⟨15, numV b 1, 0, 0, [], gBits (numV b 3) (b.drop 6), 0, 0⟩ := by simp only [guessV, g0]; simp [e]
    obtain ⟨bl, H, lp1, lp2, lp3, lp⟩ := guess_loop n (by omega) (numV b 3) m3.1 m3.2 (b.drop 6) (bytes_drop h 6) (by simp; omega) (numV b 1)
    unfold c0G c1G zE at lp
    refine fin _ ⟨_, by unfold s_triuneref06_guess; simp -implicitDefEqProofs (disch := first | omega | (simp only [List.length_set, List.length_append, List.length_cons, List.length_nil, List.length_take, List.length_drop, List.length_map]; omega) | simp) [wrap_i64, wrap_u16_id, wrap_u8_id, tdiv_pos, tmod_pos, -getElem?_pos, -getElem?_neg, -List.length_eq_zero_iff, -List.getElem_cons_drop, hl0, e, n1, n3, k6, lp, s_triuneref06_guess_O0, lp2, lp3]; exact ⟨rfl, rfl⟩⟩ (fun H' => by rw [hg]; simp [rqE, lp1]; first | rfl | exact ⟨rfl, rfl⟩)
  case inr.inr.inr.inr.inr.inr.inr.inl =>
    have hg : guessV b = ⟨16, numV b 1, 0, 0, wdI (b.drop 6), [], 0, 0⟩ := by simp only [guessV, g0]; simp [e]
    refine fin _ ⟨_, by unfold s_triuneref06_guess; simp -implicitDefEqProofs (disch := first | omega | (simp only [List.length_set, List.length_append, List.length_cons, List.length_nil, List.length_take, List.length_drop, List.length_map]; omega) | simp) [wrap_i64, wrap_u16_id, wrap_u8_id, tdiv_pos, tmod_pos, -getElem?_pos, -getElem?_neg, -List.length_eq_zero_iff, -List.getElem_cons_drop, hl0, e, n1, n3, k6, w6]; exact ⟨rfl, rfl⟩⟩ (fun H' => by rw [hg]; simp [rqE]; first | rfl | exact ⟨rfl, rfl⟩)
  case inr.inr.inr.inr.inr.inr.inr.inr.inl =>
    have hg : guessV b = ⟨22, numV b 1, 0, 0, [], [], numV b 3, numV b 5⟩ := by simp only [guessV, g0]; simp [e]
    refine fin _ ⟨_, by unfold s_triuneref06_guess; simp -implicitDefEqProofs (disch := first | omega | (simp only [List.length_set, List.length_append, List.length_cons, List.length_nil, List.length_take, List.length_drop, List.length_map]; omega) | simp) [wrap_i64, wrap_u16_id, wrap_u8_id, tdiv_pos, tmod_pos, -getElem?_pos, -getElem?_neg, -List.length_eq_zero_iff, -List.getElem_cons_drop, hl0, e, n1, n3, n5]; exact ⟨rfl, rfl⟩⟩ (fun H' => by rw [hg]; simp [rqE]; first | rfl | exact ⟨rfl, rfl⟩)
  case inr.inr.inr.inr.inr.inr.inr.inr.inr.inl =>
    have hg : guessV b = ⟨23, numV b 1, numV b 3, numV b 5, wdI (b.drop 10), [], 0, 0⟩ := by simp only [guessV, g0]; simp [e]
    refine fin _ ⟨_, by unfold s_triuneref06_guess; simp -implicitDefEqProofs (disch := first | omega | (simp only [List.length_set, List.length_append, List.length_cons, List.length_nil, List.length_take, List.length_drop, List.length_map]; omega) | simp) [wrap_i64, wrap_u16_id, wrap_u8_id, tdiv_pos, tmod_pos, -getElem?_pos, -getElem?_neg, -List.length_eq_zero_iff, -List.getElem_cons_drop, hl0, e, n1, n3, n5, k10, w10]; exact ⟨rfl, rfl⟩⟩ (fun H' => by rw [hg]; simp [rqE]; first | rfl | exact ⟨rfl, rfl⟩)
  case inr.inr.inr.inr.inr.inr.inr.inr.inr.inr.inl =>
    by_cases h4 : b.length = 4
    · have a2 := h b[2] (List.getElem_mem (by omega))
      have a3 := h b[3] (List.getElem_mem (by omega))
      have hg : guessV b = ⟨43, b[3], b[2], 0, [], [], 0, 0⟩ := by simp only [guessV, g0]; simp [e, h4]
      refine fin _ ⟨_, by unfold s_triuneref06_guess; simp -implicitDefEqProofs (disch := first | omega | (simp only [List.length_set, List.length_append, List.length_cons, List.length_nil, List.length_take, List.length_drop, List.length_map]; omega) | simp) [wrap_i64, wrap_u16_id, wrap_u8_id, tdiv_pos, tmod_pos, -getElem?_pos, -getElem?_neg, -List.length_eq_zero_iff, -List.getElem_cons_drop, hl0, e, n1, h4]; exact ⟨rfl, rfl⟩⟩ (fun H' => by rw [hg]; simp [rqE]; first | rfl | exact ⟨rfl, rfl⟩)
    · have hg : guessV b = ⟨43, 0, 0, 0, [], [], 0, 0⟩ := by simp only [guessV, g0]; simp [e, h4]
      have hd : ¬ (b.length : Int) = 4 := by omega
      refine fin _ ⟨_, by unfold s_triuneref06_guess; simp -implicitDefEqProofs (disch := first | omega | (simp only [List.length_set, List.length_append, List.length_cons, List.length_nil, List.length_take, List.length_drop, List.length_map]; omega) | simp) [wrap_i64, wrap_u16_id, wrap_u8_id, tdiv_pos, tmod_pos, -getElem?_pos, -getElem?_neg, -List.length_eq_zero_iff, -List.getElem_cons_drop, hl0, e, n1, hd]; exact ⟨rfl, rfl⟩⟩ (fun H' => by rw [hg]; simp [rqE]; first | rfl | exact ⟨rfl, rfl⟩)
  all_goals
    have hg : guessV b = ⟨b[0], numV b 1, numV b 3, 0, [], [], 0, 0⟩ := by simp only [guessV, g0]; simp [e]
    refine fin _ ⟨_, by unfold s_triuneref06_guess; simp -implicitDefEqProofs (disch := first | omega | (simp only [List.length_set, List.length_append, List.length_cons, List.length_nil, List.length_take, List.length_drop, List.length_map]; omega) | simp) [wrap_i64, wrap_u16_id, wrap_u8_id, tdiv_pos, tmod_pos, -getElem?_pos, -getElem?_neg, -List.length_eq_zero_iff, -List.getElem_cons_drop, hl0, e, n1, n3]; exact ⟨rfl, rfl⟩⟩ (fun H' => by rw [hg, e]; simp [rqE]; first | rfl | exact ⟨rfl, rfl⟩)
end Go.Proofs.Ytjkofefcoeejbaa

/- Requests: the document's Parse, Bytes. -/
namespace Go.Proofs.Ytjkofefcoeejbaa
open Go
set_option linter.unusedSimpArgs false
set_option linter.unusedVariables false
set_option maxRecDepth 100000
theorem guessV_ok (b : List Int) (h : Bytes b) (hl : b.length ≤ 600) : RqOk (guessV b) := by
  have h3 := numV_le b h 3
  have h5 := numV_le b h 5
  simp only [guessV]
  split
  · exact ⟨by intro x hx; simp at hx, by simp, by simp, by simp, by simp⟩
  · split
    · exact ⟨by intro x hx; simp at hx; omega, by simp, by simp, by simp, by simp⟩
    · split
      · refine ⟨by intro x hx; simp at hx, by simp, by simp, by simp, ?_⟩
        have := gBits_len (numV b 3) (b.drop 6)
        simp only [List.length_drop] at this ⊢
        omega
      · split
        · refine ⟨wdI_words _, by simp, by simp, ?_, by simp⟩
          have := wdI_len (b.drop 6)
          simp only [List.length_drop] at this ⊢
          omega
        · split
          · exact ⟨by intro x hx; simp at hx, h3, h5, by simp, by simp⟩
          · split
            · refine ⟨wdI_words _, by simp, by simp, ?_, by simp⟩
              have := wdI_len (b.drop 10)
              simp only [List.length_drop] at this ⊢
              omega
            · split
              · split
                · exact ⟨by intro x hx; simp at hx, by simp, by simp, by simp, by simp⟩
                · exact ⟨by intro x hx; simp at hx, by simp, by simp, by simp, by simp⟩
              · exact ⟨by intro x hx; simp at hx, by simp, by simp, by simp, by simp⟩
theorem text_len (a : Rq) (ho : RqOk a) : (textV a).length ≤ 8000 := by
  have := tail_len a ho
  unfold textV
  split
  · simp
  · simp [twoV]
    omega
/-- what the document's Parse answers -/
def refParseV (b : List Int) : Rq × Int :=
  if b = [] ∨ headV b = false then (rqZ, 1)
  else if ¬ (FormedP (guessV b) ∧ textV (guessV b) = b) then (rqZ, 3)
  else if ¬ PlacedP (guessV b) then (rqZ, 2)
  else (guessV b, 0)
theorem ref06_Parse_c (n : Nat) (hn : 33000 ≤ n) (b : List Int) (h : Bytes b) (hl : b.length ≤ 600) (t : Tag) : cP n 17 false [LV 1 (I .u8) b t] = some (.tup [rqE (refParseV b).1 .sh .sh, I .i64 (refParseV b).2]) := by
  obtain ⟨n, rfl⟩ : ∃ m, n = m + 1 := ⟨n - 1, by omega⟩
  have fin : ∀ r p, (∃ H', s_triuneref06_Parse n [] 0 (LV 1 (I .u8) b .sh) = some (.tup [r, I .i64 p.2], H')) → (∃ t1 t2, r = rqE p.1 t1 t2) → refParseV b = p → cP (n + 1) 17 false [LV 1 (I .u8) b t] = some (.tup [rqE (refParseV b).1 .sh .sh, I .i64 (refParseV b).2]) := by
    rintro r a ⟨H', h1⟩ ⟨t1, t2, rfl⟩ rfl
    exact cP_of (args' := [LV 1 (I .u8) b .sh]) (by simp [argEl_eq]) ((s_triuneref06_Parse_eq _ _ _ _).trans h1) (by simp [rqE])
  by_cases hb : b = []
  · subst hb
    exact fin _ (rqZ, 1) ⟨_, by unfold s_triuneref06_Parse; simp -implicitDefEqProofs (disch := first | omega | (simp only [List.length_set, List.length_append, List.length_cons, List.length_nil, List.length_take, List.length_drop, List.length_map]; omega) | simp) [wrap_i64, wrap_u16_id, wrap_u8_id, tdiv_pos, tmod_pos, -getElem?_pos, -getElem?_neg, -List.length_eq_zero_iff, -List.getElem_cons_drop]; exact ⟨rfl, rfl⟩⟩ ⟨.ti, .ti, rfl⟩ (by simp [refParseV])
  · have hl0 : 0 < b.length := by cases b with | nil => exact absurd rfl hb | cons => simp
    have g0 : b.getD 0 0 = b[0] := by simp [hl0]
    have hw := h b[0] (List.getElem_mem hl0)
    have e0 := ref06_is_c n (by omega) b[0]
    by_cases hi : isV b[0] = true
    · rw [hi] at e0
      by_cases h43 : b[0] = 43 ∧ 1 < b.length ∧ ¬ b.getD 1 0 = 14
      · obtain ⟨x1, x2, x3⟩ := h43
        have g1 : b.getD 1 0 = b[1] := by simp [x2]
        rw [g1] at x3
        have hd : decide (b[0] = 43) = true := by simp [x1]
        have hv : headV b = false := by unfold headV; rw [g0, g1, hi]; simp [x1, x2, x3]
        exact fin _ (rqZ, 1) ⟨_, by unfold s_triuneref06_Parse; simp -implicitDefEqProofs (disch := first | omega | (simp only [List.length_set, List.length_append, List.length_cons, List.length_nil, List.length_take, List.length_drop, List.length_map]; omega) | simp) [wrap_i64, wrap_u16_id, wrap_u8_id, tdiv_pos, tmod_pos, -getElem?_pos, -getElem?_neg, -List.length_eq_zero_iff, -List.getElem_cons_drop, hl0, e0, hd, x2, x3]; exact ⟨rfl, rfl⟩⟩ ⟨.ti, .ti, rfl⟩ (by simp [refParseV, hv])
      · have hv : headV b = true := by
          unfold headV
          rw [g0, hi]
          simp only [Bool.true_and, Bool.not_eq_true', Bool.and_eq_false_iff, decide_eq_false_iff_not]
          by_cases y1 : b[0] = 43
          · by_cases y2 : 1 < b.length
            · exact .inr (fun y3 => h43 ⟨y1, y2, y3⟩)
            · exact .inl (.inr y2)
          · exact .inl (.inl y1)
        have e1 := guess_c n (by omega) b h hb hl (by rw [g0]; exact hi) .sh
        have ok := guessV_ok b h hl
        have hp : refParseV b = if ¬ (FormedP (guessV b) ∧ textV (guessV b) = b) then (rqZ, 3) else if ¬ PlacedP (guessV b) then (rqZ, 2) else (guessV b, 0) := by
          unfold refParseV
          rw [if_neg (by simp [hb, hv])]
        revert hp ok e1
        generalize guessV b = a
        intro e1 ok hp
        have e2 := ref06_formed_c n (by omega) a .sh .sh
        have main : ∀ r p, (∀ (hd : decide (b[0] = 43) = true) (h1 : 1 < b.length) (h14 : b[1] = 14), ∃ H', s_triuneref06_Parse n [] 0 (LV 1 (I .u8) b .sh) = some (.tup [r, I .i64 p.2], H')) → (∀ (hd : decide (b[0] = 43) = true) (h1 : ¬ 1 < b.length), ∃ H', s_triuneref06_Parse n [] 0 (LV 1 (I .u8) b .sh) = some (.tup [r, I .i64 p.2], H')) → (∀ (hd : ¬ b[0] = 43), ∃ H', s_triuneref06_Parse n [] 0 (LV 1 (I .u8) b .sh) = some (.tup [r, I .i64 p.2], H')) → (∃ t1 t2, r = rqE p.1 t1 t2) → refParseV b = p → cP (n + 1) 17 false [LV 1 (I .u8) b t] = some (.tup [rqE (refParseV b).1 .sh .sh, I .i64 (refParseV b).2]) := by
          intro r p m1 m2 m3 hr hq
          refine fin r p ?_ hr hq
          by_cases y1 : b[0] = 43
          · by_cases y2 : 1 < b.length
            · have g1 : b.getD 1 0 = b[1] := by simp [y2]
              have y3 : b[1] = 14 := by
                rcases Decidable.em (b[1] = 14) with y | y
                · exact y
                · exact absurd ⟨y1, y2, by rw [g1]; exact y⟩ h43
              exact m1 (by simp [y1]) y2 y3
            · exact m2 (by simp [y1]) y2
          · exact m3 y1
        by_cases hf : FormedP a
        · have e3 := ref06_text_c n (by omega) a hf ok .sh .sh
          have e4 := ref01_Same_c n (textV a) b .sh .sh (by have := text_len a ok; omega) (by have := text_len a ok; omega)
          have e5 := ref06_placed_c n (by omega) a .sh .sh hf
          rw [decide_eq_true hf] at e2
          by_cases ht : textV a = b
          · rw [decide_eq_true ht] at e4
            by_cases hq : PlacedP a
            · rw [decide_eq_true hq] at e5
              unfold rqE at e1 e2 e3 e5
              refine main _ (a, 0) (fun hd h1 h14 => ⟨_, by unfold s_triuneref06_Parse; simp -implicitDefEqProofs (disch := first | omega | (simp only [List.length_set, List.length_append, List.length_cons, List.length_nil, List.length_take, List.length_drop, List.length_map]; omega) | simp) [wrap_i64, wrap_u16_id, wrap_u8_id, tdiv_pos, tmod_pos, -getElem?_pos, -getElem?_neg, -List.length_eq_zero_iff, -List.getElem_cons_drop, hl0, e0, hd, h1, h14, e1, e2, e3, e4, e5]; exact ⟨rfl, rfl⟩⟩) (fun hd h1 => ⟨_, by unfold s_triuneref06_Parse; simp -implicitDefEqProofs (disch := first | omega | (simp only [List.length_set, List.length_append, List.length_cons, List.length_nil, List.length_take, List.length_drop, List.length_map]; omega) | simp) [wrap_i64, wrap_u16_id, wrap_u8_id, tdiv_pos, tmod_pos, -getElem?_pos, -getElem?_neg, -List.length_eq_zero_iff, -List.getElem_cons_drop, hl0, e0, hd, h1, e1, e2, e3, e4, e5]; exact ⟨rfl, rfl⟩⟩) (fun hd => ⟨_, by unfold s_triuneref06_Parse; simp -implicitDefEqProofs (disch := first | omega | (simp only [List.length_set, List.length_append, List.length_cons, List.length_nil, List.length_take, List.length_drop, List.length_map]; omega) | simp) [wrap_i64, wrap_u16_id, wrap_u8_id, tdiv_pos, tmod_pos, -getElem?_pos, -getElem?_neg, -List.length_eq_zero_iff, -List.getElem_cons_drop, hl0, e0, hd, e1, e2, e3, e4, e5]; exact ⟨rfl, rfl⟩⟩) ⟨.sh, .sh, rfl⟩ ?_
              rw [hp, if_neg (by simp [hf, ht]), if_neg (by simp [hq])]
            · rw [decide_eq_false hq] at e5
              unfold rqE at e1 e2 e3 e5
              refine main _ (rqZ, 2) (fun hd h1 h14 => ⟨_, by unfold s_triuneref06_Parse; simp -implicitDefEqProofs (disch := first | omega | (simp only [List.length_set, List.length_append, List.length_cons, List.length_nil, List.length_take, List.length_drop, List.length_map]; omega) | simp) [wrap_i64, wrap_u16_id, wrap_u8_id, tdiv_pos, tmod_pos, -getElem?_pos, -getElem?_neg, -List.length_eq_zero_iff, -List.getElem_cons_drop, hl0, e0, hd, h1, h14, e1, e2, e3, e4, e5]; exact ⟨rfl, rfl⟩⟩) (fun hd h1 => ⟨_, by unfold s_triuneref06_Parse; simp -implicitDefEqProofs (disch := first | omega | (simp only [List.length_set, List.length_append, List.length_cons, List.length_nil, List.length_take, List.length_drop, List.length_map]; omega) | simp) [wrap_i64, wrap_u16_id, wrap_u8_id, tdiv_pos, tmod_pos, -getElem?_pos, -getElem?_neg, -List.length_eq_zero_iff, -List.getElem_cons_drop, hl0, e0, hd, h1, e1, e2, e3, e4, e5]; exact ⟨rfl, rfl⟩⟩) (fun hd => ⟨_, by unfold s_triuneref06_Parse; simp -implicitDefEqProofs (disch := first | omega | (simp only [List.length_set, List.length_append, List.length_cons, List.length_nil, List.length_take, List.length_drop, List.length_map]; omega) | simp) [wrap_i64, wrap_u16_id, wrap_u8_id, tdiv_pos, tmod_pos, -getElem?_pos, -getElem?_neg, -List.length_eq_zero_iff, -List.getElem_cons_drop, hl0, e0, hd, e1, e2, e3, e4, e5]; exact ⟨rfl, rfl⟩⟩) ⟨.ti, .ti, rfl⟩ ?_
              rw [hp, if_neg (by simp [hf, ht]), if_pos hq]
          · rw [decide_eq_false ht] at e4
            unfold rqE at e1 e2 e3
            refine main _ (rqZ, 3) (fun hd h1 h14 => ⟨_, by unfold s_triuneref06_Parse; simp -implicitDefEqProofs (disch := first | omega | (simp only [List.length_set, List.length_append, List.length_cons, List.length_nil, List.length_take, List.length_drop, List.length_map]; omega) | simp) [wrap_i64, wrap_u16_id, wrap_u8_id, tdiv_pos, tmod_pos, -getElem?_pos, -getElem?_neg, -List.length_eq_zero_iff, -List.getElem_cons_drop, hl0, e0, hd, h1, h14, e1, e2, e3, e4]; exact ⟨rfl, rfl⟩⟩) (fun hd h1 => ⟨_, by unfold s_triuneref06_Parse; simp -implicitDefEqProofs (disch := first | omega | (simp only [List.length_set, List.length_append, List.length_cons, List.length_nil, List.length_take, List.length_drop, List.length_map]; omega) | simp) [wrap_i64, wrap_u16_id, wrap_u8_id, tdiv_pos, tmod_pos, -getElem?_pos, -getElem?_neg, -List.length_eq_zero_iff, -List.getElem_cons_drop, hl0, e0, hd, h1, e1, e2, e3, e4]; exact ⟨rfl, rfl⟩⟩) (fun hd => ⟨_, by unfold s_triuneref06_Parse; simp -implicitDefEqProofs (disch := first | omega | (simp only [List.length_set, List.length_append, List.length_cons, List.length_nil, List.length_take, List.length_drop, List.length_map]; omega) | simp) [wrap_i64, wrap_u16_id, wrap_u8_id, tdiv_pos, tmod_pos, -getElem?_pos, -getElem?_neg, -List.length_eq_zero_iff, -List.getElem_cons_drop, hl0, e0, hd, e1, e2, e3, e4]; exact ⟨rfl, rfl⟩⟩) ⟨.ti, .ti, rfl⟩ ?_
            rw [hp, if_pos (by simp [ht])]
        · rw [decide_eq_false hf] at e2
          unfold rqE at e1 e2
          refine main _ (rqZ, 3) (fun hd h1 h14 => ⟨_, by unfold s_triuneref06_Parse; simp -implicitDefEqProofs (disch := first | omega | (simp only [List.length_set, List.length_append, List.length_cons, List.length_nil, List.length_take, List.length_drop, List.length_map]; omega) | simp) [wrap_i64, wrap_u16_id, wrap_u8_id, tdiv_pos, tmod_pos, -getElem?_pos, -getElem?_neg, -List.length_eq_zero_iff, -List.getElem_cons_drop, hl0, e0, hd, h1, h14, e1, e2]; exact ⟨rfl, rfl⟩⟩) (fun hd h1 => ⟨_, by unfold s_triuneref06_Parse; simp -implicitDefEqProofs (disch := first | omega | (simp only [List.length_set, List.length_append, List.length_cons, List.length_nil, List.length_take, List.length_drop, List.length_map]; omega) | simp) [wrap_i64, wrap_u16_id, wrap_u8_id, tdiv_pos, tmod_pos, -getElem?_pos, -getElem?_neg, -List.length_eq_zero_iff, -List.getElem_cons_drop, hl0, e0, hd, h1, e1, e2]; exact ⟨rfl, rfl⟩⟩) (fun hd => ⟨_, by unfold s_triuneref06_Parse; simp -implicitDefEqProofs (disch := first | omega | (simp only [List.length_set, List.length_append, List.length_cons, List.length_nil, List.length_take, List.length_drop, List.length_map]; omega) | simp) [wrap_i64, wrap_u16_id, wrap_u8_id, tdiv_pos, tmod_pos, -getElem?_pos, -getElem?_neg, -List.length_eq_zero_iff, -List.getElem_cons_drop, hl0, e0, hd, e1, e2]; exact ⟨rfl, rfl⟩⟩) ⟨.ti, .ti, rfl⟩ ?_
          rw [hp, if_pos (by simp [hf])]
    · have hi' : isV b[0] = false := by simpa using hi
      rw [hi'] at e0
      have hv : headV b = false := by unfold headV; rw [g0, hi']; rfl
      exact fin _ (rqZ, 1) ⟨_, by unfold s_triuneref06_Parse; simp -implicitDefEqProofs (disch := first | omega | (simp only [List.length_set, List.length_append, List.length_cons, List.length_nil, List.length_take, List.length_drop, List.length_map]; omega) | simp) [wrap_i64, wrap_u16_id, wrap_u8_id, tdiv_pos, tmod_pos, -getElem?_pos, -getElem?_neg, -List.length_eq_zero_iff, -List.getElem_cons_drop, hl0, e0]; exact ⟨rfl, rfl⟩⟩ ⟨.ti, .ti, rfl⟩ (by simp [refParseV, hv])
theorem ref06_Bytes_c (n : Nat) (hn : 60 ≤ n) (a : Rq) (ho : RqOk a) (t1 t2 : Tag) : cP n 15 false [rqE a t1 t2] = some (if RightP a then .tup [LV 1 (I .u8) (textV a) .sh, I .i64 0] else .tup [LV 1 (I .u8) [] .sh, I .i64 2]) := by
  obtain ⟨n, rfl⟩ : ∃ m, n = m + 1 := ⟨n - 1, by omega⟩
  have e1 := ref06_Right_c n (by omega) a .sh .sh
  by_cases h : RightP a
  · rw [if_pos h]
    rw [decide_eq_true h] at e1
    have e2 := ref06_text_c n (by omega) a h.1 ho .sh .sh
    unfold rqE at e1 e2
    exact cP_of (r := .tup [LV 1 (I .u8) (textV a) .sh, I .i64 0]) (args' := [rqE a .sh .sh]) (by simp [arg_rq]) ((s_triuneref06_Bytes_eq _ _ _ _).trans (by unfold s_triuneref06_Bytes rqE; simp -implicitDefEqProofs (disch := first | omega | (simp only [List.length_set, List.length_append, List.length_cons, List.length_nil, List.length_take, List.length_drop, List.length_map]; omega) | simp) [wrap_i64, wrap_u16_id, wrap_u8_id, tdiv_pos, tmod_pos, -getElem?_pos, -getElem?_neg, -List.length_eq_zero_iff, -List.getElem_cons_drop, e1, e2]; first | exact rfl | exact ⟨rfl, rfl⟩)) (by simp)
  · rw [if_neg h]
    rw [decide_eq_false h] at e1
    unfold rqE at e1
    exact cP_of (r := .tup [LV 1 (I .u8) [] .ti, I .i64 2]) (args' := [rqE a .sh .sh]) (by simp [arg_rq]) ((s_triuneref06_Bytes_eq _ _ _ _).trans (by unfold s_triuneref06_Bytes rqE; simp -implicitDefEqProofs (disch := first | omega | (simp only [List.length_set, List.length_append, List.length_cons, List.length_nil, List.length_take, List.length_drop, List.length_map]; omega) | simp) [wrap_i64, wrap_u16_id, wrap_u8_id, tdiv_pos, tmod_pos, -getElem?_pos, -getElem?_neg, -List.length_eq_zero_iff, -List.getElem_cons_drop, e1, LV_nil 1 (I .u8)]; first | exact rfl | exact ⟨rfl, rfl⟩)) (by simp)
end Go.Proofs.Ytjkofefcoeejbaa
