/- Sums: the document's answer is the program's. -/
import Derived.Test.YtbmjflieedadkaaFRef01
import Derived.Test.YtbmjflieedadkaaGCrc
-- NEEDS: triuneref01.step; triuneref01.More; triuneref01.Sum; triuneref01.Put; triuneref01.Cut
namespace Go.Proofs.Ytbmjflieedadkaa
open Go
set_option linter.unusedSimpArgs false
set_option linter.unusedVariables false
set_option maxRecDepth 100000
def dif (a c b : Int) : Int := if a / b % 2 ≠ c / b % 2 then b else 0
theorem step_r (n fl : Nat) (rec : DV → DV → DV → DV → DV → Heap → R) (K : Ex → KF) (c a x b b2 : Int) (x5 : DV) (H : Heap) (e2 : b2 = 2 * b) (hc : 0 ≤ c ∧ c < 256) (ha : 0 ≤ a ∧ a < 256) (hx : 0 ≤ x ∧ x < 256) (hb : 1 ≤ b ∧ b ≤ 128) :
    s_triuneref01_step_B0 n fl rec K (I .u8 c) x5 (I .i64 a) (I .i64 x) (I .i64 b) H = rec (I .u8 c) x5 (I .i64 a) (I .i64 (x + dif a c b)) (I .i64 b2) H := by
  subst e2
  obtain ⟨b0, b1⟩ := hb
  have a1 := Int.ediv_nonneg ha.1 (by omega : 0 ≤ b)
  have a2 := Int.ediv_le_self b ha.1
  have c1 := Int.ediv_nonneg hc.1 (by omega : 0 ≤ b)
  have c2 := Int.ediv_le_self b hc.1
  unfold dif
  unfold s_triuneref01_step_B0
  by_cases h : a / b % 2 = c / b % 2
  · rw [if_neg (by simpa using h)]
    simp -implicitDefEqProofs (disch := first | omega | (simp only [List.length_set, List.length_append, List.length_cons, List.length_nil, List.length_take, List.length_drop, List.length_map]; omega) | simp) [wrap_i64, wrap_u16_id, wrap_u8_id, tdiv_pos, tmod_pos, -getElem?_pos, -getElem?_neg, -List.length_eq_zero_iff, -List.getElem_cons_drop, h]
  · rw [if_pos h]
    simp -implicitDefEqProofs (disch := first | omega | (simp only [List.length_set, List.length_append, List.length_cons, List.length_nil, List.length_take, List.length_drop, List.length_map]; omega) | simp) [wrap_i64, wrap_u16_id, wrap_u8_id, tdiv_pos, tmod_pos, -getElem?_pos, -getElem?_neg, -List.length_eq_zero_iff, -List.getElem_cons_drop, h]
theorem dif_r (a c b : Int) (hb : 0 ≤ b) : 0 ≤ dif a c b ∧ dif a c b ≤ b := by unfold dif; split <;> omega
theorem step_L0 (n fl : Nat) (K : Ex → KF) (c a : Int) (x5 : DV) (H : Heap) (m : Nat) (hc : 0 ≤ c ∧ c < 256) (ha : 0 ≤ a ∧ a < 256) :
    s_triuneref01_step_L0 n fl K (m + 9) (I .u8 c) x5 (I .i64 a) (I .i64 0) (I .i64 1) H = K (.exit 0) (s_triuneref01_step_O0 x5 (I .i64 a) (I .i64 (xsum a c 8))) H := by
  have e : xsum a c 8 = 0 + dif a c 1 + dif a c 2 + dif a c 4 + dif a c 8 + dif a c 16 + dif a c 32 + dif a c 64 + dif a c 128 := rfl
  have d1 := dif_r a c 1 (by omega)
  have d2 := dif_r a c 2 (by omega)
  have d3 := dif_r a c 4 (by omega)
  have d4 := dif_r a c 8 (by omega)
  have d5 := dif_r a c 16 (by omega)
  have d6 := dif_r a c 32 (by omega)
  have d7 := dif_r a c 64 (by omega)
  have d8 := dif_r a c 128 (by omega)
  rw [e]
  rw [s_triuneref01_step_L0, step_r _ _ _ _ c a _ 1 2 _ _ rfl hc ha (by omega) (by omega)]
  rw [s_triuneref01_step_L0, step_r _ _ _ _ c a _ 2 4 _ _ rfl hc ha (by omega) (by omega)]
  rw [s_triuneref01_step_L0, step_r _ _ _ _ c a _ 4 8 _ _ rfl hc ha (by omega) (by omega)]
  rw [s_triuneref01_step_L0, step_r _ _ _ _ c a _ 8 16 _ _ rfl hc ha (by omega) (by omega)]
  rw [s_triuneref01_step_L0, step_r _ _ _ _ c a _ 16 32 _ _ rfl hc ha (by omega) (by omega)]
  rw [s_triuneref01_step_L0, step_r _ _ _ _ c a _ 32 64 _ _ rfl hc ha (by omega) (by omega)]
  rw [s_triuneref01_step_L0, step_r _ _ _ _ c a _ 64 128 _ _ rfl hc ha (by omega) (by omega)]
  rw [s_triuneref01_step_L0, step_r _ _ _ _ c a _ 128 256 _ _ rfl hc ha (by omega) (by omega)]
  rw [s_triuneref01_step_L0]
  unfold s_triuneref01_step_B0
  simp -implicitDefEqProofs (disch := first | omega | (simp only [List.length_set, List.length_append, List.length_cons, List.length_nil, List.length_take, List.length_drop, List.length_map]; omega) | simp) [wrap_i64, wrap_u16_id, wrap_u8_id, tdiv_pos, tmod_pos, -getElem?_pos, -getElem?_neg, -List.length_eq_zero_iff, -List.getElem_cons_drop]
theorem step_L1 (n fl : Nat) (K : Ex → KF) (x0 : Nat) (hx : x0 < 65536) : ∀ (m j : Nat) (H : Heap), 8 < m + j → j ≤ 8 →
    s_triuneref01_step_L1 n fl K m (I .u16 (nBits j x0)) (I .i64 j) H = K (.exit 2) (s_triuneref01_step_O1 (I .u16 (nBits 8 x0))) H := by
  intro m
  induction m with
  | zero => intro j H h; omega
  | succ m ih =>
    intro j H hm hj
    unfold s_triuneref01_step_L1 s_triuneref01_step_B1
    by_cases h : j < 8
    · have ih' := ih (j + 1) H (by omega) (by omega)
      have hj2 : ((j + 1 : Nat) : Int) = (j : Int) + 1 := by omega
      rw [hj2] at ih'
      have hb := nBits_lt j x0 hx
      have e1 : nBits (j + 1) x0 = nBit (nBits j x0) := rfl
      rw [e1] at ih'
      generalize nBits j x0 = y at *
      rcases (by omega : y % 2 = 0 ∨ y % 2 = 1) with h0 | h0
      · have e2 : (nBit y : Int) = (y : Int) / 2 := by unfold nBit; rw [if_neg (by omega)]; simp
        rw [e2] at ih'
        simp -implicitDefEqProofs (disch := first | omega | (simp only [List.length_set, List.length_append, List.length_cons, List.length_nil, List.length_take, List.length_drop, List.length_map]; omega) | simp) [wrap_i64, wrap_u16_id, wrap_u8_id, tdiv_pos, tmod_pos, -getElem?_pos, -getElem?_neg, -List.length_eq_zero_iff, -List.getElem_cons_drop, h, ih']
      · have x1 : xorI .u16 ((y : Int) / 2) 40961 = (nBit y : Int) := by
          have hy2 : ((y : Int) / 2) = ((y / 2 : Nat) : Int) := by omega
          rw [hy2]
          have := xorI_nat .u16 (y / 2) 40961 rfl (by show y / 2 < 65536; omega) (by decide)
          unfold nBit
          rw [if_pos h0]
          exact this
        simp -implicitDefEqProofs (disch := first | omega | (simp only [List.length_set, List.length_append, List.length_cons, List.length_nil, List.length_take, List.length_drop, List.length_map]; omega) | simp) [wrap_i64, wrap_u16_id, wrap_u8_id, tdiv_pos, tmod_pos, -getElem?_pos, -getElem?_neg, -List.length_eq_zero_iff, -List.getElem_cons_drop, h, x1, ih']
    · have : j = 8 := by omega
      subst this
      simp -implicitDefEqProofs (disch := first | omega | (simp only [List.length_set, List.length_append, List.length_cons, List.length_nil, List.length_take, List.length_drop, List.length_map]; omega) | simp) [wrap_i64, wrap_u16_id, wrap_u8_id, tdiv_pos, tmod_pos, -getElem?_pos, -getElem?_neg, -List.length_eq_zero_iff, -List.getElem_cons_drop]
theorem step_c (n : Nat) (s : Nat) (hs : s < 65536) (c : Int) (hc : 0 ≤ c ∧ c < 256) (hn : 12 ≤ n) : cP n 74 false [I .u16 s, I .u8 c] = some (I .u16 (nBits 8 (s ^^^ (lowB c).toNat) : Nat)) := by
  obtain ⟨n, rfl⟩ : ∃ m, n = m + 1 := ⟨n - 1, by omega⟩
  obtain ⟨m, hm⟩ : ∃ m, n = m + 9 := ⟨n - 9, by omega⟩
  have hc2 := (lowB c).toNat_lt
  have e := lowB_of c hc
  have ha : 0 ≤ (s : Int) % 256 ∧ (s : Int) % 256 < 256 := by omega
  have hx := xsum_le ((s : Int) % 256) c 8
  have h28 : (2 : Int) ^ 8 = 256 := rfl
  rw [h28] at hx
  have q0 : ∀ K, loopG [1, 5, 6, 7, 8] [5, 6, 7] 51 (s_triuneref01_step_b0 n 0) n (s_triuneref01_step_I0 (I .u8 c) (I .i64 s) (I .i64 ((s : Int) % 256)) (I .i64 0) (I .i64 1)) [] K = K (.exit 0) (s_triuneref01_step_O0 (I .i64 s) (I .i64 ((s : Int) % 256)) (I .i64 (xsum ((s : Int) % 256) c 8))) [] := by
    intro K
    rw [s_triuneref01_step_L0_eq]
    have : s_triuneref01_step_L0 n 0 K n = s_triuneref01_step_L0 n 0 K (m + 9) := by rw [← hm]
    rw [this]
    exact step_L0 n 0 K c _ _ [] m hc ha
  have hxx : s ^^^ (lowB c).toNat < 65536 := Nat.xor_lt_two_pow (n := 16) hs (by omega)
  have e2 : (s : Int) - (s : Int) % 256 + xsum ((s : Int) % 256) c 8 = ((s ^^^ (lowB c).toNat : Nat) : Int) := by
    have e3 : ((s : Int) % 256) = ((s % 256 : Nat) : Int) := by omega
    have h4 : ((s % 256) ^^^ (lowB c).toNat) % 2 ^ 8 < 2 ^ 8 := Nat.mod_lt _ (by omega)
    have hle : s % 256 ≤ s := Nat.mod_le _ _
    conv => lhs; rw [e]
    rw [e3, xsum_nat, xor_split s _ (by omega), Int.natCast_add, Int.natCast_sub hle]
  have q1 : ∀ K, loopG [0, 9] [0] 51 (s_triuneref01_step_b1 n 0) n (s_triuneref01_step_I1 (I .u16 ((s ^^^ (lowB c).toNat : Nat) : Int)) (I .i64 0)) [] K = _ := fun K => (s_triuneref01_step_L1_eq _ _ _ _ _ _ _).trans (step_L1 n 0 K (s ^^^ (lowB c).toNat) hxx n 0 [] (by omega) (by omega))
  generalize s ^^^ (lowB c).toNat = z at *
  generalize xsum ((s : Int) % 256) c 8 = xs at *
  exact cP_of (args' := [I .u16 s, I .u8 c]) (by simp [argEl_eq]) ((s_triuneref01_step_eq _ _ _ _ _).trans (by unfold s_triuneref01_step; simp -implicitDefEqProofs (disch := first | omega | (simp only [List.length_set, List.length_append, List.length_cons, List.length_nil, List.length_take, List.length_drop, List.length_map]; omega) | simp) [wrap_i64, wrap_u16_id, wrap_u8_id, tdiv_pos, tmod_pos, -getElem?_pos, -getElem?_neg, -List.length_eq_zero_iff, -List.getElem_cons_drop, q0, s_triuneref01_step_O0, e2, q1, s_triuneref01_step_O1]; first | exact rfl | exact ⟨rfl, rfl⟩)) (by simp)
theorem ref01_More_L0 (n fl : Nat) (K : Ex → KF) (s : Nat) (hs : s < 65536) (l : List Int) (t : Tag) (hb : Bytes l) (hl : l.length ≤ 100000) (hn : 13 ≤ n) : ∀ (m i : Nat) (H : Heap), l.length < m + i → i ≤ l.length →
    s_triuneref01_More_L0 n fl K m (I .u16 (nMore s ((nB l).take i))) (LV 1 (I .u8) l t) (I .i64 i) H = K (.exit 0) (s_triuneref01_More_O0 (I .u16 (nMore s (nB l)))) H := by
  intro m
  induction m with
  | zero => intro i H h; omega
  | succ m ih =>
    intro i H hm hi
    unfold s_triuneref01_More_L0 s_triuneref01_More_B0
    by_cases h : i < l.length
    · have ih' := ih (i + 1) H (by omega) (by omega)
      have hi2 : ((i + 1 : Nat) : Int) = (i : Int) + 1 := by omega
      rw [hi2, nMore_snoc s (nB l) i (by rw [nB_length]; exact h), nB_get l i h] at ih'
      have hy := nMore_lt ((nB l).take i) s hs
      generalize nMore s ((nB l).take i) = y at *
      have q := step_c n y hy l[i] (hb _ (List.getElem_mem h)) (by omega)
      simp -implicitDefEqProofs (disch := first | omega | (simp only [List.length_set, List.length_append, List.length_cons, List.length_nil, List.length_take, List.length_drop, List.length_map]; omega) | simp) [wrap_i64, wrap_u16_id, wrap_u8_id, tdiv_pos, tmod_pos, -getElem?_pos, -getElem?_neg, -List.length_eq_zero_iff, -List.getElem_cons_drop, h, q, ih']
    · have : i = l.length := by omega
      subst this
      have e : (nB l).take l.length = nB l := List.take_of_length_le (by rw [nB_length]; omega)
      rw [e]
      simp -implicitDefEqProofs (disch := first | omega | (simp only [List.length_set, List.length_append, List.length_cons, List.length_nil, List.length_take, List.length_drop, List.length_map]; omega) | simp) [wrap_i64, wrap_u16_id, wrap_u8_id, tdiv_pos, tmod_pos, -getElem?_pos, -getElem?_neg, -List.length_eq_zero_iff, -List.getElem_cons_drop]
theorem ref01_More_c (n : Nat) (s : Nat) (hs : s < 65536) (l : List Int) (t : Tag) (hb : Bytes l) (hl : l.length ≤ 100000) (hn : l.length + 15 ≤ n) : cP n 60 false [I .u16 s, LV 1 (I .u8) l t] = some (I .u16 (nMore s (nB l))) := by
  obtain ⟨n, rfl⟩ : ∃ m, n = m + 1 := ⟨n - 1, by omega⟩
  have q : ∀ K, loopG [0, 1, 5] [0] 19 (s_triuneref01_More_b0 n 0) n (s_triuneref01_More_I0 (I .u16 s) (LV 1 (I .u8) l .sh) (I .i64 0)) [] K = _ := fun K => (s_triuneref01_More_L0_eq _ _ _ _ _ _ _ _).trans (ref01_More_L0 n 0 K s hs l .sh hb hl (by omega) n 0 [] (by omega) (by omega))
  exact cP_of (args' := [I .u16 s, LV 1 (I .u8) l .sh]) (by simp [argEl_eq]) ((s_triuneref01_More_eq _ _ _ _ _).trans (by unfold s_triuneref01_More; simp -implicitDefEqProofs (disch := first | omega | (simp only [List.length_set, List.length_append, List.length_cons, List.length_nil, List.length_take, List.length_drop, List.length_map]; omega) | simp) [wrap_i64, wrap_u16_id, wrap_u8_id, tdiv_pos, tmod_pos, -getElem?_pos, -getElem?_neg, -List.length_eq_zero_iff, -List.getElem_cons_drop, q, s_triuneref01_More_O0]; first | exact rfl | exact ⟨rfl, rfl⟩)) (by simp)
theorem ref01_Sum_c (n : Nat) (l : List Int) (t : Tag) (hb : Bytes l) (hl : l.length ≤ 100000) (hn : l.length + 17 ≤ n) : cP n 51 false [LV 1 (I .u8) l t] = some (I .u16 (sumN l)) := by
  obtain ⟨n, rfl⟩ : ∃ m, n = m + 1 := ⟨n - 1, by omega⟩
  have q : cP n 60 false [I .u16 65535, LV 1 (I .u8) l .sh] = some (I .u16 (nMore 65535 (nB l))) := ref01_More_c n 65535 (by omega) l .sh hb hl (by omega)
  unfold sumN
  exact cP_of (args' := [LV 1 (I .u8) l .sh]) (by simp [argEl_eq]) ((s_triuneref01_Sum_eq _ _ _ _).trans (by unfold s_triuneref01_Sum; simp -implicitDefEqProofs (disch := first | omega | (simp only [List.length_set, List.length_append, List.length_cons, List.length_nil, List.length_take, List.length_drop, List.length_map]; omega) | simp) [wrap_i64, wrap_u16_id, wrap_u8_id, tdiv_pos, tmod_pos, -getElem?_pos, -getElem?_neg, -List.length_eq_zero_iff, -List.getElem_cons_drop, q]; first | exact rfl | exact ⟨rfl, rfl⟩)) (by simp)
theorem buildL_u0 : buildL false 1 0 (I .u8 0) [] = some (LV 1 (I .u8) [] .ti) := rfl
theorem ref01_Put_c (n : Nat) (l : List Int) (t : Tag) (hb : Bytes l) (hl : l.length ≤ 100000) (hn : l.length + 20 ≤ n) : cP n 39 false [LV 1 (I .u8) l t] = some (LV 1 (I .u8) (putI l) .sh) := by
  obtain ⟨n, rfl⟩ : ∃ m, n = m + 1 := ⟨n - 1, by omega⟩
  have q := ref01_Sum_c n l .sh hb hl (by omega)
  have hs := sumN_lt l
  unfold putI
  generalize sumN l = s at *
  have e1 : IntKind.wrap .u8 ((s : Int) % 256) = ((s : Int) % 256) := wrap_u8_id _ (by omega) (by omega)
  have e2 : IntKind.wrap .u8 ((s : Int) / 256) = ((s : Int) / 256) := wrap_u8_id _ (by omega) (by omega)
  have e3 := buildL_u2 ((s : Int) % 256) ((s : Int) / 256)
  have e4 := buildL_u0
  obtain ⟨t1, H1, ha, ht1, hl1, _⟩ := appG_all (e := 5) (ag := false) (sz := 1) (by_ := 1) (n0 := 0) (enc := I .u8) (xs := []) (ys := l) (t := .ti) (t' := .sh) (H := []) (fl := 0) (by omega) (by omega) (.inl rfl) rfl (by simp; omega) (by simp; omega)
  rw [List.nil_append] at ha ht1
  obtain ⟨t2, H2, ha2, _⟩ := appG_all (e := 5) (ag := false) (sz := 1) (by_ := 1) (n0 := 0) (enc := I .u8) (xs := l) (ys := [((s : Int) % 256), ((s : Int) / 256)]) (t := t1) (t' := .ti) (H := H1) (fl := 0) (by omega) (by omega) ht1 rfl (by simp; omega) (by simp; omega)
  exact cP_of (r := LV 1 (I .u8) (l ++ [((s : Int) % 256), ((s : Int) / 256)]) t2) (args' := [LV 1 (I .u8) l .sh]) (by simp [argEl_eq]) ((s_triuneref01_Put_eq _ _ _ _).trans (by unfold s_triuneref01_Put; simp -implicitDefEqProofs (disch := first | omega | (simp only [List.length_set, List.length_append, List.length_cons, List.length_nil, List.length_take, List.length_drop, List.length_map]; omega) | simp) [wrap_i64, wrap_u16_id, wrap_u8_id, tdiv_pos, tmod_pos, -getElem?_pos, -getElem?_neg, -List.length_eq_zero_iff, -List.getElem_cons_drop, q, e1, e2, e3, e4, ha, ha2]; first | exact rfl | exact ⟨rfl, rfl⟩)) (by simp)
theorem nB_inj {l1 l2 : List Int} (h1 : Bytes l1) (h2 : Bytes l2) (h : nB l1 = nB l2) : l1 = l2 := by
  have hl : l1.length = l2.length := by have := congrArg List.length h; simpa [nB_length] using this
  refine List.ext_getElem hl fun i a b => ?_
  have e1 := nB_get l1 i a
  have e2 := nB_get l2 i b
  have e3 : lowB l1[i] = lowB l2[i] := by rw [← e1, ← e2]; simp only [h]
  rw [lowB_of _ (h1 _ (List.getElem_mem a)), lowB_of _ (h2 _ (List.getElem_mem b)), e3]
theorem sumN_crc (l : List Int) : crcMore 65535 (nB l) = (sumN l : Int) := crcMore_nat (nB l) 65535 (by omega)
theorem nB_put (l : List Int) : nB (putI l) = crcPut (nB l) := by
  have h := sumN_lt l
  unfold putI crcPut
  rw [sumN_crc]
  have : (sumN l : Int) / 256 % 256 = (sumN l : Int) / 256 := by omega
  rw [this]
  simp [nB]
theorem putI_zero (l : List Int) : sumN (putI l) = 0 := by
  have := crcPut_zero (nB l)
  rw [← nB_put, sumN_crc] at this
  exact_mod_cast this
theorem putI_take (l : List Int) (hb : Bytes l) (h2 : 2 ≤ l.length) : putI (l.take (l.length - 2)) = l ↔ sumN l = 0 := by
  have h := crcPut_take (nB l) (by rw [nB_length]; exact h2)
  rw [nB_length, ← nB_take, ← nB_put, sumN_crc] at h
  constructor
  · intro e
    have := h.1 (by rw [e])
    exact_mod_cast this
  · intro e
    exact nB_inj (putI_bytes fun x hx => hb x (List.mem_of_mem_take hx)) hb (h.2 (by rw [e]; rfl))
theorem ref01_Cut_no (n : Nat) (l : List Int) (t : Tag) (hb : Bytes l) (hl : l.length ≤ 100000) (hn : l.length + 25 ≤ n) (hc : l.length < 2 ∨ sumN l ≠ 0) : cP n 41 false [LV 1 (I .u8) l t] = some (.tup [.list 0 [] .sh, Bo false]) := by
  obtain ⟨n, rfl⟩ : ∃ m, n = m + 1 := ⟨n - 1, by omega⟩
  by_cases c1 : l.length < 2
  · exact cP_of (args' := [LV 1 (I .u8) l .sh]) (by simp [argEl_eq]) ((s_triuneref01_Cut_eq _ _ _ _).trans (by unfold s_triuneref01_Cut; simp -implicitDefEqProofs (disch := first | omega | (simp only [List.length_set, List.length_append, List.length_cons, List.length_nil, List.length_take, List.length_drop, List.length_map]; omega) | simp) [wrap_i64, wrap_u16_id, wrap_u8_id, tdiv_pos, tmod_pos, -getElem?_pos, -getElem?_neg, -List.length_eq_zero_iff, -List.getElem_cons_drop, c1]; first | exact rfl | exact ⟨rfl, rfl⟩)) (by simp)
  · have c2 := hc.resolve_left c1
    have q := ref01_Put_c n (l.take (l.length - 2)) .sh (fun x hx => hb x (List.mem_of_mem_take hx)) (by simp; omega) (by simp; omega)
    have q2 := ref01_Same_c n (putI (l.take (l.length - 2))) l .sh .sh (by rw [putI_length]; simp; omega) (by rw [putI_length]; simp; omega)
    have c3 : ¬ putI (l.take (l.length - 2)) = l := fun h => c2 ((putI_take l hb (by omega)).1 h)
    rw [decide_eq_false c3] at q2
    have e : ((l.length : Int) - 2).toNat = l.length - 2 := by omega
    exact cP_of (args' := [LV 1 (I .u8) l .sh]) (by simp [argEl_eq]) ((s_triuneref01_Cut_eq _ _ _ _).trans (by unfold s_triuneref01_Cut; simp -implicitDefEqProofs (disch := first | omega | (simp only [List.length_set, List.length_append, List.length_cons, List.length_nil, List.length_take, List.length_drop, List.length_map]; omega) | simp) [wrap_i64, wrap_u16_id, wrap_u8_id, tdiv_pos, tmod_pos, -getElem?_pos, -getElem?_neg, -List.length_eq_zero_iff, -List.getElem_cons_drop, c1, q, q2, e]; first | exact rfl | exact ⟨rfl, rfl⟩)) (by simp)
theorem ref01_Cut_c (n : Nat) (l : List Int) (t : Tag) (hb : Bytes l) (hl : l.length ≤ 100000) (hn : l.length + 25 ≤ n) (h2 : 2 ≤ l.length) (h0 : sumN l = 0) : cP n 41 false [LV 1 (I .u8) l t] = some (.tup [LV 1 (I .u8) (l.take (l.length - 2)) .sh, Bo true]) := by
  obtain ⟨n, rfl⟩ : ∃ m, n = m + 1 := ⟨n - 1, by omega⟩
  have q := ref01_Put_c n (l.take (l.length - 2)) .sh (fun x hx => hb x (List.mem_of_mem_take hx)) (by simp; omega) (by simp; omega)
  have q2 := ref01_Same_c n (putI (l.take (l.length - 2))) l .sh .sh (by rw [putI_length]; simp; omega) (by rw [putI_length]; simp; omega)
  have c3 : putI (l.take (l.length - 2)) = l := (putI_take l hb (by omega)).2 h0
  rw [decide_eq_true c3] at q2
  have e : ((l.length : Int) - 2).toNat = l.length - 2 := by omega
  have e4 := buildL_u0
  obtain ⟨t2, H', ha, _⟩ := appG_all (e := 5) (ag := false) (sz := 1) (by_ := 1) (n0 := 0) (enc := I .u8) (xs := []) (ys := l.take (l.length - 2)) (t := .ti) (t' := .sh) (H := []) (fl := 0) (by omega) (by omega) (.inl rfl) rfl (by simp; omega) (by simp; omega)
  rw [List.nil_append] at ha
  exact cP_of (r := .tup [LV 1 (I .u8) (l.take (l.length - 2)) t2, Bo true]) (args' := [LV 1 (I .u8) l .sh]) (by simp [argEl_eq]) ((s_triuneref01_Cut_eq _ _ _ _).trans (by unfold s_triuneref01_Cut; simp -implicitDefEqProofs (disch := first | omega | (simp only [List.length_set, List.length_append, List.length_cons, List.length_nil, List.length_take, List.length_drop, List.length_map]; omega) | simp) [wrap_i64, wrap_u16_id, wrap_u8_id, tdiv_pos, tmod_pos, -getElem?_pos, -getElem?_neg, -List.length_eq_zero_iff, -List.getElem_cons_drop, q, q2, e, e4, ha]; first | exact rfl | exact ⟨rfl, rfl⟩)) (by simp)
end Go.Proofs.Ytbmjflieedadkaa
