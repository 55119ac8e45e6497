/- Sums: the program's, and the document's; over lists of numbers. -/
import Derived.Test.YtbmjflieedadkaaFCrc
import Derived.Test.YtbmjflieedadkaaHp
import Derived.Test.YtbmjflieedadkaaPlainB
import Derived.Test.YtbmjflieedadkaaGSame01
import Derived.Test.YtbmjflieedadkaaGWords
-- NEEDS: crc.More; crc.Sum; crc.Put; crc.Cut
namespace Go.Proofs.Ytbmjflieedadkaa
open Go
set_option linter.unusedSimpArgs false
set_option linter.unusedVariables false
theorem xorI_nat (k : IntKind) (a b : Nat) (hk : k.signed = false) (ha : a < 2 ^ k.bits) (hb : b < 2 ^ k.bits) : xorI k a b = ((a ^^^ b : Nat) : Int) := by
  unfold xorI IntKind.wrap
  have h : a ^^^ b < 2 ^ k.bits := Nat.xor_lt_two_pow ha hb
  simp only [hk, Bool.false_and, Bool.false_eq_true, if_false]
  rw [BitVec.toNat_xor, BitVec.toNat_ofInt, BitVec.toNat_ofInt]
  have e1 : ((a : Int) % ((2 ^ k.bits : Nat) : Int)).toNat = a := by rw [Int.emod_eq_of_lt (by omega) (by exact_mod_cast ha)]; simp
  have e2 : ((b : Int) % ((2 ^ k.bits : Nat) : Int)).toNat = b := by rw [Int.emod_eq_of_lt (by omega) (by exact_mod_cast hb)]; simp
  rw [e1, e2]
  have : (2 : Int) ^ k.bits = ((2 ^ k.bits : Nat) : Int) := by simp
  rw [this]
  exact Int.emod_eq_of_lt (by omega) (by exact_mod_cast h)
theorem andI_nat (k : IntKind) (a b : Nat) (hk : k.signed = false) (ha : a < 2 ^ k.bits) (hb : b < 2 ^ k.bits) : andI k a b = ((a &&& b : Nat) : Int) := by
  unfold andI IntKind.wrap
  have h : a &&& b < 2 ^ k.bits := Nat.lt_of_le_of_lt Nat.and_le_left ha
  simp only [hk, Bool.false_and, Bool.false_eq_true, if_false]
  rw [BitVec.toNat_and, BitVec.toNat_ofInt, BitVec.toNat_ofInt]
  have e1 : ((a : Int) % ((2 ^ k.bits : Nat) : Int)).toNat = a := by rw [Int.emod_eq_of_lt (by omega) (by exact_mod_cast ha)]; simp
  have e2 : ((b : Int) % ((2 ^ k.bits : Nat) : Int)).toNat = b := by rw [Int.emod_eq_of_lt (by omega) (by exact_mod_cast hb)]; simp
  rw [e1, e2]
  have : (2 : Int) ^ k.bits = ((2 ^ k.bits : Nat) : Int) := by simp
  rw [this]
  exact Int.emod_eq_of_lt (by omega) (by exact_mod_cast h)
theorem shrI_1 (x : Int) : shrI .u16 x 1 = x / 2 := by
  unfold shrI
  have : (2 : Int) ^ min (1 : Int).toNat IntKind.u16.bits = 2 := rfl
  rw [this, Int.fdiv_eq_ediv_of_nonneg _ (by omega)]
theorem neg_0 : unD Try.prog .neg (I .u16 0) = some (I .u16 0) := by kernel_rfl
theorem neg_1 : unD Try.prog .neg (I .u16 1) = some (I .u16 65535) := by kernel_rfl
/-- bytes as bytes -/
def nB (l : List Int) : List UInt8 := l.map lowB
theorem nB_length (l : List Int) : (nB l).length = l.length := by simp [nB]
theorem nB_get (l : List Int) (i : Nat) (h : i < l.length) : (nB l)[i]'(by rw [nB_length]; exact h) = lowB l[i] := by simp [nB]
def sumN (l : List Int) : Nat := nMore 65535 (nB l)
theorem sumN_lt (l : List Int) : sumN l < 65536 := nMore_lt _ _ (by omega)
theorem crc_L1 (n fl : Nat) (K : Ex → KF) (x8 x9 x10 : DV) (x0 : Nat) (hx : x0 < 65536) : ∀ (m j : Nat) (H : Heap), 8 < m + j → j ≤ 8 →
    s_crc_More_L1 n fl K m (I .u16 (nBits j x0)) x8 x9 x10 (I .i64 j) H = K (.exit 2) (s_crc_More_O1 (I .u16 (nBits 8 x0)) x8 x9 x10) H := by
  intro m
  induction m with
  | zero => intro j H h; omega
  | succ m ih =>
    intro j H hm hj
    unfold s_crc_More_L1 s_crc_More_B1
    by_cases h : j < 8
    · have ih' := ih (j + 1) H (by omega) (by omega)
      have hj2 : ((j + 1 : Nat) : Int) = (j : Int) + 1 := by omega
      rw [hj2] at ih'
      have hb := nBits_lt j x0 hx
      have e1 : nBits (j + 1) x0 = nBit (nBits j x0) := rfl
      rw [e1] at ih'
      generalize nBits j x0 = y at *
      have a1 : andI .u16 (y : Int) 1 = ((y % 2 : Nat) : Int) := by
        have := andI_nat .u16 y 1 rfl (by exact hb) (by decide)
        rw [Nat.and_one_is_mod] at this
        exact this
      have s1 := shrI_1 (y : Int)
      have hy2 : ((y : Int) / 2) = ((y / 2 : Nat) : Int) := by omega
      rcases (by omega : y % 2 = 0 ∨ y % 2 = 1) with h0 | h0
      · rw [h0] at a1
        have n0 := neg_0
        have a2 : andI .u16 40961 0 = 0 := by decide
        have x1 : xorI .u16 ((y : Int) / 2) 0 = (nBit y : Int) := by
          rw [hy2]
          have := xorI_nat .u16 (y / 2) 0 rfl (by show y / 2 < 65536; omega) (by decide)
          unfold nBit
          rw [if_neg (by omega)]
          exact this
        simp only [Int.natCast_zero] at a1
        simp -implicitDefEqProofs (disch := first | omega | (simp only [List.length_set, List.length_append, List.length_cons, List.length_nil, List.length_take, List.length_drop, List.length_map]; omega) | simp) [wrap_i64, wrap_u16_id, wrap_u8_id, tdiv_pos, tmod_pos, -getElem?_pos, -getElem?_neg, -List.length_eq_zero_iff, -List.getElem_cons_drop, h, a1, s1, n0, a2, x1, ih']
      · rw [h0] at a1
        have n0 := neg_1
        have a2 : andI .u16 40961 65535 = 40961 := by decide
        have x1 : xorI .u16 ((y : Int) / 2) 40961 = (nBit y : Int) := by
          rw [hy2]
          have := xorI_nat .u16 (y / 2) 40961 rfl (by show y / 2 < 65536; omega) (by decide)
          unfold nBit
          rw [if_pos h0]
          exact this
        simp only [Int.natCast_one] at a1
        simp -implicitDefEqProofs (disch := first | omega | (simp only [List.length_set, List.length_append, List.length_cons, List.length_nil, List.length_take, List.length_drop, List.length_map]; omega) | simp) [wrap_i64, wrap_u16_id, wrap_u8_id, tdiv_pos, tmod_pos, -getElem?_pos, -getElem?_neg, -List.length_eq_zero_iff, -List.getElem_cons_drop, h, a1, s1, n0, a2, x1, ih']
    · have : j = 8 := by omega
      subst this
      simp -implicitDefEqProofs (disch := first | omega | (simp only [List.length_set, List.length_append, List.length_cons, List.length_nil, List.length_take, List.length_drop, List.length_map]; omega) | simp) [wrap_i64, wrap_u16_id, wrap_u8_id, tdiv_pos, tmod_pos, -getElem?_pos, -getElem?_neg, -List.length_eq_zero_iff, -List.getElem_cons_drop]
theorem lowB_of (x : Int) (h : 0 ≤ x ∧ x < 256) : x = ((lowB x).toNat : Int) := (lowB_nat x h.1 h.2).symm
theorem nMore_snoc (s : Nat) (l : List UInt8) (k : Nat) (h : k < l.length) : nMore s (l.take (k + 1)) = nBits 8 (nMore s (l.take k) ^^^ (l[k]).toNat) := by
  unfold nMore; rw [List.take_succ_eq_append_getElem h, List.foldl_append]; rfl
theorem nB_take (l : List Int) (k : Nat) : nB (l.take k) = (nB l).take k := by simp [nB]
theorem crc_L0 (n fl : Nat) (K : Ex → KF) (s : Nat) (hs : s < 65536) (l : List Int) (t : Tag) (hb : Bytes l) (hl : l.length ≤ 100000) (hn : 9 ≤ n) : ∀ (m i : Nat) (H : Heap), l.length < m + i → i ≤ l.length →
    s_crc_More_L0 n fl K m (I .u16 (nMore s ((nB l).take i))) (LV 1 (I .u8) l t) (I .i64 l.length) (I .i64 i) H = K (.exit 0) (s_crc_More_O0 (I .u16 (nMore s (nB l)))) H := by
  intro m
  induction m with
  | zero => intro i H h; omega
  | succ m ih =>
    intro i H hm hi
    unfold s_crc_More_L0 s_crc_More_B0
    by_cases h : i < l.length
    · have ih' := ih (i + 1) H (by omega) (by omega)
      have hi2 : ((i + 1 : Nat) : Int) = (i : Int) + 1 := by omega
      rw [hi2, nMore_snoc s (nB l) i (by rw [nB_length]; exact h), nB_get l i h] at ih'
      have hy := nMore_lt ((nB l).take i) s hs
      generalize nMore s ((nB l).take i) = y at *
      have hx := hb _ (List.getElem_mem h)
      have hc := (lowB l[i]).toNat_lt
      have e := lowB_of l[i] hx
      have hxx : y ^^^ (lowB l[i]).toNat < 65536 := Nat.xor_lt_two_pow (n := 16) hy (by omega)
      have x1 : xorI .u16 (y : Int) l[i] = ((y ^^^ (lowB l[i]).toNat : Nat) : Int) := by
        conv => lhs; rw [e]
        exact xorI_nat .u16 y _ rfl hy (by show _ < 65536; omega)
      have q : ∀ K, loopG [0, 8, 9, 10, 18] [0, 8, 9, 10] 31 (s_crc_More_b1 n fl) n (s_crc_More_I1 (I .u16 ((y ^^^ (lowB l[i]).toNat : Nat) : Int)) (LV 1 (I .u8) l t) (I .i64 l.length) (I .i64 i) (I .i64 0)) H K = _ := fun K => (s_crc_More_L1_eq _ _ _ _ _ _ _ _ _ _).trans (crc_L1 n fl K (LV 1 (I .u8) l t) (I .i64 l.length) (I .i64 i) (y ^^^ (lowB l[i]).toNat) hxx n 0 H (by omega) (by omega))
      simp -implicitDefEqProofs (disch := first | omega | (simp only [List.length_set, List.length_append, List.length_cons, List.length_nil, List.length_take, List.length_drop, List.length_map]; omega) | simp) [wrap_i64, wrap_u16_id, wrap_u8_id, tdiv_pos, tmod_pos, -getElem?_pos, -getElem?_neg, -List.length_eq_zero_iff, -List.getElem_cons_drop, h, x1, q, s_crc_More_O1, ih']
    · have : i = l.length := by omega
      subst this
      have e : (nB l).take l.length = nB l := List.take_of_length_le (by rw [nB_length]; omega)
      rw [e]
      simp -implicitDefEqProofs (disch := first | omega | (simp only [List.length_set, List.length_append, List.length_cons, List.length_nil, List.length_take, List.length_drop, List.length_map]; omega) | simp) [wrap_i64, wrap_u16_id, wrap_u8_id, tdiv_pos, tmod_pos, -getElem?_pos, -getElem?_neg, -List.length_eq_zero_iff, -List.getElem_cons_drop]
theorem crc_More_c (n : Nat) (s : Nat) (hs : s < 65536) (l : List Int) (t : Tag) (hb : Bytes l) (hl : l.length ≤ 100000) (hn : l.length + 12 ≤ n) : cP n 59 false [I .u16 s, LV 1 (I .u8) l t] = some (I .u16 (nMore s (nB l))) := by
  obtain ⟨n, rfl⟩ : ∃ m, n = m + 1 := ⟨n - 1, by omega⟩
  have q : ∀ K, loopG [0, 8, 9, 10] [0] 31 (s_crc_More_b0 n 0) n (s_crc_More_I0 (I .u16 s) (LV 1 (I .u8) l .sh) (I .i64 l.length) (I .i64 0)) [] K = _ := fun K => (s_crc_More_L0_eq _ _ _ _ _ _ _ _ _).trans (crc_L0 n 0 K s hs l .sh hb hl (by omega) n 0 [] (by omega) (by omega))
  exact cP_of (args' := [I .u16 s, LV 1 (I .u8) l .sh]) (by simp [argEl_eq]) ((s_crc_More_eq _ _ _ _ _).trans (by unfold s_crc_More; simp -implicitDefEqProofs (disch := first | omega | (simp only [List.length_set, List.length_append, List.length_cons, List.length_nil, List.length_take, List.length_drop, List.length_map]; omega) | simp) [wrap_i64, wrap_u16_id, wrap_u8_id, tdiv_pos, tmod_pos, -getElem?_pos, -getElem?_neg, -List.length_eq_zero_iff, -List.getElem_cons_drop, q, s_crc_More_O0]; first | exact rfl | exact ⟨rfl, rfl⟩)) (by simp)
theorem crc_Sum_c (n : Nat) (l : List Int) (t : Tag) (hb : Bytes l) (hl : l.length ≤ 100000) (hn : l.length + 14 ≤ n) : cP n 50 false [LV 1 (I .u8) l t] = some (I .u16 (sumN l)) := by
  obtain ⟨n, rfl⟩ : ∃ m, n = m + 1 := ⟨n - 1, by omega⟩
  have q : cP n 59 false [I .u16 65535, LV 1 (I .u8) l .sh] = some (I .u16 (nMore 65535 (nB l))) := crc_More_c n 65535 (by omega) l .sh hb hl (by omega)
  unfold sumN
  exact cP_of (args' := [LV 1 (I .u8) l .sh]) (by simp [argEl_eq]) ((s_crc_Sum_eq _ _ _ _).trans (by unfold s_crc_Sum; simp -implicitDefEqProofs (disch := first | omega | (simp only [List.length_set, List.length_append, List.length_cons, List.length_nil, List.length_take, List.length_drop, List.length_map]; omega) | simp) [wrap_i64, wrap_u16_id, wrap_u8_id, tdiv_pos, tmod_pos, -getElem?_pos, -getElem?_neg, -List.length_eq_zero_iff, -List.getElem_cons_drop, q]; first | exact rfl | exact ⟨rfl, rfl⟩)) (by simp)
/-- bytes, and their sum behind them -/
def putI (l : List Int) : List Int := l ++ [(sumN l : Int) % 256, (sumN l : Int) / 256]
theorem putI_length (l : List Int) : (putI l).length = l.length + 2 := by simp [putI]
theorem putI_bytes {l : List Int} (h : Bytes l) : Bytes (putI l) := by
  intro x hx
  have := sumN_lt l
  unfold putI at hx
  simp only [List.mem_append, List.mem_cons, List.not_mem_nil, or_false] at hx
  rcases hx with hx | rfl | rfl
  · exact h x hx
  · omega
  · omega
theorem buildL_u2 (a b : Int) : buildL false 1 2 (I .u8 0) [(0, I .u8 a), (1, I .u8 b)] = some (LV 1 (I .u8) [a, b] .ti) := rfl
theorem shrI_8 (x : Int) : shrI .u16 x 8 = x / 256 := shrI_w8 x
theorem crc_Put_c (n : Nat) (l : List Int) (t : Tag) (hb : Bytes l) (hl : l.length ≤ 100000) (hn : l.length + 16 ≤ n) : cP n 38 false [LV 1 (I .u8) l t] = some (LV 1 (I .u8) (putI l) .sh) := by
  obtain ⟨n, rfl⟩ : ∃ m, n = m + 1 := ⟨n - 1, by omega⟩
  have q := crc_Sum_c n l .sh hb hl (by omega)
  have hs := sumN_lt l
  unfold putI
  generalize sumN l = s at *
  have e1 : IntKind.wrap .u8 (s : Int) = ((s : Int) % 256) := wrap_u8 _
  have e2 : IntKind.wrap .u8 ((s : Int) / 256) = ((s : Int) / 256) := by rw [wrap_u8]; omega
  have e3 := buildL_u2 ((s : Int) % 256) ((s : Int) / 256)
  have e4 := shrI_8 (s : Int)
  have ha := appG_ti (e := 5) (ag := false) (sz := 1) (by_ := 1) (enc := I .u8) (xs := l) (ys := [((s : Int) % 256), ((s : Int) / 256)]) (t' := .ti) (H := []) (fl := 0) (by simp) rfl (by simp; omega) (by simp; omega)
  exact cP_of (args' := [LV 1 (I .u8) l .sh]) (by simp [argEl_eq]) ((s_crc_Put_eq _ _ _ _).trans (by unfold s_crc_Put; simp -implicitDefEqProofs (disch := first | omega | (simp only [List.length_set, List.length_append, List.length_cons, List.length_nil, List.length_take, List.length_drop, List.length_map]; omega) | simp) [wrap_i64, wrap_u16_id, wrap_u8_id, tdiv_pos, tmod_pos, -getElem?_pos, -getElem?_neg, -List.length_eq_zero_iff, -List.getElem_cons_drop, q, e1, e2, e3, e4, ha, List.take_length]; first | exact rfl | exact ⟨rfl, rfl⟩)) (by simp)
theorem nil_LV (t : Tag) : DV.list 0 [] t = LV 1 (I .u8) [] t := rfl
theorem crc_Cut_no (n : Nat) (l : List Int) (t : Tag) (hb : Bytes l) (hl : l.length ≤ 100000) (hn : l.length + 16 ≤ n) (hc : l.length < 2 ∨ sumN l ≠ 0) : cP n 40 false [LV 1 (I .u8) l t] = some (.tup [.list 0 [] .sh, Bo false]) := by
  obtain ⟨n, rfl⟩ : ∃ m, n = m + 1 := ⟨n - 1, by omega⟩
  have q := crc_Sum_c n l .sh hb hl (by omega)
  by_cases c1 : l.length < 2
  · exact cP_of (args' := [LV 1 (I .u8) l .sh]) (by simp [argEl_eq]) ((s_crc_Cut_eq _ _ _ _).trans (by unfold s_crc_Cut; simp -implicitDefEqProofs (disch := first | omega | (simp only [List.length_set, List.length_append, List.length_cons, List.length_nil, List.length_take, List.length_drop, List.length_map]; omega) | simp) [wrap_i64, wrap_u16_id, wrap_u8_id, tdiv_pos, tmod_pos, -getElem?_pos, -getElem?_neg, -List.length_eq_zero_iff, -List.getElem_cons_drop, c1]; first | exact rfl | exact ⟨rfl, rfl⟩)) (by simp)
  · have c2 := hc.resolve_left c1
    exact cP_of (args' := [LV 1 (I .u8) l .sh]) (by simp [argEl_eq]) ((s_crc_Cut_eq _ _ _ _).trans (by unfold s_crc_Cut; simp -implicitDefEqProofs (disch := first | omega | (simp only [List.length_set, List.length_append, List.length_cons, List.length_nil, List.length_take, List.length_drop, List.length_map]; omega) | simp) [wrap_i64, wrap_u16_id, wrap_u8_id, tdiv_pos, tmod_pos, -getElem?_pos, -getElem?_neg, -List.length_eq_zero_iff, -List.getElem_cons_drop, c1, q, c2]; first | exact rfl | exact ⟨rfl, rfl⟩)) (by simp)
theorem crc_Cut_c (n : Nat) (l : List Int) (t : Tag) (hb : Bytes l) (hl : l.length ≤ 100000) (hn : l.length + 16 ≤ n) (h2 : 2 ≤ l.length) (h0 : sumN l = 0) : cP n 40 false [LV 1 (I .u8) l t] = some (.tup [LV 1 (I .u8) (l.take (l.length - 2)) .sh, Bo true]) := by
  obtain ⟨n, rfl⟩ : ∃ m, n = m + 1 := ⟨n - 1, by omega⟩
  have q := crc_Sum_c n l .sh hb hl (by omega)
  simp only [h0, Int.natCast_zero] at q
  have e : ((l.length : Int) - 2).toNat = l.length - 2 := by omega
  obtain ⟨t2, H', ha, _⟩ := appG_all (e := 5) (ag := false) (sz := 1) (by_ := 1) (n0 := 0) (enc := I .u8) (xs := []) (ys := l.take (l.length - 2)) (t := .ti) (t' := .sh) (H := []) (fl := 0) (by omega) (by omega) (.inl rfl) rfl (by simp; omega) (by simp; omega)
  rw [← nil_LV, List.nil_append] at ha
  exact cP_of (r := .tup [LV 1 (I .u8) (l.take (l.length - 2)) t2, Bo true]) (args' := [LV 1 (I .u8) l .sh]) (by simp [argEl_eq]) ((s_crc_Cut_eq _ _ _ _).trans (by unfold s_crc_Cut; simp -implicitDefEqProofs (disch := first | omega | (simp only [List.length_set, List.length_append, List.length_cons, List.length_nil, List.length_take, List.length_drop, List.length_map]; omega) | simp) [wrap_i64, wrap_u16_id, wrap_u8_id, tdiv_pos, tmod_pos, -getElem?_pos, -getElem?_neg, -List.length_eq_zero_iff, -List.getElem_cons_drop, q, e, ha]; first | exact rfl | exact ⟨rfl, rfl⟩)) (by simp)
end Go.Proofs.Ytbmjflieedadkaa
