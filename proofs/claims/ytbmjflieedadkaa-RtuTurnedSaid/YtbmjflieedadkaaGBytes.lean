/- bytes.Clone and bytes.Equal. -/
import Derived.Test.YtbmjflieedadkaaFBytes
import Derived.Test.YtbmjflieedadkaaEv
import Derived.Test.YtbmjflieedadkaaGWords
-- NEEDS: bytes.Clone; bytes.Equal
namespace Go.Proofs.Ytbmjflieedadkaa
open Go
set_option linter.unusedSimpArgs false
theorem bytes_Clone_c (n : Nat) (l : List Int) (t : Tag) (h0 : l ≠ []) (hl : l.length ≤ 1000000) (hn : 1 ≤ n) : cP n 76 false [LV 1 (I .u8) l t] = some (LV 1 (I .u8) l .sh) := by
  obtain ⟨n, rfl⟩ : ∃ m, n = m + 1 := ⟨n - 1, by omega⟩
  have e1 : binD Try.prog .eql 22 (.tmp 3) (.const (.slice none 0 0)) (LV 1 (I .u8) l .sh) (.list 0 [] .ti) = some (Bo false) := by
    cases l with
    | nil => exact absurd rfl h0
    | cons a l =>
      have : nilEq Try.prog 22 (LV 1 (I .u8) (a :: l) .sh) (.slice none 0 0) = true := by
        unfold nilEq; rw [Try.underlying22]; rfl
      show (if nilEq Try.prog 22 (LV 1 (I .u8) (a :: l) .sh) (.slice none 0 0) = true then eqRes .eql else none) = _
      rw [if_pos this]; rfl
  have e2 : buildL false 1 0 (I .u8 0) [] = some (LV 1 (I .u8) [] .ti) := rfl
  have e3 := appG_ti (e := 5) (ag := false) (sz := 1) (by_ := 1) (enc := I .u8) (xs := []) (ys := l) (t' := .sh) (H := []) (fl := 0) h0 rfl (by simp; omega) (by simp; omega)
  refine cP_of (args' := [LV 1 (I .u8) l .sh]) (by simp [argEl_eq]) ((s_bytes_Clone_eq _ _ _ _).trans (by unfold s_bytes_Clone; simp -implicitDefEqProofs (disch := first | omega | (simp only [List.length_set, List.length_append, List.length_cons, List.length_nil, List.length_take, List.length_drop, List.length_map]; omega) | simp) [wrap_i64, wrap_u16_id, wrap_u8_id, tdiv_pos, tmod_pos, -getElem?_pos, -getElem?_neg, -List.length_eq_zero_iff, -List.getElem_cons_drop, e1, e2, e3]; exact ⟨rfl, rfl⟩)) ?_
  simp
theorem byteOf_map (l : List Int) (hb : Bytes l) : mapO byteOf (l.map (I .u8)) = some (l.map fun x => UInt8.ofNat x.toNat) := by
  induction l with
  | nil => rfl
  | cons a l ih =>
    have h := hb a (by simp)
    rw [List.map_cons, mapO_cons, ih (fun x hx => hb x (by simp [hx]))]
    have : byteOf (I .u8 a) = some (UInt8.ofNat a.toNat) := by unfold byteOf I; simp only; rw [if_pos h]
    rw [this]; rfl
def strOf (l : List Int) : ByteArray := ⟨(l.map fun x => UInt8.ofNat x.toNat).toArray⟩
theorem convD_str (s d e : TypeId) (hs : Try.prog.underlying s = some (.slice e)) (he : Try.prog.underlying e = some (.int .u8)) (hd : Try.prog.underlying d = some .string) (l : List Int) (t : Tag) (hb : Bytes l) : convD Try.prog s d (LV 1 (I .u8) l t) = some (.flat (.string (strOf l))) := by
  obtain ⟨sz, h1, _⟩ := LV_list 1 (I .u8) l t
  rw [h1]
  show strD Try.prog s d (l.map (I .u8)) = _
  unfold strD
  rw [hs, hd]
  dsimp only
  rw [he]
  dsimp only
  rw [byteOf_map l hb]
  rfl
theorem map_byte_inj : ∀ (l1 l2 : List Int), Bytes l1 → Bytes l2 → (l1.map fun x => UInt8.ofNat x.toNat) = (l2.map fun x => UInt8.ofNat x.toNat) → l1 = l2
  | [], [], _, _, _ => rfl
  | [], _ :: _, _, _, h => by simp at h
  | _ :: _, [], _, _, h => by simp at h
  | a :: l1, b :: l2, h1, h2, h => by
    simp only [List.map_cons, List.cons.injEq] at h
    have ha := h1 a (by simp)
    have hb := h2 b (by simp)
    have e : a = b := by
      have := congrArg UInt8.toNat h.1
      rw [UInt8.toNat_ofNat', UInt8.toNat_ofNat'] at this
      omega
    rw [e, map_byte_inj l1 l2 (fun x hx => h1 x (by simp [hx])) (fun x hx => h2 x (by simp [hx])) h.2]
theorem strOf_inj (l1 l2 : List Int) (h1 : Bytes l1) (h2 : Bytes l2) : ((strOf l1).toList == (strOf l2).toList) = decide (l1 = l2) := by
  rw [Bool.eq_iff_iff]
  simp only [strOf, ByteArray.toList_eq, beq_iff_eq, decide_eq_true_eq]
  constructor
  · intro h
    exact map_byte_inj l1 l2 h1 h2 h
  · rintro rfl; rfl
theorem bytes_Equal_c (n : Nat) (l1 l2 : List Int) (t1 t2 : Tag) (h1 : Bytes l1) (h2 : Bytes l2) (hn : 1 ≤ n) : cP n 42 false [LV 1 (I .u8) l1 t1, LV 1 (I .u8) l2 t2] = some (Bo (decide (l1 = l2))) := by
  obtain ⟨n, rfl⟩ : ∃ m, n = m + 1 := ⟨n - 1, by omega⟩
  have e1 := convD_str 22 9 5 Try.underlying22 Try.underlying5 Try.underlying9 l1 .sh h1
  have e2 := convD_str 22 9 5 Try.underlying22 Try.underlying5 Try.underlying9 l2 .sh h2
  have e3 : eqS (.flat (.string (strOf l1))) (.flat (.string (strOf l2))) = some (Bo (decide (l1 = l2))) := by
    unfold eqS; rw [← strOf_inj l1 l2 h1 h2]
  refine cP_of (args' := [LV 1 (I .u8) l1 .sh, LV 1 (I .u8) l2 .sh]) (by simp [argEl_eq]) ((s_bytes_Equal_eq _ _ _ _ _).trans (by unfold s_bytes_Equal; simp -implicitDefEqProofs (disch := first | omega | (simp only [List.length_set, List.length_append, List.length_cons, List.length_nil, List.length_take, List.length_drop, List.length_map]; omega) | simp) [wrap_i64, wrap_u16_id, wrap_u8_id, tdiv_pos, tmod_pos, -getElem?_pos, -getElem?_neg, -List.length_eq_zero_iff, -List.getElem_cons_drop, e1, e2, e3]; exact ⟨rfl, rfl⟩)) ?_
  simp
end Go.Proofs.Ytbmjflieedadkaa
