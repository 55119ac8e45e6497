/- Frames of a connection: plain. -/
import Derived.Test.YtigfninpflemnabEv
import Derived.Test.YtigfninpflemnabGWords
namespace Go.Proofs.Ytigfninpflemnab
open Go
set_option linter.unusedSimpArgs false
def frameV (t u : Int) (p : List Int) (g : Tag) : DV := .agg [I .u16 t, I .u8 u, LV 1 (I .u8) p g]
def frameBytes (t u : Int) (p : List Int) : List Int := [t / 256, t % 256, 0, 0, (p.length + 1) / 256, (p.length + 1) % 256, u] ++ p
def frameErr (n : Nat) : Int := if n = 0 then 3 else if 253 < n then 4 else 0
def frameOut (t u : Int) (p : List Int) : List Int := if frameErr p.length = 0 then frameBytes t u p else []
def rdN (l : List Int) : Int := 256 * l.getD 4 0 + l.getD 5 0
def rdErr (l : List Int) : Int := if 4 ≤ l.length ∧ 256 * l.getD 2 0 + l.getD 3 0 ≠ 0 then 2 else if 6 ≤ l.length ∧ (rdN l < 2 ∨ 254 < rdN l) then 2 else if l.length < 6 ∨ (l.length : Int) < 6 + rdN l then 3 else 0
def rdPdu (l : List Int) : List Int := if rdErr l = 0 then (l.take (6 + rdN l).toNat).drop 7 else []
def rdTid (l : List Int) : Int := if rdErr l = 0 then 256 * l.getD 0 0 + l.getD 1 0 else 0
def rdUnit (l : List Int) : Int := if rdErr l = 0 then l.getD 6 0 else 0
def rdLen (l : List Int) : Int := if rdErr l = 0 then 6 + rdN l else 0
def rdV (l : List Int) : DV := .tup [frameV (rdTid l) (rdUnit l) (rdPdu l) .sh, I .i64 (rdLen l), I .i64 (rdErr l)]
theorem rdV_err (l : List Int) (e : Int) (h : rdErr l = e) (he : e ≠ 0) : rdV l = .tup [.agg [I .u16 0, I .u8 0, .list 0 [] .sh], I .i64 0, I .i64 e] := by
  have : rdErr l ≠ 0 := by omega
  simp only [rdV, rdTid, rdUnit, rdPdu, rdLen, if_neg this, frameV]; rw [h]; rfl
theorem getD_e (l : List Int) (i : Nat) (h : i < l.length) : l.getD i 0 = l[i] := by
  simp [h]
theorem Bytes.getD {l : List Int} (h : Bytes l) (i : Nat) : 0 ≤ l.getD i 0 ∧ l.getD i 0 < 256 := by
  by_cases hi : i < l.length
  · rw [getD_e l i hi]; exact h _ (List.getElem_mem hi)
  · rw [List.getD_eq_getElem?_getD, List.getElem?_eq_none (by omega)]; simp
theorem Bytes.part {l : List Int} (h : Bytes l) : Bytes (rdPdu l) := by
  intro x hx
  unfold rdPdu at hx
  split at hx
  · exact h x (List.mem_of_mem_take (List.mem_of_mem_drop hx))
  · simp at hx
theorem rdPdu_len (l : List Int) : (rdPdu l).length ≤ l.length := by
  unfold rdPdu
  split
  · simp; omega
  · simp
end Go.Proofs.Ytigfninpflemnab
