/- Layer 4, plain: frames and their bytes. -/
import Derived.Test.YtigfninpflemnaaMread
namespace Go.Proofs.Ytigfninpflemnaa
open Go.RowKit

def fErr (f : Fr) : Int := if f.pdu.length = 0 then 3 else if 253 < f.pdu.length then 4 else 0
def fOut (f : Fr) : List UInt8 := if fErr f = 0 then fBytes f else []
theorem fErr_ok {f : Fr} (h : fErr f = 0) : 0 < f.pdu.length ∧ f.pdu.length ≤ 253 := by
  unfold fErr at h; split at h
  · omega
  · split at h <;> omega
theorem mbap_Bytes (v : Value) (f : Fr) (w : World) (h : RdF w v f) :
    Calls Try.prog 53 #[v] w fun e w' => ∃ v', e = .returned (.tuple #[v', .int .i64 (fErr f)]) ∧ RdV encB w' v' (fOut f) ∧ Below w.heap.size w w' := by
  by_cases h0 : f.pdu.length = 0
  · have e : fErr f = 3 := by unfold fErr; rw [if_pos h0]
    rw [e, show fOut f = [] by unfold fOut; rw [e]; rfl]
    exact (mbap_Bytes_none v f w h h0).mono fun e w' ⟨he, hB⟩ => ⟨_, he, RdV.nil _ _, hB⟩
  · by_cases h1 : 253 < f.pdu.length
    · have e : fErr f = 4 := by unfold fErr; rw [if_neg h0, if_pos h1]
      rw [e, show fOut f = [] by unfold fOut; rw [e]; rfl]
      exact (mbap_Bytes_many v f w h h1).mono fun e w' ⟨he, hB⟩ => ⟨_, he, RdV.nil _ _, hB⟩
    · have e : fErr f = 0 := by unfold fErr; rw [if_neg h0, if_neg h1]
      rw [e, show fOut f = fBytes f by unfold fOut; rw [e]; rfl]
      exact (mbap_Bytes_ok v f w h (by omega) (by omega)).mono fun e w' ⟨v', he, ho, hB, _⟩ => ⟨v', he, ho.rd, hB⟩
theorem lowB_of (x : UInt8) (n : Int) (h : n = (x.toNat : Int)) : lowB n = x := by
  subst h; unfold lowB; simp
theorem frame_again (b : List UInt8) (h : fCode b = 0) : 8 ≤ fLen b ∧ fLen b ≤ b.length ∧ fErr (fFrame b) = 0 ∧ fBytes (fFrame b) = b.take (fLen b).toNat := by
  obtain ⟨g1, g2, g3, g4, g5⟩ := fCode_ok h
  have hL : fLen b = 6 + (numV b 4 : Int) := by unfold fLen; rw [if_pos h]
  have hF : fFrame b = ⟨UInt16.ofNat (numV b 0), b.getD 6 0, (b.drop 7).take (numV b 4 - 1)⟩ := by unfold fFrame; rw [if_pos h]
  match b, g2 with
  | b0 :: b1 :: b2 :: b3 :: b4 :: b5 :: rest, _ =>
    match rest, g5 with
    | [], g5 => simp at g5; omega
    | b6 :: l, g5 =>
      have t0 := b0.toNat_lt; have t1 := b1.toNat_lt; have t2 := b2.toNat_lt; have t3 := b3.toNat_lt; have t4 := b4.toNat_lt; have t5 := b5.toNat_lt
      have hT : (UInt16.ofNat (numV (b0 :: b1 :: b2 :: b3 :: b4 :: b5 :: b6 :: l) 0)).toNat = 256 * b0.toNat + b1.toNat := by
        have hv : numV (b0 :: b1 :: b2 :: b3 :: b4 :: b5 :: b6 :: l) 0 = 256 * b0.toNat + b1.toNat := by simp [numV, numAt]
        rw [hv, UInt16.toNat_ofNat']; omega
      generalize UInt16.ofNat (numV (b0 :: b1 :: b2 :: b3 :: b4 :: b5 :: b6 :: l) 0) = T at hT hF
      simp [numV, numAt] at g1 g3 g4 g5 hL hF
      have z2 : b2 = 0 := UInt8.toNat_inj.1 (by simp; omega)
      have z3 : b3 = 0 := UInt8.toNat_inj.1 (by simp; omega)
      have z4 : b4 = 0 := UInt8.toNat_inj.1 (by simp; omega)
      subst z2 z3 z4
      simp at g3 g4 g5 hL hF
      have hlen : (List.take (b5.toNat - 1) l).length = b5.toNat - 1 := by simp; omega
      refine ⟨by omega, by simp; omega, ?_, ?_⟩
      · rw [hF]; unfold fErr; simp only [hlen]; rw [if_neg (by omega), if_neg (by omega)]
      · rw [hF, hL]
        unfold fBytes fHead
        simp only [hlen]
        rw [lowB_of b0 _ (by omega), lowB_of b1 _ (by omega), lowB_of b5 _ (by omega)]
        have e1 : (6 + (b5.toNat : Int)).toNat = (b5.toNat - 1) + 7 := by omega
        rw [e1]
        simp [List.take_succ_cons]
theorem frame_back (f : Fr) (more : List UInt8) (h : fErr f = 0) : fCode (fBytes f ++ more) = 0 ∧ fFrame (fBytes f ++ more) = f ∧ fLen (fBytes f ++ more) = ((fBytes f).length : Int) := by
  obtain ⟨h0, h1⟩ := fErr_ok h
  obtain ⟨t, u, l⟩ := f
  simp only [] at h0 h1
  have ht := t.toNat_lt
  have e : fBytes ⟨t, u, l⟩ ++ more = lowB ((t.toNat : Int) / 256) :: lowB ((t.toNat : Int) % 256) :: 0 :: 0 :: 0 :: lowB ((l.length : Int) + 1) :: u :: (l ++ more) := by simp [fBytes, fHead]
  have n4 : (lowB ((l.length : Int) + 1)).toNat = l.length + 1 := by have := lowB_nat ((l.length : Int) + 1) (by omega) (by omega); omega
  have a0 := lowB_nat ((t.toNat : Int) / 256) (by omega) (by omega)
  have a1 := lowB_nat ((t.toNat : Int) % 256) (by omega) (by omega)
  have v2 : numV (fBytes ⟨t, u, l⟩ ++ more) 2 = 0 := by rw [e]; simp [numV, numAt]
  have v4 : numV (fBytes ⟨t, u, l⟩ ++ more) 4 = l.length + 1 := by rw [e]; simp [numV, numAt, n4]
  have v0 : numV (fBytes ⟨t, u, l⟩ ++ more) 0 = t.toNat := by rw [e]; simp [numV, numAt]; omega
  have hlen : (fBytes ⟨t, u, l⟩ ++ more).length = 7 + l.length + more.length := by rw [e]; simp; omega
  have hlen0 : (fBytes ⟨t, u, l⟩).length = 7 + l.length := by simp [fBytes, fHead]; omega
  have hc : fCode (fBytes ⟨t, u, l⟩ ++ more) = 0 := by
    unfold fCode; rw [v2, v4, hlen, if_neg (by omega), if_neg (by omega)]
  refine ⟨hc, ?_, ?_⟩
  · unfold fFrame
    rw [if_pos hc, v0, v4, e]
    simp
  · unfold fLen; rw [if_pos hc, v4, hlen0]; omega
theorem frame_cut (f : Fr) (cut : Nat) (h : fErr f = 0) (hc : cut < (fBytes f).length) : fCode ((fBytes f).take cut) = 3 := by
  obtain ⟨h0, h1⟩ := fErr_ok h
  obtain ⟨t, u, l⟩ := f
  simp only [] at h0 h1
  have e : fBytes ⟨t, u, l⟩ = lowB ((t.toNat : Int) / 256) :: lowB ((t.toNat : Int) % 256) :: 0 :: 0 :: 0 :: lowB ((l.length : Int) + 1) :: u :: l := by simp [fBytes, fHead]
  have n4 : (lowB ((l.length : Int) + 1)).toNat = l.length + 1 := by have := lowB_nat ((l.length : Int) + 1) (by omega) (by omega); omega
  rw [e] at hc ⊢
  simp at hc
  match cut, hc with
  | 0, _ => simp [fCode, numV]
  | 1, _ => simp [fCode, numV]
  | 2, _ => simp [fCode, numV]
  | 3, _ => simp [fCode, numV]
  | 4, _ => simp [fCode, numV, numAt]
  | 5, _ => simp [fCode, numV, numAt]
  | k + 6, hc =>
    unfold fCode
    simp [numV, numAt, n4, List.take_succ_cons]
    rw [if_neg (by omega), if_pos (by omega)]
end Go.Proofs.Ytigfninpflemnaa
