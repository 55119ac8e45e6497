/- What an act does to a state, in plain Lean. -/
import Derived.Test.YtigfninpflemnabGModesD
namespace Go.Proofs.Ytigfninpflemnab
open Go
set_option linter.unusedSimpArgs false
set_option linter.unusedVariables false
def LatOk (l : Int) : Prop := 0 ≤ l ∧ l ≤ 3
theorem orI_1 {l : Int} (h : LatOk l) : orI .i64 l 1 = l / 2 * 2 + 1 := by
  unfold LatOk at h
  rcases (by omega : l = 0 ∨ l = 1 ∨ l = 2 ∨ l = 3) with rfl | rfl | rfl | rfl <;> decide
theorem orI_2 {l : Int} (h : LatOk l) : orI .i64 l 2 = l % 2 + 2 := by
  unfold LatOk at h
  rcases (by omega : l = 0 ∨ l = 1 ∨ l = 2 ∨ l = 3) with rfl | rfl | rfl | rfl <;> decide
/-- what may come of a channel without a reset -/
structure ChLe (h g : Ch) : Prop where
  is : g.is = true → h.is = true
  lo : h.lat % 2 ≤ g.lat % 2
  hi : h.lat / 2 ≤ g.lat / 2
  ok : LatOk g.lat
theorem chR_le (s : Int) (b : Bool) {h : Ch} (ok : LatOk h.lat) : ChLe h (chR s b h) := by
  have e := orI_1 ok
  have ok' := ok
  unfold LatOk at ok
  unfold chR
  split
  · rename_i hi
    split
    · refine { is := fun hh => ?_, lo := ?_, hi := ?_, ok := ?_ }
      · exact absurd hh (by simp)
      · show h.lat % 2 ≤ orI .i64 h.lat 1 % 2
        omega
      · show h.lat / 2 ≤ orI .i64 h.lat 1 / 2
        omega
      · show LatOk (orI .i64 h.lat 1)
        unfold LatOk
        omega
    · exact ⟨fun _ => hi, Int.le_refl _, Int.le_refl _, ok'⟩
  · exact ⟨id, Int.le_refl _, Int.le_refl _, ok'⟩
theorem chR_cnt (s : Int) (b : Bool) {h : Ch} {x : Int} (h0 : 0 ≤ h.cnt) (h1 : h.cnt ≤ x) : 0 ≤ (chR s b h).cnt ∧ (chR s b h).cnt ≤ x + 1 := by
  have hm : 0 ≤ moreV b h.cnt ∧ moreV b h.cnt ≤ x + 1 := by unfold moreV; split <;> omega
  unfold chR
  split
  · split
    · exact hm
    · exact hm
  · omega
theorem ChLe.refl {h : Ch} (ok : LatOk h.lat) : ChLe h h := ⟨id, Int.le_refl _, Int.le_refl _, ok⟩
theorem b2i_le {a b : Bool} (h : b = true → a = true) : b2i b ≤ b2i a := by cases a <;> cases b <;> simp_all [b2i]
structure MsLat (m : Ms) : Prop where
  a : LatOk m.a.lat
  b : LatOk m.b.lat
  c : LatOk m.c.lat
/-- what may come of a state without a reset -/
structure MsLe (m g : Ms) : Prop where
  a : ChLe m.a g.a
  b : ChLe m.b g.b
  c : ChLe m.c g.c
  safe : m.safe = true → g.safe = true
theorem MsLe.lat {m g : Ms} (h : MsLe m g) : MsLat g := ⟨h.a.ok, h.b.ok, h.c.ok⟩
theorem MsLe.mode {m g : Ms} (h : MsLe m g) : modeV g ≤ modeV m := by
  have h1 := b2i_le h.a.is
  have h2 := b2i_le h.b.is
  have h3 := b2i_le h.c.is
  unfold modeV manyV
  by_cases hm : m.safe = true
  · rw [if_pos hm, if_pos (h.safe hm)]
    exact Int.le_refl _
  · rw [if_neg hm]
    split
    · omega
    · omega
theorem ch_fault {h : Ch} (ok : LatOk h.lat) : ChLe h { h with lat := orI .i64 h.lat 2 } := by
  have e := orI_2 ok
  unfold LatOk at ok
  refine { is := id, lo := ?_, hi := ?_, ok := ?_ }
  · show h.lat % 2 ≤ orI .i64 h.lat 2 % 2
    omega
  · show h.lat / 2 ≤ orI .i64 h.lat 2 / 2
    omega
  · show LatOk (orI .i64 h.lat 2)
    unfold LatOk
    omega
theorem ch_test {h : Ch} (ok : LatOk h.lat) : ChLe h ⟨false, 0, h.lat⟩ := ⟨fun e => absurd e (by simp), Int.le_refl _, Int.le_refl _, ok⟩
theorem MsLe.refl {m : Ms} (ok : MsLat m) : MsLe m m := ⟨.refl ok.a, .refl ok.b, .refl ok.c, id⟩
theorem doV_le {m : Ms} (ok : MsLat m) (x : Act) (h : x.do_ ≠ 2) : MsLe m (doV m x).2 := by
  unfold doV
  split
  · refine ⟨chR_le _ _ ok.a, chR_le _ _ ok.b, chR_le _ _ ok.c, fun e => ?_⟩
    simp [msRound, e]
  split
  · split
    · exact .refl ok
    split
    · exact .refl ok
    unfold msTest
    split
    · exact ⟨ch_test ok.a, .refl ok.b, .refl ok.c, id⟩
    split
    · exact ⟨.refl ok.a, ch_test ok.b, .refl ok.c, id⟩
    · exact ⟨.refl ok.a, .refl ok.b, ch_test ok.c, id⟩
  split
  · exact .refl ok
  unfold msFault
  split
  · exact ⟨ch_fault ok.a, .refl ok.b, .refl ok.c, id⟩
  split
  · exact ⟨.refl ok.a, ch_fault ok.b, .refl ok.c, id⟩
  · exact ⟨.refl ok.a, .refl ok.b, ch_fault ok.c, id⟩
theorem ms0_lat (s : Int) : MsLat (ms0 s) := ⟨by unfold LatOk; simp [ms0], by unfold LatOk; simp [ms0], by unfold LatOk; simp [ms0]⟩
theorem doV_lat {m : Ms} (ok : MsLat m) (x : Act) : MsLat (doV m x).2 := by
  by_cases h : x.do_ = 2
  · unfold doV
    rw [if_neg (by omega), if_neg (by omega), if_pos h]
    split
    · exact ms0_lat _
    · exact ok
  · exact (doV_le ok x h).lat
theorem doV_strikes (m : Ms) (x : Act) : (doV m x).2.strikes = m.strikes := by
  unfold doV
  split
  · rfl
  split
  · split
    · rfl
    split
    · rfl
    unfold msTest
    split
    · rfl
    split <;> rfl
  split
  · split <;> rfl
  split
  · rfl
  unfold msFault
  split
  · rfl
  split <;> rfl
theorem doV_err (m : Ms) (x : Act) (h : (doV m x).1 ≠ 0) : (doV m x).2 = m := by
  revert h
  unfold doV
  split
  · exact fun h => absurd rfl h
  split
  · split
    · exact fun _ => rfl
    split
    · exact fun _ => rfl
    · exact fun h => absurd rfl h
  split
  · split
    · exact fun h => absurd rfl h
    · exact fun _ => rfl
  split
  · exact fun _ => rfl
  · exact fun h => absurd rfl h
theorem doV_reset (m : Ms) (x : Act) (h2 : x.do_ = 2) (h : (doV m x).1 = 0) : (doV m x).2 = ms0 m.strikes := by
  revert h
  unfold doV
  rw [if_neg (by omega), if_neg (by omega), if_pos h2]
  split
  · exact fun _ => rfl
  · exact fun h => absurd h (by simp)
theorem moreV_r (b : Bool) {x y : Int} (h0 : 0 ≤ x) (h1 : x ≤ y) : 0 ≤ moreV b x ∧ moreV b x ≤ y + 1 := by unfold moreV; split <;> omega
theorem MsOk.mono {m : Ms} {x y : Int} (h : MsOk m x) (k : x ≤ y) : MsOk m y := by
  obtain ⟨a, b, c, d⟩ := h
  exact ⟨by omega, by omega, by omega, by omega⟩
theorem doV_ok {m : Ms} {i : Int} (ok : MsOk m i) (x : Act) : MsOk (doV m x).2 (i + 1) := by
  have up := ok.mono (y := i + 1) (by omega)
  have hi := ok.sp
  unfold doV
  split
  · exact ⟨chR_cnt _ _ ok.a.1 ok.a.2, chR_cnt _ _ ok.b.1 ok.b.2, chR_cnt _ _ ok.c.1 ok.c.2, moreV_r _ ok.sp.1 ok.sp.2⟩
  have z : (0 : Int) ≤ 0 ∧ (0 : Int) ≤ i + 1 := by omega
  split
  · split
    · exact up
    split
    · exact up
    unfold msTest
    split
    · exact ⟨z, up.b, up.c, up.sp⟩
    split
    · exact ⟨up.a, z, up.c, up.sp⟩
    · exact ⟨up.a, up.b, z, up.sp⟩
  split
  · split
    · exact ⟨z, z, z, z⟩
    · exact up
  split
  · exact up
  unfold msFault
  split
  · exact ⟨up.a, up.b, up.c, up.sp⟩
  split
  · exact ⟨up.a, up.b, up.c, up.sp⟩
  · exact ⟨up.a, up.b, up.c, up.sp⟩
theorem ms0_ok (s : Int) : MsOk (ms0 s) 0 := by constructor <;> simp [ms0]
end Go.Proofs.Ytigfninpflemnab
