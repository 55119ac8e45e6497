/- Frames of a bus: their bytes, what is read, and whether two are the same; the program's and the document's. -/
import Derived.Test.YtbmjflieedadkaaFRtu
import Derived.Test.YtbmjflieedadkaaGRef01
import Derived.Test.YtbmjflieedadkaaGBytes
-- NEEDS: rtu.within; rtu.told; rtu.Bytes; rtu.Read; rtu.Same; triuneref03.Bytes; triuneref03.Read; triuneref03.Same
namespace Go.Proofs.Ytbmjflieedadkaa
open Go
set_option linter.unusedSimpArgs false
set_option linter.unusedVariables false
@[simp] theorem cells_iface (t : TypeId) (d : DV) : (DV.iface t d).cells = [.iface t d] := rfl
@[simp] theorem leaf_iface (t : TypeId) (d : DV) : (DV.iface t d).leaf = true := rfl
def trV (n e : Int) : DV := .iface 100 (.agg [I .i64 n, .iface 26 (I .i64 e)])
theorem is_c (n : Nat) (H : Heap) (fl : Nat) (a e x : Int) : callG Try.prog ENV (n + 1) 49 [trV a e, .iface 26 (I .i64 x)] H fl = some (Bo (e == x), H) := by kernel_rfl
theorem Is_c (n : Nat) (H : Heap) (a e x : Int) (hn : 1 ≤ n) : cO n 49 [trV a e, .iface 26 (I .i64 x)] H = some (Bo (e == x)) := by
  obtain ⟨n, rfl⟩ : ∃ m, n = m + 1 := ⟨n - 1, by omega⟩
  exact cO_of (is_c n H _ a e x) rfl
def wiV (n lo hi : Int) : DV := if n < lo then trV n 3 else if hi < n then trV n 4 else .flat .nilIface
theorem old_tr (n : Nat) (H : Heap) (a e : Int) : oldD n H (trV a e) = some (trV a e) := rfl
theorem within_c (n : Nat) (H : Heap) (a lo hi : Int) (hn : 1 ≤ n) : cO n 36 [I .i64 a, I .i64 lo, I .i64 hi] H = some (wiV a lo hi) := by
  obtain ⟨n, rfl⟩ : ∃ m, n = m + 1 := ⟨n - 1, by omega⟩
  unfold wiV
  by_cases c1 : a < lo
  · rw [if_pos c1]
    exact cO_of (H' := H) (r := trV a 3) ((s_rtu_within_eq _ _ _ _ _ _).trans (by unfold s_rtu_within; simp -implicitDefEqProofs (disch := first | omega | (simp only [List.length_set, List.length_append, List.length_cons, List.length_nil, List.length_take, List.length_drop, List.length_map]; omega) | simp) [wrap_i64, wrap_u16_id, wrap_u8_id, tdiv_pos, tmod_pos, -getElem?_pos, -getElem?_neg, -List.length_eq_zero_iff, -List.getElem_cons_drop, c1, trV])) (old_tr _ _ _ _)
  · rw [if_neg c1]
    by_cases c2 : hi < a
    · rw [if_pos c2]
      exact cO_of (H' := H) (r := trV a 4) ((s_rtu_within_eq _ _ _ _ _ _).trans (by unfold s_rtu_within; simp -implicitDefEqProofs (disch := first | omega | (simp only [List.length_set, List.length_append, List.length_cons, List.length_nil, List.length_take, List.length_drop, List.length_map]; omega) | simp) [wrap_i64, wrap_u16_id, wrap_u8_id, tdiv_pos, tmod_pos, -getElem?_pos, -getElem?_neg, -List.length_eq_zero_iff, -List.getElem_cons_drop, c1, c2, trV])) (old_tr _ _ _ _)
    · rw [if_neg c2]
      exact cO_of (H' := H) (r := .flat .nilIface) ((s_rtu_within_eq _ _ _ _ _ _).trans (by unfold s_rtu_within; simp -implicitDefEqProofs (disch := first | omega | (simp only [List.length_set, List.length_append, List.length_cons, List.length_nil, List.length_take, List.length_drop, List.length_map]; omega) | simp) [wrap_i64, wrap_u16_id, wrap_u8_id, tdiv_pos, tmod_pos, -getElem?_pos, -getElem?_neg, -List.length_eq_zero_iff, -List.getElem_cons_drop, c1, c2])) rfl
theorem told_c (n : Nat) (H : Heap) (a e : Int) (t : Tag) (hn : 5 ≤ n) (he : e = 3 ∨ e = 4) : cO n 37 [trV a e, LV 1 (I .i64) [3, 4] t] H = some (I .i64 e) := by
  obtain ⟨n, rfl⟩ : ∃ m, n = m + 4 := ⟨n - 4, by omega⟩
  have i3 := Is_c (n + 3) H a e 3 (by omega)
  have i4 := Is_c (n + 3) H a e 4 (by omega)
  have q : ∀ K, loopG [0, 7, 8, 9] [4] 19 (s_rtu_told_b0 (n + 3) H.length) (n + 3) (s_rtu_told_I0 (trV a e) (LV 1 (I .i64) [3, 4] t) (I .i64 2) (I .i64 0)) H K = K .ret (s_rtu_told_O0 (I .i64 e)) H := by
    intro K
    rw [s_rtu_told_L0_eq]
    rcases he with rfl | rfl
    · have e1 : ((3 : Int) == 3) = true := by decide
      rw [e1] at i3
      simp -implicitDefEqProofs (disch := first | omega | (simp only [List.length_set, List.length_append, List.length_cons, List.length_nil, List.length_take, List.length_drop, List.length_map]; omega) | simp) [wrap_i64, wrap_u16_id, wrap_u8_id, tdiv_pos, tmod_pos, -getElem?_pos, -getElem?_neg, -List.length_eq_zero_iff, -List.getElem_cons_drop, s_rtu_told_L0, s_rtu_told_B0, i3]
    · have e1 : ((4 : Int) == 3) = false := by decide
      have e2 : ((4 : Int) == 4) = true := by decide
      rw [e1] at i3
      rw [e2] at i4
      simp -implicitDefEqProofs (disch := first | omega | (simp only [List.length_set, List.length_append, List.length_cons, List.length_nil, List.length_take, List.length_drop, List.length_map]; omega) | simp) [wrap_i64, wrap_u16_id, wrap_u8_id, tdiv_pos, tmod_pos, -getElem?_pos, -getElem?_neg, -List.length_eq_zero_iff, -List.getElem_cons_drop, s_rtu_told_L0, s_rtu_told_B0, i3, i4]
  exact cO_of (H' := H) (r := I .i64 e) ((s_rtu_told_eq _ _ _ _ _).trans (by unfold s_rtu_told; simp -implicitDefEqProofs (disch := first | omega | (simp only [List.length_set, List.length_append, List.length_cons, List.length_nil, List.length_take, List.length_drop, List.length_map]; omega) | simp) [wrap_i64, wrap_u16_id, wrap_u8_id, tdiv_pos, tmod_pos, -getElem?_pos, -getElem?_neg, -List.length_eq_zero_iff, -List.getElem_cons_drop, q, s_rtu_told_O0])) rfl
structure Fm where
  u : Int
  p : List Int
def fmE (x : Fm) (t : Tag) : DV := .agg [I .u8 x.u, LV 1 (I .u8) x.p t]
structure FmOk (x : Fm) : Prop where
  u : 0 ≤ x.u ∧ x.u < 256
  p : Bytes x.p
  l : x.p.length ≤ 1000
theorem FmOk.all {x : Fm} (h : FmOk x) : Bytes (x.u :: x.p) := by
  intro y hy
  rcases List.mem_cons.mp hy with rfl | hy
  · exact h.u
  · exact h.p y hy
def bytV (x : Fm) : DV := if x.p.length < 1 then .tup [.list 0 [] .sh, I .i64 3] else if 253 < x.p.length then .tup [.list 0 [] .sh, I .i64 4] else .tup [LV 1 (I .u8) (putI (x.u :: x.p)) .sh, I .i64 0]
theorem nen_tr (x y : Operand) (a e : Int) : binD Try.prog .neq 70 x y (trV a e) (.flat .nilIface) = some (Bo true) := by kernel_rfl
theorem nen_nil (k : Nat) : binD Try.prog .neq 70 (.tmp k) (.const .nilIface) (.flat .nilIface) (.flat .nilIface) = some (Bo false) := by kernel_rfl
theorem buildL_34 : buildL false 1 2 (I .i64 0) [(0, I .i64 3), (1, I .i64 4)] = some (LV 1 (I .i64) [3, 4] .ti) := rfl
theorem buildL_u1 (a : Int) : buildL false 1 1 (I .u8 0) [(0, I .u8 a)] = some (LV 1 (I .u8) [a] .ti) := rfl
theorem rtu_Bytes_c (n : Nat) (x : Fm) (t : Tag) (ok : FmOk x) (hn : 1100 ≤ n) : cP n 10 false [fmE x t] = some (bytV x) := by
  obtain ⟨n, rfl⟩ : ∃ m, n = m + 1 := ⟨n - 1, by omega⟩
  obtain ⟨u, p⟩ := x
  have hl := ok.l
  have hb := ok.all
  simp only at hl hb
  have go : ∀ r r', (∃ H', s_rtu_Bytes n [] 0 (fmE ⟨u, p⟩ .sh) = some (r, H')) → (∀ H', outD false H' r = some r') → bytV ⟨u, p⟩ = r' → cP (n + 1) 10 false [fmE ⟨u, p⟩ t] = some (bytV ⟨u, p⟩) := by
    intro r r' ⟨H', h⟩ h2 h3
    rw [h3]
    exact cP_of (args' := [fmE ⟨u, p⟩ .sh]) (by simp [argEl_eq, fmE]) ((s_rtu_Bytes_eq _ _ _ _).trans h) (h2 H')
  have hw := fun H => within_c n H p.length 1 253 (by omega)
  have ht3 := fun H => told_c n H p.length 3 .ti (by omega) (.inl rfl)
  have ht4 := fun H => told_c n H p.length 4 .ti (by omega) (.inr rfl)
  have h34 := buildL_34
  unfold wiV at hw
  by_cases c1 : p.length < 1
  · rw [if_pos (by omega)] at hw
    refine go (.tup [.list 0 [] .ti, I .i64 3]) (.tup [.list 0 [] .sh, I .i64 3]) ?_ (fun H' => by simp <;> rfl) (by unfold bytV; rw [if_pos c1])
    exact ⟨_, by unfold s_rtu_Bytes fmE; simp -implicitDefEqProofs (disch := first | omega | (simp only [List.length_set, List.length_append, List.length_cons, List.length_nil, List.length_take, List.length_drop, List.length_map]; omega) | simp) [wrap_i64, wrap_u16_id, wrap_u8_id, tdiv_pos, tmod_pos, -getElem?_pos, -getElem?_neg, -List.length_eq_zero_iff, -List.getElem_cons_drop, hw, nen_tr, h34, ht3]; rfl⟩
  by_cases c2 : 253 < p.length
  · rw [if_neg (by omega), if_pos (by omega)] at hw
    refine go (.tup [.list 0 [] .ti, I .i64 4]) (.tup [.list 0 [] .sh, I .i64 4]) ?_ (fun H' => by simp <;> rfl) (by unfold bytV; rw [if_neg c1, if_pos c2])
    exact ⟨_, by unfold s_rtu_Bytes fmE; simp -implicitDefEqProofs (disch := first | omega | (simp only [List.length_set, List.length_append, List.length_cons, List.length_nil, List.length_take, List.length_drop, List.length_map]; omega) | simp) [wrap_i64, wrap_u16_id, wrap_u8_id, tdiv_pos, tmod_pos, -getElem?_pos, -getElem?_neg, -List.length_eq_zero_iff, -List.getElem_cons_drop, hw, nen_tr, h34, ht4]; rfl⟩
  · rw [if_neg (by omega), if_neg (by omega)] at hw
    have hP := crc_Put_c n (u :: p)
    have h1 := buildL_u1 u
    obtain ⟨t2, H', ha, _⟩ := appG_all (e := 5) (ag := false) (sz := 1) (by_ := 1) (n0 := 1) (enc := I .u8) (xs := [u]) (ys := p) (t := .ti) (t' := .sh) (H := [.cells 24 [I .u8 u, LV 1 (I .u8) p .sh]]) (fl := 0) (by omega) (by simp) (.inl rfl) rfl (by simp; omega) (by simp; omega)
    rw [List.cons_append, List.nil_append] at ha
    have hP := crc_Put_c n (u :: p) t2 hb (by simp; omega) (by simp; omega)
    refine go (.tup [LV 1 (I .u8) (putI (u :: p)) .sh, I .i64 0]) (.tup [LV 1 (I .u8) (putI (u :: p)) .sh, I .i64 0]) ?_ (fun H' => by simp) (by unfold bytV; rw [if_neg c1, if_neg c2])
    exact ⟨_, by unfold s_rtu_Bytes fmE; simp -implicitDefEqProofs (disch := first | omega | (simp only [List.length_set, List.length_append, List.length_cons, List.length_nil, List.length_take, List.length_drop, List.length_map]; omega) | simp) [wrap_i64, wrap_u16_id, wrap_u8_id, tdiv_pos, tmod_pos, -getElem?_pos, -getElem?_neg, -List.length_eq_zero_iff, -List.getElem_cons_drop, hw, nen_nil, h1, ha, hP]; rfl⟩
theorem ref03_Bytes_c (n : Nat) (x : Fm) (t : Tag) (ok : FmOk x) (hn : 1100 ≤ n) : cP n 11 false [fmE x t] = some (bytV x) := by
  obtain ⟨n, rfl⟩ : ∃ m, n = m + 1 := ⟨n - 1, by omega⟩
  obtain ⟨u, p⟩ := x
  have hl := ok.l
  have hb := ok.all
  simp only at hl hb
  have go : ∀ r r', (∃ H', s_triuneref03_Bytes n [] 0 (fmE ⟨u, p⟩ .sh) = some (r, H')) → (∀ H', outD false H' r = some r') → bytV ⟨u, p⟩ = r' → cP (n + 1) 11 false [fmE ⟨u, p⟩ t] = some (bytV ⟨u, p⟩) := by
    intro r r' ⟨H', h⟩ h2 h3
    rw [h3]
    exact cP_of (args' := [fmE ⟨u, p⟩ .sh]) (by simp [argEl_eq, fmE]) ((s_triuneref03_Bytes_eq _ _ _ _).trans h) (h2 H')
  by_cases c1 : p.length < 1
  · have c0 : p.length = 0 := by omega
    refine go (.tup [.list 0 [] .ti, I .i64 3]) (.tup [.list 0 [] .sh, I .i64 3]) ?_ (fun H' => by simp <;> rfl) (by unfold bytV; rw [if_pos c1])
    exact ⟨_, by unfold s_triuneref03_Bytes fmE; simp -implicitDefEqProofs (disch := first | omega | (simp only [List.length_set, List.length_append, List.length_cons, List.length_nil, List.length_take, List.length_drop, List.length_map]; omega) | simp) [wrap_i64, wrap_u16_id, wrap_u8_id, tdiv_pos, tmod_pos, -getElem?_pos, -getElem?_neg, -List.length_eq_zero_iff, -List.getElem_cons_drop, c0]; rfl⟩
  by_cases c2 : 253 < p.length
  · refine go (.tup [.list 0 [] .ti, I .i64 4]) (.tup [.list 0 [] .sh, I .i64 4]) ?_ (fun H' => by simp <;> rfl) (by unfold bytV; rw [if_neg c1, if_pos c2])
    exact ⟨_, by unfold s_triuneref03_Bytes fmE; simp -implicitDefEqProofs (disch := first | omega | (simp only [List.length_set, List.length_append, List.length_cons, List.length_nil, List.length_take, List.length_drop, List.length_map]; omega) | simp) [wrap_i64, wrap_u16_id, wrap_u8_id, tdiv_pos, tmod_pos, -getElem?_pos, -getElem?_neg, -List.length_eq_zero_iff, -List.getElem_cons_drop, c2]; rfl⟩
  · have h1 := buildL_u1 u
    obtain ⟨t2, H', ha, _⟩ := appG_all (e := 5) (ag := false) (sz := 1) (by_ := 1) (n0 := 1) (enc := I .u8) (xs := [u]) (ys := p) (t := .ti) (t' := .sh) (H := [.cells 30 [I .u8 u, LV 1 (I .u8) p .sh]]) (fl := 0) (by omega) (by simp) (.inl rfl) rfl (by simp; omega) (by simp; omega)
    rw [List.cons_append, List.nil_append] at ha
    have hP := ref01_Put_c n (u :: p) t2 hb (by simp; omega) (by simp; omega)
    refine go (.tup [LV 1 (I .u8) (putI (u :: p)) .sh, I .i64 0]) (.tup [LV 1 (I .u8) (putI (u :: p)) .sh, I .i64 0]) ?_ (fun H' => by simp) (by unfold bytV; rw [if_neg c1, if_neg c2])
    exact ⟨_, by unfold s_triuneref03_Bytes fmE; simp -implicitDefEqProofs (disch := first | omega | (simp only [List.length_set, List.length_append, List.length_cons, List.length_nil, List.length_take, List.length_drop, List.length_map]; omega) | simp) [wrap_i64, wrap_u16_id, wrap_u8_id, tdiv_pos, tmod_pos, -getElem?_pos, -getElem?_neg, -List.length_eq_zero_iff, -List.getElem_cons_drop, h1, ha, hP]; rfl⟩
def rdV (b : List Int) : Fm × Int := if b.length < 4 then (⟨0, []⟩, 3) else if 256 < b.length then (⟨0, []⟩, 4) else if sumN b ≠ 0 then (⟨0, []⟩, 6) else (⟨b.headD 0, (b.take (b.length - 2)).drop 1⟩, 0)
theorem rtu_Read_c (n : Nat) (b : List Int) (t : Tag) (hb : Bytes b) (hl : b.length ≤ 1000) (hn : 1100 ≤ n) : cP n 12 false [LV 1 (I .u8) b t] = some (.tup [fmE (rdV b).1 .sh, I .i64 (rdV b).2]) := by
  obtain ⟨n, rfl⟩ : ∃ m, n = m + 1 := ⟨n - 1, by omega⟩
  have go : ∀ r f e, (∃ H', s_rtu_Read n [] 0 (LV 1 (I .u8) b .sh) = some (r, H')) → rdV b = (f, e) → (∀ H', outD false H' r = some (.tup [fmE f .sh, I .i64 e])) → cP (n + 1) 12 false [LV 1 (I .u8) b t] = some (.tup [fmE (rdV b).1 .sh, I .i64 (rdV b).2]) := by
    intro r f e ⟨H', h⟩ h3 h2
    rw [h3]
    exact cP_of (args' := [LV 1 (I .u8) b .sh]) (by simp [argEl_eq]) ((s_rtu_Read_eq _ _ _ _).trans h) (h2 H')
  have hw := fun H => within_c n H b.length 4 256 (by omega)
  have ht3 := fun H => told_c n H b.length 3 .ti (by omega) (.inl rfl)
  have ht4 := fun H => told_c n H b.length 4 .ti (by omega) (.inr rfl)
  have h34 := buildL_34
  unfold wiV at hw
  by_cases c1 : b.length < 4
  · rw [if_pos (by omega)] at hw
    refine go (.tup [.agg [I .u8 0, .list 0 [] .ti], I .i64 3]) _ _ ?_ (by unfold rdV; rw [if_pos c1]) (fun H' => by simp [fmE] <;> rfl)
    exact ⟨_, by unfold s_rtu_Read; simp -implicitDefEqProofs (disch := first | omega | (simp only [List.length_set, List.length_append, List.length_cons, List.length_nil, List.length_take, List.length_drop, List.length_map]; omega) | simp) [wrap_i64, wrap_u16_id, wrap_u8_id, tdiv_pos, tmod_pos, -getElem?_pos, -getElem?_neg, -List.length_eq_zero_iff, -List.getElem_cons_drop, hw, nen_tr, h34, ht3]; rfl⟩
  by_cases c2 : 256 < b.length
  · rw [if_neg (by omega), if_pos (by omega)] at hw
    refine go (.tup [.agg [I .u8 0, .list 0 [] .ti], I .i64 4]) _ _ ?_ (by unfold rdV; rw [if_neg c1, if_pos c2]) (fun H' => by simp [fmE] <;> rfl)
    exact ⟨_, by unfold s_rtu_Read; simp -implicitDefEqProofs (disch := first | omega | (simp only [List.length_set, List.length_append, List.length_cons, List.length_nil, List.length_take, List.length_drop, List.length_map]; omega) | simp) [wrap_i64, wrap_u16_id, wrap_u8_id, tdiv_pos, tmod_pos, -getElem?_pos, -getElem?_neg, -List.length_eq_zero_iff, -List.getElem_cons_drop, hw, nen_tr, h34, ht4]; rfl⟩
  rw [if_neg (by omega), if_neg (by omega)] at hw
  by_cases c3 : sumN b = 0
  · have hC := crc_Cut_c n b .sh hb (by omega) (by omega) (by omega) c3
    have hL : (b.take (b.length - 2)).length = b.length - 2 := by simp
    have hg : ∀ h : 0 < (b.take (b.length - 2)).length, (b.take (b.length - 2))[0] = b.headD 0 := fun h => by
      cases b with
      | nil => simp at c1
      | cons x b => rw [List.getElem_take]; rfl
    refine go (.tup [.agg [I .u8 (b.headD 0), LV 1 (I .u8) ((b.take (b.length - 2)).drop 1) .sh], I .i64 0]) _ _ ?_ (by unfold rdV; rw [if_neg c1, if_neg c2, if_neg (by simpa using c3)]) (fun H' => by simp [fmE])
    generalize b.take (b.length - 2) = f at *
    exact ⟨_, by unfold s_rtu_Read; simp -implicitDefEqProofs (disch := first | omega | (simp only [List.length_set, List.length_append, List.length_cons, List.length_nil, List.length_take, List.length_drop, List.length_map]; omega) | simp) [wrap_i64, wrap_u16_id, wrap_u8_id, tdiv_pos, tmod_pos, -getElem?_pos, -getElem?_neg, -List.length_eq_zero_iff, -List.getElem_cons_drop, hw, nen_nil, hC, hL, hg]; rfl⟩
  · have hC := crc_Cut_no n b .sh hb (by omega) (by omega) (.inr c3)
    refine go (.tup [.agg [I .u8 0, .list 0 [] .ti], I .i64 6]) _ _ ?_ (by unfold rdV; rw [if_neg c1, if_neg c2, if_pos c3]) (fun H' => by simp [fmE] <;> rfl)
    exact ⟨_, by unfold s_rtu_Read; simp -implicitDefEqProofs (disch := first | omega | (simp only [List.length_set, List.length_append, List.length_cons, List.length_nil, List.length_take, List.length_drop, List.length_map]; omega) | simp) [wrap_i64, wrap_u16_id, wrap_u8_id, tdiv_pos, tmod_pos, -getElem?_pos, -getElem?_neg, -List.length_eq_zero_iff, -List.getElem_cons_drop, hw, nen_nil, hC]; rfl⟩
theorem ref03_Read_c (n : Nat) (b : List Int) (t : Tag) (hb : Bytes b) (hl : b.length ≤ 1000) (hn : 1100 ≤ n) : cP n 13 false [LV 1 (I .u8) b t] = some (.tup [fmE (rdV b).1 .sh, I .i64 (rdV b).2]) := by
  obtain ⟨n, rfl⟩ : ∃ m, n = m + 1 := ⟨n - 1, by omega⟩
  have go : ∀ r f e, (∃ H', s_triuneref03_Read n [] 0 (LV 1 (I .u8) b .sh) = some (r, H')) → rdV b = (f, e) → (∀ H', outD false H' r = some (.tup [fmE f .sh, I .i64 e])) → cP (n + 1) 13 false [LV 1 (I .u8) b t] = some (.tup [fmE (rdV b).1 .sh, I .i64 (rdV b).2]) := by
    intro r f e ⟨H', h⟩ h3 h2
    rw [h3]
    exact cP_of (args' := [LV 1 (I .u8) b .sh]) (by simp [argEl_eq]) ((s_triuneref03_Read_eq _ _ _ _).trans h) (h2 H')
  by_cases c1 : b.length < 4
  · refine go (.tup [.agg [I .u8 0, .list 0 [] .ti], I .i64 3]) _ _ ?_ (by unfold rdV; rw [if_pos c1]) (fun H' => by simp [fmE] <;> rfl)
    exact ⟨_, by unfold s_triuneref03_Read; simp -implicitDefEqProofs (disch := first | omega | (simp only [List.length_set, List.length_append, List.length_cons, List.length_nil, List.length_take, List.length_drop, List.length_map]; omega) | simp) [wrap_i64, wrap_u16_id, wrap_u8_id, tdiv_pos, tmod_pos, -getElem?_pos, -getElem?_neg, -List.length_eq_zero_iff, -List.getElem_cons_drop, c1]; rfl⟩
  by_cases c2 : 256 < b.length
  · refine go (.tup [.agg [I .u8 0, .list 0 [] .ti], I .i64 4]) _ _ ?_ (by unfold rdV; rw [if_neg c1, if_pos c2]) (fun H' => by simp [fmE] <;> rfl)
    exact ⟨_, by unfold s_triuneref03_Read; simp -implicitDefEqProofs (disch := first | omega | (simp only [List.length_set, List.length_append, List.length_cons, List.length_nil, List.length_take, List.length_drop, List.length_map]; omega) | simp) [wrap_i64, wrap_u16_id, wrap_u8_id, tdiv_pos, tmod_pos, -getElem?_pos, -getElem?_neg, -List.length_eq_zero_iff, -List.getElem_cons_drop, c1, c2]; rfl⟩
  by_cases c3 : sumN b = 0
  · have hC := ref01_Cut_c n b .sh hb (by omega) (by omega) (by omega) c3
    have hL : (b.take (b.length - 2)).length = b.length - 2 := by simp
    have hg : ∀ h : 0 < (b.take (b.length - 2)).length, (b.take (b.length - 2))[0] = b.headD 0 := fun h => by
      cases b with
      | nil => simp at c1
      | cons x b => rw [List.getElem_take]; rfl
    refine go (.tup [.agg [I .u8 (b.headD 0), LV 1 (I .u8) ((b.take (b.length - 2)).drop 1) .sh], I .i64 0]) _ _ ?_ (by unfold rdV; rw [if_neg c1, if_neg c2, if_neg (by simpa using c3)]) (fun H' => by simp [fmE])
    generalize b.take (b.length - 2) = f at *
    exact ⟨_, by unfold s_triuneref03_Read; simp -implicitDefEqProofs (disch := first | omega | (simp only [List.length_set, List.length_append, List.length_cons, List.length_nil, List.length_take, List.length_drop, List.length_map]; omega) | simp) [wrap_i64, wrap_u16_id, wrap_u8_id, tdiv_pos, tmod_pos, -getElem?_pos, -getElem?_neg, -List.length_eq_zero_iff, -List.getElem_cons_drop, c1, c2, hC, hL, hg]; rfl⟩
  · have hC := ref01_Cut_no n b .sh hb (by omega) (by omega) (.inr c3)
    refine go (.tup [.agg [I .u8 0, .list 0 [] .ti], I .i64 6]) _ _ ?_ (by unfold rdV; rw [if_neg c1, if_neg c2, if_pos c3]) (fun H' => by simp [fmE] <;> rfl)
    exact ⟨_, by unfold s_triuneref03_Read; simp -implicitDefEqProofs (disch := first | omega | (simp only [List.length_set, List.length_append, List.length_cons, List.length_nil, List.length_take, List.length_drop, List.length_map]; omega) | simp) [wrap_i64, wrap_u16_id, wrap_u8_id, tdiv_pos, tmod_pos, -getElem?_pos, -getElem?_neg, -List.length_eq_zero_iff, -List.getElem_cons_drop, c1, c2, hC]; rfl⟩
theorem rtu_Same_c (n : Nat) (x y : Fm) (t t' : Tag) (ok : FmOk x) (oky : FmOk y) (hn : 1100 ≤ n) : cP n 16 false [fmE x t, fmE y t'] = some (Bo (decide (x.u = y.u) && decide (x.p = y.p))) := by
  obtain ⟨n, rfl⟩ : ∃ m, n = m + 1 := ⟨n - 1, by omega⟩
  obtain ⟨u, p⟩ := x
  obtain ⟨v, q⟩ := y
  have hl := ok.l
  simp only at hl ⊢
  by_cases c : u = v
  · have hE := bytes_Equal_c n p q .sh .sh ok.p oky.p (by omega)
    exact cP_of (r := Bo (decide (p = q))) (args' := [fmE ⟨u, p⟩ .sh, fmE ⟨v, q⟩ .sh]) (by simp [argEl_eq, fmE]) ((s_rtu_Same_eq _ _ _ _ _).trans (by unfold s_rtu_Same fmE; simp -implicitDefEqProofs (disch := first | omega | (simp only [List.length_set, List.length_append, List.length_cons, List.length_nil, List.length_take, List.length_drop, List.length_map]; omega) | simp) [wrap_i64, wrap_u16_id, wrap_u8_id, tdiv_pos, tmod_pos, -getElem?_pos, -getElem?_neg, -List.length_eq_zero_iff, -List.getElem_cons_drop, c, hE]; first | exact rfl | exact ⟨rfl, rfl⟩)) (by simp [c])
  · exact cP_of (r := Bo false) (args' := [fmE ⟨u, p⟩ .sh, fmE ⟨v, q⟩ .sh]) (by simp [argEl_eq, fmE]) ((s_rtu_Same_eq _ _ _ _ _).trans (by unfold s_rtu_Same fmE; simp -implicitDefEqProofs (disch := first | omega | (simp only [List.length_set, List.length_append, List.length_cons, List.length_nil, List.length_take, List.length_drop, List.length_map]; omega) | simp) [wrap_i64, wrap_u16_id, wrap_u8_id, tdiv_pos, tmod_pos, -getElem?_pos, -getElem?_neg, -List.length_eq_zero_iff, -List.getElem_cons_drop, c]; first | exact rfl | exact ⟨rfl, rfl⟩)) (by simp [c])
theorem ref03_Same_c (n : Nat) (x y : Fm) (t t' : Tag) (ok : FmOk x) (hn : 1100 ≤ n) : cP n 15 false [fmE x t, fmE y t'] = some (Bo (decide (x.u = y.u) && decide (x.p = y.p))) := by
  obtain ⟨n, rfl⟩ : ∃ m, n = m + 1 := ⟨n - 1, by omega⟩
  obtain ⟨u, p⟩ := x
  obtain ⟨v, q⟩ := y
  have hl := ok.l
  simp only at hl ⊢
  by_cases c : u = v
  · have hE := ref01_Same_c n p q .sh .sh (by omega) (by omega)
    exact cP_of (r := Bo (decide (p = q))) (args' := [fmE ⟨u, p⟩ .sh, fmE ⟨v, q⟩ .sh]) (by simp [argEl_eq, fmE]) ((s_triuneref03_Same_eq _ _ _ _ _).trans (by unfold s_triuneref03_Same fmE; simp -implicitDefEqProofs (disch := first | omega | (simp only [List.length_set, List.length_append, List.length_cons, List.length_nil, List.length_take, List.length_drop, List.length_map]; omega) | simp) [wrap_i64, wrap_u16_id, wrap_u8_id, tdiv_pos, tmod_pos, -getElem?_pos, -getElem?_neg, -List.length_eq_zero_iff, -List.getElem_cons_drop, c, hE]; first | exact rfl | exact ⟨rfl, rfl⟩)) (by simp [c])
  · exact cP_of (r := Bo false) (args' := [fmE ⟨u, p⟩ .sh, fmE ⟨v, q⟩ .sh]) (by simp [argEl_eq, fmE]) ((s_triuneref03_Same_eq _ _ _ _ _).trans (by unfold s_triuneref03_Same fmE; simp -implicitDefEqProofs (disch := first | omega | (simp only [List.length_set, List.length_append, List.length_cons, List.length_nil, List.length_take, List.length_drop, List.length_map]; omega) | simp) [wrap_i64, wrap_u16_id, wrap_u8_id, tdiv_pos, tmod_pos, -getElem?_pos, -getElem?_neg, -List.length_eq_zero_iff, -List.getElem_cons_drop, c]; first | exact rfl | exact ⟨rfl, rfl⟩)) (by simp [c])
end Go.Proofs.Ytbmjflieedadkaa
