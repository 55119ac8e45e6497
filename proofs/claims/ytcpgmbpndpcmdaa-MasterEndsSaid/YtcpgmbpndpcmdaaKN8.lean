/- Texts of mine, laid together: GRtu, GRtuL, FRef07, GRef07, FAnsS, GAnsS, GAw07, GAnsL, GMas, GMas2, GMas3, GMas4, GMas5, GMasL, FRef7D, FRef7G, FRef7R, GRef7R, GRef7S, GRef7G, GRef7H, FRef7T, GRef7T, GRef7D, GMasE, Pfuel, GAw08, LMasterEnds, EndsW, EndsR. -/
import Derived.Test.YtcpgmbpndpcmdaaKN7
import Derived.Deep.RegionHeld3
import Derived.Deep.RegionWith
namespace Go.Proofs.Ytcpgmbpndpcmdaa
open Go
set_option linter.unusedSimpArgs false
set_option linter.unusedVariables false
@[simp] theorem cells_iface (t : TypeId) (d : DV) : (DV.iface t d).cells = [.iface t d] := rfl
@[simp] theorem leaf_iface (t : TypeId) (d : DV) : (DV.iface t d).leaf = true := rfl
def trV (n e : Int) : DV := .iface 95 (.agg [I .i64 n, .iface 32 (I .i64 e)])
theorem is_c (n : Nat) (H : Heap) (fl : Nat) (a e x : Int) : callG Try.prog ENV (n + 1) 48 [trV a e, .iface 32 (I .i64 x)] H fl = some (Bo (e == x), H) := by kernel_rfl
theorem Is_c (n : Nat) (H : Heap) (a e x : Int) (hn : 1 ≤ n) : cO n 48 [trV a e, .iface 32 (I .i64 x)] H = some (Bo (e == x)) := by
  obtain ⟨n, rfl⟩ : ∃ m, n = m + 1 := ⟨n - 1, by omega⟩
  exact cO_of (is_c n H _ a e x) rfl
def wiV (n lo hi : Int) : DV := if n < lo then trV n 3 else if hi < n then trV n 4 else .flat .nilIface
theorem old_tr (n : Nat) (H : Heap) (a e : Int) : oldD n H (trV a e) = some (trV a e) := rfl
theorem within_c (n : Nat) (H : Heap) (a lo hi : Int) (hn : 1 ≤ n) : cO n 26 [I .i64 a, I .i64 lo, I .i64 hi] H = some (wiV a lo hi) := by
  obtain ⟨n, rfl⟩ : ∃ m, n = m + 1 := ⟨n - 1, by omega⟩
  unfold wiV
  by_cases c1 : a < lo
  · rw [if_pos c1]
    exact cO_of (H' := H) (r := trV a 3) ((s_rtu_within_eq _ _ _ _ _ _).trans (by unfold s_rtu_within; simp -implicitDefEqProofs (disch := first | omega | (simp only [List.length_set, List.length_append, List.length_cons, List.length_nil, List.length_take, List.length_drop, List.length_map]; omega) | simp) [wrap_i64, wrap_u16_id, wrap_u8_id, tdiv_pos, tmod_pos, -getElem?_pos, -getElem?_neg, -List.length_eq_zero_iff, -List.getElem_cons_drop, c1, trV])) (old_tr _ _ _ _)
  · rw [if_neg c1]
    by_cases c2 : hi < a
    · rw [if_pos c2]
      exact cO_of (H' := H) (r := trV a 4) ((s_rtu_within_eq _ _ _ _ _ _).trans (by unfold s_rtu_within; simp -implicitDefEqProofs (disch := first | omega | (simp only [List.length_set, List.length_append, List.length_cons, List.length_nil, List.length_take, List.length_drop, List.length_map]; omega) | simp) [wrap_i64, wrap_u16_id, wrap_u8_id, tdiv_pos, tmod_pos, -getElem?_pos, -getElem?_neg, -List.length_eq_zero_iff, -List.getElem_cons_drop, c1, c2, trV])) (old_tr _ _ _ _)
    · rw [if_neg c2]
      exact cO_of (H' := H) (r := .flat .nilIface) ((s_rtu_within_eq _ _ _ _ _ _).trans (by unfold s_rtu_within; simp -implicitDefEqProofs (disch := first | omega | (simp only [List.length_set, List.length_append, List.length_cons, List.length_nil, List.length_take, List.length_drop, List.length_map]; omega) | simp) [wrap_i64, wrap_u16_id, wrap_u8_id, tdiv_pos, tmod_pos, -getElem?_pos, -getElem?_neg, -List.length_eq_zero_iff, -List.getElem_cons_drop, c1, c2])) rfl
theorem told_c (n : Nat) (H : Heap) (a e : Int) (t : Tag) (hn : 5 ≤ n) (he : e = 3 ∨ e = 4) : cO n 27 [trV a e, LV 1 (I .i64) [3, 4] t] H = some (I .i64 e) := by
  obtain ⟨n, rfl⟩ : ∃ m, n = m + 4 := ⟨n - 4, by omega⟩
  have i3 := Is_c (n + 3) H a e 3 (by omega)
  have i4 := Is_c (n + 3) H a e 4 (by omega)
  have q : ∀ K, loopG [0, 7, 8, 9] [4] 19 (s_rtu_told_b0 (n + 3) H.length) (n + 3) (s_rtu_told_I0 (trV a e) (LV 1 (I .i64) [3, 4] t) (I .i64 2) (I .i64 0)) H K = K .ret (s_rtu_told_O0 (I .i64 e)) H := by
    intro K
    rw [s_rtu_told_L0_eq]
    rcases he with rfl | rfl
    · have e1 : ((3 : Int) == 3) = true := by decide
      rw [e1] at i3
      simp -implicitDefEqProofs (disch := first | omega | (simp only [List.length_set, List.length_append, List.length_cons, List.length_nil, List.length_take, List.length_drop, List.length_map]; omega) | simp) [wrap_i64, wrap_u16_id, wrap_u8_id, tdiv_pos, tmod_pos, -getElem?_pos, -getElem?_neg, -List.length_eq_zero_iff, -List.getElem_cons_drop, s_rtu_told_L0, s_rtu_told_B0, i3]
    · have e1 : ((4 : Int) == 3) = false := by decide
      have e2 : ((4 : Int) == 4) = true := by decide
      rw [e1] at i3
      rw [e2] at i4
      simp -implicitDefEqProofs (disch := first | omega | (simp only [List.length_set, List.length_append, List.length_cons, List.length_nil, List.length_take, List.length_drop, List.length_map]; omega) | simp) [wrap_i64, wrap_u16_id, wrap_u8_id, tdiv_pos, tmod_pos, -getElem?_pos, -getElem?_neg, -List.length_eq_zero_iff, -List.getElem_cons_drop, s_rtu_told_L0, s_rtu_told_B0, i3, i4]
  exact cO_of (H' := H) (r := I .i64 e) ((s_rtu_told_eq _ _ _ _ _).trans (by unfold s_rtu_told; simp -implicitDefEqProofs (disch := first | omega | (simp only [List.length_set, List.length_append, List.length_cons, List.length_nil, List.length_take, List.length_drop, List.length_map]; omega) | simp) [wrap_i64, wrap_u16_id, wrap_u8_id, tdiv_pos, tmod_pos, -getElem?_pos, -getElem?_neg, -List.length_eq_zero_iff, -List.getElem_cons_drop, q, s_rtu_told_O0])) rfl
structure Fm where
  u : Int
  p : List Int
def fmE (x : Fm) (t : Tag) : DV := .agg [I .u8 x.u, LV 1 (I .u8) x.p t]
structure FmOk (x : Fm) : Prop where
  u : 0 ≤ x.u ∧ x.u < 256
  p : Bytes x.p
  l : x.p.length ≤ 1000
theorem FmOk.all {x : Fm} (h : FmOk x) : Bytes (x.u :: x.p) := by
  intro y hy
  rcases List.mem_cons.mp hy with rfl | hy
  · exact h.u
  · exact h.p y hy
def bytV (x : Fm) : DV := if x.p.length < 1 then .tup [.list 0 [] .sh, I .i64 3] else if 253 < x.p.length then .tup [.list 0 [] .sh, I .i64 4] else .tup [LV 1 (I .u8) (putI (x.u :: x.p)) .sh, I .i64 0]
theorem nen_tr (x y : Operand) (a e : Int) : binD Try.prog .neq 70 x y (trV a e) (.flat .nilIface) = some (Bo true) := by kernel_rfl
theorem nen_nil (k : Nat) : binD Try.prog .neq 70 (.tmp k) (.const .nilIface) (.flat .nilIface) (.flat .nilIface) = some (Bo false) := by kernel_rfl
theorem buildL_34 : buildL false 1 2 (I .i64 0) [(0, I .i64 3), (1, I .i64 4)] = some (LV 1 (I .i64) [3, 4] .ti) := rfl
theorem buildL_u1 (a : Int) : buildL false 1 1 (I .u8 0) [(0, I .u8 a)] = some (LV 1 (I .u8) [a] .ti) := rfl
theorem rtu_Bytes_c (n : Nat) (x : Fm) (t : Tag) (ok : FmOk x) (hn : 1100 ≤ n) : cP n 11 false [fmE x t] = some (bytV x) := by
  obtain ⟨n, rfl⟩ : ∃ m, n = m + 1 := ⟨n - 1, by omega⟩
  obtain ⟨u, p⟩ := x
  have hl := ok.l
  have hb := ok.all
  simp only at hl hb
  have go : ∀ r r', (∃ H', s_rtu_Bytes n [] 0 (fmE ⟨u, p⟩ .sh) = some (r, H')) → (∀ H', outD false H' r = some r') → bytV ⟨u, p⟩ = r' → cP (n + 1) 11 false [fmE ⟨u, p⟩ t] = some (bytV ⟨u, p⟩) := by
    intro r r' ⟨H', h⟩ h2 h3
    rw [h3]
    exact cP_of (args' := [fmE ⟨u, p⟩ .sh]) (by simp [argEl_eq, fmE]) ((s_rtu_Bytes_eq _ _ _ _).trans h) (h2 H')
  have hw := fun H => within_c n H p.length 1 253 (by omega)
  have ht3 := fun H => told_c n H p.length 3 .ti (by omega) (.inl rfl)
  have ht4 := fun H => told_c n H p.length 4 .ti (by omega) (.inr rfl)
  have h34 := buildL_34
  unfold wiV at hw
  by_cases c1 : p.length < 1
  · rw [if_pos (by omega)] at hw
    refine go (.tup [.list 0 [] .ti, I .i64 3]) (.tup [.list 0 [] .sh, I .i64 3]) ?_ (fun H' => by simp <;> rfl) (by unfold bytV; rw [if_pos c1])
    exact ⟨_, by unfold s_rtu_Bytes fmE; simp -implicitDefEqProofs (disch := first | omega | (simp only [List.length_set, List.length_append, List.length_cons, List.length_nil, List.length_take, List.length_drop, List.length_map]; omega) | simp) [wrap_i64, wrap_u16_id, wrap_u8_id, tdiv_pos, tmod_pos, -getElem?_pos, -getElem?_neg, -List.length_eq_zero_iff, -List.getElem_cons_drop, hw, nen_tr, h34, ht3]; rfl⟩
  by_cases c2 : 253 < p.length
  · rw [if_neg (by omega), if_pos (by omega)] at hw
    refine go (.tup [.list 0 [] .ti, I .i64 4]) (.tup [.list 0 [] .sh, I .i64 4]) ?_ (fun H' => by simp <;> rfl) (by unfold bytV; rw [if_neg c1, if_pos c2])
    exact ⟨_, by unfold s_rtu_Bytes fmE; simp -implicitDefEqProofs (disch := first | omega | (simp only [List.length_set, List.length_append, List.length_cons, List.length_nil, List.length_take, List.length_drop, List.length_map]; omega) | simp) [wrap_i64, wrap_u16_id, wrap_u8_id, tdiv_pos, tmod_pos, -getElem?_pos, -getElem?_neg, -List.length_eq_zero_iff, -List.getElem_cons_drop, hw, nen_tr, h34, ht4]; rfl⟩
  · rw [if_neg (by omega), if_neg (by omega)] at hw
    have hP := crc_Put_c n (u :: p)
    have h1 := buildL_u1 u
    obtain ⟨t2, H', ha, _⟩ := appG_all (e := 5) (ag := false) (sz := 1) (by_ := 1) (n0 := 1) (enc := I .u8) (xs := [u]) (ys := p) (t := .ti) (t' := .sh) (H := [.cells 44 [I .u8 u, LV 1 (I .u8) p .sh]]) (fl := 0) (by omega) (by simp) (.inl rfl) rfl (by simp; omega) (by simp; omega)
    rw [List.cons_append, List.nil_append] at ha
    have hP := crc_Put_c n (u :: p) t2 hb (by simp; omega) (by simp; omega)
    refine go (.tup [LV 1 (I .u8) (putI (u :: p)) .sh, I .i64 0]) (.tup [LV 1 (I .u8) (putI (u :: p)) .sh, I .i64 0]) ?_ (fun H' => by simp) (by unfold bytV; rw [if_neg c1, if_neg c2])
    exact ⟨_, by unfold s_rtu_Bytes fmE; simp -implicitDefEqProofs (disch := first | omega | (simp only [List.length_set, List.length_append, List.length_cons, List.length_nil, List.length_take, List.length_drop, List.length_map]; omega) | simp) [wrap_i64, wrap_u16_id, wrap_u8_id, tdiv_pos, tmod_pos, -getElem?_pos, -getElem?_neg, -List.length_eq_zero_iff, -List.getElem_cons_drop, hw, nen_nil, h1, ha, hP]; rfl⟩
def rdV (b : List Int) : Fm × Int := if b.length < 4 then (⟨0, []⟩, 3) else if 256 < b.length then (⟨0, []⟩, 4) else if sumN b ≠ 0 then (⟨0, []⟩, 6) else (⟨b.headD 0, (b.take (b.length - 2)).drop 1⟩, 0)
theorem rtu_Read_c (n : Nat) (b : List Int) (t : Tag) (hb : Bytes b) (hl : b.length ≤ 1000) (hn : 1100 ≤ n) : cP n 74 false [LV 1 (I .u8) b t] = some (.tup [fmE (rdV b).1 .sh, I .i64 (rdV b).2]) := by
  obtain ⟨n, rfl⟩ : ∃ m, n = m + 1 := ⟨n - 1, by omega⟩
  have go : ∀ r f e, (∃ H', s_rtu_Read n [] 0 (LV 1 (I .u8) b .sh) = some (r, H')) → rdV b = (f, e) → (∀ H', outD false H' r = some (.tup [fmE f .sh, I .i64 e])) → cP (n + 1) 74 false [LV 1 (I .u8) b t] = some (.tup [fmE (rdV b).1 .sh, I .i64 (rdV b).2]) := by
    intro r f e ⟨H', h⟩ h3 h2
    rw [h3]
    exact cP_of (args' := [LV 1 (I .u8) b .sh]) (by simp [argEl_eq]) ((s_rtu_Read_eq _ _ _ _).trans h) (h2 H')
  have hw := fun H => within_c n H b.length 4 256 (by omega)
  have ht3 := fun H => told_c n H b.length 3 .ti (by omega) (.inl rfl)
  have ht4 := fun H => told_c n H b.length 4 .ti (by omega) (.inr rfl)
  have h34 := buildL_34
  unfold wiV at hw
  by_cases c1 : b.length < 4
  · rw [if_pos (by omega)] at hw
    refine go (.tup [.agg [I .u8 0, .list 0 [] .ti], I .i64 3]) _ _ ?_ (by unfold rdV; rw [if_pos c1]) (fun H' => by simp [fmE] <;> rfl)
    exact ⟨_, by unfold s_rtu_Read; simp -implicitDefEqProofs (disch := first | omega | (simp only [List.length_set, List.length_append, List.length_cons, List.length_nil, List.length_take, List.length_drop, List.length_map]; omega) | simp) [wrap_i64, wrap_u16_id, wrap_u8_id, tdiv_pos, tmod_pos, -getElem?_pos, -getElem?_neg, -List.length_eq_zero_iff, -List.getElem_cons_drop, hw, nen_tr, h34, ht3]; rfl⟩
  by_cases c2 : 256 < b.length
  · rw [if_neg (by omega), if_pos (by omega)] at hw
    refine go (.tup [.agg [I .u8 0, .list 0 [] .ti], I .i64 4]) _ _ ?_ (by unfold rdV; rw [if_neg c1, if_pos c2]) (fun H' => by simp [fmE] <;> rfl)
    exact ⟨_, by unfold s_rtu_Read; simp -implicitDefEqProofs (disch := first | omega | (simp only [List.length_set, List.length_append, List.length_cons, List.length_nil, List.length_take, List.length_drop, List.length_map]; omega) | simp) [wrap_i64, wrap_u16_id, wrap_u8_id, tdiv_pos, tmod_pos, -getElem?_pos, -getElem?_neg, -List.length_eq_zero_iff, -List.getElem_cons_drop, hw, nen_tr, h34, ht4]; rfl⟩
  rw [if_neg (by omega), if_neg (by omega)] at hw
  by_cases c3 : sumN b = 0
  · have hC := crc_Cut_c n b .sh hb (by omega) (by omega) (by omega) c3
    have hL : (b.take (b.length - 2)).length = b.length - 2 := by simp
    have hg : ∀ h : 0 < (b.take (b.length - 2)).length, (b.take (b.length - 2))[0] = b.headD 0 := fun h => by
      cases b with
      | nil => simp at c1
      | cons x b => rw [List.getElem_take]; rfl
    refine go (.tup [.agg [I .u8 (b.headD 0), LV 1 (I .u8) ((b.take (b.length - 2)).drop 1) .sh], I .i64 0]) _ _ ?_ (by unfold rdV; rw [if_neg c1, if_neg c2, if_neg (by simpa using c3)]) (fun H' => by simp [fmE])
    generalize b.take (b.length - 2) = f at *
    exact ⟨_, by unfold s_rtu_Read; simp -implicitDefEqProofs (disch := first | omega | (simp only [List.length_set, List.length_append, List.length_cons, List.length_nil, List.length_take, List.length_drop, List.length_map]; omega) | simp) [wrap_i64, wrap_u16_id, wrap_u8_id, tdiv_pos, tmod_pos, -getElem?_pos, -getElem?_neg, -List.length_eq_zero_iff, -List.getElem_cons_drop, hw, nen_nil, hC, hL, hg]; rfl⟩
  · have hC := crc_Cut_no n b .sh hb (by omega) (by omega) (.inr c3)
    refine go (.tup [.agg [I .u8 0, .list 0 [] .ti], I .i64 6]) _ _ ?_ (by unfold rdV; rw [if_neg c1, if_neg c2, if_pos c3]) (fun H' => by simp [fmE] <;> rfl)
    exact ⟨_, by unfold s_rtu_Read; simp -implicitDefEqProofs (disch := first | omega | (simp only [List.length_set, List.length_append, List.length_cons, List.length_nil, List.length_take, List.length_drop, List.length_map]; omega) | simp) [wrap_i64, wrap_u16_id, wrap_u8_id, tdiv_pos, tmod_pos, -getElem?_pos, -getElem?_neg, -List.length_eq_zero_iff, -List.getElem_cons_drop, hw, nen_nil, hC]; rfl⟩
end Go.Proofs.Ytcpgmbpndpcmdaa
namespace Go.Proofs.Ytcpgmbpndpcmdaa
open Go
set_option linter.unusedSimpArgs false
set_option linter.unusedVariables false
theorem bytesOf {l : List Int} (h : ∀ a ∈ l, (Lit.int .u8 a).wf = true) : Bytes l := fun x hx => wf_u8 (h x hx)
theorem rdV_ok (b : List Int) (hb : Bytes b) : FmOk (rdV b).1 := by
  have z : FmOk ⟨0, []⟩ := ⟨by simp, fun x hx => by simp at hx, by simp⟩
  unfold rdV
  split
  · exact z
  split
  · exact z
  split
  · exact z
  · rename_i h1 h2 h3
    cases b with
    | nil => simp at h1
    | cons x b =>
      refine ⟨hb x (by simp), fun y hy => hb y (List.mem_of_mem_take (List.mem_of_mem_drop hy)), ?_⟩
      simp only [List.length_drop, List.length_take]
      omega
end Go.Proofs.Ytcpgmbpndpcmdaa
namespace Go.Proofs.Ytcpgmbpndpcmdaa
open Go
set_option maxRecDepth 100000
set_option linter.unusedVariables false
end Go.Proofs.Ytcpgmbpndpcmdaa
namespace Go.Proofs.Ytcpgmbpndpcmdaa
open Go
set_option linter.unusedSimpArgs false
set_option linter.unusedVariables false
def longI : Int → List ByteArray → Int
  | n, [] => n
  | n, s :: r => if n < 1000 then longI (n + 2 + (s.size : Int)) r else n
def anLarge (x : An) : Bool := decide (3000 < x.bits.length) || decide (300 < x.words.length) || decide (300 < x.texts.length) || decide (900 < longI 7 x.texts)
theorem longI_ge : ∀ (l : List ByteArray) (n : Int), n ≤ longI n l
  | [], n => by simp [longI]
  | s :: l, n => by
    unfold longI
    split
    · have := longI_ge l (n + 2 + (s.size : Int))
      omega
    · exact Int.le_refl _
end Go.Proofs.Ytcpgmbpndpcmdaa
namespace Go.Proofs.Ytcpgmbpndpcmdaa
open Go
set_option maxRecDepth 100000
set_option linter.unusedVariables false
end Go.Proofs.Ytcpgmbpndpcmdaa
namespace Go.Proofs.Ytcpgmbpndpcmdaa
open Go
set_option linter.unusedSimpArgs false
set_option linter.unusedVariables false
set_option maxRecDepth 100000
theorem str_eq (a b : ByteArray) : (a.toList == b.toList) = decide (a = b) := by
  rw [Bool.eq_iff_iff]
  simp only [beq_iff_eq, decide_eq_true_eq]
  constructor
  · intro h
    rw [ByteArray.toList_eq, ByteArray.toList_eq] at h
    cases a; cases b
    simpa using h
  · rintro rfl; rfl
@[simp] theorem neS_Sg (a b : ByteArray) : neS (Sg a) (Sg b) = some (Bo (!decide (a = b))) := by
  show some (DV.flat (.bool (!(a.toList == b.toList)))) = _
  rw [str_eq]
end Go.Proofs.Ytcpgmbpndpcmdaa
namespace Go.Proofs.Ytcpgmbpndpcmdaa
open Go
set_option linter.unusedSimpArgs false
set_option linter.unusedVariables false
end Go.Proofs.Ytcpgmbpndpcmdaa
namespace Go.Proofs.Ytcpgmbpndpcmdaa
open Go
set_option linter.unusedSimpArgs false
set_option linter.unusedVariables false
structure AnTy (x : An) : Prop where
  w : Words x.words
  c : -9223372036854775808 ≤ x.exc ∧ x.exc < 9223372036854775808
  s : ∀ s ∈ x.texts, s.size ≤ 281474976710656
theorem long_size : ∀ (l : List ByteArray) (n : Int), 0 ≤ n → n ≤ 900 → longI n l ≤ 900 → ∀ s ∈ l, s.size ≤ 900
  | [], _, _, _, _ => by simp
  | s :: l, n, h0, h1, h => by
    unfold longI at h
    rw [if_pos (by omega)] at h
    have hg := longI_ge l (n + 2 + (s.size : Int))
    intro t ht
    rcases List.mem_cons.1 ht with rfl | ht
    · omega
    · exact long_size l _ (by omega) (by omega) h t ht
theorem large_open {x : An} (h : anLarge x = false) : x.bits.length ≤ 3000 ∧ x.words.length ≤ 300 ∧ x.texts.length ≤ 300 ∧ longI 7 x.texts ≤ 900 := by
  unfold anLarge at h
  simp only [Bool.or_eq_false_iff, decide_eq_false_iff_not] at h
  omega
theorem AnTy.ok {x : An} (h : AnTy x) (hl : anLarge x = false) : AnOk x := by
  obtain ⟨h1, h2, h3, h4⟩ := large_open hl
  exact ⟨h.w, fun s hs => Nat.le_trans (long_size x.texts 7 (by omega) (by omega) h4 s hs) (by decide), by omega⟩
theorem read_back (a : Rq) (b : List Int) (h : (ansReadV a b).2 = 0) : ansV a (ansReadV a b).1 = true ∧ ansTextV a (ansReadV a b).1 = b := by
  unfold ansReadV at h ⊢
  split
  · rename_i hr
    rw [if_pos hr] at h
    split
    · rename_i hc; exact hc
    · rename_i hc
      rw [if_neg hc] at h
      exact absurd h (by decide)
  · rename_i hr
    rw [if_neg hr] at h
    exact absurd h (by decide)
theorem guess_words (a : Rq) (b : List Int) : Words (guessA a b).words := by
  unfold guessA
  split
  · intro x hx; cases hx
  split
  · intro x hx; cases hx
  split
  · exact wdI_words _
  split
  · intro x hx; cases hx
  · intro x hx; cases hx
theorem read_words (a : Rq) (b : List Int) : Words (ansReadV a b).1.words := by
  unfold ansReadV
  split
  · split
    · exact guess_words a b
    · intro x hx; cases hx
  · intro x hx; cases hx
end Go.Proofs.Ytcpgmbpndpcmdaa
namespace Go.Proofs.Ytcpgmbpndpcmdaa
open Go
set_option linter.unusedSimpArgs false
set_option linter.unusedVariables false
set_option maxRecDepth 100000
structure Mst where
  u : Int
  g : Int
  wt : Int
  tr : Int
  st : Int
  q : Int
  f : Int
  n : Int
  a : Rq
  came : List Int
def Mst.C (m : Mst) (t1 t2 t3 : Tag) : List DV := [I .u8 m.u, I .i64 m.g, I .i64 m.wt, I .i64 m.tr, I .i64 m.st, I .i64 m.q, I .i64 m.f, I .i64 m.n, I .i64 m.a.code, I .i64 m.a.addr, I .i64 m.a.cnt, I .i64 m.a.to_, LV 1 (I .u16) m.a.words t1, LV 1 Bo m.a.bits t2, I .u16 m.a.and_, I .u16 m.a.or_, LV 1 (I .u8) m.came t3]
def Mst.B (m : Mst) (t1 t2 t3 : Tag) : DBlk := .cells 62 (m.C t1 t2 t3)
def outE (k : Int) (x : An) (t1 t2 t3 : Tag) : DV := .agg [I .i64 k, I .i64 x.exc, LV 1 Bo x.bits t1, LV 1 (I .u16) x.words t2, LV 1 Sg x.texts t3]
def cfgE (u g wt tr : Int) : DV := .agg [I .u8 u, I .i64 g, I .i64 wt, I .i64 tr]
def CfgP (u g wt tr : Int) : Prop := (1 ≤ u ∧ u ≤ 247) ∧ (1 ≤ g ∧ g ≤ 20) ∧ (1 ≤ wt ∧ wt ≤ 1000) ∧ (1 ≤ tr ∧ tr ≤ 5)
instance (u g wt tr : Int) : Decidable (CfgP u g wt tr) := by unfold CfgP; infer_instance
theorem mWithin_c (n : Nat) (hn : 1 ≤ n) (x y : Int) : cP2 n 20 false [I .i64 x, I .i64 y] = some (Bo (decide (1 ≤ x ∧ x ≤ y))) := by
  obtain ⟨n, rfl⟩ : ∃ m, n = m + 1 := ⟨n - 1, by omega⟩
  refine cP2_of (H' := []) (args' := [I .i64 x, I .i64 y]) (r := Bo (decide (1 ≤ x ∧ x ≤ y))) (by simp [argEl_eq]; first | done | rfl) ((s_master_within_eq _ _ _ _ _).trans ?_) (by simp)
  unfold s_master_within
  by_cases c1 : 1 ≤ x
  · by_cases c2 : x ≤ y
    · simp -implicitDefEqProofs (disch := first | omega | (simp only [List.length_set, List.length_append, List.length_cons, List.length_nil, List.length_take, List.length_drop, List.length_map]; omega) | simp) [wrap_i64, wrap_u16_id, wrap_u8_id, tdiv_pos, tmod_pos, -getElem?_pos, -getElem?_neg, -List.length_eq_zero_iff, -List.getElem_cons_drop, c1, c2]
    · simp -implicitDefEqProofs (disch := first | omega | (simp only [List.length_set, List.length_append, List.length_cons, List.length_nil, List.length_take, List.length_drop, List.length_map]; omega) | simp) [wrap_i64, wrap_u16_id, wrap_u8_id, tdiv_pos, tmod_pos, -getElem?_pos, -getElem?_neg, -List.length_eq_zero_iff, -List.getElem_cons_drop, c1, c2]
  · simp -implicitDefEqProofs (disch := first | omega | (simp only [List.length_set, List.length_append, List.length_cons, List.length_nil, List.length_take, List.length_drop, List.length_map]; omega) | simp) [wrap_i64, wrap_u16_id, wrap_u8_id, tdiv_pos, tmod_pos, -getElem?_pos, -getElem?_neg, -List.length_eq_zero_iff, -List.getElem_cons_drop, c1]
theorem mRight_c (n : Nat) (hn : 2 ≤ n) (u g wt tr : Int) : cP2 n 7 false [cfgE u g wt tr] = some (Bo (decide (CfgP u g wt tr))) := by
  obtain ⟨n, rfl⟩ : ∃ m, n = m + 1 := ⟨n - 1, by omega⟩
  have w1 := mWithin_c n (by omega) g 20
  have w2 := mWithin_c n (by omega) wt 1000
  have w3 := mWithin_c n (by omega) tr 5
  have go : ∀ b, decide (CfgP u g wt tr) = b → (∃ H', s_master_Right n [] 0 (cfgE u g wt tr) = some (Bo b, H')) → cP2 (n + 1) 7 false [cfgE u g wt tr] = some (Bo (decide (CfgP u g wt tr))) := by
    intro b h1 ⟨H', h⟩
    rw [h1]
    exact cP2_of (args' := [cfgE u g wt tr]) (r := Bo b) (by simp [cfgE, argEl_eq]) ((s_master_Right_eq _ _ _ _).trans h) (by simp)
  unfold CfgP at go ⊢
  unfold s_master_Right cfgE at *
  by_cases c1 : 1 ≤ u
  · by_cases c2 : u ≤ 247
    · by_cases c3 : 1 ≤ g ∧ g ≤ 20
      · rw [decide_eq_true c3] at w1
        by_cases c4 : 1 ≤ wt ∧ wt ≤ 1000
        · rw [decide_eq_true c4] at w2
          by_cases c5 : 1 ≤ tr ∧ tr ≤ 5
          · rw [decide_eq_true c5] at w3
            exact go true (decide_eq_true ⟨⟨c1, c2⟩, c3, c4, c5⟩) ⟨_, by simp -implicitDefEqProofs (disch := first | omega | (simp only [List.length_set, List.length_append, List.length_cons, List.length_nil, List.length_take, List.length_drop, List.length_map]; omega) | simp) [wrap_i64, wrap_u16_id, wrap_u8_id, tdiv_pos, tmod_pos, -getElem?_pos, -getElem?_neg, -List.length_eq_zero_iff, -List.getElem_cons_drop, c1, c2, w1, w2, w3]; rfl⟩
          · rw [decide_eq_false c5] at w3
            exact go false (decide_eq_false fun h => c5 h.2.2.2) ⟨_, by simp -implicitDefEqProofs (disch := first | omega | (simp only [List.length_set, List.length_append, List.length_cons, List.length_nil, List.length_take, List.length_drop, List.length_map]; omega) | simp) [wrap_i64, wrap_u16_id, wrap_u8_id, tdiv_pos, tmod_pos, -getElem?_pos, -getElem?_neg, -List.length_eq_zero_iff, -List.getElem_cons_drop, c1, c2, w1, w2, w3]; rfl⟩
        · rw [decide_eq_false c4] at w2
          exact go false (decide_eq_false fun h => c4 h.2.2.1) ⟨_, by simp -implicitDefEqProofs (disch := first | omega | (simp only [List.length_set, List.length_append, List.length_cons, List.length_nil, List.length_take, List.length_drop, List.length_map]; omega) | simp) [wrap_i64, wrap_u16_id, wrap_u8_id, tdiv_pos, tmod_pos, -getElem?_pos, -getElem?_neg, -List.length_eq_zero_iff, -List.getElem_cons_drop, c1, c2, w1, w2]; rfl⟩
      · rw [decide_eq_false c3] at w1
        exact go false (decide_eq_false fun h => c3 h.2.1) ⟨_, by simp -implicitDefEqProofs (disch := first | omega | (simp only [List.length_set, List.length_append, List.length_cons, List.length_nil, List.length_take, List.length_drop, List.length_map]; omega) | simp) [wrap_i64, wrap_u16_id, wrap_u8_id, tdiv_pos, tmod_pos, -getElem?_pos, -getElem?_neg, -List.length_eq_zero_iff, -List.getElem_cons_drop, c1, c2, w1]; rfl⟩
    · exact go false (decide_eq_false fun h => c2 h.1.2) ⟨_, by simp -implicitDefEqProofs (disch := first | omega | (simp only [List.length_set, List.length_append, List.length_cons, List.length_nil, List.length_take, List.length_drop, List.length_map]; omega) | simp) [wrap_i64, wrap_u16_id, wrap_u8_id, tdiv_pos, tmod_pos, -getElem?_pos, -getElem?_neg, -List.length_eq_zero_iff, -List.getElem_cons_drop, c1, c2]; rfl⟩
  · exact go false (decide_eq_false fun h => c1 h.1.1) ⟨_, by simp -implicitDefEqProofs (disch := first | omega | (simp only [List.length_set, List.length_append, List.length_cons, List.length_nil, List.length_take, List.length_drop, List.length_map]; omega) | simp) [wrap_i64, wrap_u16_id, wrap_u8_id, tdiv_pos, tmod_pos, -getElem?_pos, -getElem?_neg, -List.length_eq_zero_iff, -List.getElem_cons_drop, c1]; rfl⟩
def cfgB (u g wt tr : Int) : DBlk := .cells 23 [I .u8 u, I .i64 g, I .i64 wt, I .i64 tr]
def mst0 (u g wt tr : Int) : Mst := ⟨u, g, wt, tr, 0, g, 0, 0, ⟨0, 0, 0, 0, [], [], 0, 0⟩, []⟩
theorem mNew_yes (n : Nat) (hn : 3 ≤ n) (u g wt tr : Int) (H : Heap) (fl : Nat) (hfl : fl ≤ H.length) (h : CfgP u g wt tr) :
    cK2 n 6 [cfgE u g wt tr] H fl = some (.tup [.ptr (H.length + 1) 0, I .i64 0], H ++ [cfgB u g wt tr, (mst0 u g wt tr).B .ti .ti .ti]) := by
  obtain ⟨n, rfl⟩ : ∃ m, n = m + 1 := ⟨n - 1, by omega⟩
  have e1 := mRight_c n (by omega) u g wt tr
  rw [decide_eq_true h] at e1
  unfold cK2
  refine (s_master_New_eq _ _ _ _).trans ?_
  unfold s_master_New cfgB mst0 Mst.B Mst.C
  unfold cfgE at *
  simp -implicitDefEqProofs (disch := first | omega | (simp only [List.length_set, List.length_append, List.length_cons, List.length_nil, List.length_take, List.length_drop, List.length_map]; omega) | simp) [wrap_i64, wrap_u16_id, wrap_u8_id, tdiv_pos, tmod_pos, -getElem?_pos, -getElem?_neg, -List.length_eq_zero_iff, -List.getElem_cons_drop, e1]
  all_goals (repeat' (first | rfl | apply And.intro))
theorem mNew_no (n : Nat) (hn : 3 ≤ n) (u g wt tr : Int) (H : Heap) (fl : Nat) (hfl : fl ≤ H.length) (h : ¬ CfgP u g wt tr) :
    cK2 n 6 [cfgE u g wt tr] H fl = some (.tup [.flat (.pointer none), I .i64 1], H ++ [cfgB u g wt tr]) := by
  obtain ⟨n, rfl⟩ : ∃ m, n = m + 1 := ⟨n - 1, by omega⟩
  have e1 := mRight_c n (by omega) u g wt tr
  rw [decide_eq_false h] at e1
  unfold cK2
  refine (s_master_New_eq _ _ _ _).trans ?_
  unfold s_master_New cfgB
  unfold cfgE at *
  simp -implicitDefEqProofs (disch := first | omega | (simp only [List.length_set, List.length_append, List.length_cons, List.length_nil, List.length_take, List.length_drop, List.length_map]; omega) | simp) [wrap_i64, wrap_u16_id, wrap_u8_id, tdiv_pos, tmod_pos, -getElem?_pos, -getElem?_neg, -List.length_eq_zero_iff, -List.getElem_cons_drop, e1]
theorem mBusy_c (n k : Nat) (hn : 1 ≤ n) (H : Heap) (m : Mst) (t1 t2 t3 : Tag) (hk : H[k]? = some (m.B t1 t2 t3)) : cO2 n 15 [.ptr k 0] H = some (Bo (decide (m.st ≠ 0))) := by
  obtain ⟨n, rfl⟩ : ∃ m, n = m + 1 := ⟨n - 1, by omega⟩
  have hkl := hp_lt hk
  unfold Mst.B Mst.C at hk
  refine cO2_of (H' := H) (r := Bo (decide (m.st ≠ 0))) ((s___master_Master__Busy_eq _ _ _ _).trans ?_) (by simp)
  unfold s___master_Master__Busy
  simp -implicitDefEqProofs (disch := first | omega | (simp only [List.length_set, List.length_append, List.length_cons, List.length_nil, List.length_take, List.length_drop, List.length_map]; omega) | simp) [wrap_i64, wrap_u16_id, wrap_u8_id, tdiv_pos, tmod_pos, -getElem?_pos, -getElem?_neg, -List.length_eq_zero_iff, -List.getElem_cons_drop, hk]
structure MTag (t1 t2 t3 : Tag) (len : Nat) (H : Heap) : Prop where
  a : okT t1
  b : okT t2
  c : TgOk t3 5 1 0 len H
theorem MTag.sc {t1 t2 t3 : Tag} {len : Nat} {H : Heap} (h : MTag t1 t2 t3 len H) (sz : Nat) {α : Type} (enc : α → DV) (l : List α) : inSc H.length (LV sz enc l t3) = true := by
  rcases h.c with rfl | ⟨k, rfl, hk, _⟩
  · simp
  · have := hp_lt hk
    cases l <;> simp [LV, mkl, inSc, this]
def Mst.turn (m : Mst) (st : Int) : Mst := { m with st := st, f := 0, came := [] }
theorem Mst.old {m : Mst} {t1 t2 t3 : Tag} {H X : Heap} (h1 : okT t1) (h2 : okT t2) (h3 : ∀ l : List Int, oldLeaf H.length X (LV 1 (I .u8) l t3) = some (LV 1 (I .u8) l t3)) : oldBlk H.length X (m.B t1 t2 t3) = some (m.B t1 t2 t3) := by
  unfold Mst.B Mst.C
  simp [oldLeaf_okT h1, oldLeaf_okT h2, h3]
theorem Mst.wf {m : Mst} {t1 t2 t3 : Tag} {n : Nat} (h1 : okT t1) (h2 : okT t2) (h3 : ∀ l : List Int, inSc n (LV 1 (I .u8) l t3) = true) : WfB n (m.B t1 t2 t3) := by
  unfold Mst.B Mst.C
  intro d hd
  simp only [List.mem_cons, List.not_mem_nil, or_false] at hd
  rcases hd with rfl | rfl | rfl | rfl | rfl | rfl | rfl | rfl | rfl | rfl | rfl | rfl | rfl | rfl | rfl | rfl | rfl <;> first | rfl | simp [inSc_okT h1, inSc_okT h2, h3]
theorem mTurn_c (n k fl : Nat) (hn : 1 ≤ n) (H : Heap) (m : Mst) (t1 t2 t3 : Tag) (st : Int) (hk : H[k]? = some (m.B t1 t2 t3)) (hw : WfH H) (hfl : fl ≤ k) (h1 : okT t1) (h2 : okT t2) :
    cW2 n 24 [.ptr k 0, I .i64 st] H fl = some (.tup [], H.set k ((m.turn st).B t1 t2 .ti)) := by
  obtain ⟨n, rfl⟩ : ∃ m, n = m + 1 := ⟨n - 1, by omega⟩
  have hkl := hp_lt hk
  refine cW2_of (r := .tup []) (H' := H.set k ((m.turn st).B t1 t2 .ti)) ((s___master_Master__turn_eq _ _ _ _ _).trans ?_) (by simp) (cutH_set hw (k := k) hkl (by simp [hkl]) (fun j hj hjk => by simp [hjk]) (Mst.old h1 h2 fun l => by simp))
  unfold Mst.B Mst.C Mst.turn at *
  unfold s___master_Master__turn
  simp -implicitDefEqProofs (disch := first | omega | (simp only [List.length_set, List.length_append, List.length_cons, List.length_nil, List.length_take, List.length_drop, List.length_map]; omega) | simp) [wrap_i64, wrap_u16_id, wrap_u8_id, tdiv_pos, tmod_pos, -getElem?_pos, -getElem?_neg, -List.length_eq_zero_iff, -List.getElem_cons_drop, hk, hkl]
  all_goals (repeat' (first | rfl | apply And.intro))
theorem mRest_c (n k : Nat) (hn : 1 ≤ n) (H : Heap) : cO2 n 29 [.ptr k 0] H = some (.tup [LV 1 (I .u8) [] .ti, outE 0 anZ .ti .ti .ti]) := by
  obtain ⟨n, rfl⟩ : ∃ m, n = m + 1 := ⟨n - 1, by omega⟩
  refine cO2_of (H' := H ++ [.cells 50 [I .i64 0, I .i64 0, .list 0 [] .ti, .list 0 [] .ti, .list 0 [] .ti]]) (r := .tup [LV 1 (I .u8) [] .ti, outE 0 anZ .ti .ti .ti]) ((s___master_Master__rest_eq _ _ _ _).trans ?_) (by simp [outE])
  unfold s___master_Master__rest outE anZ
  simp -implicitDefEqProofs (disch := first | omega | (simp only [List.length_set, List.length_append, List.length_cons, List.length_nil, List.length_take, List.length_drop, List.length_map]; omega) | simp) [wrap_i64, wrap_u16_id, wrap_u8_id, tdiv_pos, tmod_pos, -getElem?_pos, -getElem?_neg, -List.length_eq_zero_iff, -List.getElem_cons_drop]
  all_goals (repeat' (first | rfl | apply And.intro))
end Go.Proofs.Ytcpgmbpndpcmdaa
namespace Go.Proofs.Ytcpgmbpndpcmdaa
open Go
set_option linter.unusedSimpArgs false
set_option linter.unusedVariables false
set_option maxRecDepth 100000
def outZ : DBlk := .cells 50 [I .i64 0, I .i64 0, .list 0 [] .ti, .list 0 [] .ti, .list 0 [] .ti]
theorem WfH.out {H : Heap} (h : WfH H) : WfH (H ++ [outZ]) := h.app fun b hb => by
  simp only [List.mem_singleton] at hb
  subst hb
  intro d hd
  simp only [List.mem_cons, List.not_mem_nil, or_false] at hd
  rcases hd with rfl | rfl | rfl | rfl | rfl <;> rfl
theorem hp_set_same {H : Heap} {k : Nat} {b : DBlk} (h : H[k]? = some b) : H.set k b = H := by
  have hl := hp_lt h
  apply List.ext_getElem?
  intro j
  by_cases hj : j = k
  · subst hj; rw [hp_set_get _ _ _ hl, h]
  · rw [hp_set_ne _ _ _ _ hj]
def failedV (m : Mst) (kind : Int) : Int × Mst := if m.n < m.tr then (0, m.turn 1) else (kind, m.turn 0)
theorem mFailed_c (n k fl : Nat) (hn : 2 ≤ n) (H : Heap) (m : Mst) (t1 t2 t3 : Tag) (kind : Int) (hk : H[k]? = some (m.B t1 t2 t3)) (hw : WfH H) (hfl : fl ≤ k) (h1 : okT t1) (h2 : okT t2) :
    cW2 n 51 [.ptr k 0, I .i64 kind] H fl = some (outE (failedV m kind).1 anZ .ti .ti .ti, H.set k ((failedV m kind).2.B t1 t2 .ti)) := by
  obtain ⟨n, rfl⟩ : ∃ m, n = m + 1 := ⟨n - 1, by omega⟩
  have hkl := hp_lt hk
  have hT := fun st => mTurn_c n k fl (by omega) (H ++ [outZ]) m t1 t2 t3 st (by rw [hp_get_left _ _ _ hkl]; exact hk) hw.out hfl h1 h2
  simp only [hp_set_left _ _ _ _ hkl] at hT
  have key : ∀ (r : Int × Mst), failedV m kind = r → (∃ st, r.2 = m.turn st) → (∃ o, s___master_Master__failed n H fl (.ptr k 0) (I .i64 kind) = some (outE r.1 anZ .ti .ti .ti, H.set k (r.2.B t1 t2 .ti) ++ [o])) →
      cW2 (n + 1) 51 [.ptr k 0, I .i64 kind] H fl = some (outE (failedV m kind).1 anZ .ti .ti .ti, H.set k ((failedV m kind).2.B t1 t2 .ti)) := by
    intro r e1 e2 ⟨o, h⟩
    rw [e1]
    exact cW2_of ((s___master_Master__failed_eq _ _ _ _ _).trans h) (by simp [outE]) (cutH_set hw (k := k) hkl (by simp [hkl]) (fun j hj hjk => by rw [hp_get_left _ _ _ (by simpa using hj), hp_set_ne _ _ _ _ hjk]) (Mst.old h1 h2 fun l => by simp))
  unfold s___master_Master__failed at key
  unfold failedV at key ⊢
  unfold Mst.B Mst.C at hk
  unfold outZ at hT
  by_cases c : m.n < m.tr
  · have hT := hT 1
    exact key _ (if_pos c) ⟨1, rfl⟩ ⟨_, by simp -implicitDefEqProofs (disch := first | omega | (simp only [List.length_set, List.length_append, List.length_cons, List.length_nil, List.length_take, List.length_drop, List.length_map]; omega) | simp) [wrap_i64, wrap_u16_id, wrap_u8_id, tdiv_pos, tmod_pos, -getElem?_pos, -getElem?_neg, -List.length_eq_zero_iff, -List.getElem_cons_drop, hk, hkl, c, hT, outE, anZ]; all_goals (repeat' (first | rfl | apply And.intro))⟩
  · have hT := hT 0
    exact key _ (if_neg c) ⟨0, rfl⟩ ⟨_, by simp -implicitDefEqProofs (disch := first | omega | (simp only [List.length_set, List.length_append, List.length_cons, List.length_nil, List.length_take, List.length_drop, List.length_map]; omega) | simp) [wrap_i64, wrap_u16_id, wrap_u8_id, tdiv_pos, tmod_pos, -getElem?_pos, -getElem?_neg, -List.length_eq_zero_iff, -List.getElem_cons_drop, hk, hkl, c, hT, outE, anZ]; all_goals (repeat' (first | rfl | apply And.intro))⟩
def frameV (m : Mst) : List Int := putI (m.u :: textV m.a)
def sendV (m : Mst) : List Int × Mst := if m.q < m.g ∧ m.f < m.wt then ([], m) else (frameV m, { m.turn 2 with q := 0, n := m.n + 1 })
def KeepT (t3 t3' : Tag) (m r : Mst) : Prop := t3' = .ti ∧ r.came = [] ∨ t3' = t3 ∧ r.came = m.came
theorem text_few (a : Rq) (h : FormedP a) (ho : RqOk a) : 1 ≤ (textV a).length ∧ (textV a).length ≤ 253 := by
  refine ⟨?_, text_most a h⟩
  have := (text_back a h ho).2.2.2
  cases hq : textV a with
  | nil => exact absurd hq this
  | cons x l => simp
theorem mSend_c (n k fl : Nat) (hn : 1300 ≤ n) (H : Heap) (m : Mst) (t1 t2 t3 : Tag) (hk : H[k]? = some (m.B t1 t2 t3)) (hw : WfH H) (hfl : fl ≤ k) (ht : MTag t1 t2 t3 m.came.length H)
    (ha : RightP m.a) (oa : RqOk m.a) (hu : 0 ≤ m.u ∧ m.u < 256) (hnn : 0 ≤ m.n ∧ m.n < 1000000) :
    ∃ tb t3', KeepT t3 t3' m (sendV m).2 ∧ okT tb ∧ cW2 n 30 [.ptr k 0] H fl = some (.tup [LV 1 (I .u8) (sendV m).1 tb, outE 0 anZ .ti .ti .ti], H.set k ((sendV m).2.B t1 t2 t3')) := by
  obtain ⟨n, rfl⟩ : ∃ m, n = m + 1 := ⟨n - 1, by omega⟩
  have hkl := hp_lt hk
  have h1 := ht.a
  have h2 := ht.b
  have hold3 : ∀ (X : Heap) (l : List Int), oldLeaf H.length X (LV 1 (I .u8) l t3) = some (LV 1 (I .u8) l t3) := by
    intro X l
    have h3 := ht.sc 1 (I .u8) l
    unfold oldLeaf
    rw [LV_leaf, h3]
    rfl
  by_cases c : m.q < m.g ∧ m.f < m.wt
  · refine ⟨.ti, t3, .inr ⟨rfl, by unfold sendV; rw [if_pos c]⟩, .inr rfl, ?_⟩
    unfold sendV
    rw [if_pos c]
    have hR := mRest_c n k (by omega) (H ++ [outZ])
    refine cW2_of (r := .tup [LV 1 (I .u8) [] .ti, outE 0 anZ .ti .ti .ti]) (H' := H ++ [outZ]) ((s___master_Master__send_eq _ _ _ _).trans ?_) (by simp [outE]) (cutH_set hw (k := k) (b := m.B t1 t2 t3) hkl (by rw [hp_get_left _ _ _ hkl]; exact hk) (fun j hj hjk => by rw [hp_get_left _ _ _ hj]) (Mst.old h1 h2 (hold3 _)))
    obtain ⟨c1, c2⟩ := c
    unfold Mst.B Mst.C at hk
    unfold s___master_Master__send
    unfold outE anZ outZ at *
    simp -implicitDefEqProofs (disch := first | omega | (simp only [List.length_set, List.length_append, List.length_cons, List.length_nil, List.length_take, List.length_drop, List.length_map]; omega) | simp) [wrap_i64, wrap_u16_id, wrap_u8_id, tdiv_pos, tmod_pos, -getElem?_pos, -getElem?_neg, -List.length_eq_zero_iff, -List.getElem_cons_drop, hk, hkl, c1, c2, hR]
    all_goals (repeat' (first | rfl | apply And.intro))
  · obtain ⟨l1, l2⟩ := text_few m.a ha.1 oa
    have hT := mTurn_c n k fl (by omega) (H ++ [outZ]) m t1 t2 t3 2 (by rw [hp_get_left _ _ _ hkl]; exact hk) hw.out hfl h1 h2
    simp only [hp_set_left _ _ _ _ hkl] at hT
    have hA := cP_up (Bytes_c n (by omega) m.a oa t1 t2)
    rw [if_pos ha] at hA
    have hB := cP_up (rtu_Bytes_c n ⟨m.u, textV m.a⟩ .sh ⟨hu, text_bytes m.a, by show (textV m.a).length ≤ 1000; omega⟩ (by omega))
    unfold bytV at hB
    rw [if_neg (by show ¬ (textV m.a).length < 1; omega), if_neg (by show ¬ 253 < (textV m.a).length; omega)] at hB
    refine ⟨.sh, .ti, .inl ⟨rfl, by unfold sendV; rw [if_neg c]; rfl⟩, .inl rfl, ?_⟩
    unfold sendV
    rw [if_neg c]
    have key : (∃ o, s___master_Master__send n H fl (.ptr k 0) = some (.tup [LV 1 (I .u8) (frameV m) .sh, outE 0 anZ .ti .ti .ti], H.set k (Mst.B { m.turn 2 with q := 0, n := m.n + 1 } t1 t2 .ti) ++ [o])) →
        cW2 (n + 1) 30 [.ptr k 0] H fl = some (.tup [LV 1 (I .u8) (frameV m) .sh, outE 0 anZ .ti .ti .ti], H.set k (Mst.B { m.turn 2 with q := 0, n := m.n + 1 } t1 t2 .ti)) := by
      intro ⟨o, h⟩
      exact cW2_of ((s___master_Master__send_eq _ _ _ _).trans h) (by simp [outE]) (cutH_set hw (k := k) hkl (by simp [hkl]) (fun j hj hjk => by rw [hp_get_left _ _ _ (by simpa using hj), hp_set_ne _ _ _ _ hjk]) (Mst.old h1 h2 fun l => by simp))
    obtain ⟨n0, n1⟩ := hnn
    unfold s___master_Master__send frameV at key
    unfold frameV
    unfold Mst.B Mst.C Mst.turn at *
    unfold outE anZ outZ rqE fmE at *
    by_cases c1 : m.q < m.g
    · have c2 : ¬ m.f < m.wt := fun h => c ⟨c1, h⟩
      exact key ⟨_, by simp -implicitDefEqProofs (disch := first | omega | (simp only [List.length_set, List.length_append, List.length_cons, List.length_nil, List.length_take, List.length_drop, List.length_map]; omega) | simp) [wrap_i64, wrap_u16_id, wrap_u8_id, tdiv_pos, tmod_pos, -getElem?_pos, -getElem?_neg, -List.length_eq_zero_iff, -List.getElem_cons_drop, hk, hkl, c1, c2, hT, hA, hB, n0, n1]; all_goals (repeat' (first | rfl | apply And.intro))⟩
    · exact key ⟨_, by simp -implicitDefEqProofs (disch := first | omega | (simp only [List.length_set, List.length_append, List.length_cons, List.length_nil, List.length_take, List.length_drop, List.length_map]; omega) | simp) [wrap_i64, wrap_u16_id, wrap_u8_id, tdiv_pos, tmod_pos, -getElem?_pos, -getElem?_neg, -List.length_eq_zero_iff, -List.getElem_cons_drop, hk, hkl, c1, hT, hA, hB, n0, n1]; all_goals (repeat' (first | rfl | apply And.intro))⟩
def toldV (m : Mst) : An × Bool := if (rdV m.came).2 ≠ 0 ∨ (rdV m.came).1.u ≠ m.u then (anZ, false) else ((ansReadV m.a (rdV m.came).1.p).1, decide ((ansReadV m.a (rdV m.came).1.p).2 = 0))
theorem mTold_c (n k : Nat) (hn : 1300 ≤ n) (H : Heap) (m : Mst) (t1 t2 t3 : Tag) (hk : H[k]? = some (m.B t1 t2 t3)) (oa : RqOk m.a) (hb : Bytes m.came) (hl : m.came.length ≤ 1000) :
    ∃ s, okT s ∧ cO2 n 50 [.ptr k 0] H = some (.tup [anE (toldV m).1 s s s, Bo (toldV m).2]) := by
  obtain ⟨n, rfl⟩ : ∃ m, n = m + 1 := ⟨n - 1, by omega⟩
  have hkl := hp_lt hk
  have hR := cP_up (rtu_Read_c n m.came t3 hb hl (by omega))
  have ok := rdV_ok m.came hb
  have hA := Read_c n (by omega) m.a oa (rdV m.came).1.p ok.p t1 t2 .sh
  unfold toldV
  have key : ∀ (r : An × Bool) (s : Tag), (∃ H', s___master_Master__told n H H.length (.ptr k 0) = some (.tup [anE r.1 s s s, Bo r.2], H')) → okT s → cO2 (n + 1) 50 [.ptr k 0] H = some (.tup [anE r.1 s s s, Bo r.2]) := by
    intro r s ⟨H', h⟩ hs
    exact cO2_of ((s___master_Master__told_eq _ _ _ _).trans h) (by simp [anE, oldLeaf_okT hs])
  by_cases c1 : (rdV m.came).2 = 0
  · by_cases c2 : (rdV m.came).1.u = m.u
    · rw [if_neg (by simp [c1, c2])]
      unfold s___master_Master__told at key
      generalize (rdV m.came).2 = e at *
      generalize (rdV m.came).1 = x at *
      generalize (ansReadV m.a x.p).2 = e2 at *
      generalize (ansReadV m.a x.p).1 = y at *
      unfold Mst.B Mst.C rqE anE fmE at *
      exact ⟨.sh, .inl rfl, key (_, _) .sh ⟨_, by simp -implicitDefEqProofs (disch := first | omega | (simp only [List.length_set, List.length_append, List.length_cons, List.length_nil, List.length_take, List.length_drop, List.length_map]; omega) | simp) [wrap_i64, wrap_u16_id, wrap_u8_id, tdiv_pos, tmod_pos, -getElem?_pos, -getElem?_neg, -List.length_eq_zero_iff, -List.getElem_cons_drop, hk, hkl, c1, c2, hR, hA]; all_goals (repeat' (first | rfl | apply And.intro))⟩ (.inl rfl)⟩
    · rw [if_pos (.inr c2)]
      unfold s___master_Master__told at key
      generalize (rdV m.came).2 = e at *
      generalize (rdV m.came).1 = x at *
      unfold Mst.B Mst.C anE fmE anZ at *
      exact ⟨.ti, .inr rfl, key (_, _) .ti ⟨_, by simp -implicitDefEqProofs (disch := first | omega | (simp only [List.length_set, List.length_append, List.length_cons, List.length_nil, List.length_take, List.length_drop, List.length_map]; omega) | simp) [wrap_i64, wrap_u16_id, wrap_u8_id, tdiv_pos, tmod_pos, -getElem?_pos, -getElem?_neg, -List.length_eq_zero_iff, -List.getElem_cons_drop, hk, hkl, c1, c2, hR]; all_goals (repeat' (first | rfl | apply And.intro))⟩ (.inr rfl)⟩
  · rw [if_pos (.inl c1)]
    unfold s___master_Master__told at key
    generalize (rdV m.came).2 = e at *
    generalize (rdV m.came).1 = x at *
    unfold Mst.B Mst.C anE fmE anZ at *
    exact ⟨.ti, .inr rfl, key (_, _) .ti ⟨_, by simp -implicitDefEqProofs (disch := first | omega | (simp only [List.length_set, List.length_append, List.length_cons, List.length_nil, List.length_take, List.length_drop, List.length_map]; omega) | simp) [wrap_i64, wrap_u16_id, wrap_u8_id, tdiv_pos, tmod_pos, -getElem?_pos, -getElem?_neg, -List.length_eq_zero_iff, -List.getElem_cons_drop, hk, hkl, c1, hR]; all_goals (repeat' (first | rfl | apply And.intro))⟩ (.inr rfl)⟩
end Go.Proofs.Ytcpgmbpndpcmdaa
namespace Go.Proofs.Ytcpgmbpndpcmdaa
open Go
set_option linter.unusedSimpArgs false
set_option linter.unusedVariables false
set_option maxRecDepth 100000
set_option maxHeartbeats 1000000
def waitV (m : Mst) : Int × An × Mst :=
  if m.came ≠ [] ∧ m.g ≤ m.q then (if (toldV m).2 = true then (1, (toldV m).1, m.turn 0) else ((failedV m 3).1, anZ, (failedV m 3).2))
  else if m.came ≠ [] ∧ 2 * m.wt ≤ m.f then ((failedV m 3).1, anZ, (failedV m 3).2)
  else if m.came = [] ∧ m.wt ≤ m.f then ((failedV m 2).1, anZ, (failedV m 2).2)
  else (0, anZ, m)
theorem failed_turn (m : Mst) (kind : Int) : ∃ st, (failedV m kind).2 = m.turn st := by
  unfold failedV
  split
  · exact ⟨1, rfl⟩
  · exact ⟨0, rfl⟩
theorem MTag.old {t1 t2 t3 : Tag} {len : Nat} {H : Heap} (ht : MTag t1 t2 t3 len H) (X : Heap) (l : List Int) : oldLeaf H.length X (LV 1 (I .u8) l t3) = some (LV 1 (I .u8) l t3) := by
  have h3 := ht.sc 1 (I .u8) l
  unfold oldLeaf
  rw [LV_leaf, h3]
  rfl
theorem mWait_c (n k fl : Nat) (hn : 1400 ≤ n) (H : Heap) (m : Mst) (t1 t2 t3 : Tag) (hk : H[k]? = some (m.B t1 t2 t3)) (hw : WfH H) (hfl : fl ≤ k) (ht : MTag t1 t2 t3 m.came.length H)
    (oa : RqOk m.a) (hb : Bytes m.came) (hl : m.came.length ≤ 1000) (hwt : 0 ≤ m.wt ∧ m.wt ≤ 1000000) :
    ∃ tb t3', KeepT t3 t3' m (waitV m).2.2 ∧ okT tb ∧ cW2 n 31 [.ptr k 0] H fl = some (.tup [LV 1 (I .u8) [] .ti, outE (waitV m).1 (waitV m).2.1 tb tb tb], H.set k ((waitV m).2.2.B t1 t2 t3')) := by
  obtain ⟨n, rfl⟩ : ∃ m, n = m + 1 := ⟨n - 1, by omega⟩
  have hkl := hp_lt hk
  have h1 := ht.a
  have h2 := ht.b
  have h3 := ht.old
  obtain ⟨w0, w1⟩ := hwt
  have hF := fun kind => mFailed_c n k fl (by omega) (H ++ [outZ]) m t1 t2 t3 kind (by rw [hp_get_left _ _ _ hkl]; exact hk) hw.out hfl h1 h2
  have hT := mTurn_c n k fl (by omega) (H ++ [outZ]) m t1 t2 t3 0 (by rw [hp_get_left _ _ _ hkl]; exact hk) hw.out hfl h1 h2
  have hR := mRest_c n k (by omega) (H ++ [outZ])
  simp only [hp_set_left _ _ _ _ hkl] at hF hT
  have key : ∀ (r : Int × An × Mst) (tb t3' : Tag), (waitV m) = r → okT tb → (t3' = .ti ∧ r.2.2.came = [] ∨ t3' = t3 ∧ r.2.2.came = m.came) →
      (∃ X, s___master_Master__wait n H fl (.ptr k 0) = some (.tup [LV 1 (I .u8) [] .ti, outE r.1 r.2.1 tb tb tb], H.set k (r.2.2.B t1 t2 t3') ++ X)) →
      ∃ tb t3', KeepT t3 t3' m (waitV m).2.2 ∧ okT tb ∧ cW2 (n + 1) 31 [.ptr k 0] H fl = some (.tup [LV 1 (I .u8) [] .ti, outE (waitV m).1 (waitV m).2.1 tb tb tb], H.set k ((waitV m).2.2.B t1 t2 t3')) := by
    intro r tb t3' e1 htb hk3 ⟨X, h⟩
    rw [e1]
    refine ⟨tb, t3', hk3, htb, cW2_of ((s___master_Master__wait_eq _ _ _ _).trans h) (by simp [outE, oldLeaf_okT htb]) (cutH_set hw (k := k) hkl (by simp [hkl]) (fun j hj hjk => by rw [hp_get_left _ _ _ (by simpa using hj), hp_set_ne _ _ _ _ hjk]) (Mst.old h1 h2 fun l => ?_))⟩
    rcases hk3 with ⟨rfl, _⟩ | ⟨rfl, _⟩
    · simp
    · exact h3 _ l
  obtain ⟨ts, hts, hD⟩ := mTold_c n k (by omega) (H ++ [outZ, .hole]) m t1 t2 t3 (by rw [hp_get_left _ _ _ hkl]; exact hk) oa hb hl
  have fc : ∀ kind, (failedV m kind).2.came = [] := fun kind => by
    obtain ⟨st, e⟩ := failed_turn m kind
    rw [e]
    rfl
  unfold waitV at key ⊢
  unfold s___master_Master__wait at key
  generalize toldV m = tv at *
  obtain ⟨y, is⟩ := tv
  have hk0 := hk
  by_cases c0 : m.came = []
  · simp only [c0, ne_eq, not_true, false_and, if_false, true_and] at key ⊢
    have hlen : m.came.length = 0 := by rw [c0]; rfl
    by_cases c1 : m.wt ≤ m.f
    · have hF := hF 2
      have fc := fc 2
      generalize failedV m 2 = r at *
      unfold Mst.B Mst.C at hk
      unfold outE outZ anZ at *
      exact key (r.1, anZ, r.2) .ti .ti (if_pos c1) (.inr rfl) (.inl ⟨rfl, fc⟩) ⟨_, by simp -implicitDefEqProofs (disch := first | omega | (simp only [List.length_set, List.length_append, List.length_cons, List.length_nil, List.length_take, List.length_drop, List.length_map]; omega) | simp) [wrap_i64, wrap_u16_id, wrap_u8_id, tdiv_pos, tmod_pos, -getElem?_pos, -getElem?_neg, -List.length_eq_zero_iff, -List.getElem_cons_drop, hk, hkl, hlen, c1, hF, anZ]; all_goals (repeat' (first | rfl | apply And.intro))⟩
    · have e := hp_set_same hk
      unfold Mst.B Mst.C at hk
      unfold outE outZ anZ at *
      exact key (0, anZ, m) .ti t3 (if_neg c1) (.inr rfl) (.inr ⟨rfl, c0⟩) ⟨_, by simp -implicitDefEqProofs (disch := first | omega | (simp only [List.length_set, List.length_append, List.length_cons, List.length_nil, List.length_take, List.length_drop, List.length_map]; omega) | simp) [wrap_i64, wrap_u16_id, wrap_u8_id, tdiv_pos, tmod_pos, -getElem?_pos, -getElem?_neg, -List.length_eq_zero_iff, -List.getElem_cons_drop, hk, hkl, hlen, c1, hR, e, anZ]; all_goals (repeat' (first | rfl | apply And.intro))⟩
  · simp only [c0, ne_eq, not_false_eq_true, false_and, if_false, true_and] at key ⊢
    have hlen : 0 < m.came.length := List.length_pos_iff.2 c0
    by_cases c1 : m.g ≤ m.q
    · cases is with
      | true =>
        simp only [if_pos c1, if_true] at key ⊢
        have hT := mTurn_c n k fl (by omega) (H ++ [outZ, .cells 48 (anE y ts ts ts).cells]) m t1 t2 t3 0 (by rw [hp_get_left _ _ _ hkl]; exact hk0) (hw.app fun b hb => by
          simp only [List.mem_cons, List.not_mem_nil, or_false] at hb
          rcases hb with rfl | rfl
          · intro d hd
            simp only [List.mem_cons, List.not_mem_nil, or_false] at hd
            rcases hd with rfl | rfl | rfl | rfl | rfl <;> rfl
          · intro d hd
            unfold anE at hd
            simp only [cells_agg, List.mem_cons, List.not_mem_nil, or_false] at hd
            rcases hd with rfl | rfl | rfl | rfl <;> simp [inSc_okT hts]) hfl h1 h2
        simp only [hp_set_left _ _ _ _ hkl] at hT
        unfold Mst.B Mst.C at hk
        unfold outE outZ anE at *
        simp only [cells_agg] at hT
        exact key (1, y, m.turn 0) ts .ti rfl hts (.inl ⟨rfl, rfl⟩) ⟨_, by simp -implicitDefEqProofs (disch := first | omega | (simp only [List.length_set, List.length_append, List.length_cons, List.length_nil, List.length_take, List.length_drop, List.length_map]; omega) | simp) [wrap_i64, wrap_u16_id, wrap_u8_id, tdiv_pos, tmod_pos, -getElem?_pos, -getElem?_neg, -List.length_eq_zero_iff, -List.getElem_cons_drop, hk, hkl, hlen, c1, hD, hT]; all_goals (repeat' (first | rfl | apply And.intro))⟩
      | false =>
        simp only [if_pos c1, Bool.false_eq_true, if_false] at key ⊢
        have hF := mFailed_c n k fl (by omega) (H ++ [outZ, .cells 48 (anE y ts ts ts).cells]) m t1 t2 t3 3 (by rw [hp_get_left _ _ _ hkl]; exact hk0) (hw.app fun b hb => by
          simp only [List.mem_cons, List.not_mem_nil, or_false] at hb
          rcases hb with rfl | rfl
          · intro d hd
            simp only [List.mem_cons, List.not_mem_nil, or_false] at hd
            rcases hd with rfl | rfl | rfl | rfl | rfl <;> rfl
          · intro d hd
            unfold anE at hd
            simp only [cells_agg, List.mem_cons, List.not_mem_nil, or_false] at hd
            rcases hd with rfl | rfl | rfl | rfl <;> simp [inSc_okT hts]) hfl h1 h2
        simp only [hp_set_left _ _ _ _ hkl] at hF
        have fc := fc 3
        generalize failedV m 3 = r at *
        unfold Mst.B Mst.C at hk
        unfold outE outZ anE anZ at *
        simp only [cells_agg] at hF
        exact key (r.1, anZ, r.2) .ti .ti rfl (.inr rfl) (.inl ⟨rfl, fc⟩) ⟨_, by simp -implicitDefEqProofs (disch := first | omega | (simp only [List.length_set, List.length_append, List.length_cons, List.length_nil, List.length_take, List.length_drop, List.length_map]; omega) | simp) [wrap_i64, wrap_u16_id, wrap_u8_id, tdiv_pos, tmod_pos, -getElem?_pos, -getElem?_neg, -List.length_eq_zero_iff, -List.getElem_cons_drop, hk, hkl, hlen, c1, hD, hF, anZ]; all_goals (repeat' (first | rfl | apply And.intro))⟩
    · by_cases c2 : 2 * m.wt ≤ m.f
      · simp only [if_neg c1, if_pos c2] at key ⊢
        have hF := hF 3
        have fc := fc 3
        generalize failedV m 3 = r at *
        unfold Mst.B Mst.C at hk
        unfold outE outZ anZ at *
        exact key (r.1, anZ, r.2) .ti .ti rfl (.inr rfl) (.inl ⟨rfl, fc⟩) ⟨_, by simp -implicitDefEqProofs (disch := first | omega | (simp only [List.length_set, List.length_append, List.length_cons, List.length_nil, List.length_take, List.length_drop, List.length_map]; omega) | simp) [wrap_i64, wrap_u16_id, wrap_u8_id, tdiv_pos, tmod_pos, -getElem?_pos, -getElem?_neg, -List.length_eq_zero_iff, -List.getElem_cons_drop, hk, hkl, hlen, c1, c2, hF, anZ]; all_goals (repeat' (first | rfl | apply And.intro))⟩
      · simp only [if_neg c1, if_neg c2] at key ⊢
        have e := hp_set_same hk
        unfold Mst.B Mst.C at hk
        unfold outE outZ anZ at *
        exact key (0, anZ, m) .ti t3 rfl (.inr rfl) (.inr ⟨rfl, rfl⟩) ⟨_, by simp -implicitDefEqProofs (disch := first | omega | (simp only [List.length_set, List.length_append, List.length_cons, List.length_nil, List.length_take, List.length_drop, List.length_map]; omega) | simp) [wrap_i64, wrap_u16_id, wrap_u8_id, tdiv_pos, tmod_pos, -getElem?_pos, -getElem?_neg, -List.length_eq_zero_iff, -List.getElem_cons_drop, hk, hkl, hlen, c1, c2, hR, e, anZ]; all_goals (repeat' (first | rfl | apply And.intro))⟩
end Go.Proofs.Ytcpgmbpndpcmdaa
namespace Go.Proofs.Ytcpgmbpndpcmdaa
open Go
set_option linter.unusedSimpArgs false
set_option linter.unusedVariables false
set_option maxRecDepth 100000
set_option maxHeartbeats 1000000
@[simp] theorem cells_clo (fn : Fn) (a b : List DV) : (DV.clo fn a b).cells = [.clo fn a b] := rfl
@[simp] theorem leaf_clo (fn : Fn) (a b : List DV) : (DV.clo fn a b).leaf = true := rfl
@[simp] theorem idxV_agg (ag : Bool) (sz len : Nat) (cs : List DV) (k : IntKind) (i : Int) (h0 : 0 ≤ i) (h1 : i < len) : idxV ag sz len (.agg cs) (.flat (.int k i)) = partD ag sz (i.toNat * sz) cs := by
  unfold idxV intD
  simp only [h0, h1, and_self, if_true]
theorem cV2_ro {n fl f : Nat} {x : DV} {fs args : List DV} {H : Heap} {d : DV} (hm : ENV2.md f = .ro) (h : cO2 n f (x :: fs ++ args) H = some d) : cV2 n fl (.clo (.func f) (x :: fs) []) args H = some (d, H) := by
  unfold cV2 callVG callV
  simp only [fnOf, hm, List.append_nil]
  have := callO_ok (cf' := callG Try.prog ENV2 n) (fun _ _ _ _ _ h => h) (fl := fl) h
  unfold callO at this
  rw [this]
  rfl
theorem cV2_rw {n fl f : Nat} {x : DV} {fs args : List DV} {H : Heap} (hm : ENV2.md f = .rw) : cV2 n fl (.clo (.func f) (x :: fs) []) args H = cW2 n f (x :: fs ++ args) H fl := by
  unfold cV2 callVG callV cW2 callW
  simp only [fnOf, hm, callD, List.append_nil]
  cases callG Try.prog ENV2 n f (x :: fs ++ args) H fl with
  | none => rfl
  | some r =>
    simp only [Option.bind_some, bi_some]
    cases oldD H.length r.2 r.1 with
    | none => rfl
    | some d =>
      simp only [Option.bind_some, bi_some]
      cases cutH H.length r.2 with
      | none => rfl
      | some H' => rfl
def Mst.tock (m : Mst) : Mst := { m with q := min (m.q + 1) 1048576, f := m.f + 1 }
def tickV (m : Mst) : List Int × Int × An × Mst := if m.st = 0 then ([], 0, anZ, m.tock) else if m.st = 1 then ((sendV m.tock).1, 0, anZ, (sendV m.tock).2) else ([], waitV m.tock)
structure MstOk (m : Mst) (x : Int) : Prop where
  u : 0 ≤ m.u ∧ m.u < 256
  wt : 0 ≤ m.wt ∧ m.wt ≤ 1000000
  st : m.st = 0 ∨ m.st = 1 ∨ m.st = 2
  q : 0 ≤ m.q ∧ m.q ≤ 1048576
  f : 0 ≤ m.f ∧ m.f ≤ x
  n : 0 ≤ m.n ∧ m.n ≤ x
  a : m.st ≠ 0 → RightP m.a
  oa : RqOk m.a
  b : Bytes m.came
  l : m.came.length ≤ 300
theorem mTick_c (n k fl : Nat) (hn : 1500 ≤ n) (H : Heap) (m : Mst) (x : Int) (t1 t2 t3 : Tag) (hk : H[k]? = some (m.B t1 t2 t3)) (hw : WfH H) (hfl : fl ≤ k) (ht : MTag t1 t2 t3 m.came.length H) (ok : MstOk m x) (hx : x < 1000000) :
    ∃ tb tq t3', KeepT t3 t3' m (tickV m).2.2.2 ∧ okT tb ∧ okT tq ∧ cW2 n 13 [.ptr k 0] H fl = some (.tup [LV 1 (I .u8) (tickV m).1 tb, outE (tickV m).2.1 (tickV m).2.2.1 tq tq tq], H.set k ((tickV m).2.2.2.B t1 t2 t3')) := by
  obtain ⟨n, rfl⟩ : ∃ m, n = m + 1 := ⟨n - 1, by omega⟩
  have hkl := hp_lt hk
  have h1 := ht.a
  have h2 := ht.b
  have h3 := ht.old
  obtain ⟨q0, q1⟩ := ok.q
  obtain ⟨f0, f1⟩ := ok.f
  have n0 := ok.n
  have hf2 : m.f + 1 < 9223372036854775808 := by omega
  have key : ∀ (r : List Int × Int × An × Mst) (tb tq t3' : Tag), tickV m = r → okT tb → okT tq → KeepT t3 t3' m r.2.2.2 →
      (∃ X, s___master_Master__Tick n H fl (.ptr k 0) = some (.tup [LV 1 (I .u8) r.1 tb, outE r.2.1 r.2.2.1 tq tq tq], H.set k (r.2.2.2.B t1 t2 t3') ++ X)) →
      ∃ tb tq t3', KeepT t3 t3' m (tickV m).2.2.2 ∧ okT tb ∧ okT tq ∧ cW2 (n + 1) 13 [.ptr k 0] H fl = some (.tup [LV 1 (I .u8) (tickV m).1 tb, outE (tickV m).2.1 (tickV m).2.2.1 tq tq tq], H.set k ((tickV m).2.2.2.B t1 t2 t3')) := by
    intro r tb tq t3' e1 htb hto hk3 ⟨X, h⟩
    rw [e1]
    refine ⟨tb, tq, t3', hk3, htb, hto, cW2_of ((s___master_Master__Tick_eq _ _ _ _).trans h) (by simp [outE, oldLeaf_okT htb, oldLeaf_okT hto]) (cutH_set hw (k := k) hkl (by simp [hkl]) (fun j hj hjk => by rw [hp_get_left _ _ _ (by simpa using hj), hp_set_ne _ _ _ _ hjk]) (Mst.old h1 h2 fun l => ?_))⟩
    rcases hk3 with ⟨rfl, _⟩ | ⟨rfl, _⟩
    · simp
    · exact h3 _ l
  have hk1 : (H.set k (m.tock.B t1 t2 t3) ++ [outZ])[k]? = some (m.tock.B t1 t2 t3) := by simp [hkl]
  have hw1 : WfH (H.set k (m.tock.B t1 t2 t3)) := hw.set k (Mst.wf h1 h2 fun l => ht.sc 1 (I .u8) l)
  have ht1 : MTag t1 t2 t3 m.tock.came.length (H.set k (m.tock.B t1 t2 t3) ++ [outZ]) := by
    refine ⟨h1, h2, ?_⟩
    rcases ht.c with rfl | ⟨j, rfl, hj, hj0⟩
    · exact .inl rfl
    · have hjl := hp_lt hj
      have hjk : j ≠ k := by
        rintro rfl
        rw [hk] at hj
        cases hj
      exact .inr ⟨j, rfl, by rw [hp_get_left _ _ _ (by simpa using hjl), hp_set_ne _ _ _ _ hjk]; exact hj, hj0⟩
  have e0 : m.q + 1 < 9223372036854775808 := by omega
  have hmin : ∀ H', storeG 1 (.ptr k 5) (I .i64 (min (m.q + 1) 1048576)) H' fl = storeG 1 (.ptr k 5) (I .i64 m.tock.q) H' fl := fun _ => rfl
  unfold tickV at key ⊢
  unfold s___master_Master__Tick at key
  rcases ok.st with s | s | s
  · have hR := mRest_c n k (by omega) (H.set k (m.tock.B t1 t2 t3) ++ [outZ])
    have hV := cV2_ro (fl := fl) (n := n) (f := 29) (x := .ptr k 0) (fs := []) (args := []) (by kernel_rfl) hR
    simp only [s, if_true] at key ⊢
    unfold Mst.tock Mst.B Mst.C at *
    unfold outE outZ anZ at *
    rw [s] at hk hV
    exact key ([], 0, _, _) .ti .ti t3 rfl (.inr rfl) (.inr rfl) (.inr ⟨rfl, rfl⟩) ⟨_, by simp -implicitDefEqProofs (disch := first | omega | (simp only [List.length_set, List.length_append, List.length_cons, List.length_nil, List.length_take, List.length_drop, List.length_map]; omega) | simp) [wrap_i64, wrap_u16_id, wrap_u8_id, tdiv_pos, tmod_pos, -getElem?_pos, -getElem?_neg, -List.length_eq_zero_iff, -List.getElem_cons_drop, hk, hkl, hV, f0, hf2, q0, e0, s]; all_goals (repeat' (first | rfl | apply And.intro))⟩
  · obtain ⟨tb, t3', k1, k2, hS⟩ := mSend_c n k fl (by omega) (H.set k (m.tock.B t1 t2 t3) ++ [outZ]) m.tock t1 t2 t3 hk1 hw1.out hfl ht1 (ok.a (by omega)) ok.oa ok.u ⟨n0.1, by show m.n < _; omega⟩
    have hV := cV2_rw (n := n) (fl := fl) (f := 30) (x := .ptr k 0) (fs := []) (args := []) (H := H.set k (m.tock.B t1 t2 t3) ++ [outZ]) (by kernel_rfl)
    rw [List.append_nil, hS] at hV
    simp only [hp_set_left _ _ _ _ (show k < (H.set k (m.tock.B t1 t2 t3)).length by simpa using hkl), List.set_set] at hV
    clear hS
    simp only [s, if_true, show ¬ (1 : Int) = 0 by decide, if_false] at key ⊢
    generalize hr : sendV m.tock = r at *
    unfold Mst.tock Mst.B Mst.C at *
    unfold outE outZ anZ at *
    rw [s] at hk hV
    exact key (r.1, 0, _, r.2) tb .ti t3' rfl k2 (.inr rfl) k1 ⟨_, by simp -implicitDefEqProofs (disch := first | omega | (simp only [List.length_set, List.length_append, List.length_cons, List.length_nil, List.length_take, List.length_drop, List.length_map]; omega) | simp) [wrap_i64, wrap_u16_id, wrap_u8_id, tdiv_pos, tmod_pos, -getElem?_pos, -getElem?_neg, -List.length_eq_zero_iff, -List.getElem_cons_drop, hk, hkl, hV, f0, hf2, q0, e0, s]; all_goals (repeat' (first | rfl | apply And.intro))⟩
  · obtain ⟨tb, t3', k1, k2, hS⟩ := mWait_c n k fl (by omega) (H.set k (m.tock.B t1 t2 t3) ++ [outZ]) m.tock t1 t2 t3 hk1 hw1.out hfl ht1 ok.oa ok.b (by have := ok.l; show m.came.length ≤ _; omega) ok.wt
    have hV := cV2_rw (n := n) (fl := fl) (f := 31) (x := .ptr k 0) (fs := []) (args := []) (H := H.set k (m.tock.B t1 t2 t3) ++ [outZ]) (by kernel_rfl)
    rw [List.append_nil, hS] at hV
    simp only [hp_set_left _ _ _ _ (show k < (H.set k (m.tock.B t1 t2 t3)).length by simpa using hkl), List.set_set] at hV
    clear hS
    simp only [s, show ¬ (2 : Int) = 0 by decide, show ¬ (2 : Int) = 1 by decide, if_false] at key ⊢
    generalize hr : waitV m.tock = r at *
    unfold Mst.tock Mst.B Mst.C at *
    unfold outE outZ at *
    rw [s] at hk hV
    exact key ([], r) .ti tb t3' rfl (.inr rfl) k2 k1 ⟨_, by simp -implicitDefEqProofs (disch := first | omega | (simp only [List.length_set, List.length_append, List.length_cons, List.length_nil, List.length_take, List.length_drop, List.length_map]; omega) | simp) [wrap_i64, wrap_u16_id, wrap_u8_id, tdiv_pos, tmod_pos, -getElem?_pos, -getElem?_neg, -List.length_eq_zero_iff, -List.getElem_cons_drop, hk, hkl, hV, f0, hf2, q0, e0, s]; all_goals (repeat' (first | rfl | apply And.intro))⟩
end Go.Proofs.Ytcpgmbpndpcmdaa
namespace Go.Proofs.Ytcpgmbpndpcmdaa
open Go
set_option linter.unusedSimpArgs false
set_option linter.unusedVariables false
set_option maxRecDepth 100000
set_option maxHeartbeats 1000000
def takeV (m : Mst) (b : List Int) : Mst := if b = [] then m else if m.st = 2 then { m with q := 0, came := m.came ++ b.take (300 - m.came.length) } else { m with q := 0 }
structure Turned (H H' : Heap) (k : Nat) : Prop where
  len : H.length ≤ H'.length
  same : ∀ j b, j ≠ k → (∀ e s n, b ≠ DBlk.token e s n) → H[j]? = some b → H'[j]? = some b
  wf : WfH H → WfH H'
theorem Turned.refl (H : Heap) (k : Nat) : Turned H H k := ⟨Nat.le_refl _, fun _ _ _ _ h => h, id⟩
theorem Turned.set {H : Heap} {k : Nat} {b : DBlk} (hb : WfB H.length b) : Turned H (H.set k b) k := ⟨by simp, fun j c hj _ h => by rw [hp_set_ne _ _ _ _ hj]; exact h, fun h => h.set k hb⟩
theorem MTag.set {t1 t2 t3 : Tag} {len k : Nat} {H : Heap} {e : TypeId} {cs : List DV} {b : DBlk} (h : MTag t1 t2 t3 len H) (hk : H[k]? = some (.cells e cs)) : MTag t1 t2 t3 len (H.set k b) := by
  refine ⟨h.a, h.b, ?_⟩
  rcases h.c with rfl | ⟨j, rfl, hj, h0⟩
  · exact .inl rfl
  · have hjk : j ≠ k := by
      rintro rfl
      rw [hk] at hj
      cases hj
    exact .inr ⟨j, rfl, by rw [hp_set_ne _ _ _ _ hjk]; exact hj, h0⟩
theorem take_min (b : List Int) (c : Nat) (hc : c ≤ 300) : b.take (min (b.length : Int) (300 - (c : Int))).toNat = b.take (300 - c) := by
  have e : (min (b.length : Int) (300 - (c : Int))).toNat = min (300 - c) b.length := by omega
  rw [e, ← List.take_take, List.take_length]
theorem mTake_c (n k : Nat) (hn : 5 ≤ n) (H : Heap) (m : Mst) (b : List Int) (t t1 t2 t3 : Tag) (hk : H[k]? = some (m.B t1 t2 t3)) (ht : MTag t1 t2 t3 m.came.length H) (hl : m.came.length ≤ 300) (hb : b.length ≤ 1000000) :
    ∃ t3' H', cK2 n 12 [.ptr k 0, LV 1 (I .u8) b t] H 0 = some (.tup [], H') ∧ H'[k]? = some ((takeV m b).B t1 t2 t3') ∧ MTag t1 t2 t3' (takeV m b).came.length H' ∧ Turned H H' k := by
  obtain ⟨n, rfl⟩ : ∃ m, n = m + 1 := ⟨n - 1, by omega⟩
  have hkl := hp_lt hk
  have hlen : ∀ l : List Int, l ≠ [] → ¬ (l.length : Int) = 0 := fun l h h' => h (List.eq_nil_of_length_eq_zero (by omega))
  unfold cK2 takeV
  by_cases c1 : b = []
  · subst c1
    refine ⟨t3, H, (s___master_Master__Take_eq _ _ _ _ _).trans ?_, by rw [if_pos rfl]; exact hk, by rw [if_pos rfl]; exact ht, Turned.refl _ _⟩
    unfold s___master_Master__Take
    simp -implicitDefEqProofs (disch := first | omega | (simp only [List.length_set, List.length_append, List.length_cons, List.length_nil, List.length_take, List.length_drop, List.length_map]; omega) | simp) [wrap_i64, wrap_u16_id, wrap_u8_id, tdiv_pos, tmod_pos, -getElem?_pos, -getElem?_neg, -List.length_eq_zero_iff, -List.getElem_cons_drop]
  · have hbl := hlen b c1
    rw [if_neg c1]
    have hq : WfB H.length (Mst.B { m with q := 0 } t1 t2 t3) := Mst.wf ht.a ht.b fun l => ht.sc 1 (I .u8) l
    by_cases c2 : m.st = 2
    · rw [if_pos c2]
      obtain ⟨t4, H2, hA, hT, h2l, _, h2w, h2x⟩ := appG_all (e := 5) (ag := false) (sz := 1) (by_ := 1) (n0 := 0) (enc := I .u8) (xs := m.came) (ys := b.take (300 - m.came.length)) (t := t3) (t' := slT t ((min (b.length : Int) (300 - (m.came.length : Int))).toNat == b.length))
        (H := H.set k (Mst.B { m with q := 0 } t1 t2 t3)) (fl := 0) (Nat.le_refl _) (Nat.zero_le _) (ht.set hk).c rfl (by simp only [List.length_take]; omega) (by simp only [List.length_take]; omega)
      have hk2 : H2[k]? = some (Mst.B { m with q := 0 } t1 t2 t3) := h2x.2 k _ (hp_set_get _ _ _ hkl) (fun _ _ _ => by unfold Mst.B; exact fun h => by cases h)
      have hk2l := hp_lt hk2
      have hsc : ∀ l : List Int, inSc H2.length (LV 1 (I .u8) l t4) = true := fun l => (MTag.sc ⟨ht.a, ht.b, hT⟩ 1 (I .u8) l)
      have hfin : Turned H (H2.set k (Mst.B { m with q := 0, came := m.came ++ b.take (300 - m.came.length) } t1 t2 t4)) k := by
        refine ⟨by simp at h2l ⊢; omega, fun j c hj hc h => ?_, fun h => (h2w (h.set k hq)).set k (Mst.wf ht.a ht.b hsc)⟩
        rw [hp_set_ne _ _ _ _ hj]
        exact h2x.2 j c (by rw [hp_set_ne _ _ _ _ hj]; exact h) hc
      refine ⟨t4, _, (s___master_Master__Take_eq _ _ _ _ _).trans ?_, hp_set_get _ _ _ hk2l, ?_, hfin⟩
      · have e5 := take_min b m.came.length hl
        have hm0 : 0 ≤ min (b.length : Int) (300 - (m.came.length : Int)) := by omega
        have hm1 : min (b.length : Int) (300 - (m.came.length : Int)) ≤ b.length := by omega
        unfold s___master_Master__Take
        unfold Mst.B Mst.C at *
        simp only at *
        rw [c2] at hk hA hk2 ⊢
        simp -implicitDefEqProofs (disch := first | omega | (simp only [List.length_set, List.length_append, List.length_cons, List.length_nil, List.length_take, List.length_drop, List.length_map]; omega) | simp) [wrap_i64, wrap_u16_id, wrap_u8_id, tdiv_pos, tmod_pos, -getElem?_pos, -getElem?_neg, -List.length_eq_zero_iff, -List.getElem_cons_drop, hk, hkl, hbl, hA, hk2, hk2l, hm0, hm1, e5]
      · exact MTag.set (e := 62) (cs := Mst.C { m with q := 0 } t1 t2 t3) ⟨ht.a, ht.b, hT⟩ hk2
    · rw [if_neg c2]
      refine ⟨t3, H.set k (Mst.B { m with q := 0 } t1 t2 t3), (s___master_Master__Take_eq _ _ _ _ _).trans ?_, hp_set_get _ _ _ hkl, ht.set hk, Turned.set hq⟩
      unfold s___master_Master__Take
      unfold Mst.B Mst.C at *
      simp -implicitDefEqProofs (disch := first | omega | (simp only [List.length_set, List.length_append, List.length_cons, List.length_nil, List.length_take, List.length_drop, List.length_map]; omega) | simp) [wrap_i64, wrap_u16_id, wrap_u8_id, tdiv_pos, tmod_pos, -getElem?_pos, -getElem?_neg, -List.length_eq_zero_iff, -List.getElem_cons_drop, hk, hkl, hbl, c2]
      all_goals (repeat' (first | rfl | apply And.intro))
end Go.Proofs.Ytcpgmbpndpcmdaa
namespace Go.Proofs.Ytcpgmbpndpcmdaa
open Go
set_option linter.unusedSimpArgs false
set_option linter.unusedVariables false
theorem MTag.step {t1 t2 t3 t3' : Tag} {m r : Mst} {k : Nat} {H X : Heap} {e : TypeId} {cs : List DV} {b : DBlk} (h : MTag t1 t2 t3 m.came.length H) (hk : H[k]? = some (.cells e cs)) (hq : KeepT t3 t3' m r) : MTag t1 t2 t3' r.came.length (H.set k b ++ X) := by
  refine ⟨h.a, h.b, ?_⟩
  rcases hq with ⟨rfl, _⟩ | ⟨rfl, e2⟩
  · exact .inl rfl
  · rw [e2]
    rcases (h.set (b := b) hk).c with rfl | ⟨j, rfl, hj, h0⟩
    · exact .inl rfl
    · exact .inr ⟨j, rfl, by rw [hp_get_left _ _ _ (hp_lt hj)]; exact hj, h0⟩
theorem MTag.app {t1 t2 t3 : Tag} {len : Nat} {H : Heap} (X : Heap) (h : MTag t1 t2 t3 len H) : MTag t1 t2 t3 len (H ++ X) := by
  refine ⟨h.a, h.b, ?_⟩
  rcases h.c with rfl | ⟨j, rfl, hj, h0⟩
  · exact .inl rfl
  · exact .inr ⟨j, rfl, by rw [hp_get_left _ _ _ (hp_lt hj)]; exact hj, h0⟩
def outB (k : Int) (x : An) (t1 t2 t3 : Tag) : DBlk := .cells 50 [I .i64 k, I .i64 x.exc, LV 1 Bo x.bits t1, LV 1 (I .u16) x.words t2, LV 1 Sg x.texts t3]
theorem WfH.outB {H : Heap} (h : WfH H) {k : Int} {x : An} {t : Tag} (ht : okT t) : WfH (H ++ [Go.Proofs.Ytcpgmbpndpcmdaa.outB k x t t t]) := h.app fun b hb => by
  simp only [List.mem_singleton] at hb
  subst hb
  intro d hd
  simp only [List.mem_cons, List.not_mem_nil, or_false] at hd
  rcases hd with rfl | rfl | rfl | rfl | rfl <;> simp [inSc_okT ht]
theorem KeepT.sc {t1 t2 t3 t3' : Tag} {m r : Mst} {H : Heap} (h : MTag t1 t2 t3 m.came.length H) (hq : KeepT t3 t3' m r) (l : List Int) : inSc H.length (LV 1 (I .u8) l t3') = true := by
  rcases hq with ⟨rfl, _⟩ | ⟨rfl, _⟩
  · simp
  · exact h.sc 1 (I .u8) l
theorem KeepT.wf {t1 t2 t3 t3' : Tag} {m r : Mst} {H : Heap} (h : MTag t1 t2 t3 m.came.length H) (hq : KeepT t3 t3' m r) : WfB H.length (r.B t1 t2 t3') := Mst.wf h.a h.b (hq.sc h)
theorem shp_cfg {d : Nat} {e : List DV} (h : Shp Try.prog (d + 3) 23 e) : ∃ u g wt tr : Int, elOf (isAgT Try.prog 23) e = cfgE u g wt tr ∧ (0 ≤ u ∧ u < 256) ∧ (∀ x, x = g ∨ x = wt ∨ x = tr → -9223372036854775808 ≤ x ∧ x < 9223372036854775808) := by
  have h := shp_struct Try.underlying23 h
  simp only [List.map_cons, List.map_nil, ShpFs] at h
  obtain ⟨a, _, rfl, ha, b, _, rfl, hb, c, _, rfl, hc, d, _, rfl, hd, rfl⟩ := h
  obtain ⟨u, rfl, hu⟩ := shp_int (k := .u8) Try.underlying5 ha
  obtain ⟨g, rfl, hg⟩ := shp_int (k := .i64) Try.underlying3 hb
  obtain ⟨w, rfl, hw⟩ := shp_int (k := .i64) Try.underlying3 hc
  obtain ⟨t, rfl, ht⟩ := shp_int (k := .i64) Try.underlying3 hd
  refine ⟨u, g, w, t, by kernel_rfl, wf_u8 hu, fun x hx => ?_⟩
  rcases hx with rfl | rfl | rfl
  · exact wf_i64 hg
  · exact wf_i64 hw
  · exact wf_i64 ht
end Go.Proofs.Ytcpgmbpndpcmdaa
namespace Go.Proofs.Ytcpgmbpndpcmdaa
open Go
set_option maxRecDepth 100000
set_option linter.unusedVariables false
end Go.Proofs.Ytcpgmbpndpcmdaa
namespace Go.Proofs.Ytcpgmbpndpcmdaa
open Go
set_option maxRecDepth 100000
set_option linter.unusedVariables false
end Go.Proofs.Ytcpgmbpndpcmdaa
namespace Go.Proofs.Ytcpgmbpndpcmdaa
open Go
set_option maxRecDepth 100000
set_option linter.unusedVariables false
end Go.Proofs.Ytcpgmbpndpcmdaa
namespace Go.Proofs.Ytcpgmbpndpcmdaa
open Go
set_option linter.unusedSimpArgs false
set_option linter.unusedVariables false
end Go.Proofs.Ytcpgmbpndpcmdaa
namespace Go.Proofs.Ytcpgmbpndpcmdaa
open Go
set_option linter.unusedSimpArgs false
set_option linter.unusedVariables false
end Go.Proofs.Ytcpgmbpndpcmdaa
namespace Go.Proofs.Ytcpgmbpndpcmdaa
open Go
set_option linter.unusedSimpArgs false
set_option linter.unusedVariables false
set_option maxRecDepth 100000
theorem gTx_step (k : Nat) (c n : Int) (r : List Int) (h : n ≤ (r.length : Int)) : gTx (k + 1) (c :: n :: r) = bA (r.take n.toNat) :: gTx k (r.drop n.toNat) := by
  show (if n ≤ (r.length : Int) then _ else _) = _
  rw [if_pos h]
theorem gTx_stop (k : Nat) (c n : Int) (r : List Int) (h : ¬ n ≤ (r.length : Int)) : gTx k (c :: n :: r) = [] := by
  cases k with
  | zero => rfl
  | succ k =>
    show (if n ≤ (r.length : Int) then _ else _) = _
    rw [if_neg h]
end Go.Proofs.Ytcpgmbpndpcmdaa
namespace Go.Proofs.Ytcpgmbpndpcmdaa
open Go
set_option linter.unusedSimpArgs false
set_option linter.unusedVariables false
set_option maxRecDepth 100000
end Go.Proofs.Ytcpgmbpndpcmdaa
namespace Go.Proofs.Ytcpgmbpndpcmdaa
open Go
set_option maxRecDepth 100000
set_option linter.unusedVariables false
end Go.Proofs.Ytcpgmbpndpcmdaa
namespace Go.Proofs.Ytcpgmbpndpcmdaa
open Go
set_option linter.unusedSimpArgs false
set_option linter.unusedVariables false
set_option maxRecDepth 100000
end Go.Proofs.Ytcpgmbpndpcmdaa
namespace Go.Proofs.Ytcpgmbpndpcmdaa
open Go
set_option linter.unusedSimpArgs false
set_option linter.unusedVariables false
set_option maxRecDepth 100000
theorem gTx_len : ∀ (k : Nat) (l : List Int), 2 * (gTx k l).length ≤ l.length
  | 0, l => by simp [gTx]
  | k + 1, [] => by simp [gTx]
  | k + 1, [_] => by simp [gTx]
  | k + 1, c :: n :: r => by
    by_cases h : n ≤ (r.length : Int)
    · rw [gTx_step k c n r h]
      have := gTx_len k (r.drop n.toNat)
      rw [List.length_drop] at this
      simp only [List.length_cons]
      omega
    · rw [gTx_stop (k + 1) c n r h]
      simp
theorem gTx_size : ∀ (k : Nat) (l : List Int), ∀ s ∈ gTx k l, s.size ≤ l.length
  | 0, l => by simp [gTx]
  | k + 1, [] => by simp [gTx]
  | k + 1, [_] => by simp [gTx]
  | k + 1, c :: n :: r => by
    by_cases h : n ≤ (r.length : Int)
    · rw [gTx_step k c n r h]
      intro s hs
      rcases List.mem_cons.1 hs with rfl | hs
      · have e : (bA (r.take n.toNat)).size = (toB (r.take n.toNat)).length := by unfold bA; exact List.size_toArray
        have e2 : (toB (r.take n.toNat)).length = (r.take n.toNat).length := by simp [toB]
        rw [e, e2, List.length_take]
        simp only [List.length_cons]
        omega
      · have := gTx_size k (r.drop n.toNat) s hs
        rw [List.length_drop] at this
        simp only [List.length_cons]
        omega
    · rw [gTx_stop (k + 1) c n r h]
      simp
theorem guessA_texts (a : Rq) (b : List Int) (hb : b.length ≤ 600) : (∀ s ∈ (guessA a b).texts, s.size ≤ 600) ∧ (guessA a b).texts.length ≤ 300 := by
  unfold guessA
  split
  · simp
  split
  · simp
  split
  · simp
  split
  · refine ⟨fun s hs => ?_, ?_⟩
    · have := gTx_size b.length (b.drop 7) s hs
      rw [List.length_drop] at this
      omega
    · have := gTx_len b.length (b.drop 7)
      rw [List.length_drop] at this
      show (gTx b.length (b.drop 7)).length ≤ 300
      omega
  · simp [anZ]
end Go.Proofs.Ytcpgmbpndpcmdaa
namespace Go.Proofs.Ytcpgmbpndpcmdaa
open Go
set_option linter.unusedSimpArgs false
set_option linter.unusedVariables false
set_option maxHeartbeats 1000000
theorem MstOk.upd {m m' : Mst} {x y : Int} (ok : MstOk m x) (h1 : m'.u = m.u) (h2 : m'.wt = m.wt) (h3 : m'.a = m.a) (hst : m'.st = 0 ∨ ((m'.st = 1 ∨ m'.st = 2) ∧ m.st ≠ 0)) (hq : 0 ≤ m'.q ∧ m'.q ≤ 1048576) (hf : 0 ≤ m'.f ∧ m'.f ≤ y) (hn : 0 ≤ m'.n ∧ m'.n ≤ y) (hc : m'.came = m.came ∨ m'.came = []) : MstOk m' y := by
  refine ⟨by rw [h1]; exact ok.u, by rw [h2]; exact ok.wt, by omega, hq, hf, hn, fun h => by rw [h3]; exact ok.a (by omega), by rw [h3]; exact ok.oa, ?_, ?_⟩
  · rcases hc with h | h <;> rw [h]
    · exact ok.b
    · intro y hy; cases hy
  · rcases hc with h | h <;> rw [h]
    · exact ok.l
    · simp
theorem read_ok (a : Rq) (b : List Int) (hb : b.length ≤ 600) : AnOk (ansReadV a b).1 := by
  refine ⟨read_words a b, ?_, ?_⟩
  · have h := (guessA_texts a b hb).1
    unfold ansReadV
    split
    · split
      · exact fun s hs => Nat.le_trans (h s hs) (by omega)
      · intro s hs; cases hs
    · intro s hs; cases hs
  · have h := (guessA_texts a b hb).2
    unfold ansReadV
    split
    · split
      · show (guessA a b).texts.length ≤ 1000
        omega
      · simp [anZ]
    · simp [anZ]
theorem told_ok (m : Mst) (hl : m.came.length ≤ 300) : AnOk (toldV m).1 := by
  unfold toldV
  split
  · exact ⟨(by intro x hx; cases hx), (by intro x hx; cases hx), (by decide)⟩
  · refine read_ok _ _ ?_
    unfold rdV
    split
    · simp
    split
    · simp
    split
    · simp
    · simp
      omega
theorem told_right (m : Mst) (h : (toldV m).2 = true) : ansV m.a (toldV m).1 = true := by
  unfold toldV at h ⊢
  split at h
  · cases h
  · rename_i hc
    rw [if_neg hc]
    exact (read_back _ _ (by simpa using h)).1
theorem step3 (x y : Int) : 3 * x * (y + 1) = 3 * x * y + 3 * x := by rw [Int.mul_add, Int.mul_one]
structure EndI (u g wt tr : Int) (a : Rq) (m : Mst) (s T : Int) : Prop where
  c : m.u = u ∧ m.g = g ∧ m.wt = wt ∧ m.tr = tr
  a : m.a = a
  n : m.n = s
  st : (m.st = 1 ∧ (0 ≤ m.f ∧ m.f < wt) ∧ (0 ≤ s ∧ s < tr) ∧ ∃ y, y = tr - s - 1 ∧ T = (wt - m.f) + 2 * wt + 3 * wt * y) ∨ (m.st = 2 ∧ (0 ≤ m.f ∧ m.f < 2 * wt) ∧ (1 ≤ s ∧ s ≤ tr) ∧ ∃ y, y = tr - s ∧ T = (2 * wt - m.f) + 3 * wt * y)
  ok : MstOk m 1000
theorem EndI.pos {u g wt tr : Int} {a : Rq} {m : Mst} {s T : Int} (h : EndI u g wt tr a m s T) (hw : 0 ≤ wt) : 1 ≤ T := by
  have hm : ∀ y : Int, 0 ≤ y → 0 ≤ 3 * wt * y := fun y hy => Int.mul_nonneg (by omega) hy
  rcases h.st with ⟨_, h1, h2, y, hy, e⟩ | ⟨_, h1, h2, y, hy, e⟩
  · have := hm y (by omega)
    omega
  · have := hm y (by omega)
    omega
theorem end_take {u g wt tr : Int} {a : Rq} {m : Mst} {s T : Int} (h : EndI u g wt tr a m s T) {b : List Int} (hb : Bytes b) : EndI u g wt tr a (takeV m b) s T := by
  obtain ⟨hc, ha, hn, hst, ok⟩ := h
  unfold takeV
  split
  · exact ⟨hc, ha, hn, hst, ok⟩
  split
  · rename_i h1 h2
    refine ⟨hc, ha, hn, hst, ok.u, ok.wt, ok.st, ⟨by show (0 : Int) ≤ 0; decide, by show (0 : Int) ≤ _; decide⟩, ok.f, ok.n, ok.a, ok.oa, fun y hy => ?_, ?_⟩
    · rcases List.mem_append.1 hy with hy | hy
      · exact ok.b y hy
      · exact hb y (List.mem_of_mem_take hy)
    · have := ok.l
      show (m.came ++ b.take (300 - m.came.length)).length ≤ 300
      rw [List.length_append, List.length_take]
      omega
  · exact ⟨hc, ha, hn, hst, ok.u, ok.wt, ok.st, ⟨by show (0 : Int) ≤ 0; decide, by show (0 : Int) ≤ _; decide⟩, ok.f, ok.n, ok.a, ok.oa, ok.b, ok.l⟩
inductive EndT (u g wt tr : Int) (a : Rq) (s T : Int) : List Int × Int × An × Mst → Prop
  | on {m T'} : T' < T → EndI u g wt tr a m s T' → EndT u g wt tr a s T ([], 0, anZ, m)
  | sent {m T'} : T' < T → s + 1 ≤ tr → EndI u g wt tr a m (s + 1) T' → EndT u g wt tr a s T (putI (u :: textV a), 0, anZ, m)
  | done {m y} : m.st = 0 → MstOk m 1000 → ansV a y = true → AnOk y → EndT u g wt tr a s T ([], 1, y, m)
  | not {m kd} : m.st = 0 → MstOk m 1000 → kd = 2 ∨ kd = 3 → s = tr → EndT u g wt tr a s T ([], kd, anZ, m)
theorem end_fail {u g wt tr : Int} {a : Rq} {m : Mst} {s T : Int} (hC : CfgP u g wt tr) (hw : wt ≤ 60) (hc : m.u = u ∧ m.g = g ∧ m.wt = wt ∧ m.tr = tr) (ha : m.a = a) (hn : m.n = s) (h2 : m.st = 2) (hs : 1 ≤ s ∧ s ≤ tr) (ok : MstOk m 1000) (y : Int) (hy : y = tr - s) (hT : 3 * wt * y < T) (kd : Int) (hk : kd = 2 ∨ kd = 3) :
    EndT u g wt tr a s T ([], (failedV m kd).1, anZ, (failedV m kd).2) := by
  obtain ⟨_, _, ⟨w0, w1⟩, t0, t1⟩ := hC
  unfold failedV
  by_cases c : m.n < m.tr
  · rw [if_pos c]
    refine .on (T' := 3 * wt * y) hT ⟨hc, ha, hn, .inl ⟨rfl, ⟨by show (0 : Int) ≤ 0; decide, by show (0 : Int) < wt; omega⟩, by omega, tr - s - 1, rfl, ?_⟩, ok.upd rfl rfl rfl (.inr ⟨.inl rfl, by omega⟩) ok.q ⟨by show (0 : Int) ≤ 0; decide, by show (0 : Int) ≤ _; decide⟩ ok.n (.inr rfl)⟩
    have := step3 wt (tr - s - 1)
    rw [show tr - s - 1 + 1 = y by omega] at this
    show _ = (wt - 0) + 2 * wt + _
    omega
  · rw [if_neg c]
    exact .not rfl (ok.upd rfl rfl rfl (.inl rfl) ok.q ⟨by show (0 : Int) ≤ 0; decide, by show (0 : Int) ≤ _; decide⟩ ok.n (.inr rfl)) hk (by omega)
theorem end_tick {u g wt tr : Int} {a : Rq} {m : Mst} {s T : Int} (hC : CfgP u g wt tr) (hw : wt ≤ 60) (h : EndI u g wt tr a m s T) : EndT u g wt tr a s T (tickV m) := by
  obtain ⟨hc, ha, hn, hst, ok⟩ := h
  obtain ⟨c1, c2, c3, c4⟩ := id hc
  obtain ⟨_, _, ⟨w0, w1⟩, t0, t1⟩ := id hC
  have hq : 0 ≤ min (m.q + 1) 1048576 ∧ min (m.q + 1) 1048576 ≤ 1048576 := by have := ok.q; omega
  have hon := ok.n
  have htock : MstOk m.tock 1000 ∨ 1000 < m.f + 1 := by
    by_cases hf : m.f + 1 ≤ 1000
    · exact .inl ⟨ok.u, ok.wt, ok.st, hq, ⟨by have := ok.f.1; show 0 ≤ m.f + 1; omega, hf⟩, ok.n, ok.a, ok.oa, ok.b, ok.l⟩
    · exact .inr (by omega)
  rcases hst with ⟨h1, ⟨f0, f1⟩, ⟨s0, s1⟩, y, hy, hT⟩ | ⟨h2, ⟨f0, f1⟩, ⟨s0, s1⟩, y, hy, hT⟩
  · have okt := htock.resolve_right (by omega)
    unfold tickV
    rw [if_neg (by omega), if_pos h1]
    unfold sendV
    by_cases c : m.tock.q < m.tock.g ∧ m.tock.f < m.tock.wt
    · rw [if_pos c]
      have cf : m.f + 1 < m.wt := c.2
      refine .on (T' := T - 1) (by omega) ⟨hc, ha, hn, .inl ⟨h1, ⟨by show 0 ≤ m.f + 1; omega, by show m.f + 1 < wt; omega⟩, ⟨s0, s1⟩, y, hy, ?_⟩, okt⟩
      show T - 1 = (wt - (m.f + 1)) + 2 * wt + _
      omega
    · rw [if_neg c]
      have ef : frameV m.tock = putI (u :: textV a) := by
        show putI (m.u :: textV m.a) = _
        rw [c1, ha]
      rw [ef]
      refine .sent (T' := 2 * wt + 3 * wt * y) (by omega) (by omega) ⟨hc, ha, by show m.n + 1 = s + 1; omega, .inr ⟨rfl, ⟨by show (0 : Int) ≤ 0; decide, by show (0 : Int) < 2 * wt; omega⟩, ⟨by omega, by omega⟩, y, by omega, by show _ = (2 * wt - 0) + _; omega⟩, ?_⟩
      exact okt.upd rfl rfl rfl (.inr ⟨.inr rfl, by show m.st ≠ 0; omega⟩) ⟨by show (0 : Int) ≤ 0; decide, by show (0 : Int) ≤ _; decide⟩ ⟨by show (0 : Int) ≤ 0; decide, by show (0 : Int) ≤ _; decide⟩ ⟨by show 0 ≤ m.n + 1; omega, by show m.n + 1 ≤ 1000; omega⟩ (.inr rfl)
  · have okt := htock.resolve_right (by omega)
    unfold tickV
    rw [if_neg (by omega), if_neg (by omega)]
    have hfail := fun kd hk => end_fail (T := T) (m := m.tock) hC hw hc ha hn h2 ⟨s0, s1⟩ okt y hy (by omega) kd hk
    unfold waitV
    by_cases d1 : m.tock.came ≠ [] ∧ m.tock.g ≤ m.tock.q
    · rw [if_pos d1]
      by_cases d2 : (toldV m.tock).2 = true
      · rw [if_pos d2]
        refine .done rfl (okt.upd rfl rfl rfl (.inl rfl) hq ⟨by show (0 : Int) ≤ 0; decide, by show (0 : Int) ≤ _; decide⟩ ok.n (.inr rfl)) ?_ (told_ok _ okt.l)
        have := told_right m.tock d2
        rw [show m.tock.a = a from ha] at this
        exact this
      · rw [if_neg d2]
        exact hfail 3 (.inr rfl)
    · rw [if_neg d1]
      by_cases d2 : m.tock.came ≠ [] ∧ 2 * m.tock.wt ≤ m.tock.f
      · rw [if_pos d2]
        exact hfail 3 (.inr rfl)
      · rw [if_neg d2]
        by_cases d3 : m.tock.came = [] ∧ m.tock.wt ≤ m.tock.f
        · rw [if_pos d3]
          exact hfail 2 (.inl rfl)
        · rw [if_neg d3]
          have hlt : m.f + 1 < 2 * wt := by
            by_cases e : m.tock.came = []
            · have : ¬ m.wt ≤ m.f + 1 := fun h => d3 ⟨e, h⟩
              omega
            · have : ¬ 2 * m.wt ≤ m.f + 1 := fun h => d2 ⟨e, h⟩
              omega
          refine .on (T' := T - 1) (by omega) ⟨hc, ha, hn, .inr ⟨h2, ⟨by show 0 ≤ m.f + 1; omega, hlt⟩, ⟨s0, s1⟩, y, hy, ?_⟩, okt⟩
          show T - 1 = (2 * wt - (m.f + 1)) + _
          omega
end Go.Proofs.Ytcpgmbpndpcmdaa
namespace Go.Proofs.Ytcpgmbpndpcmdaa
open Go
set_option linter.unusedSimpArgs false
set_option linter.unusedVariables false
theorem leR_trans {β : Type} {x y z : Option β} (h : leR x y) (k : leR y z) : leR x z := fun r e => k r (h r e)
theorem loopG_le (keep out : List Nat) (N : Nat) {body : List DV → Heap → (Ex → KF) → R} (hb : ∀ s H (k k' : Ex → KF), (∀ x s H, leR (k x s H) (k' x s H)) → leR (body s H k) (body s H k')) : ∀ (m m' : Nat) (h : m ≤ m') (s : List DV) (H : Heap) (k : Ex → KF), leR (loopG keep out N body m s H k) (loopG keep out N body m' s H k) := by
  intro m
  induction m with
  | zero => intro m' h s H k r e; cases e
  | succ m ih =>
    intro m' h s H k
    obtain ⟨m', rfl⟩ : ∃ q, m' = q + 1 := ⟨m' - 1, by omega⟩
    rw [loopG_succ, loopG_succ]
    refine hb s H _ _ fun x s H => ?_
    cases x with
    | normal => simp only [forceL_eq]; exact ih _ (by omega) _ _ _
    | exit i => exact leR_refl _
    | ret => exact leR_refl _
theorem execG_fuel {cf cf' : CF} (hc : CLe cf cf') (P : Program) (md : FuncId → CM) (fl N n n' : Nat) (hn : n ≤ n') : ∀ (c : Code) (ks : List (List Nat × List Nat)) (s : List DV) (H : Heap) (k k' : Ex → KF), (∀ x s H, leR (k x s H) (k' x s H)) → leR (execG ⟨P, cf, md, fl, N⟩ n c ks s H k) (execG ⟨P, cf', md, fl, N⟩ n' c ks s H k') := by
  intro c
  induction c with
  | skip => intro ks s H k k' hk; exact hk _ _ _
  | region id ops draw =>
    intro ks s H k k' hk
    unfold execG
    simp only [holesF_eq]
    cases (draw && !drawOk ops (ops.toList.map (sCls md false))) with
    | false => exact opsG_mono hc _ _ _ _ _ _ _ _ _ _ _ _ fun s H => hk _ _ _
    | true =>
      dsimp only
      cases drawOk ops (ops.toList.map fun o => sCls md (isElLd P ops o) o) with
      | true => exact opsG_mono hc _ _ _ _ _ _ _ _ _ _ _ _ fun s H => hk _ _ _
      | false => exact leR_refl _
  | seq a b iha ihb =>
    intro ks s H k k' hk
    unfold execG
    refine iha _ _ _ _ _ fun x s H => ?_
    cases x with
    | normal => exact ihb _ _ _ _ _ hk
    | exit i => exact hk _ _ _
    | ret => exact hk _ _ _
  | cond c a b iha ihb =>
    intro ks s H k k' hk
    unfold execG
    have ha := iha (ks.take (nloops a)) s H k k' hk
    have hb := ihb (ks.drop (nloops a)) s H k k' hk
    intro r e
    unfold condR at e ⊢
    split at e
    · exact ha r e
    · exact hb r e
    · cases e
  | block id b ih =>
    intro ks s H k k' hk
    unfold execG
    refine ih _ _ _ _ _ fun x s H => ?_
    cases x with
    | normal => exact hk _ _ _
    | exit i =>
      dsimp only
      split
      · exact hk _ _ _
      · exact hk _ _ _
    | ret => exact hk _ _ _
  | loop b ih =>
    intro ks s H k k' hk
    unfold execG
    simp only [forceL_eq]
    refine leR_trans (loopG_mono (body := execG ⟨P, cf, md, fl, N⟩ n b ks.tail) (body' := execG ⟨P, cf', md, fl, N⟩ n' b ks.tail) _ _ _ (fun s H k k' hk => ih ks.tail s H k k' hk) _ _ _ _ _ fun x s H => ?_)
      (loopG_le _ _ _ (fun s H k k' hk => execG_mono (fun _ _ _ _ _ h => h) P md fl N n' b ks.tail s H k k' hk) _ _ hn _ _ _)
    cases x with
    | normal => exact leR_refl _
    | exit i => exact hk _ _ _
    | ret => exact hk _ _ _
  | scope b ih => intro ks s H k k' hk; exact ih _ _ _ _ _ hk
  | exit id => intro ks s H k k' hk; exact hk _ _ _
  | ret => intro ks s H k k' hk; exact hk _ _ _
  | _ => intros; exact leR_refl _
theorem callG_fuel (P : Program) (E : Env) : ∀ n n', n ≤ n' → CLe (callG P E n) (callG P E n') := by
  intro n
  induction n with
  | zero => intro n' _ f args H fl r h; cases h
  | succ n ih =>
    intro n' hn f args H fl r h
    obtain ⟨n', rfl⟩ : ∃ q, n' = q + 1 := ⟨n' - 1, by omega⟩
    rw [callG_eq] at h ⊢
    unfold bodyG at h ⊢
    cases hp : E.prim f with
    | some g => rw [hp] at h; exact h
    | none =>
      rw [hp] at h
      dsimp only at h ⊢
      cases hf : P.funcs[f]? with
      | none => rw [hf] at h; cases h
      | some fn =>
        rw [hf] at h
        dsimp only at h ⊢
        cases hb : fn.body with
        | none => rw [hb] at h; cases h
        | some c =>
          rw [hb] at h
          dsimp only at h ⊢
          split at h
          · cases h
          · rename_i hlt
            rw [if_neg hlt]
            simp only [forceL_eq] at h ⊢
            exact execG_fuel (ih n' (by omega)) P E.md fl fn.ntmps n n' (by omega) c (E.ks f) _ H _ _ (fun x s H => leR_refl _) r h
end Go.Proofs.Ytcpgmbpndpcmdaa
namespace Go.Proofs.Ytcpgmbpndpcmdaa
open Go
theorem awake08u (n : Nat) (hn : 39998 ≤ n) : cP2 (n + 1) 5 false [] = some (Bo true) := by
  have h : (callG Try.prog ENV2 39999 5 [] [] 0).map (·.1) = some (.flat (.bool true)) := by kernel_rfl
  obtain ⟨⟨d, H'⟩, h, rfl⟩ := Option.map_eq_some_iff.1 h
  exact cP2_of (args' := []) (by simp) (callG_fuel Try.prog ENV2 39999 (n + 1) (by omega) _ _ _ _ _ h) (by simp)
theorem awake08 (n : Nat) (hn : n = 39998) : cP2 (n + 1) 5 false [] = some (Bo true) := awake08u n (by omega)
end Go.Proofs.Ytcpgmbpndpcmdaa
namespace Go.Proofs.Ytcpgmbpndpcmdaa
open Go
set_option linter.unusedSimpArgs false
set_option linter.unusedVariables false
set_option maxRecDepth 100000
set_option maxHeartbeats 4000000
def nsE (l : List Int) : DV := LV 1 (I .u8) l .sh
theorem nsE_cells (l : List Int) : (nsE l).cells = [LV 1 (I .u8) l .sh] := by
  unfold nsE
  cases l <;> rfl
structure EndH (u g wt tr : Int) (a : Rq) (m : Mst) (H : Heap) (t1 t2 t3 : Tag) : Prop where
  mb : H[2]? = some (m.B t1 t2 t3)
  c : H[0]? = some (.cells 23 [I .u8 u, I .i64 g, I .i64 wt, I .i64 tr])
  a : H[1]? = some (.cells 28 (rqE a .sh .sh).cells)
  w : WfH H
  t : MTag t1 t2 t3 m.came.length H
theorem EndH.len {u g wt tr : Int} {a : Rq} {m : Mst} {H : Heap} {t1 t2 t3 : Tag} (h : EndH u g wt tr a m H t1 t2 t3) : 2 < H.length := hp_lt h.mb
theorem EndH.tick {u g wt tr : Int} {a : Rq} {m : Mst} {H : Heap} {t1 t2 t3 : Tag} (h : EndH u g wt tr a m H t1 t2 t3) (n : Nat) (hn : 1500 ≤ n) (ok : MstOk m 1000) :
    ∃ tb tq t3' G, okT tq ∧ cW2 n 13 [.ptr 2 0] (H ++ [DBlk.hole]) 0 = some (.tup [LV 1 (I .u8) (tickV m).1 tb, outE (tickV m).2.1 (tickV m).2.2.1 tq tq tq], G ++ [.hole]) ∧ G.length = H.length ∧ EndH u g wt tr a (tickV m).2.2.2 G t1 t2 t3' ∧ ∀ j, j ≠ 2 → G[j]? = H[j]? := by
  have hl := h.len
  have hwh : WfH (H ++ [DBlk.hole]) := h.w.app fun b hb => by
    simp only [List.mem_singleton] at hb
    subst hb
    trivial
  obtain ⟨tb, tq, t3', q1, q2, q3, hT⟩ := mTick_c n 2 0 hn (H ++ [DBlk.hole]) m 1000 t1 t2 t3 (by rw [hp_get_left _ _ _ hl]; exact h.mb) hwh (by omega) (h.t.app _) ok (by omega)
  rw [hp_set_left _ _ _ _ hl] at hT
  refine ⟨tb, tq, t3', _, q3, hT, by simp, ⟨hp_set_get _ _ _ hl, by rw [hp_set_ne _ _ _ _ (by decide)]; exact h.c, by rw [hp_set_ne _ _ _ _ (by decide)]; exact h.a, h.w.set 2 (q1.wf h.t), ?_⟩, fun j hj => hp_set_ne _ _ _ _ hj⟩
  have := MTag.step (b := (tickV m).2.2.2.B t1 t2 t3') (X := []) h.t h.mb q1
  simpa using this
theorem EndH.out {u g wt tr : Int} {a : Rq} {m : Mst} {H : Heap} {t1 t2 t3 : Tag} (h : EndH u g wt tr a m H t1 t2 t3) {k : Int} {x : An} {t : Tag} (ht : okT t) : EndH u g wt tr a m (H ++ [outB k x t t t]) t1 t2 t3 := by
  have hl := h.len
  exact ⟨by rw [hp_get_left _ _ _ hl]; exact h.mb, by rw [hp_get_left _ _ _ (by omega)]; exact h.c, by rw [hp_get_left _ _ _ (by omega)]; exact h.a, h.w.outB ht, h.t.app _⟩
theorem EndH.take {u g wt tr : Int} {a : Rq} {m : Mst} {H : Heap} {t1 t2 t3 : Tag} (h : EndH u g wt tr a m H t1 t2 t3) (n : Nat) (hn : 5 ≤ n) (b : List Int) (hl : m.came.length ≤ 300) (hb : b.length ≤ 1000000) :
    ∃ t3' H', cK2 n 12 [.ptr 2 0, LV 1 (I .u8) b .sh] H 0 = some (.tup [], H') ∧ EndH u g wt tr a (takeV m b) H' t1 t2 t3' := by
  obtain ⟨t3', H', q1, q2, q3, q4⟩ := mTake_c n 2 hn H m b .sh t1 t2 t3 h.mb h.t hl hb
  exact ⟨t3', H', q1, q2, q4.same 0 _ (by decide) (fun e s n hh => by cases hh) h.c, q4.same 1 _ (by decide) (fun e s n hh => by cases hh) h.a, q4.wf h.w, q3⟩
theorem ends_L (n : Nat) (hn : 5000 ≤ n) (u g wt tr : Int) (a : Rq) (hC : CfgP u g wt tr) (hw : wt ≤ 60) (hR : RightP a) (oa : RqOk a) (noise : List (List Int)) (hnl : noise.length ≤ 200) (hnb : ∀ b ∈ noise, Bytes b ∧ b.length ≤ 400) (tf : Tag) :
    ∀ (m : Nat) (i s T : Int) (mm : Mst) (H : Heap) (t1 t2 t3 : Tag), T.toNat < m → 0 ≤ i → EndI u g wt tr a mm s T → i + T ≤ 3 * wt * tr → EndH u g wt tr a mm H t1 t2 t3 →
    ∃ H', ∀ K, s_triunelaw08_MasterEnds_L3 n 0 K m (LV 1 nsE noise .sh) (.ptr 0 0) (.ptr 1 0) (Bo true) (.ptr 2 0) (LV 1 (I .u8) (putI (u :: textV a)) tf) (I .i64 s) (I .i64 i) H = K .ret (s_triunelaw08_MasterEnds_O3 (Bo true)) H' := by
  intro m
  induction m with
  | zero => intro i s T mm H t1 t2 t3 h; omega
  | succ m ih =>
    intro i s T mm H t1 t2 t3 hm h0 hI hT hH
    have hpos := hI.pos (by obtain ⟨_, _, ⟨w0, _⟩, _⟩ := hC; omega)
    obtain ⟨⟨u0, u1⟩, _, ⟨w0, w1⟩, r0, r1⟩ := id hC
    have hmul : 3 * wt * tr ≤ 1000 := by
      have h1 : 3 * wt * tr ≤ 180 * 5 := Int.le_trans (Int.mul_le_mul_of_nonneg_right (by omega) (by omega)) (Int.mul_le_mul_of_nonneg_left (by omega) (by omega))
      omega
    have hmul0 : 0 ≤ 3 * wt * tr := Int.mul_nonneg (by omega) (by omega)
    have hlt : i < 3 * wt * tr := by omega
    obtain ⟨P, hP⟩ : ∃ P, P = 3 * wt * tr := ⟨_, rfl⟩
    rw [← hP] at hmul hmul0 hlt hT
    obtain ⟨hle1, hle2⟩ := text_few a hR.1 oa
    have hfl : (putI (u :: textV a)).length ≤ 1000 := by rw [putI_length]; simp; omega
    have hfpos : 0 < (putI (u :: textV a)).length := by rw [putI_length]; omega
    have hc0 := hH.c
    have core : ∀ (m1 : Mst) (H1 : Heap) (t3 : Tag), EndI u g wt tr a m1 s T → EndH u g wt tr a m1 H1 t1 t2 t3 →
        ∃ H', ∀ K, s_triunelaw08_MasterEnds_B3 n 0 (fun _ x3 x4 x7 x8 x16 x18 x19 H => s_triunelaw08_MasterEnds_L3 n 0 K m (LV 1 nsE noise .sh) x3 x4 x7 x8 x16 x18 x19 H) K (LV 1 nsE [] .sh) (.ptr 0 0) (.ptr 1 0) (Bo true) (.ptr 2 0) (LV 1 (I .u8) (putI (u :: textV a)) tf) (I .i64 s) (I .i64 i) H1 = K .ret (s_triunelaw08_MasterEnds_O3 (Bo true)) H' := by
      intro m1 H1 t3 hI1 hH1
      obtain ⟨tb, tq, t3', G, os, hT1, hGl, hG, hGo⟩ := hH1.tick n (by omega) hI1.ok
      have ht := end_tick hC hw hI1
      have e0 : ¬ i < 0 := by omega
      have hs0 : 0 ≤ s ∧ s ≤ 5 := by rcases hI1.st with ⟨_, _, h, _⟩ | ⟨_, _, h, _⟩ <;> omega
      have hc1 := hH1.c
      have hl1 := hH1.len
      have hc2 := hG.c
      have ha2 := hG.a
      have hlG := hG.len
      generalize tickV m1 = r at *
      cases ht with
      | on hTT hI2 =>
        rename_i m2 T'
        obtain ⟨H', q⟩ := ih (i + 1) s T' m2 (G ++ [outB 0 anZ tq tq tq]) t1 t2 t3' (by omega) (by omega) hI2 (by omega) (hG.out os)
        refine ⟨H', fun K => ?_⟩
        unfold s_triunelaw08_MasterEnds_B3
        unfold outB outE at *
        simp -implicitDefEqProofs (disch := first | omega | (simp only [List.length_set, List.length_append, List.length_cons, List.length_nil, List.length_take, List.length_drop, List.length_map]; omega) | simp) [wrap_i64, wrap_u16_id, wrap_u8_id, tdiv_pos, tmod_pos, -getElem?_pos, -getElem?_neg, -List.length_eq_zero_iff, -List.getElem_cons_drop, e0, hc1, hP, hlt, hT1, hGl, q]
      | sent hTT hs hI2 =>
        rename_i m2 T'
        obtain ⟨H', q⟩ := ih (i + 1) (s + 1) T' m2 (G ++ [outB 0 anZ tq tq tq]) t1 t2 t3' (by omega) (by omega) hI2 (by omega) (hG.out os)
        have hS := cP_up (ref01_Same_c n (putI (u :: textV a)) (putI (u :: textV a)) tb tf (by omega) (by omega))
        simp only [decide_true] at hS
        refine ⟨H', fun K => ?_⟩
        unfold s_triunelaw08_MasterEnds_B3
        unfold outB outE at *
        have hs2 : ¬ tr < s + 1 := by omega
        simp -implicitDefEqProofs (disch := first | omega | (simp only [List.length_set, List.length_append, List.length_cons, List.length_nil, List.length_take, List.length_drop, List.length_map]; omega) | simp) [wrap_i64, wrap_u16_id, wrap_u8_id, tdiv_pos, tmod_pos, -getElem?_pos, -getElem?_neg, -List.length_eq_zero_iff, -List.getElem_cons_drop, e0, hc1, hc2, hP, hlt, hT1, hGl, hS, hfpos, hs2, q]
      | done hz ok hv oky =>
        rename_i m2 y
        have ez : tickV m2 = ([], 0, anZ, m2.tock) := by unfold tickV; rw [if_pos hz]
        have hbz : decide (m2.tock.st ≠ 0) = false := decide_eq_false (by intro h; exact h hz)
        obtain ⟨tb2, tq2, t4, G2, os2, hT2, hGl2, hG2, hGo2⟩ := (hG.out (k := 1) (x := y) os).tick n (by omega) ok
        rw [ez] at hT2 hG2
        rw [List.append_assoc] at hT2
        simp only [List.cons_append, List.nil_append] at hT2
        have hx : G2[H1.length]? = some (outB 1 y tq tq tq) := by rw [hGo2 _ (by omega), ← hGl]; simp
        have hB := mBusy_c n 2 (by omega) (G2 ++ [outB 0 anZ tq2 tq2 tq2]) m2.tock _ _ _ (hG2.out os2).mb
        rw [hbz] at hB
        have hR2 := cP_up (ansRight_c n (by omega) a y oky .sh .sh tq tq tq)
        rw [hv] at hR2
        have hc3 := hG2.c
        have ha3 := hG2.a
        have hl3 := hG2.len
        have hl4 : H1.length < G2.length := by rw [hGl2]; simp; omega
        have hGl2 : G2.length = H1.length + 1 := by rw [hGl2]; simp; omega
        refine ⟨G2 ++ [outB 0 anZ tq2 tq2 tq2], fun K => ?_⟩
        unfold s_triunelaw08_MasterEnds_B3
        unfold outB outE anE rqE at *
        simp only [cells_agg] at *
        simp -implicitDefEqProofs (disch := first | omega | (simp only [List.length_set, List.length_append, List.length_cons, List.length_nil, List.length_take, List.length_drop, List.length_map]; omega) | simp) [wrap_i64, wrap_u16_id, wrap_u8_id, tdiv_pos, tmod_pos, -getElem?_pos, -getElem?_neg, -List.length_eq_zero_iff, -List.getElem_cons_drop, e0, hc1, hP, hlt, hT1, hGl, hT2, hGl2, hx, hB, hR2, hc3, ha3, hl3, hl4]
      | not hz ok hk hs =>
        rename_i m2 kd
        have ez : tickV m2 = ([], 0, anZ, m2.tock) := by unfold tickV; rw [if_pos hz]
        have hbz : decide (m2.tock.st ≠ 0) = false := decide_eq_false (by intro h; exact h hz)
        obtain ⟨tb2, tq2, t4, G2, os2, hT2, hGl2, hG2, hGo2⟩ := (hG.out (k := kd) (x := anZ) os).tick n (by omega) ok
        rw [ez] at hT2 hG2
        rw [List.append_assoc] at hT2
        simp only [List.cons_append, List.nil_append] at hT2
        have hx : G2[H1.length]? = some (outB kd anZ tq tq tq) := by rw [hGo2 _ (by omega), ← hGl]; simp
        have hB := mBusy_c n 2 (by omega) (G2 ++ [outB 0 anZ tq2 tq2 tq2]) m2.tock _ _ _ (hG2.out os2).mb
        rw [hbz] at hB
        have hc3 := hG2.c
        have ha3 := hG2.a
        have hl3 := hG2.len
        have hl4 : H1.length < G2.length := by rw [hGl2]; simp; omega
        have hGl2 : G2.length = H1.length + 1 := by rw [hGl2]; simp; omega
        have k1 : ¬ kd = 0 := by omega
        have k2 : ¬ kd = 1 := by omega
        subst hs
        refine ⟨G2 ++ [outB 0 anZ tq2 tq2 tq2], fun K => ?_⟩
        unfold s_triunelaw08_MasterEnds_B3
        unfold outB outE rqE at *
        simp only [cells_agg] at *
        simp -implicitDefEqProofs (disch := first | omega | (simp only [List.length_set, List.length_append, List.length_cons, List.length_nil, List.length_take, List.length_drop, List.length_map]; omega) | simp) [wrap_i64, wrap_u16_id, wrap_u8_id, tdiv_pos, tmod_pos, -getElem?_pos, -getElem?_neg, -List.length_eq_zero_iff, -List.getElem_cons_drop, e0, hc1, hP, hlt, hT1, hGl, hT2, hGl2, hx, hB, hc3, ha3, hl3, hl4, k1, k2]
    obtain ⟨j, rfl⟩ := Int.eq_ofNat_of_zero_le h0
    have e0 : ¬ (j : Int) < 0 := by omega
    by_cases hj : j < noise.length
    · obtain ⟨hb1, hb2⟩ := hnb _ (List.getElem_mem hj)
      obtain ⟨t4, H1, hK, hH1⟩ := hH.take n (by omega) noise[j] hI.ok.l (by omega)
      obtain ⟨H', q⟩ := core _ H1 t4 (end_take hI hb1) hH1
      refine ⟨H', fun K => ?_⟩
      have hc1 := hH1.c
      unfold s_triunelaw08_MasterEnds_L3
      rw [← q K]
      clear q core ih
      unfold s_triunelaw08_MasterEnds_B3
      simp -implicitDefEqProofs (disch := first | omega | (simp only [List.length_set, List.length_append, List.length_cons, List.length_nil, List.length_take, List.length_drop, List.length_map]; omega) | simp) [wrap_i64, wrap_u16_id, wrap_u8_id, tdiv_pos, tmod_pos, -getElem?_pos, -getElem?_neg, -List.length_eq_zero_iff, -List.getElem_cons_drop, e0, hj, hc0, hc1, hP, hlt, nsE_cells, hK]
    · obtain ⟨H', q⟩ := core _ H t3 hI hH
      refine ⟨H', fun K => ?_⟩
      unfold s_triunelaw08_MasterEnds_L3
      rw [← q K]
      clear q core ih
      unfold s_triunelaw08_MasterEnds_B3
      have e1 : ¬ (j : Int) < noise.length := by omega
      simp -implicitDefEqProofs (disch := first | omega | (simp only [List.length_set, List.length_append, List.length_cons, List.length_nil, List.length_take, List.length_drop, List.length_map]; omega) | simp) [wrap_i64, wrap_u16_id, wrap_u8_id, tdiv_pos, tmod_pos, -getElem?_pos, -getElem?_neg, -List.length_eq_zero_iff, -List.getElem_cons_drop, e0, e1, hc0, hP, hlt]
end Go.Proofs.Ytcpgmbpndpcmdaa
namespace Go.Proofs.Ytcpgmbpndpcmdaa
open Go Go.RowKit
set_option linter.unusedSimpArgs false
set_option linter.unusedVariables false
def mstV (u g wt tr st q f n c ad ct to_ : Int) (vw vb : Value) (an or_ : Int) (vc : Value) : Array Value := #[.int .u8 u, .int .i64 g, .int .i64 wt, .int .i64 tr, .int .i64 st, .int .i64 q, .int .i64 f, .int .i64 n, .int .i64 c, .int .i64 ad, .int .i64 ct, .int .i64 to_, vw, vb, .int .u16 an, .int .u16 or_, vc]
theorem grown_set' {w : World} {b k : Nat} {v : Value} : w.grownBy (w.setCell ⟨b, k, none⟩ v) (some b) := ⟨rfl, rfl, rfl, by simp [World.setCell], fun i _ hi => Below.heap_setCell _ _ _ _ (fun e => hi (by rw [e]))⟩
theorem Busy_w (W : World) (bm : Nat) (st : Int) (h : W.cell? ⟨bm, 4, none⟩ = some (.int .i64 st)) (hs : st = 0) : Calls Try.prog 15 #[.pointer (some ⟨bm, 0, none⟩)] W fun e w' => e = .returned (.bool false) ∧ w' = W := by
  subst hs
  go_enter Try.func15, Try.ntmps15
  go_wp2
  go_ret
  exact ⟨rfl, rfl⟩
theorem turn_w (W : World) (bm : Nat) (cs : Array Value) (h : BX W bm 62 cs) (hs : cs.size = 17) : Calls Try.prog 24 #[.pointer (some ⟨bm, 0, none⟩), .int .i64 1] W fun e w' => e = .returned (.tuple #[]) ∧ w' = ((W.setCell ⟨bm, 4, none⟩ (.int .i64 1)).setCell ⟨bm, 6, none⟩ (.int .i64 0)).setCell ⟨bm, 16, none⟩ (.slice none 0 0) := by
  have c4 := h.cell 4 (v := cs[4]'(by omega)) (by simp)
  have c6 := h.cell 6 (v := cs[6]'(by omega)) (by simp)
  have c16 := h.cell 16 (v := cs[16]'(by omega)) (by simp)
  have f4 := h.frozen 4
  have f6 := h.frozen 6
  have f16 := h.frozen 16
  generalize cs[4]'(by omega) = x4 at c4
  generalize cs[6]'(by omega) = x6 at c6
  generalize cs[16]'(by omega) = x16 at c16
  clear h
  go_enter Try.func24, Try.ntmps24
  go_wp2
  go_end0
  exact ⟨rfl, rfl⟩
def askW (w : World) (bm : Nat) (a : Rq) (v1 v2 : Value) : World := ((((((((w.setCell ⟨bm, 8, none⟩ (.int .i64 a.code)).setCell ⟨bm, 9, none⟩ (.int .i64 a.addr)).setCell ⟨bm, 10, none⟩ (.int .i64 a.cnt)).setCell ⟨bm, 11, none⟩ (.int .i64 a.to_)).setCell ⟨bm, 12, none⟩ v1).setCell ⟨bm, 13, none⟩ v2).setCell ⟨bm, 14, none⟩ (.int .u16 a.and_)).setCell ⟨bm, 15, none⟩ (.int .u16 a.or_)).setCell ⟨bm, 7, none⟩ (.int .i64 0)
def turnW (w : World) (bm : Nat) : World := ((w.setCell ⟨bm, 4, none⟩ (.int .i64 1)).setCell ⟨bm, 6, none⟩ (.int .i64 0)).setCell ⟨bm, 16, none⟩ (.slice none 0 0)
theorem askW_bx {w : World} {bm : Nat} {u g wt tr : Int} {a : Rq} {v1 v2 : Value} (h : BX w bm 62 (mstV u g wt tr 0 g 0 0 0 0 0 0 (.slice none 0 0) (.slice none 0 0) 0 0 (.slice none 0 0))) : BX (askW w bm a v1 v2) bm 62 (mstV u g wt tr 0 g 0 0 a.code a.addr a.cnt a.to_ v1 v2 a.and_ a.or_ (.slice none 0 0)) := by
  have := ((((((((h.set 8 (.int .i64 a.code)).set 9 (.int .i64 a.addr)).set 10 (.int .i64 a.cnt)).set 11 (.int .i64 a.to_)).set 12 v1).set 13 v2).set 14 (.int .u16 a.and_)).set 15 (.int .u16 a.or_)).set 7 (.int .i64 0)
  unfold askW mstV at *
  simpa using this
theorem turnW_bx {w : World} {bm : Nat} {u g wt tr : Int} {a : Rq} {v1 v2 : Value} (h : BX w bm 62 (mstV u g wt tr 0 g 0 0 a.code a.addr a.cnt a.to_ v1 v2 a.and_ a.or_ (.slice none 0 0))) : BX (turnW w bm) bm 62 (mstV u g wt tr 1 g 0 0 a.code a.addr a.cnt a.to_ v1 v2 a.and_ a.or_ (.slice none 0 0)) := by
  have := ((h.set 4 (.int .i64 1)).set 6 (.int .i64 0)).set 16 (.slice none 0 0)
  unfold turnW mstV at *
  simpa using this
theorem askW_own {α : Type} {enc : α → Value} {e : TypeId} {w : World} {base bm : Nat} {a : Rq} {v v1 v2 : Value} {l : List α} (h : Own enc e w base v l) (hb : bm < base) : Own enc e (turnW (askW w bm a v1 v2) bm) base v l := by
  unfold turnW askW
  exact own_other (own_other (own_other (own_other (own_other (own_other (own_other (own_other (own_other (own_other (own_other (own_other h hb) hb) hb) hb) hb) hb) hb) hb) hb) hb) hb) hb
theorem askW_grown {w0 w : World} {bm : Nat} {a : Rq} {v1 v2 : Value} (h : w0.grownBy w (some bm)) : w0.grownBy (turnW (askW w bm a v1 v2) bm) (some bm) := by
  unfold turnW askW
  exact grown_trans (grown_trans (grown_trans (grown_trans (grown_trans (grown_trans (grown_trans (grown_trans (grown_trans (grown_trans (grown_trans (grown_trans h grown_set') grown_set') grown_set') grown_set') grown_set') grown_set') grown_set') grown_set') grown_set') grown_set') grown_set') grown_set'
def MidS (w : World) (bm : Nat) (u g wt tr : Int) (a : Rq) (wx : World) : Prop := ∃ B1 k1 B2 k2, BX wx bm 62 (mstV u g wt tr 0 g 0 0 0 0 0 0 (.slice none 0 0) (.slice none 0 0) 0 0 (.slice none 0 0)) ∧
  BX wx w.heap.size 28 #[.int .i64 a.code, .int .i64 a.addr, .int .i64 a.cnt, .int .i64 a.to_, .slice B1 (toW a.words).length k1, .slice B2 a.bits.length k2, .int .u16 a.and_, .int .u16 a.or_] ∧
  Own encW 26 wx (w.heap.size + 1) (.slice B1 (toW a.words).length k1) (toW a.words) ∧ Own encT 4 wx (w.heap.size + 1) (.slice B2 a.bits.length k2) a.bits ∧ Below w.heap.size w wx
set_option maxRecDepth 20000 in
set_option maxHeartbeats 3200000 in
theorem Start_w (w : World) (bm : Nat) (u g wt tr : Int) (a : Rq) (vw vb : Value) (hX : BX w bm 62 (mstV u g wt tr 0 g 0 0 0 0 0 0 (.slice none 0 0) (.slice none 0 0) 0 0 (.slice none 0 0))) (hw : Words a.words) (a1 : RdV encW w vw (toW a.words)) (a2 : RdV encT w vb a.bits) (hR : RightP a) (l1 : a.words.length ≤ 100000) (l2 : a.bits.length ≤ 100000) :
    Calls Try.prog 9 #[.pointer (some ⟨bm, 0, none⟩), rqW a vw vb] w fun e w' => e = .returned (.int .i64 0) ∧ ∃ v1 v2, BX w' bm 62 (mstV u g wt tr 1 g 0 0 a.code a.addr a.cnt a.to_ v1 v2 a.and_ a.or_ (.slice none 0 0)) ∧ Own encW 26 w' w.heap.size v1 (toW a.words) ∧ Own encT 4 w' w.heap.size v2 a.bits ∧ w.grownBy w' (some bm) := by
  have hbm := hX.lt
  have m4 := hX.cell 4 rfl
  have hl1 : (toW a.words).length ≤ 100000 := by simpa [toW] using l1
  obtain ⟨A1, c1, rfl, _⟩ := a1.open
  obtain ⟨A2, c2, rfl, _⟩ := a2.open
  have a1 := Lib.hid a1
  have a2 := Lib.hid a2
  have hX := Lib.hid hX
  have hask := Lib.hid (fun (W : World) (h1 : RdV encW W (.slice A1 (toW a.words).length c1) (toW a.words)) (h2 : RdV encT W (.slice A2 a.bits.length c2) a.bits) => askRight_w a _ _ W hw h1 h2)
  unfold rqW
  go_enter Try.func9, Try.ntmps9
  go_wp2_with (first | (go_at_call 15; refine (Busy_w _ bm 0 ((hX.out.alloc _).cell 4 rfl) rfl).mono ?_; rintro e w1 ⟨rfl, rfl⟩) | (go_at_call 21; refine (hask.out _ (a1.out.alloc _) (a2.out.alloc _)).mono ?_; rw [decide_eq_true hR]; rintro e w2 ⟨rfl, hB2⟩; (have hX2 := Lib.hid ((hX.out.alloc _).below hB2)); (have hx2 : BX _ w.heap.size 28 _ := (BX.made rfl).below hB2); (have b4 := hx2.cell 4 (v := .slice A1 (toW a.words).length c1) rfl); (have b5 := hx2.cell 5 (v := .slice A2 a.bits.length c2) rfl); (have b4 := cell_drew' b4); (have b5 := cell_drew' b5); (have hx2 := Lib.hid hx2); (have r1 := Lib.hid ((a1.out.alloc _).below hB2)); (have r2 := Lib.hid ((a2.out.alloc _).below hB2)); (have hB2 := Lib.hid hB2)))
  go_cut [] (fun wx => Hid (MidS w bm u g wt tr a wx))
  case first =>
    go_region_with (first | (go_at_call 22; refine (clone16_w _ (toW a.words) _ ?_ hl1).mono ?_; exact r1.out.drew; rintro e w3 ⟨v1, rfl, ho1, hB3⟩; (obtain ⟨B1, k1, rfl, _⟩ := ho1.rd.open); (have hx3 := hx2.out.drew.below hB3); (have d5 := hx3.cell 5 (v := .slice A2 a.bits.length c2) rfl); (have hx3 := Lib.hid hx3); (have r2' := Lib.hid (r2.out.drew.below hB3)); (have hX3 := Lib.hid (hX2.out.drew.below hB3)); (have ho1 := Lib.hid ho1); have hB3 := Lib.hid hB3) | (go_at_call 23; refine (cloneT_w _ a.bits _ ?_ l2).mono ?_; exact r2'.out; rintro e w4 ⟨v2, rfl, ho2, hB4⟩; (obtain ⟨B2, k2, rfl, _⟩ := ho2.rd.open); (have hx4 := hx3.out.below hB4); (have e4 := hx4.cell 4 (v := .slice A1 (toW a.words).length c1) rfl); (have e5 := hx4.cell 5 (v := .slice A2 a.bits.length c2) rfl); (have g4 := hx4.frozen 4); (have g5 := hx4.frozen 5); (have hx4 := Lib.hid hx4); (have hX4 := Lib.hid (hX3.out.below hB4)); (have ho2 := Lib.hid ho2); (have ho1' := Lib.hid (ho1.out.below hB4)); have hB4 := Lib.hid hB4))
    all_goals (
      have hne : bm ≠ w.heap.size := by omega
      have hB0 : Below w.heap.size w w4 := by
        have h1 := belowT (belowA (Below.refl _ w) _) hB2.out
        have h2 := Below.drew h1
        have h3 : Below w.heap.size w w3 := h2.trans (hB3.out.mono h2.size)
        exact belowT h3 hB4.out
      have hwb3 : w.heap.size < w3.heap.size := hx3.out.lt
      have hwb2 : w.heap.size < w2.heap.size := hx2.out.lt
      have hX5 := (hX4.out.other hne 4 (Value.slice B1 (toW a.words).length k1)).other hne 5 (Value.slice B2 a.bits.length k2)
      have hx5 : BX ((w4.setCell ⟨w.heap.size, 4, none⟩ (Value.slice B1 (toW a.words).length k1)).setCell ⟨w.heap.size, 5, none⟩ (Value.slice B2 a.bits.length k2)) w.heap.size 28 #[.int .i64 a.code, .int .i64 a.addr, .int .i64 a.cnt, .int .i64 a.to_, .slice B1 (toW a.words).length k1, .slice B2 a.bits.length k2, .int .u16 a.and_, .int .u16 a.or_] := (hx4.out.set 4 _).set 5 _
      have ho1f := own_other (k := 5) (u := Value.slice B2 a.bits.length k2) (own_other (k := 4) (u := Value.slice B1 (toW a.words).length k1) (ho1'.out.lower (base' := w.heap.size + 1) (by simp; omega)) (show w.heap.size < w.heap.size + 1 by omega)) (show w.heap.size < w.heap.size + 1 by omega)
      have ho2f := own_other (k := 5) (u := Value.slice B2 a.bits.length k2) (own_other (k := 4) (u := Value.slice B1 (toW a.words).length k1) (ho2.out.lower (base' := w.heap.size + 1) (by omega)) (show w.heap.size < w.heap.size + 1 by omega)) (show w.heap.size < w.heap.size + 1 by omega)
      have hB5 := (hB0.setCell (p := ⟨w.heap.size, 4, none⟩) (Nat.le_refl _) (Value.slice B1 (toW a.words).length k1)).setCell (p := ⟨w.heap.size, 5, none⟩) (Nat.le_refl _) (Value.slice B2 a.bits.length k2)
      go_wp2_with fail
      go_meet
      exact Lib.hid ⟨B1, k1, B2, k2, hX5, hx5, ho1f, ho2f, hB5⟩)
  case rest =>
    obtain ⟨B1, k1, B2, k2, hX5, hx5, ho1f, ho2f, hB5⟩ := hcut.out
    clear hcut
    have y0 := hx5.cell 0 (v := .int .i64 a.code) rfl
    have y1 := hx5.cell 1 (v := .int .i64 a.addr) rfl
    have y2 := hx5.cell 2 (v := .int .i64 a.cnt) rfl
    have y3 := hx5.cell 3 (v := .int .i64 a.to_) rfl
    have y4 := hx5.cell 4 (v := .slice B1 (toW a.words).length k1) rfl
    have y5 := hx5.cell 5 (v := .slice B2 a.bits.length k2) rfl
    have y6 := hx5.cell 6 (v := .int .u16 a.and_) rfl
    have y7 := hx5.cell 7 (v := .int .u16 a.or_) rfl
    have p7 := hX5.cell 7 (v := .int .i64 0) rfl
    have q7 := hX5.frozen 7
    have p8 := hX5.cell 8 (v := .int .i64 0) rfl
    have q8 := hX5.frozen 8
    have p9 := hX5.cell 9 (v := .int .i64 0) rfl
    have q9 := hX5.frozen 9
    have p10 := hX5.cell 10 (v := .int .i64 0) rfl
    have q10 := hX5.frozen 10
    have p11 := hX5.cell 11 (v := .int .i64 0) rfl
    have q11 := hX5.frozen 11
    have p12 := hX5.cell 12 (v := .slice none 0 0) rfl
    have q12 := hX5.frozen 12
    have p13 := hX5.cell 13 (v := .slice none 0 0) rfl
    have q13 := hX5.frozen 13
    have p14 := hX5.cell 14 (v := .int .u16 0) rfl
    have q14 := hX5.frozen 14
    have p15 := hX5.cell 15 (v := .int .u16 0) rfl
    have q15 := hX5.frozen 15
    have hX5 := Lib.hid hX5
    have hx5 := Lib.hid hx5
    have ho1f := Lib.hid ho1f
    have ho2f := Lib.hid ho2f
    have hB5 := Lib.hid hB5
    have hX6 := askW_bx (a := a) (v1 := .slice B1 (toW a.words).length k1) (v2 := .slice B2 a.bits.length k2) hX5.out
    have hXF := Lib.hid (turnW_bx hX6)
    have hO1 := Lib.hid (askW_own (a := a) (v1 := .slice B1 (toW a.words).length k1) (v2 := .slice B2 a.bits.length k2) (ho1f.out.lower (base' := w.heap.size) (by omega)) hbm)
    have hO2 := Lib.hid (askW_own (a := a) (v1 := .slice B1 (toW a.words).length k1) (v2 := .slice B2 a.bits.length k2) (ho2f.out.lower (base' := w.heap.size) (by omega)) hbm)
    have hGF := Lib.hid (askW_grown (bm := bm) (a := a) (v1 := .slice B1 (toW a.words).length k1) (v2 := .slice B2 a.bits.length k2) (grown_below (r := some bm) hB5.out))
    have hturn := turn_w (askW wc bm a (.slice B1 (toW a.words).length k1) (.slice B2 a.bits.length k2)) bm _ hX6 (by unfold mstV; rfl)
    have hturn := Lib.hid hturn
    clear hx5 ho1f ho2f hB5 hX5 hX6
    go_wp2_with (go_at_call 24; refine hturn.out.mono ?_; rintro e w6 ⟨rfl, rfl⟩)
    go_ret
    exact ⟨rfl, _, _, hXF.out, hO1.out, hO2.out, hGF.out⟩
end Go.Proofs.Ytcpgmbpndpcmdaa
namespace Go.Proofs.Ytcpgmbpndpcmdaa
open Go Go.RowKit
set_option linter.unusedSimpArgs false
set_option linter.unusedVariables false
theorem cP2_open {n : Nat} {f : FuncId} {args : List DV} {r : DV} (h : cP2 n f false args = some r) : ∃ bs r0 H', mapO argEl args = some bs ∧ callG Try.prog ENV2 n f bs [] 0 = some (r0, H') ∧ outD false H' r0 = some r := by
  unfold cP2 callP at h
  obtain ⟨bs, h1, h⟩ := bi_eq h
  obtain ⟨p, h2, h⟩ := bi_eq h
  exact ⟨bs, p.1, p.2, h1, h2, h⟩
theorem cP2_calls {n : Nat} {f : FuncId} {args : List DV} {r : DV} (h : cP2 n f false args = some r) (ha : mapO argEl args = some args) (B : Nat → Nat → Prop) {w : World} {vs : Array Value} (hB : ∀ b j, w.heap.size ≤ b → B b j) (hr : RepL (ImmB B []) w [] args vs.toList) : Calls Try.prog f vs w fun e w' => ∃ V, e = .returned V ∧ Below w.heap.size w w' ∧ Rep B w' [] r V := by
  obtain ⟨bs, r0, H', h1, h2, h3⟩ := cP2_open h
  rw [ha] at h1
  obtain rfl := Option.some.inj h1
  refine ((call_sound mixed noOwn primSound2 n _ _ _ _ _ _ (callG_ok _ _ _ _ _ _ _ _ h2)).1 B [] w vs hB (hr_nil _ w) hr (Nat.zero_le _)).1.mono fun e w' ⟨V, G', he, hK, hH, hd⟩ => ?_
  refine ⟨V, he, ⟨hK.os, hK.tape, hK.output, hK.size, fun b hb => hK.blk b hb fun k hk => ?_⟩, outD_rep h3 hd (fun _ => hH) (fun b j _ hi => hi.1) (fun k b _ h2 j => hH.bb k b (.inl h2) j)⟩
  rcases hk with hk | ⟨_, _, _, hk⟩ <;> simp at hk
theorem rep_any {w w' : World} {J : Nat → Nat → Prop} {G : Gh} {d : DV} {V : Value} (h : Rep Any w [] d V) (hw : ∀ b, b < w.heap.size → w'.heap[b]? = w.heap[b]?) (hJ : ∀ b j, b < w.heap.size → J b j) : Rep J w' G d V :=
  Rep.stay (fun b j v _ hc => ⟨(cell_of_blk (hw b (cell_lt hc)) j).trans hc, hJ b j (cell_lt hc)⟩) (Evol.nil G) d V h
theorem rep_to {w w' : World} {J J' : Nat → Nat → Prop} {G : Gh} {d : DV} {V : Value} (h : Rep J w [] d V) (hw : ∀ b, b < w.heap.size → w'.heap[b]? = w.heap[b]?) (hJ : ∀ b j, b < w.heap.size → J b j → J' b j) : Rep J' w' G d V :=
  Rep.stay (fun b j v hj hc => ⟨(cell_of_blk (hw b (cell_lt hc)) j).trans hc, hJ b j (cell_lt hc) hj⟩) (Evol.nil G) d V h
def cfgW (u g wt tr : Int) : Value := .agg #[.int .u8 u, .int .i64 g, .int .i64 wt, .int .i64 tr]
theorem immT (b j : Nat) : ImmB (fun _ _ => True) [] b j := ⟨trivial, fun k hk => by simp at hk, fun k s c n hk => by simp at hk⟩
theorem awake08_w (w : World) : Calls Try.prog 5 #[] w fun e w' => e = .returned (.bool true) ∧ Below w.heap.size w w' := by
  refine (cP2_calls (awake08 39998 rfl) (by simp) (fun _ _ => True) (fun _ _ _ => trivial) (by simp [RepL])).mono ?_
  rintro e w' ⟨V, rfl, hb, hV⟩
  simp only [Rep] at hV
  subst hV
  exact ⟨rfl, hb⟩
theorem mRight_w (u g wt tr : Int) (w : World) (h : CfgP u g wt tr) : Calls Try.prog 7 #[cfgW u g wt tr] w fun e w' => e = .returned (.bool true) ∧ Below w.heap.size w w' := by
  have h1 := mRight_c 10 (by omega) u g wt tr
  rw [decide_eq_true h] at h1
  refine (cP2_calls h1 (by simp [argEl_eq, cfgE]) (fun _ _ => True) (fun _ _ _ => trivial) ?_).mono ?_
  · unfold cfgE cfgW
    simp only [RepL, Rep, I]
    exact ⟨_, _, rfl, ⟨_, rfl, _, _, rfl, rfl, _, _, rfl, rfl, _, _, rfl, rfl, _, _, rfl, rfl, rfl⟩, rfl⟩
  rintro e w' ⟨V, rfl, hb, hV⟩
  simp only [Rep] at hV
  subst hV
  exact ⟨rfl, hb⟩
theorem Large_w (a : Rq) (vw vb : Value) (w : World) (hw : Words a.words) (a1 : RdV encW w vw (toW a.words)) (a2 : RdV encT w vb a.bits) (hl : lgV a = false) :
    Calls Try.prog 8 #[rqW a vw vb] w fun e w' => e = .returned (.bool false) ∧ Below w.heap.size w w' := by
  have h1 := ref06_Large_c 10 a .sh .sh (by omega)
  rw [hl] at h1
  refine (cP_calls h1 (by simp [argEl_eq, rqE]) (fun _ _ => True) (fun _ _ _ => trivial) ?_).mono ?_
  · simp only [RepL]
    exact ⟨_, _, rfl, rq_rep hw a1 a2 (fun p n c _ _ j => immT _ _) (fun p n c _ _ j => immT _ _), rfl⟩
  · rintro e w' ⟨V, rfl, hb, hV⟩
    simp only [Rep] at hV
    subst hV
    exact ⟨rfl, hb⟩
theorem New_w (W : World) (u g wt tr : Int) (hC : CfgP u g wt tr) : Calls Try.prog 6 #[cfgW u g wt tr] W fun e w' => ∃ bm, e = .returned (.tuple #[.pointer (some ⟨bm, 0, none⟩), .int .i64 0]) ∧ Below W.heap.size W w' ∧ W.heap.size ≤ bm ∧ BX w' bm 62 (mstV u g wt tr 0 g 0 0 0 0 0 0 (.slice none 0 0) (.slice none 0 0) 0 0 (.slice none 0 0)) := by
  have hr := Lib.hid fun w => mRight_w u g wt tr w hC
  unfold cfgW at hr ⊢
  go_enter Try.func6, Try.ntmps6
  go_wp2_with (go_at_call 7; refine (hr.out _).mono ?_; rintro e w1 ⟨rfl, hB1⟩; (have hx : BX _ W.heap.size 23 _ := (BX.made rfl).below hB1); (have x0 := hx.cell 0 (v := .int .u8 u) rfl); (have x1 := hx.cell 1 (v := .int .i64 g) rfl); (have x2 := hx.cell 2 (v := .int .i64 wt) rfl); (have x3 := hx.cell 3 (v := .int .i64 tr) rfl); (have hB2 := Lib.hid (belowT (belowA (Below.refl _ W) _) hB1)); clear hx; have hB1 := Lib.hid hB1)
  go_ret2
  exact ⟨_, rfl, belowA hB2.out _, hB2.out.size, BX.made rfl⟩
theorem Start_no_w (w : World) (bm : Nat) (a : Rq) (vw vb : Value) (cs : Array Value) (hX : BX w bm 62 cs) (hc : cs[4]? = some (.int .i64 0)) (hw : Words a.words) (a1 : RdV encW w vw (toW a.words)) (a2 : RdV encT w vb a.bits) (hR : ¬ RightP a) :
    Calls Try.prog 9 #[.pointer (some ⟨bm, 0, none⟩), rqW a vw vb] w fun e w' => e = .returned (.int .i64 2) ∧ Below w.heap.size w w' := by
  have hbm := hX.lt
  have m4 := hX.cell 4 hc
  obtain ⟨A1, c1, rfl, _⟩ := a1.open
  obtain ⟨A2, c2, rfl, _⟩ := a2.open
  have a1 := Lib.hid a1
  have a2 := Lib.hid a2
  have hX := Lib.hid hX
  have hask := Lib.hid (fun (W : World) (h1 : RdV encW W (.slice A1 (toW a.words).length c1) (toW a.words)) (h2 : RdV encT W (.slice A2 a.bits.length c2) a.bits) => askRight_w a _ _ W hw h1 h2)
  unfold rqW
  go_enter Try.func9, Try.ntmps9
  go_wp2_with (first | (go_at_call 15; refine (Busy_w _ bm 0 ((hX.out.alloc _).cell 4 hc) rfl).mono ?_; rintro e w1 ⟨rfl, rfl⟩) | (go_at_call 21; refine (hask.out _ (a1.out.alloc _) (a2.out.alloc _)).mono ?_; rw [decide_eq_false hR]; rintro e w2 ⟨rfl, hB2⟩; have hB2 := Lib.hid (belowT (belowA (Below.refl _ w) _) hB2)))
  go_ret
  exact ⟨rfl, hB2.out⟩
theorem tup2 {I : Nat → Nat → Prop} {w : World} {G : Gh} {d : DV} {x : Value} {V : Value} (h : Rep I w G (.tup [d, .flat x]) V) : ∃ v, V = .tuple #[v, x] ∧ Rep I w G d v := by
  simp only [Rep, RepL] at h
  obtain ⟨vs, rfl, v1, r1, h1, h2, v2, r2, h3, h4, h5⟩ := h
  subst h5; subst h3; subst h4
  obtain rfl : vs = #[v1, v2] := by cases vs; simp_all
  exact ⟨v1, rfl, h2⟩
theorem askBytes_w (B : Nat → Nat → Prop) (a : Rq) (oa : RqOk a) (hR : RightP a) (V : Value) (w : World) (hB : ∀ b j, w.heap.size ≤ b → B b j) (hr : Rep (ImmB B []) w [] (rqE a .sh .sh) V) :
    Calls Try.prog 10 #[V] w fun e w' => ∃ v, e = .returned (.tuple #[v, .int .i64 0]) ∧ Rep B w' [] (LV 1 (I .u8) (textV a) .sh) v ∧ Below w.heap.size w w' := by
  have h1 := Bytes_c 1000 (by omega) a oa .sh .sh
  rw [if_pos hR] at h1
  refine (cP_calls h1 (by simp [argEl_eq, rqE]) B hB ?_).mono ?_
  · simp only [RepL]
    exact ⟨_, _, rfl, hr, rfl⟩
  · rintro e w' ⟨V, rfl, hb, hV⟩
    obtain ⟨v, rfl, hv⟩ := tup2 hV
    exact ⟨v, rfl, hv, hb⟩
theorem rtuBytes_w (B : Nat → Nat → Prop) (u : Int) (l : List Int) (v : Value) (w : World) (hu : 0 ≤ u ∧ u < 256) (hl : Bytes l) (l1 : 1 ≤ l.length) (l2 : l.length ≤ 253) (hB : ∀ b j, w.heap.size ≤ b → B b j) (hr : Rep (ImmB B []) w [] (LV 1 (I .u8) l .sh) v) :
    Calls Try.prog 11 #[.agg #[.int .u8 u, v]] w fun e w' => ∃ v', e = .returned (.tuple #[v', .int .i64 0]) ∧ Rep B w' [] (LV 1 (I .u8) (putI (u :: l)) .sh) v' ∧ Below w.heap.size w w' := by
  have h1 := rtu_Bytes_c 2000 ⟨u, l⟩ .sh ⟨hu, hl, by show l.length ≤ 1000; omega⟩ (by omega)
  unfold bytV at h1
  rw [if_neg (by show ¬ l.length < 1; omega), if_neg (by show ¬ 253 < l.length; omega)] at h1
  refine (cP_calls h1 (by simp [argEl_eq, fmE]) B hB ?_).mono ?_
  · unfold fmE
    simp only [RepL, Rep]
    exact ⟨_, _, rfl, ⟨_, rfl, _, _, rfl, rfl, _, _, rfl, hr, rfl⟩, rfl⟩
  · rintro e w' ⟨V, rfl, hb, hV⟩
    obtain ⟨v, rfl, hv⟩ := tup2 hV
    exact ⟨v, rfl, hv, hb⟩
end Go.Proofs.Ytcpgmbpndpcmdaa
