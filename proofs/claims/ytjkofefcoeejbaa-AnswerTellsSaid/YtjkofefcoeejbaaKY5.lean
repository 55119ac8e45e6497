/- Texts of mine, laid together: KY5. -/
import Derived.Test.YtjkofefcoeejbaaKY4
import Derived.RangeFuncBox
import Derived.RangeFuncLeaves
import Derived.Shelf.Abstract
import Derived.WalkKit
import Derived.OwnWalkIn
import Derived.TacticsInMore
import Derived.LoopNIn
import Derived.LoopIn
import Derived.Maps.AppendAt
import Derived.Sort.Row
import Derived.Sort.LotA
import Derived.BigGuard
import Derived.BigCall
import Derived.CellFam
import Derived.Deep.Draws
import Derived.Deep.QuietTactic
import Derived.BigQuiet
import Derived.Deep.RegionHeld3
import Derived.IntWalk
import Derived.Below
import Derived.Lib.Walk
import Derived.Lib.SliceRun
import Derived.Lib.AppendZerosOnto
import Derived.SizedLaws
import Derived.ChangeSlices
import Derived.OpenShut
import Derived.ChangeArms
/- Texts of mine, laid together: PrimL, MedA, MedS, PlainV, MedM, Word, RefW, PrimW, PrimS, GPrimC, GAskE, Op, Shp, GAskL. -/
/- Lists of scalars, as the old contracts read them. -/
namespace Go.Proofs.Ytjkofefcoeejbaa
open Go Go.RowKit
set_option linter.unusedSimpArgs false
set_option linter.unusedVariables false
theorem mapO_length {α β : Type} {f : α → Option β} : ∀ {l : List α} {r : List β}, mapO f l = some r → r.length = l.length
  | [], r, h => by cases h; rfl
  | x :: l, r, h => by
    unfold mapO at h
    split at h
    · split at h
      · rename_i h2
        cases h
        rw [List.length_cons, List.length_cons, mapO_length h2]
      · cases h
    · cases h
theorem mapO_cons' {α β : Type} {f : α → Option β} {x : α} {l : List α} {r : List β} (h : mapO f (x :: l) = some r) : ∃ y s, f x = some y ∧ mapO f l = some s ∧ r = y :: s := by
  unfold mapO at h
  split at h
  · rename_i y h1
    split at h
    · rename_i s h2
      cases h
      exact ⟨y, s, h1, h2, rfl⟩
    · cases h
  · cases h
theorem repE_cells {α : Type} {d : DV → Option α} {enc : α → Value} (hd : ∀ x a, d x = some a → x = .flat (enc a)) (h1 : ∀ a, (enc a).cells = #[enc a]) {I : Nat → Nat → Prop} {w : World} {sz b : Nat} : ∀ (xs : List DV) (l : List α) (o : Nat), mapO d xs = some l → RepE I w sz xs b o → (xs ≠ [] → sz = 1) ∧ ∀ j (h : j < l.length), w.cell? ⟨b, o + j, none⟩ = some (enc l[j])
  | [], l, o, hm, _ => by cases hm; exact ⟨fun h => absurd rfl h, fun j h => by simp at h⟩
  | x :: xs, l, o, hm, hE => by
    obtain ⟨a, l, ha, hl, rfl⟩ := mapO_cons' hm
    rw [hd _ _ ha] at hE
    simp only [RepE, Rep] at hE
    obtain ⟨⟨_, V, rfl, hs, hc⟩, hE⟩ := hE
    rw [h1] at hs hc
    simp at hs
    subst hs
    obtain ⟨_, ih⟩ := repE_cells hd h1 xs l (o + 1) hl hE
    refine ⟨fun _ => rfl, fun j hj => ?_⟩
    cases j with
    | zero => exact (hc 0 (enc a) (by simp)).1
    | succ j =>
      have := ih j (by simpa using hj)
      rw [show o + (j + 1) = o + 1 + j by omega]
      exact this
/-- a list of scalars, as the old contracts read it -/
theorem list_rd {α : Type} {d : DV → Option α} {enc : α → Value} (hd : ∀ x a, d x = some a → x = .flat (enc a)) (h1 : ∀ a, (enc a).cells = #[enc a]) {I : Nat → Nat → Prop} {w : World} {G : Gh} {sz : Nat} {xs : List DV} {t : Tag} {V : Value} {l : List α} (h : Rep I w G (.list sz xs t) V) (hl : mapO d xs = some l) : RdV enc w V l := by
  simp only [Rep] at h
  obtain ⟨A, c, rfl, h2, h3, h4, _⟩ := h
  have hlen := mapO_length hl
  refine ⟨A, c, by rw [hlen], by omega, by omega, by simp, ?_⟩
  rcases h4 with rfl | ⟨b, o, rfl, hE⟩
  · exact .inl (by simpa using hlen)
  · obtain ⟨_, hc⟩ := repE_cells hd h1 xs l o hl hE
    refine .inr ⟨b, o, rfl, fun j u hu => ?_⟩
    rw [List.getElem?_map] at hu
    obtain ⟨a, ha, rfl⟩ := Option.map_eq_some_iff.1 hu
    obtain ⟨hj, rfl⟩ := List.getElem?_eq_some_iff.1 ha
    exact hc j hj
end Go.Proofs.Ytjkofefcoeejbaa

/- slices.Values and slices.AppendSeq at words: what an iterator over a slice gives, appended. (The form of the kit's worked texts over a range over a function, turned to words.) -/
namespace Go.Proofs.Ytjkofefcoeejbaa
open Go Go.RowKit Go.Shelf
set_option linter.unusedSimpArgs false
set_option linter.unusedVariables false
attribute [local go_sem] Oper.semAt_some
def upto {α : Type} (f : Nat → α) (k : Nat) : List α := (List.range k).map f
theorem upto_succ {α : Type} (f : Nat → α) (k : Nat) : upto f (k + 1) = upto f k ++ [f k] := by simp [upto, List.range_succ]
theorem upto_length {α : Type} (f : Nat → α) (k : Nat) : (upto f k).length = k := by simp [upto]
theorem upto_all (zs : List Int) : upto (fun j => zs[j]?.getD 0) zs.length = zs := by
  apply List.ext_getElem
  · simp [upto]
  · intro i h1 h2
    simp [upto, h2]
theorem upto_take (zs : List Int) {k : Nat} (hk : k ≤ zs.length) : upto (fun j => zs[j]?.getD 0) k = zs.take k := by
  apply List.ext_getElem
  · simp [upto, hk]
  · intro i h1 h2
    have : i < zs.length := by simp [upto] at h1; omega
    simp [upto, this]
set_option maxRecDepth 100000 in
set_option maxHeartbeats 2000000 in
/-- the closure of slices.Values -/
theorem values1_in (F : Fence) (n : Nat) (h7 : F.fn 105) (hro : F.round = none) (hn : 1 ≤ n) (l Bs n₀ b off len cap : Nat) (zs : List Int) (hreach : len * 2 ≤ 140737488351232) (hb : b < n₀) (J Jx : List Int → World → Prop)
    (hY : ∀ pre x W, J pre W → pre.length < len → YieldAt F (n - 1) Try.prog l #[.int .u16 x] W fun e W' =>
      (e = .returned (.bool true) ∧ J (pre ++ [x]) W' ∧ Below n₀ W W') ∨ (e = .returned (.bool false) ∧ Jx (pre ++ [x]) W'))
    (W : World) (hBs : W.cell? ⟨Bs, 0, none⟩ = some (.slice (some ⟨b, off, none⟩) len cap)) (hc : ∀ j, j < len → W.cell? ⟨b, off + j, none⟩ = some (.int .u16 (zs[j]?.getD 0))) (h0 : J [] W) :
    CallsIn F n Try.prog 105 #[.func (.yield l) #[] #[], .pointer (some ⟨Bs, 0, none⟩)] W fun e W' => (∃ v, e = .returned v) ∧
      ((∃ ys, ys = upto (fun j => zs[j]?.getD 0) len ∧ J ys W') ∨ (∃ pre, (∃ k, k ≤ len ∧ pre = upto (fun j => zs[j]?.getD 0) k) ∧ Jx pre W')) := by
  refine callsIn_of_wp Try.func105 rfl h7 ?_ hro
  simp only [Try.ntmps105, List.size_toArray, List.length_cons, List.length_nil, Nat.reduceAdd, Nat.reduceSub, Array.replicate_succ, Array.replicate_zero, List.push_toArray, List.append_toArray, List.nil_append, List.cons_append]
  gi_wp2
  gi_loopw [7] (fun i wr => ∃ k : Nat, k ≤ len ∧ i = .int .i64 k ∧ J (upto (fun j => zs[j]?.getD 0) k) wr ∧ Below n₀ W wr)
    (fun i _ => len - (intOf i).toNat)
  case atStart => exact ⟨0, Nat.zero_le _, rfl, h0, Below.refl _ _⟩
  case round =>
    obtain ⟨k, hk, rfl, hJs, hnx⟩ := hrel
    have hcx : k < len → wr.cell? ⟨b, off + k, none⟩ = some (.int .u16 (zs[k]?.getD 0)) := fun h => (hnx.cell (p := ⟨b, off + k, none⟩) hb).trans (hc k h)
    by_cases hlt : k < len
    · obtain ⟨fn, tmps, assign, body, hy, hR⟩ := hY _ (zs[k]?.getD 0) wr hJs (by rw [upto_length]; exact hlt)
      have hcx' := hcx hlt
      gi_wp2
      refine hR.mono ?_
      rintro e W3 (⟨rfl, hJ3, hk3⟩ | ⟨rfl, hJx3⟩)
      · gi_wp2
        go_roundw
        case rel => exact ⟨k + 1, by omega, by simp, by rw [upto_succ]; exact hJ3, hnx.trans hk3⟩
        case measure => simp [intOf]; omega
      · gi_wp2
        refine bodyPost_ret (results_none rfl _ _ _) rfl ?_
        exact ⟨⟨_, rfl⟩, .inr ⟨_, ⟨k + 1, by omega, (upto_succ _ _).symm⟩, hJx3⟩⟩
    · obtain rfl : k = len := by omega
      gi_wp2
      go_end0
      exact ⟨⟨_, rfl⟩, .inl ⟨_, rfl, hJs⟩⟩
/-- a slice value that holds the words zs, in a block below n₀ -/
def Wds (n₀ : Nat) (W : World) (sv : Value) (zs : List Int) : Prop :=
  ∃ b off cap, sv = .slice (some ⟨b, off, none⟩) zs.length cap ∧ b < n₀ ∧ ∀ j, j < zs.length → W.cell? ⟨b, off + j, none⟩ = some (.int .u16 (zs[j]?.getD 0))
theorem Wds.below {n₀ : Nat} {A B : World} (h : Below n₀ A B) {sv : Value} {zs : List Int} : Wds n₀ A sv zs → Wds n₀ B sv zs
  | ⟨b, off, cap, e, hb, hc⟩ => ⟨b, off, cap, e, hb, fun j hj => (h.cell (p := ⟨b, off + j, none⟩) hb).trans (hc j hj)⟩
set_option maxHeartbeats 1000000 in
theorem values_in (F : Fence) (n : Nat) (h5 : F.fn 76) (hro : F.round = none) (a : Option Addr) (len cap : Nat) (w : World) :
    CallsIn F n Try.prog 76 #[.slice a len cap] w fun e w' => e = .returned (.func (.func 105) #[] #[.pointer (some ⟨w.heap.size, 0, none⟩)]) ∧ w' = w.alloc (.cells #[.slice a len cap] 22) := by
  refine callsIn_of_wp Try.func76 rfl h5 ?_ hro
  simp only [Try.ntmps76, List.size_toArray, List.length_cons, List.length_nil, Nat.reduceAdd, Nat.reduceSub, Array.replicate_succ, Array.replicate_zero, List.push_toArray, List.append_toArray, List.nil_append, List.cons_append]
  gi_wp2
  go_ret
  exact ⟨rfl, rfl⟩
theorem values_stops (F : Fence) (n : Nat) (h7 : F.fn 105) (hro : F.round = none) (hn : 1 ≤ n) (Bs n₀ : Nat) (sv : Value) (zs : List Int) (hreach : zs.length * 2 ≤ 140737488351232) (w : World) (hBs : Bs < w.heap.size) (hn₀ : n₀ ≤ w.heap.size)
    (hc : w.cell? ⟨Bs, 0, none⟩ = some sv) (hI : Wds n₀ w sv zs) :
    SeqStopsK F n Try.prog 105 #[.pointer (some ⟨Bs, 0, none⟩)] (fun x : Int => #[Value.int .u16 x]) (Below n₀) (fun ys => ys = zs) (fun pre => pre <+: zs) zs.length w := fun l J Jx W hW _ _ hY h0 => by
  have hc' := (hW.cell (p := ⟨Bs, 0, none⟩) hBs).trans hc
  obtain ⟨b, off, cap, rfl, hb, hcs⟩ := hI.below (hW.mono hn₀)
  refine (values1_in F n h7 hro hn l Bs n₀ b off zs.length cap zs hreach hb J Jx hY W hc' hcs h0).mono ?_
  rintro e W' ⟨he, ⟨ys, rfl, hj⟩ | ⟨pre, ⟨k, hk, rfl⟩, hj⟩⟩
  · exact ⟨he, .inl ⟨_, upto_all zs, hj⟩⟩
  · exact ⟨he, .inr ⟨_, by rw [upto_take zs hk]; exact List.take_prefix _ _, hj⟩⟩
set_option maxRecDepth 100000 in
set_option maxHeartbeats 2000000 in
/-- slices.AppendSeq(nil, slices.Values(zs)) -/
theorem appendSeq_in (F : Fence) (n : Nat) (h11 : F.fn 122) (h7 : F.fn 105) (hro : F.round = none) (hn : 2 ≤ n) (Bs : Nat) (sv : Value) (zs : List Int) (hlen : zs.length ≤ 1000000) (w : World) (hBs : Bs < w.heap.size)
    (hc : w.cell? ⟨Bs, 0, none⟩ = some sv) (hI : Wds w.heap.size w sv zs) :
    CallsIn F n Try.prog 122 #[.slice none 0 0, .func (.func 105) #[] #[.pointer (some ⟨Bs, 0, none⟩)]] w fun e W' => ∃ v, e = .returned v ∧ W'.ownsRow w.heap.size 24 1 v zs.length (zs.map (Value.int .u16)) ∧ Below w.heap.size w W' := by
  have h1 : 1 ≤ n := by omega
  have info16 : (Try.prog.info? 24).map (fun i => (i.zero, i.size, i.bytes)) = some (some (.int .u16 0), 1, 2) := by kernel_rfl
  obtain ⟨i0, hi, hz0, hz1, hz2⟩ := info_parts info16
  refine callsIn_of_wp_marks Try.func122 rfl h11 ?_ hro
  simp only [Try.ntmps122, List.size_toArray, List.length_cons, List.length_nil, Nat.reduceAdd, Nat.reduceSub, Array.replicate_succ, Array.replicate_zero, List.push_toArray, List.append_toArray, List.nil_append, List.cons_append]
  gi_wp2
  have bO := Boxed.new w 22 (.slice none 0 0)
  have hB0 : Below w.heap.size w (w.alloc (.cells #[.slice none 0 0] 22)) := (Below.refl _ w).alloc (Nat.le_refl _) _
  refine wpIn_rangeFunc_ownG hro h1 (gf := 105) (lb := #[.pointer (some ⟨Bs, 0, none⟩)]) rfl h7 (enters_of Try.func105 (by kernel_rfl) rfl)
    (values_stops F (n - 1) h7 hro (by omega) Bs w.heap.size sv zs (by omega) _ (by simp; omega) (by simp) ((hB0.cell (p := ⟨Bs, 0, none⟩) hBs).trans hc) (hI.below hB0)) belowK_t (belowK_b (by simp)) (Below.refl _ _) (fun _ => rfl)
    (fun pre W => (∃ v, Boxed W w.heap.size 22 v ∧ W.ownsRow w.heap.size 24 1 v pre.length (pre.map (Value.int .u16)) ∧ (v = .slice none 0 0 ↔ pre = [])) ∧ Below w.heap.size w W)
    (fun _ _ _ => False)
    (OwnFrom.and (Own.from (holdsRow_own w.heap.size w.heap.size 22 24 1 (fun pre => pre.length) (fun pre => pre.map (Value.int .u16)) (fun pre v => v = .slice none 0 0 ↔ pre = [])) _) (ownFrom_below (Nat.le_refl _) (by simp)))
    (fun _ _ _ _ _ hs _ _ => hs)
    ⟨⟨_, bO, World.ownsRow_nil _ _ _ _, by simp⟩, hB0⟩
    (fun x => { tmps := #[.slice none 0 0, .func (.func 105) #[] #[.pointer (some ⟨Bs, 0, none⟩)], .pointer (some ⟨w.heap.size, 0, none⟩), undef, .slice none 0 0, .int .u16 x, .func (.func 105) #[] #[.pointer (some ⟨Bs, 0, none⟩)], .int .u16 x, undef, undef, undef, undef, undef], defers := [] }) ?assign ?body ?done ?stop
  case assign =>
    intro l x W K hK
    gi_wp2
    exact hK
  case body =>
    rintro l pre x W ⟨⟨v, hv, hrow, hnil⟩, hB⟩ hlt
    have hc := hv.cell
    gi_wp2_with (gi_at_builtin; refine wpListIn_append_own _ rfl _ _ 22 rfl w.heap.size 24 i0 (.int .u16 0) 1 2 Try.underlying22 hi hz0 hz1 hz2 rfl (by decide) _ _ _ rfl (hrow.alloc _) ⟨W.heap.size, 0, none⟩ 1 1 [.int .u16 x] rfl rfl (cell_one_new _ _ _) (by simp [Value.oneCell']) (by simp only [maxLen]; omega) (by omega) (by have := hB.size; simp; omega) ?_; intro v' w1 hown' hgrow _; obtain ⟨g', cap', rfl⟩ := ownsRow_succ hown'; obtain ⟨hv1, hv2, hr2, hk2, hb2⟩ := hv.appended (by decide) hrow hB.size (Nat.le_refl _) hown' hgrow; have hc1 := hv1.cell; have hf1 := hv1.frozen)
    exact ⟨hk2.from _, hb2, ⟨_, hv2, by simpa using hr2, by simp⟩, hB.trans hb2⟩
  case done =>
    rintro D ys W hD rfl ⟨⟨v, hv, hrow, hnil⟩, hB⟩ hK
    have hc := hv.cell
    gi_wp2
    refine ⟨by simp, .inl ⟨_, _, rfl, run_takeDeferred hK, ?_⟩⟩
    exact ⟨_, results_tmp rfl _ _ _, v, rfl, ownsRow_putObj hrow _ hK rfl, hB.trans (belowK_b (w := w) (Nat.le_refl _) W D _ _ (by simp at hD; omega) hK rfl rfl)⟩
  case stop =>
    rintro D c pre W _ _ h _
    exact h.elim
set_option maxHeartbeats 1000000 in
/-- slices.Collect(slices.Values(zs)) -/
theorem collect_in (F : Fence) (n : Nat) (h8 : F.fn 103) (h11 : F.fn 122) (h7 : F.fn 105) (hro : F.round = none) (hn : 3 ≤ n) (Bs : Nat) (sv : Value) (zs : List Int) (hlen : zs.length ≤ 1000000) (w : World) (hBs : Bs < w.heap.size)
    (hc : w.cell? ⟨Bs, 0, none⟩ = some sv) (hI : Wds w.heap.size w sv zs) :
    CallsIn F n Try.prog 103 #[.func (.func 105) #[] #[.pointer (some ⟨Bs, 0, none⟩)]] w fun e W' => ∃ v, e = .returned v ∧ W'.ownsRow w.heap.size 24 1 v zs.length (zs.map (Value.int .u16)) ∧ Below w.heap.size w W' := by
  have h1 : 1 ≤ n := by omega
  refine callsIn_of_wp Try.func103 rfl h8 ?_ hro
  simp only [Try.ntmps103, List.size_toArray, List.length_cons, List.length_nil, Nat.reduceAdd, Nat.reduceSub, Array.replicate_succ, Array.replicate_zero, List.push_toArray, List.append_toArray, List.nil_append, List.cons_append]
  gi_wp2_with (gi_at_call 122; refine (appendSeq_in F (n - 1) h11 h7 hro (by omega) Bs sv zs hlen _ hBs hc hI).mono ?_; rintro e w' ⟨v, rfl, hrow, hb⟩)
  go_ret
  exact ⟨v, rfl, hrow, hb⟩
end Go.Proofs.Ytjkofefcoeejbaa

/- slices.Sort at words, of up to twelve: walked. (The walk of the insertion sort has the form of the kit's worked text at ints, turned to words.) -/
namespace Go.Proofs.Ytjkofefcoeejbaa
open Go Go.RowKit Go.Sort
set_option linter.unusedSimpArgs false
set_option linter.unusedVariables false
section
variable {α : Type} [Inhabited α] (lt : α → α → Bool)
theorem insInner_go (a j : Nat) (d : Array α) (hj : a < j) (hl : lt d[j]! d[j - 1]! = true) : insInner lt a j d = insInner lt a (j - 1) (swp d j (j - 1)) := by
  obtain ⟨k, rfl⟩ : ∃ k, j = k + 1 := ⟨j - 1, by omega⟩
  rw [insInner]
  simp only [Nat.add_sub_cancel] at hl ⊢
  simp [hj, hl]
theorem insInner_stop (a j : Nat) (d : Array α) (h : j ≤ a ∨ lt d[j]! d[j - 1]! = false) : insInner lt a j d = d := by
  cases j with
  | zero => rw [insInner]
  | succ k =>
    rw [insInner]
    simp only [Nat.add_sub_cancel] at h
    rcases h with h | h
    · simp [show ¬ k + 1 > a by omega]
    · simp [h]
theorem insOuter_go (a b i : Nat) (d : Array α) (h : i < b) : insOuter lt a b i d = insOuter lt a b (i + 1) (insInner lt a i d) := by rw [insOuter, if_pos h]
theorem insOuter_stop (a b i : Nat) (d : Array α) (h : ¬ i < b) : insOuter lt a b i d = d := by rw [insOuter, if_neg h]
end
section
variable {α : Type} [Inhabited α] (enc : α → Value)
theorem putRow_drewN (w : World) (m q blk off : Nat) (d : Array α) : (putRow enc (Sort.ahead w m) blk off d).drewN q = putRow enc (Sort.ahead w (m + q)) blk off d := by
  show Sort.ahead (putRow enc (Sort.ahead w m) blk off d) q = _
  rw [putRow_ahead enc w m, ahead_ahead, ← putRow_ahead]
theorem swap_worldA (w : World) (m q blk off : Nat) (d : Array α) (j k : Nat) (hj : j < d.size) (hk : k < d.size) :
    (((putRow enc (Sort.ahead w m) blk off d).drewN q).setCell ⟨blk, off + j, none⟩ (enc d[k]!)).setCell ⟨blk, off + k, none⟩ (enc d[j]!) = putRow enc (Sort.ahead w (m + q)) blk off (swp d j k) := by
  rw [putRow_drewN]
  exact putRow_swp enc _ blk off d j k hj hk
end
set_option maxHeartbeats 1000000 in
theorem isNaN_w (x : Int) (w : World) : Calls Try.prog 142 #[.int .u16 x] w fun e w' => e = .returned (.bool false) ∧ w' = w := by
  go_enter Try.func142, Try.ntmps142
  go_wp2
  go_ret
  exact ⟨by simp, rfl⟩
set_option maxHeartbeats 1000000 in
theorem less_w (x y : Int) (w : World) : Calls Try.prog 132 #[.int .u16 x, .int .u16 y] w fun e w' => e = .returned (.bool (Sort.ltInt x y)) ∧ w' = w := by
  go_enter Try.func132, Try.ntmps132
  go_wp2_with (go_at_call 142; refine (isNaN_w _ _).mono ?_; rintro e w' ⟨rfl, rfl⟩)
  go_ret
  exact ⟨rfl, rfl⟩
set_option maxHeartbeats 4000000 in
set_option maxRecDepth 100000 in
theorem insertion_w (blk off cap a b : Nat) (d : Array Int) (w : World) (hH : Holds (Value.int .u16) w blk off d) (hab : a ≤ b) (hb : b ≤ d.size) (hsz : d.size < 4611686018427387904) :
    Calls Try.prog 126 #[.slice (some ⟨blk, off, none⟩) d.size cap, .int .i64 a, .int .i64 b] w fun e w' =>
      e = .returned (.tuple #[]) ∧ ∃ n, w' = putRow (Value.int .u16) (Sort.ahead w n) blk off (Sort.insertionSort ltInt d a b) := by
  go_enter Try.func126, Try.ntmps126
  go_wp2
  go_loopw [6] (fun vi wr => ∃ (i n : Nat) (dk : Array Int), vi = .int .i64 i ∧ a < i ∧ i ≤ b + 1 ∧ dk.size = d.size ∧ wr = putRow (Value.int .u16) (Sort.ahead w n) blk off dk ∧
      insOuter ltInt a b i dk = insOuter ltInt a b (a + 1) d) (fun vi _ => b + 1 - (intOf vi).toNat)
  case atStart => exact ⟨a + 1, 0, d, by go_num, by omega, by omega, rfl, (putRow_self _ _ _ _ _ hH).symm, rfl⟩
  case round =>
    obtain ⟨i, n, dk, rfl, hai, hib, hsk, hwr, hO⟩ := hrel
    have HO : Hid (insOuter ltInt a b i dk = insOuter ltInt a b (a + 1) d) := hO
    clear hO
    go_wp2
    · go_loopw [7] (fun vj wr2 => ∃ (j m : Nat) (dj : Array Int), vj = .int .i64 j ∧ a ≤ j ∧ j ≤ i ∧ dj.size = d.size ∧ wr2 = putRow (Value.int .u16) (Sort.ahead w m) blk off dj ∧
          insInner ltInt a j dj = insInner ltInt a i dk) (fun vj _ => (intOf vj).toNat)
      case atStart => exact ⟨i, n, dk, rfl, by omega, Nat.le_refl _, hsk, rfl, rfl⟩
      case round =>
        obtain ⟨j, m, dj, rfl, haj, hji, hsj, hw2, hI⟩ := hrel
        have hlt : i < b := by assumption
        obtain ⟨G, hG⟩ : ∃ G : Nat → Int, ∀ t, G t = dj[t]! := ⟨fun t => dj[t]!, fun _ => rfl⟩
        have hcw : ∀ t, t < d.size → wr.cell? ⟨blk, off + t, none⟩ = some (.int .u16 (G t)) := fun t ht => by
          rw [hw2, hG]; exact cell?_putRow _ _ _ _ d dj (holds_ahead _ _ _ _ _ _ hH) hsj t (by omega)
        have hfw : ∀ t, t < d.size → wr.frozen? ⟨blk, off + t, none⟩ = false := fun t ht => by
          rw [hw2, frozen?_putRow]; exact ((holds_ahead _ _ m _ _ _ hH) t ht).2
        have HW : Hid (wr = putRow (Value.int .u16) (Sort.ahead w m) blk off dj) := hw2
        have HG : Hid (∀ t, G t = dj[t]!) := hG
        have HI : Hid (insInner ltInt a j dj = insInner ltInt a i dk) := hI
        clear hw2 hG hI hH
        have out : (j ≤ a ∨ ltInt dj[j]! dj[j - 1]! = false) → ∀ q, ∃ i' n' dk', Value.int .i64 ((i : Int) + 1) = .int .i64 (i' : Nat) ∧ a < i' ∧ i' ≤ b + 1 ∧ dk'.size = d.size ∧
            wr.drewN q = putRow (Value.int .u16) (Sort.ahead w n') blk off dk' ∧ insOuter ltInt a b i' dk' = insOuter ltInt a b (a + 1) d := fun hs q =>
          ⟨i + 1, m + q, dj, by go_num, by omega, by omega, hsj, by rw [HW.out]; exact putRow_drewN _ _ _ _ _ _ _,
            by rw [← HO.out, insOuter_go _ _ _ _ _ hlt, ← HI.out, insInner_stop _ _ _ _ hs]⟩
        have OUT : Hid _ := out
        clear out
        go_wp2
        by_cases hja : a < j
        · go_quiet (first | (go_at_call 132; refine Calls.quiet_of_same (less_w _ _ _)))
          go_wp2
          · have hl : ltInt (G j) (G (j - 1)) = true := by assumption
            go_region
            all_goals go_wp2
            go_roundw
            case rel =>
              refine ⟨j - 1, m + (nq + 1), swp dj j (j - 1), by congr 1; omega, by omega, by omega, by rw [size_swp]; exact hsj, ?_, ?_⟩
              · rw [HW.out, HG.out, HG.out]
                exact swap_worldA _ w m (nq + 1) blk off dj j (j - 1) (by omega) (by omega)
              · rw [← HI.out, insInner_go ltInt a j dj hja (by rw [← HG.out, ← HG.out]; exact hl)]
            case measure => simp [intOf]; omega
          · have hl : ltInt (G j) (G (j - 1)) = false := by assumption
            go_roundw
            case rel => exact OUT.out (Or.inr (by rw [← HG.out, ← HG.out]; exact hl)) nq
            case measure => simp [intOf]; omega
        · go_quiet (first | (go_at_call 132; refine Calls.quiet_of_same (less_w _ _ _)))
          go_wp2
          go_roundw
          case rel => exact OUT.out (Or.inl (by omega)) nq
          case measure => simp [intOf]; omega
    · have hge : ¬ i < b := by assumption
      go_end0
      exact ⟨rfl, n, by unfold Sort.insertionSort; rw [← HO.out, insOuter_stop _ _ _ _ _ hge]⟩
set_option maxHeartbeats 4000000 in
set_option maxRecDepth 100000 in
theorem pdq_w (blk off cap : Nat) (limit : Int) (d : Array Int) (w : World) (hH : Holds (Value.int .u16) w blk off d) (hsz : d.size ≤ 12) :
    Calls Try.prog 123 #[.slice (some ⟨blk, off, none⟩) d.size cap, .int .i64 0, .int .i64 d.size, .int .i64 limit] w fun e w' =>
      e = .returned (.tuple #[]) ∧ ∃ n, w' = putRow (Value.int .u16) (Sort.ahead w n) blk off (Sort.insertionSort ltInt d 0 d.size) := by
  have hc := insertion_w blk off cap 0 d.size d w hH (Nat.zero_le _) (Nat.le_refl _) (by omega)
  have h12 : (d.size : Int) ≤ 12 := by omega
  go_enter Try.func123, Try.ntmps123
  go_wp2
  refine wp_loop_rounds 1 ?_
  rw [rounds_succ]
  go_wp2_with (go_at_call 126; refine hc.mono ?_; rintro e w1 ⟨rfl, hw1⟩)
  (try simp only [Exit.inBlock, Exit.then]); refine bodyPost_ret (results_none rfl _ _ _) rfl ?_
  exact ⟨rfl, hw1⟩
end Go.Proofs.Ytjkofefcoeejbaa

/- The middle of two numbers by and, xor and shift. -/
namespace Go.Proofs.Ytjkofefcoeejbaa
open Go
theorem and_xor_add : ∀ (n a b : Nat), a < n → 2 * (a &&& b) + (a ^^^ b) = a + b
  | 0, a, b, h => by omega
  | n + 1, a, b, h => by
    by_cases h0 : a = 0
    · subst h0
      simp
    · have ih := and_xor_add n (a / 2) (b / 2) (by omega)
      have e1 := Nat.and_div_two (a := a) (b := b)
      have e2 := Nat.xor_div_two (a := a) (b := b)
      have m1 : (a &&& b) % 2 = if a % 2 = 1 ∧ b % 2 = 1 then 1 else 0 := by
        have := Nat.and_mod_two_pow (a := a) (b := b) (n := 1)
        simp only [Nat.pow_one] at this
        rw [this]
        rcases Nat.mod_two_eq_zero_or_one a with x | x <;> rcases Nat.mod_two_eq_zero_or_one b with y | y <;> simp [x, y]
      have m2 : (a ^^^ b) % 2 = if a % 2 = b % 2 then 0 else 1 := by
        have := Nat.xor_mod_two_pow (a := a) (b := b) (n := 1)
        simp only [Nat.pow_one] at this
        rw [this]
        rcases Nat.mod_two_eq_zero_or_one a with x | x <;> rcases Nat.mod_two_eq_zero_or_one b with y | y <;> simp [x, y]
      rw [← e1, ← e2] at ih
      split at m1 <;> split at m2 <;> omega
theorem mid_two (a b : Int) (ha : 0 ≤ a ∧ a < 65536) (hb : 0 ≤ b ∧ b < 65536) : andI .u16 a b + xorI .u16 a b / 2 = (a + b) / 2 ∧ 0 ≤ andI .u16 a b ∧ 0 ≤ xorI .u16 a b := by
  obtain ⟨a, rfl⟩ := Int.eq_ofNat_of_zero_le ha.1
  obtain ⟨b, rfl⟩ := Int.eq_ofNat_of_zero_le hb.1
  have h := and_xor_add (a + 1) a b (by omega)
  have l1 : a &&& b ≤ a := Nat.and_le_left
  have e1 : andI .u16 a b = ((a &&& b : Nat) : Int) := by
    unfold andI
    rw [BitVec.toNat_and, BitVec.toNat_ofInt, BitVec.toNat_ofInt]
    have x1 : ((a : Int) % ((2 ^ IntKind.u16.bits : Nat) : Int)).toNat = a := by
      have : ((2 ^ IntKind.u16.bits : Nat) : Int) = 65536 := rfl
      rw [this]; omega
    have x2 : ((b : Int) % ((2 ^ IntKind.u16.bits : Nat) : Int)).toNat = b := by
      have : ((2 ^ IntKind.u16.bits : Nat) : Int) = 65536 := rfl
      rw [this]; omega
    rw [x1, x2, wrap_u16]
    omega
  have l2 : a ^^^ b < 65536 := Nat.xor_lt_two_pow (n := 16) (by omega) (by omega)
  have e2 : xorI .u16 a b = ((a ^^^ b : Nat) : Int) := by
    unfold xorI
    rw [BitVec.toNat_xor, BitVec.toNat_ofInt, BitVec.toNat_ofInt]
    have x1 : ((a : Int) % ((2 ^ IntKind.u16.bits : Nat) : Int)).toNat = a := by
      have : ((2 ^ IntKind.u16.bits : Nat) : Int) = 65536 := rfl
      rw [this]; omega
    have x2 : ((b : Int) % ((2 ^ IntKind.u16.bits : Nat) : Int)).toNat = b := by
      have : ((2 ^ IntKind.u16.bits : Nat) : Int) = 65536 := rfl
      rw [this]; omega
    rw [x1, x2, wrap_u16]
    omega
  rw [e1, e2]
  omega
end Go.Proofs.Ytjkofefcoeejbaa

/- vote.Median, walked: its contract of the old kind. -/
namespace Go.Proofs.Ytjkofefcoeejbaa
open Go Go.RowKit Go.Sort
set_option linter.unusedSimpArgs false
set_option linter.unusedVariables false
theorem take_putC (enc : Int → Value) (cur : Array Value) (d : Array Int) (h : d.size ≤ cur.size) (j : Nat) (hj : j < d.size) : (putCells enc 0 d cur)[j]? = some (enc d[j]!) := by
  have h2 : j < cur.size := by omega
  simp [putCells, hj, h2]
set_option maxHeartbeats 1000000 in
set_option maxRecDepth 100000 in
theorem bitsLen64_w (x : Int) (w : World) (h0 : 0 ≤ x) (h1 : x ≤ 12) : Calls Try.prog 136 #[.int .u64 x] w fun e w' => (∃ k : Int, e = .returned (.int .i64 k)) ∧ w' = w := by
  have hx : x = 0 ∨ x = 1 ∨ x = 2 ∨ x = 3 ∨ x = 4 ∨ x = 5 ∨ x = 6 ∨ x = 7 ∨ x = 8 ∨ x = 9 ∨ x = 10 ∨ x = 11 ∨ x = 12 := by omega
  rcases hx with rfl | rfl | rfl | rfl | rfl | rfl | rfl | rfl | rfl | rfl | rfl | rfl | rfl
  all_goals
    go_enter Try.func136, Try.ntmps136
    go_wp2
    go_ret
    exact ⟨⟨_, rfl⟩, rfl⟩
set_option maxHeartbeats 1000000 in
theorem bitsLen_w (x : Int) (w : World) (h0 : 0 ≤ x) (h1 : x ≤ 12) : Calls Try.prog 124 #[.int .u64 x] w fun e w' => (∃ k : Int, e = .returned (.int .i64 k)) ∧ w' = w := by
  go_enter Try.func124, Try.ntmps124
  go_wp2_with (go_at_call 136; refine (bitsLen64_w _ _ h0 h1).mono ?_; rintro e w' ⟨⟨k, rfl⟩, rfl⟩)
  go_ret
  exact ⟨⟨k, rfl⟩, rfl⟩
set_option maxHeartbeats 1000000 in
theorem sort_w (blk off cap : Nat) (d : Array Int) (w : World) (hH : Holds (Value.int .u16) w blk off d) (hsz : d.size ≤ 12) :
    Calls Try.prog 104 #[.slice (some ⟨blk, off, none⟩) d.size cap] w fun e w' =>
      e = .returned (.tuple #[]) ∧ ∃ n, w' = putRow (Value.int .u16) (Sort.ahead w n) blk off (Sort.insertionSort ltInt d 0 d.size) := by
  have hl := fun w => bitsLen_w d.size w (by omega) (by omega)
  have hp := fun k => pdq_w blk off cap k d w hH hsz
  go_enter Try.func104, Try.ntmps104
  go_wp2_with (first
    | (go_at_call 124; refine (hl _).mono ?_; rintro e w' ⟨⟨k, rfl⟩, rfl⟩)
    | (go_at_call 123; refine (hp _).mono ?_; rintro e w' ⟨rfl, n, rfl⟩))
  go_end0
  exact ⟨rfl, n, rfl⟩
theorem ownsRow_put {w : World} {g n : Nat} {e : TypeId} {cur : Array Value} (d d' : Array Int) (hl : d'.size = d.size) (hb : w.heap[g]? = some (.cells cur e (0, 0))) (h3 : d.size ≤ cur.size) :
    (∀ j, j < d.size → (putRow (Value.int .u16) (Sort.ahead w n) g 0 d').cell? ⟨g, j, none⟩ = some (.int .u16 d'[j]!)) ∧ w.grownBy (putRow (Value.int .u16) (Sort.ahead w n) g 0 d') (some g) := by
  refine ⟨fun j hj => ?_, rfl, rfl, rfl, by simp [putRow, mapBlock, Sort.ahead], fun k hk hne => ?_⟩
  · have h1 : (putRow (Value.int .u16) (Sort.ahead w n) g 0 d').heap[g]? = some (.cells (putCells (Value.int .u16) 0 d' cur) e (0, 0)) := by
      simp [putRow, mapBlock, Sort.ahead, Array.getElem?_modify, hb, onCells]
    have h2 := take_putC (Value.int .u16) cur d' (by omega) j (by omega)
    simp only [World.cell?, h1]
    simpa using h2
  · have : g ≠ k := fun e => hne (by rw [e])
    simp [putRow, mapBlock, Sort.ahead, Array.getElem?_modify, this]
set_option maxHeartbeats 1000000 in
/-- slices.Sorted(slices.Values(zs)): what stands in the middle -/
theorem sorted_w (Bs : Nat) (sv : Value) (zs : List Int) (h0 : 0 < zs.length) (hlen : zs.length ≤ 12) (w : World) (hBs : Bs < w.heap.size) (hc : w.cell? ⟨Bs, 0, none⟩ = some sv) (hI : Wds w.heap.size w sv zs) :
    Calls Try.prog 75 #[.func (.func 105) #[] #[.pointer (some ⟨Bs, 0, none⟩)]] w fun e w' => ∃ g cap, e = .returned (.slice (some ⟨g, 0, none⟩) zs.length cap) ∧
      (∀ j, j < zs.length → w'.cell? ⟨g, j, none⟩ = some (.int .u16 (Sort.insertionSort ltInt zs.toArray 0 zs.length)[j]!)) ∧ Below w.heap.size w w' := by
  have hcol := callsIn_wide.1 (collect_in .wide 3 trivial trivial trivial rfl (by omega) Bs sv zs (by omega) w hBs hc hI)
  have hss : (Sort.insertionSort ltInt zs.toArray 0 zs.length).size = zs.toArray.size := (insertionSort_holds (lt := ltInt) swo_ltInt zs.toArray 0 zs.length (by omega) (by simp)).1.1
  go_enter Try.func75, Try.ntmps75
  go_wp2_with (go_at_call 103; refine hcol.mono ?_; rintro e w1 ⟨v, rfl, hrow, hb⟩)
  rcases hrow.2 with ⟨rfl, hz⟩ | ⟨g, cap, cur, rfl, hbase, hg, r1, r2, r3, r4⟩
  · omega
  · have hH : Holds (Value.int .u16) w1 g 0 zs.toArray := by
      intro j hj
      have hj' : j < zs.length := by simpa using hj
      refine ⟨?_, by simp [World.frozen?, hg]⟩
      have h1 := hrow.cellAt j (by omega)
      simpa [hj'] using h1
    have cS := sort_w g 0 cap zs.toArray w1 hH (by simpa using hlen)
    simp only [List.size_toArray] at cS
    go_wp2_with (go_at_call 104; refine cS.mono ?_; rintro e w' ⟨rfl, nn, rfl⟩)
    obtain ⟨c1, c2⟩ := ownsRow_put (n := nn) zs.toArray (Sort.insertionSort ltInt zs.toArray 0 zs.length) hss hg (by simp; omega)
    go_ret
    exact ⟨g, cap, rfl, fun j hj => c1 j (by simpa using hj), hb.grown c2 hb.size (fun j hj => by cases hj; exact hbase)⟩
theorem mid3 (a b c : Int) : (Sort.insertionSort ltInt #[a, b, c] 0 3)[1]! = max (min a b) (min (max a b) c) := by
  unfold Sort.insertionSort
  by_cases h1 : b < a <;> by_cases h2 : c < a <;> by_cases h3 : c < b <;> simp [insOuter, insInner, swp, ltInt, h1, h2, h3] <;> omega
def ofWm (l : List UInt16) : List Int := l.map fun c => (c.toNat : Int)
theorem medI_many (l : List Int) (h : 4 ≤ l.length) : medI l = (0, false) := by
  match l, h with
  | _ :: _ :: _ :: _ :: _, _ => rfl
  | [_, _, _], h => simp at h
  | [_, _], h => simp at h
  | [_], h => simp at h
  | [], h => simp at h
set_option maxHeartbeats 4000000 in
set_option maxRecDepth 100000 in
theorem median_w (v : Value) (l : List UInt16) (w : World) (h : RdV encW w v l) (hl : l.length ≤ 100000) :
    Calls Try.prog 37 #[v] w fun e w' => e = .returned (.tuple #[.int .u16 (medI (ofWm l)).1, .bool (medI (ofWm l)).2]) ∧ Below w.heap.size w w' := by
  match l, h, hl with
  | [], h, hl =>
    obtain ⟨A, c, rfl, _, _, _⟩ := h.open
    go_enter Try.func37, Try.ntmps37
    go_wp2
    go_ret2
    exact ⟨rfl, Below.refl _ _⟩
  | [a], h, hl =>
    obtain ⟨b, o, c, rfl, hc⟩ := h.each (by simp)
    have c0 := hc 0 (by simp)
    simp only [Nat.add_zero, List.getElem_cons_zero, encW] at c0
    go_enter Try.func37, Try.ntmps37
    go_wp2
    go_ret2
    exact ⟨rfl, Below.refl _ _⟩
  | [a, b], h, hl =>
    obtain ⟨bb, o, c, rfl, hc⟩ := h.each (by simp)
    have c0 := hc 0 (by simp)
    have c1 := hc 1 (by simp)
    simp only [Nat.add_zero, List.getElem_cons_zero, List.getElem_cons_succ, encW] at c0 c1
    clear hc h
    go_enter Try.func37, Try.ntmps37
    go_wp2
    go_region
    all_goals go_wp2
    go_ret2
    refine ⟨?_, belowN (Below.refl _ w) 1⟩
    have ha : (0 : Int) ≤ (a.toNat : Int) ∧ (a.toNat : Int) < 65536 := ⟨by omega, by have := a.toNat_lt; omega⟩
    have hb : (0 : Int) ≤ (b.toNat : Int) ∧ (b.toNat : Int) < 65536 := ⟨by omega, by have := b.toNat_lt; omega⟩
    have e1 : IntKind.wrap .u16 (andI .u16 a.toNat b.toNat + xorI .u16 a.toNat b.toNat / 2) = ((a.toNat : Int) + b.toNat) / 2 := by
      rw [(mid_two _ _ ha hb).1]
      exact wrap_u16_id _ (by omega) (by omega)
    have e2 : (medI (ofWm [a, b])) = (IntKind.wrap .u16 (andI .u16 a.toNat b.toNat + xorI .u16 a.toNat b.toNat / 2), true) := by
      rw [e1]
      rfl
    rw [e2]
    rfl
  | [a, b, c], h, hl =>
    obtain ⟨bb, o, cp, rfl, hc⟩ := h.each (by simp)
    have c0 := hc 0 (by simp)
    have c1 := hc 1 (by simp)
    have c2 := hc 2 (by simp)
    simp only [Nat.add_zero, List.getElem_cons_zero, List.getElem_cons_succ, encW] at c0 c1 c2
    have hb : bb < w.heap.size := World.block_lt_of_cell? w _ c0
    have hV := callsIn_wide.1 (values_in .wide 1 trivial rfl (some ⟨bb, o, none⟩) 3 cp w)
    have hS := sorted_w w.heap.size (.slice (some ⟨bb, o, none⟩) 3 cp) [(a.toNat : Int), (b.toNat : Int), (c.toNat : Int)] (by simp) (by simp) (w.alloc (.cells #[.slice (some ⟨bb, o, none⟩) 3 cp] 22)) (by simp) (cell_made 0 _ rfl)
      ⟨bb, o, cp, rfl, by simp; omega, fun j hj => by
        have hb0 : Below w.heap.size w (w.alloc (.cells #[.slice (some ⟨bb, o, none⟩) 3 cp] 22)) := (Below.refl _ w).alloc (Nat.le_refl _) _
        have hj3 : j = 0 ∨ j = 1 ∨ j = 2 := by simp at hj; omega
        rcases hj3 with rfl | rfl | rfl
        · exact (hb0.cell (p := ⟨bb, o + 0, none⟩) hb).trans c0
        · exact (hb0.cell (p := ⟨bb, o + 1, none⟩) hb).trans c1
        · exact (hb0.cell (p := ⟨bb, o + 2, none⟩) hb).trans c2⟩
    have hm := mid3 a.toNat b.toNat c.toNat
    simp only [List.length_cons, List.length_nil, Nat.zero_add, Nat.reduceAdd] at hS hV ⊢
    go_enter Try.func37, Try.ntmps37
    go_wp2_with (first
      | (go_at_call 76; refine hV.mono ?_; rintro e w1 ⟨rfl, rfl⟩)
      | (go_at_call 75; refine hS.mono ?_; rintro e w1 ⟨g, cap, rfl, hcl, hbl⟩; have hc1 := hcl 1 (by omega)))
    go_ret2
    refine ⟨?_, ((Below.refl _ w).alloc (Nat.le_refl _) _).trans (hbl.mono (by simp))⟩
    rfl
  | a :: b :: c :: d :: l, h, hl =>
    obtain ⟨bb, o, cp, rfl, hc⟩ := h.each (by simp)
    rw [medI_many _ (by simp [ofWm])]
    have hn : (a :: b :: c :: d :: l).length = l.length + 4 := rfl
    rw [hn]
    go_enter Try.func37, Try.ntmps37
    go_wp2
    go_ret2
    exact ⟨rfl, Below.refl _ _⟩
end Go.Proofs.Ytjkofefcoeejbaa

/- Layer 2 (word): what each function of the program computes. -/
namespace Go.Proofs.Ytjkofefcoeejbaa
open Go.RowKit

theorem infoB : (Try.prog.info? 5).map (fun i => (i.zero, i.size, i.bytes)) = some (some (.int .u8 0), 1, 1) := by kernel_rfl
theorem infoW : (Try.prog.info? 24).map (fun i => (i.zero, i.size, i.bytes)) = some (some (.int .u16 0), 1, 2) := by kernel_rfl
theorem infoT : (Try.prog.info? 4).map (fun i => (i.zero, i.size, i.bytes)) = some (some (.bool false), 1, 1) := by kernel_rfl

set_option maxHeartbeats 400000 in
theorem word_Put (n : Int) (w : World) (h0 : 0 ≤ n) (h1 : n < 65536) :
    Calls Try.prog 95 #[.int .u16 n] w fun e w' => e = .returned (.agg #[.int .u8 (n / 256), .int .u8 (n % 256)]) ∧ Below w.heap.size w w' := by
  go_enter Try.func95, Try.ntmps95
  go_wp2
  refine bodyPost_ret (v := .agg #[.int .u8 (n / 256), .int .u8 (n % 256)]) (by simp [results, Try.results95, go_sem]) rfl ?_
  exact ⟨rfl, belowA (Below.refl _ w) _⟩

set_option maxHeartbeats 400000 in
theorem word_Words_no (v : Value) (l : List UInt8) (w : World) (h : RdV encB w v l) (hn : l.length % 2 = 1) :
    Calls Try.prog 98 #[v] w fun e w' => e = .returned (.tuple #[.slice none 0 0, .bool false]) ∧ w = w' := by
  obtain ⟨a, c, rfl, hc, hm, _⟩ := h.open
  have hb : (Go.bits .and .i64 (l.length : Int) 1 == 1) = true := by rw [and1_i64 _ (by omega) (by omega), beq_iff_eq]; omega
  clear hn
  go_enter Try.func98, Try.ntmps98
  go_wp2
  go_ret2
  exact ⟨rfl, rfl⟩
set_option maxRecDepth 100000 in
set_option maxHeartbeats 400000 in
theorem word_Words_yes (v : Value) (l : List UInt8) (w : World) (h : RdV encB w v l) (hn : l.length % 2 = 0) (hl : l.length ≤ 100000) :
    Calls Try.prog 98 #[v] w fun e w' => ∃ v', e = .returned (.tuple #[v', .bool true]) ∧ Own encW 24 w' w.heap.size v' (wWords l) ∧ Below w.heap.size w w' := by
  obtain ⟨a, c, rfl, hc, hm, hcl⟩ := h.open
  have hcl' := Lib.hid hcl
  clear hcl
  have hb : (Go.bits .and .i64 (l.length : Int) 1 == 1) = false := by rw [and1_i64 _ (by omega) (by omega), beq_eq_false_iff_ne]; omega
  have hn' := Lib.hid hn
  clear hn
  go_enter Try.func98, Try.ntmps98
  go_wp2
  go_loopw [4, 5] (fun x i wr => ∃ k : Nat, k ≤ l.length ∧ k % 2 = 0 ∧ i = .int .i64 k ∧ Own encW 24 wr w.heap.size x (wWords (l.take k)) ∧ Below w.heap.size w wr) (fun _ i _ => l.length - (intOf i).toNat)
  case atStart => exact ⟨0, Nat.zero_le _, rfl, rfl, Own.nil _ _ _ _, Below.refl _ _⟩
  case round =>
    obtain ⟨k, hk, hk2, rfl, ho, hB⟩ := hrel
    clear hb
    have hn := hn'.out
    have hcl := hcl'.out
    by_cases hlt : k < l.length
    · obtain ⟨b, o, rfl, hcell⟩ := hcl.resolve_left (by omega)
      have hx0 := hcell k hlt
      have hlx := World.block_lt_of_cell? _ _ hx0
      simp only [] at hlx
      have hx := (hB.cell (p := ⟨b, o + k, none⟩) hlx).trans hx0
      have hy := (hB.cell (p := ⟨b, o + (k + 1), none⟩) hlx).trans (hcell (k + 1) (by omega))
      simp only [encB] at hx hy
      have ag := (fun e => absurd (ho.base b e).1 (by omega) : _ = some b → False)
      have hlr := Nat.lt_of_lt_of_le hlx hB.size
      have hs := Lib.hid (wWords_step l k (by omega) hk2)
      clear hcell hcl hx0
      go_wp2
      have q0 : (0 : Int) ≤ (k : Int) := by omega
      have q1 : (k : Int) < (l.length : Int) := by omega
      have q2 : (0 : Int) ≤ (k : Int) + 1 := by omega
      have q3 : (k : Int) + 1 < (l.length : Int) := by omega
      have q4 : IntKind.i64.wrap ((k : Int) + 1) = (k : Int) + 1 := IntWalk.i64_in _ (by omega)
      have q5 : ((k : Int) + 1).toNat = k + 1 := by omega
      have lenF : ((wWords (l.take k)).length + [mkW l[k] l[k + 1]].length) * 2 ≤ 140737488355328 := by rw [wWords_len, List.length_take, List.length_singleton]; omega
      go_region_held3 (fun w' => w'.cell? ⟨b, o + k, none⟩ = some (.int .u8 (l[k].toNat : Int)) ∧ w'.cell? ⟨b, o + (k + 1), none⟩ = some (.int .u8 (l[k + 1].toNat : Int)))
        (first | (go_split_ands; refine ⟨hg1.cell ?_ (fun e => ag e.symm), hg1.cell ?_ (fun e => ag e.symm)⟩ <;> assumption) | (go_keep; done))
        ((refine step_app (enc := encW) (l := wWords (l.take k)) (m := [mkW l[k] l[k + 1]]) encW_one rfl _ _ _ rfl 24 (.int .u16 0) 2 Try.underlying22 infoW rfl w.heap.size _ rfl (by first | exact ho.drew.alloc _ | exact (ho.alloc _).drew) _ rfl (RdV.drew (RdV.lit encW _ _ [mkW l[k] l[k + 1]] _ _ _ rfl (Nat.le_refl _) (by simp) (by simp [encW, or_mkW]))) (by simp) lenF (by omega) (by first | exact Nat.le_succ_of_le hB.size | (simp; exact Nat.le_succ_of_le hB.size)) ?_; intro v1 w1 ho1 hg1))
      clear q0 q1 q2 q3 q4 q5
      go_wp2
      go_roundw
      case rel => exact ⟨k + 2, by omega, by omega, by go_num, by rw [hs.out]; exact ho1, by first | exact belowG (Below.drew (belowA hB _)) hg1 (fun k hk => (ho.base k hk).1) | exact belowG (belowA (Below.drew hB) _) hg1 (fun k hk => (ho.base k hk).1)⟩
      case measure => simp [intOf]; omega
    · obtain rfl : k = l.length := by omega
      rw [List.take_length] at ho
      go_wp2
      go_ret2
      exact ⟨_, rfl, ho, hB⟩

/-! ### joined, Bytes -/
set_option maxHeartbeats 400000 in
theorem word_Bytes1 (n : UInt16) (w : World) :
    Calls Try.prog 94 #[.int .u16 (n.toNat : Int)] w fun e w' => ∃ v', e = .returned v' ∧ RdV encB w' v' [UInt8.ofNat (n.toNat / 256), UInt8.ofNat (n.toNat % 256)] ∧ Below w.heap.size w w' := by
  have hn := n.toNat_lt
  go_enter Try.func94, Try.ntmps94
  go_wp2_with (go_at_call 95; refine (word_Put _ _ (by omega) (by omega)).mono ?_; rintro e w1 ⟨rfl, hB1⟩)
  go_ret
  exact ⟨_, rfl, RdV.lit encB _ _ _ _ _ _ rfl (Nat.le_refl _) (by simp) (by simp [encB]; omega), belowA hB1 _⟩
set_option maxRecDepth 100000 in
set_option maxHeartbeats 400000 in
theorem word_joined (v : Value) (l : List UInt16) (w : World) (h : RdV encW w v l) (hl : l.length ≤ 100000) :
    Calls Try.prog 93 #[v, .func (.func 94) #[] #[]] w fun e w' => ∃ v', e = .returned v' ∧ Own encB 5 w' w.heap.size v' (wBytes l) ∧ Below w.heap.size w w' := by
  obtain ⟨a, c, rfl, hc, hm, hcl⟩ := h.open
  go_enter Try.func93, Try.ntmps93
  go_wp2
  go_loopw [5, 10] (fun x i wr => ∃ k : Nat, k ≤ l.length ∧ i = .int .i64 k ∧ Own encB 5 wr w.heap.size x (wBytes (l.take k)) ∧ Below w.heap.size w wr) (fun _ i _ => l.length - (intOf i).toNat)
  case atStart => exact ⟨0, Nat.zero_le _, rfl, Own.nil _ _ _ _, Below.refl _ _⟩
  case round =>
    obtain ⟨k, hk, rfl, ho, hB⟩ := hrel
    by_cases hlt : k < l.length
    · obtain ⟨b, o, rfl, hcell⟩ := hcl.resolve_left (by omega)
      have hx0 := hcell k hlt
      have hlx := World.block_lt_of_cell? _ _ hx0
      simp only [] at hlx
      have hx := (hB.cell (p := ⟨b, o + k, none⟩) hlx).trans hx0
      simp only [encW] at hx
      have hs := Lib.hid (wBytes_step l k hlt)
      clear hcell hcl hx0
      have lenF : (wBytes (l.take k)).length + 2 ≤ 140737488355328 := by rw [wBytes_len, List.length_take]; omega
      go_wp2_with (first | (go_at_call 94; refine (word_Bytes1 _ _).mono ?_; rintro e w1 ⟨v1, rfl, hr1, hB1⟩) |
        (at_builtin; refine wp_app (enc := encB) (l := wBytes (l.take k)) (m := [UInt8.ofNat (l[k].toNat / 256), UInt8.ofNat (l[k].toNat % 256)]) encB_one rfl (.tmp 14) (.tmp 17) _ rfl _ _ _ Try.underlying27 infoB rfl w.heap.size _ rfl ?a1 _ rfl ?a2 ?a3 (by omega) ?a4 ?a5))
      case a1 => exact ho.below hB1
      case a2 => exact hr1
      case a3 => rw [Nat.mul_one]; exact lenF
      case a4 => exact (belowT hB hB1).size
      intro v2 w2 ho2 hg2
      go_wp2
      go_roundw
      case rel => exact ⟨k + 1, by omega, by go_num, by rw [hs.out]; exact ho2, belowG (belowT hB hB1) hg2 (fun k hk => (ho.base k hk).1)⟩
      case measure => simp [intOf]; omega
    · obtain rfl : k = l.length := by omega
      rw [List.take_length] at ho
      go_wp2
      go_ret
      exact ⟨_, rfl, ho, hB⟩

theorem word_Bytes (v : Value) (l : List UInt16) (w : World) (h : RdV encW w v l) (hl : l.length ≤ 100000) :
    Calls Try.prog 64 #[v] w fun e w' => ∃ v', e = .returned v' ∧ Own encB 5 w' w.heap.size v' (wBytes l) ∧ Below w.heap.size w w' := by
  go_enter Try.func64, Try.ntmps64
  go_wp2_with (go_at_call 93; refine (word_joined _ _ _ h hl).mono ?_; rintro e w1 ⟨v1, rfl, hr1, hB1⟩)
  go_ret
  exact ⟨_, rfl, hr1, hB1⟩

set_option maxRecDepth 100000 in
set_option maxHeartbeats 400000 in
theorem word_Pack (v : Value) (l : List Bool) (w : World) (h : RdV encT w v l) (hl : l.length ≤ 100000) :
    Calls Try.prog 63 #[v] w fun e w' => ∃ v', e = .returned v' ∧ Own encB 5 w' w.heap.size v' (wPack l) ∧ Below w.heap.size w w' := by
  obtain ⟨a, c, rfl, hc, hm, hcl⟩ := h.open
  obtain ⟨i0, hi0, hz0, hz1, hz2⟩ := info_parts infoB
  have hdiv : ((l.length : Int) + 8 - 1) / 8 = (((l.length + 7) / 8 : Nat) : Int) := by omega
  go_enter Try.func63, Try.ntmps63
  go_wp2_with (at_make; refine wpList_make_full _ rfl _ _ 27 rfl w.heap.size 5 i0 (.int .u8 0) 1 Try.underlying27 hi0 hz0 hz1 _ _ _ _ ((l.length + 7) / 8) rfl rfl ?a1 ?a2 ?a3 ?a4 ?a5 ?_)
  case a1 => exact hdiv
  case a2 => exact hdiv
  case a3 => rw [hz2]; omega
  case a4 => simp only [maxLen]; omega
  case a5 => exact Nat.le_refl _
  intro w1 hown hg1
  have ho1 : Own encB 5 w1 w.heap.size (.slice (some ⟨w.heap.size, 0, none⟩) ((l.length + 7) / 8) ((l.length + 7) / 8)) (pk (l.take 0) ((l.length + 7) / 8)) := by
    rw [List.take_zero, pk_nil]; exact Own.made (0 : UInt8) hown (by omega)
  have hB1 := belowG (Below.refl _ w) hg1 (by simp)
  clear hown hg1
  go_wp2
  go_loopw [14] (fun i wr => ∃ k : Nat, k ≤ l.length ∧ i = .int .i64 k ∧ Own encB 5 wr w.heap.size (.slice (some ⟨w.heap.size, 0, none⟩) ((l.length + 7) / 8) ((l.length + 7) / 8)) (pk (l.take k) ((l.length + 7) / 8)) ∧ Below w.heap.size w wr) (fun i _ => l.length - (intOf i).toNat)
  case atStart => exact ⟨0, Nat.zero_le _, rfl, ho1, hB1⟩
  case round =>
    clear ho1 hB1
    obtain ⟨k, hk, rfl, ho, hB⟩ := hrel
    by_cases hlt : k < l.length
    · obtain ⟨b, o, rfl, hcell⟩ := hcl.resolve_left (by omega)
      have hx0 := hcell k hlt
      have hlx := World.block_lt_of_cell? _ _ hx0
      simp only [] at hlx
      have hx := (hB.cell (p := ⟨b, o + k, none⟩) hlx).trans hx0
      simp only [encT] at hx
      have hn : k / 8 < (pk (l.take k) ((l.length + 7) / 8)).length := by rw [pk_len]; omega
      cases hv : l[k] with
      | false =>
        rw [hv] at hx
        have hs := Lib.hid (pk_false l k ((l.length + 7) / 8) hlt hv)
        clear hcell hcl hx0 hv
        go_wp2
        go_roundw
        case rel => exact ⟨k + 1, by omega, by go_num, by rw [hs.out]; exact ho, hB⟩
        case measure => simp [intOf]; omega
      | true =>
        rw [hv] at hx
        have hs := Lib.hid (pk_true l k ((l.length + 7) / 8) hlt hv hn).1
        have hc8 := (pk_true l k ((l.length + 7) / 8) hlt hv hn).2
        obtain ⟨hca, hfa⟩ := ho.at (k / 8) hn
        have hset := ho.set (k / 8) (UInt8.ofNat ((pk (l.take k) ((l.length + 7) / 8))[k / 8].toNat + 2 ^ (k % 8)))
        simp only [encB] at hca hset
        have hor := Lib.hid (or_bit _ (k % 8) (by omega) hc8)
        clear hcell hcl hx0 hv
        go_wp2
        go_region
        rw [hor.out]
        go_wp2
        go_roundw
        case rel => exact ⟨k + 1, by omega, by go_num, by rw [hs.out]; exact hset.1.drew, Below.drew (belowG hB hset.2 (by simp))⟩
        case measure => simp [intOf]; omega
    · obtain rfl : k = l.length := by omega
      rw [List.take_length, pk_all] at ho
      go_wp2
      go_ret
      exact ⟨_, rfl, ho, hB⟩

/-! ### Bits -/
set_option maxRecDepth 100000 in
set_option maxHeartbeats 800000 in
theorem word_Bits_no (v : Value) (b : List UInt8) (n : Int) (w : World) (h : RdV encB w v b) (hn : n < 0 ∨ ¬ bitsFit b n.toNat) (hx1 : n ≤ 9223372036854775807) (hx0 : -9223372036854775808 ≤ n) :
    Calls Try.prog 96 #[v, .int .i64 n] w fun e w' => e = .returned (.tuple #[.slice none 0 0, .bool false]) ∧ w = w' := by
  obtain ⟨a, c, rfl, hc, hm, hcl⟩ := h.open
  by_cases h0 : n < 0
  · clear hn hcl
    go_enter Try.func96, Try.ntmps96
    go_wp2
    go_ret2
    exact ⟨rfl, rfl⟩
  · obtain ⟨m, rfl⟩ := Int.eq_ofNat_of_zero_le (by omega : 0 ≤ n)
    have hf := Lib.hid (hn.resolve_left h0)
    rw [Int.toNat_natCast] at hf
    clear hn
    by_cases hl : b.length = (m + 7) / 8
    · have q1 : (((b.length : Nat) : Int) != (m : Int) / 8 + ((m : Int) % 8 + 8 - 1) / 8) = false := by rw [bne_eq_false_iff_eq]; omega
      have h8 : 0 < m % 8 := by
        rcases Nat.eq_zero_or_pos (m % 8) with h | h
        · exact absurd ⟨hl, .inl h⟩ hf.out
        · exact h
      have hne : ¬ (b.getD (m / 8) 0).toNat / 2 ^ (m % 8) = 0 := fun h => hf.out ⟨hl, .inr h⟩
      obtain ⟨g, o, rfl, hcell⟩ := hcl.resolve_left (by omega)
      have hx := hcell (b.length - 1) (by omega)
      have e1 : b[b.length - 1]'(by omega) = b.getD (m / 8) 0 := by
        rw [List.getD_eq_getElem?_getD, List.getElem?_eq_getElem (by omega), Option.getD_some]
        congr 1; omega
      rw [e1] at hx
      simp only [encB] at hx
      generalize b.getD (m / 8) 0 = y at *
      have hl' := Lib.hid hl
      have hlb : 1 ≤ b.length := by omega
      have hne' : ((y.toNat : Int) / 2 ^ (m % 8) != 0) = true := by rw [shr_nat, bne_iff_ne]; omega
      clear hcell hcl e1 hl hne
      go_enter Try.func96, Try.ntmps96
      go_wp2
      go_ret2
      exact ⟨rfl, rfl⟩
    · have q1 : (((b.length : Nat) : Int) != (m : Int) / 8 + ((m : Int) % 8 + 8 - 1) / 8) = true := by rw [bne_iff_ne]; omega
      clear hcl hl
      go_enter Try.func96, Try.ntmps96
      go_wp2
      go_ret2
      exact ⟨rfl, rfl⟩

set_option maxRecDepth 100000 in
set_option maxHeartbeats 800000 in
theorem word_Bits_yes (v : Value) (b : List UInt8) (m : Nat) (w : World) (h : RdV encB w v b) (hf : bitsFit b m) (hx : m ≤ 800000) :
    Calls Try.prog 96 #[v, .int .i64 (m : Int)] w fun e w' => ∃ v', e = .returned (.tuple #[v', .bool true]) ∧ Own encT 4 w' w.heap.size v' (wBitsL b m) ∧ Below w.heap.size w w' := by
  obtain ⟨a, c, rfl, hc, hm, hcl⟩ := h.open
  have hl := hf.1
  have hf' := Lib.hid hf
  have q1 : (((b.length : Nat) : Int) != (m : Int) / 8 + ((m : Int) % 8 + 8 - 1) / 8) = false := by rw [bne_eq_false_iff_eq]; omega
  have hl' := Lib.hid hl
  have hcl' := Lib.hid hcl
  clear hl hcl hf
  by_cases h8 : m % 8 = 0
  · have h8' := Lib.hid h8
    have hd : ((m : Int) % 8) ≤ 0 := by omega
    clear h8
    go_enter Try.func96, Try.ntmps96
    go_wp2
    go_loopw [7, 40] (fun x i wr => ∃ k : Nat, k ≤ m ∧ i = .int .i64 k ∧ Own encT 4 wr w.heap.size x (wBitsL b k) ∧ Below w.heap.size w wr) (fun _ i _ => m - (intOf i).toNat)
    case atStart => exact ⟨0, Nat.zero_le _, rfl, Own.nil _ _ _ _, Below.refl _ _⟩
    case round =>
      obtain ⟨k, hk, rfl, ho, hB⟩ := hrel
      by_cases hlt : k < m
      · have hlk : k / 8 < b.length := by have := hl'.out; omega
        obtain ⟨g, o, he, hcell⟩ := hcl'.out.resolve_left (by omega)
        have hx0 := hcell (k / 8) hlk
        have e1 : b[k / 8] = b.getD (k / 8) 0 := by rw [List.getD_eq_getElem?_getD, List.getElem?_eq_getElem hlk, Option.getD_some]
        rw [e1] at hx0
        have hlx := World.block_lt_of_cell? _ _ hx0
        simp only [] at hlx
        have hx := (hB.cell (p := ⟨g, o + k / 8, none⟩) hlx).trans hx0
        simp only [encB] at hx
        have hv := and_bit (b.getD (k / 8) 0) (k % 8)
        have hs := Lib.hid (wBitsL_step b k)
        have lenF : (wBitsL b k).length + 1 ≤ 140737488355328 := by rw [wBitsL_len]; omega
        generalize b.getD (k / 8) 0 = y at *
        clear hcell hx0 e1
        cases he
        go_wp2_with (at_builtin; refine wp_app (enc := encT) (l := wBitsL b k) (m := [bitsOf y (k % 8)]) encT_one rfl (.tmp 43) (.tmp 54) _ rfl _ _ _ Try.underlying23 infoT rfl w.heap.size _ rfl (ho.alloc _) _ rfl ?a2 ?a3 (by omega) ?a4 ?a5)
        case a2 => exact RdV.lit encT _ _ [bitsOf y (k % 8)] _ _ _ rfl (Nat.le_refl _) (by simp) (by simp [encT])
        case a3 => rw [Nat.mul_one]; exact lenF
        case a4 => exact Nat.le_trans hB.size (by simp)
        intro v2 w2 ho2 hg2
        clear hv
        go_wp2
        go_roundw
        case rel => exact ⟨k + 1, by omega, by go_num, by rw [hs.out]; exact ho2, belowG (belowA hB _) hg2 (fun k hk => (ho.base k hk).1)⟩
        case measure => simp [intOf]; omega
      · obtain rfl : k = m := by omega
        go_wp2
        go_ret2
        exact ⟨_, rfl, ho, hB⟩
  · have hd : 0 < m % 8 := by omega
    obtain ⟨g0, o0, he0, hcell0⟩ := hcl'.out.resolve_left (by have := hl'.out; omega)
    have hlb : 1 ≤ b.length := by have := hl'.out; omega
    have hx1 := hcell0 (b.length - 1) (by omega)
    have e0 : b[b.length - 1]'(by omega) = b.getD (m / 8) 0 := by
      rw [List.getD_eq_getElem?_getD, List.getElem?_eq_getElem (by have := hl'.out; omega), Option.getD_some]
      congr 1; have := hl'.out; omega
    rw [e0] at hx1
    simp only [encB] at hx1
    have hne : (((b.getD (m / 8) 0).toNat : Int) / 2 ^ (m % 8) != 0) = false := by
      rw [shr_nat, bne_eq_false_iff_eq]; have := hf'.out.2.resolve_left h8; omega
    generalize b.getD (m / 8) 0 = y0 at *
    clear hcell0 e0
    subst he0
    go_enter Try.func96, Try.ntmps96
    go_wp2
    go_loopw [7, 40] (fun x i wr => ∃ k : Nat, k ≤ m ∧ i = .int .i64 k ∧ Own encT 4 wr w.heap.size x (wBitsL b k) ∧ Below w.heap.size w wr) (fun _ i _ => m - (intOf i).toNat)
    case atStart => exact ⟨0, Nat.zero_le _, rfl, Own.nil _ _ _ _, Below.refl _ _⟩
    case round =>
      obtain ⟨k, hk, rfl, ho, hB⟩ := hrel
      by_cases hlt : k < m
      · have hlk : k / 8 < b.length := by have := hl'.out; omega
        obtain ⟨g, o, he, hcell⟩ := hcl'.out.resolve_left (by omega)
        have hx0 := hcell (k / 8) hlk
        have e1 : b[k / 8] = b.getD (k / 8) 0 := by rw [List.getD_eq_getElem?_getD, List.getElem?_eq_getElem hlk, Option.getD_some]
        rw [e1] at hx0
        have hlx := World.block_lt_of_cell? _ _ hx0
        simp only [] at hlx
        have hx := (hB.cell (p := ⟨g, o + k / 8, none⟩) hlx).trans hx0
        simp only [encB] at hx
        have hv := and_bit (b.getD (k / 8) 0) (k % 8)
        have hs := Lib.hid (wBitsL_step b k)
        have lenF : (wBitsL b k).length + 1 ≤ 140737488355328 := by rw [wBitsL_len]; omega
        generalize b.getD (k / 8) 0 = y at *
        clear hcell hx0 e1
        cases he
        go_wp2_with (at_builtin; refine wp_app (enc := encT) (l := wBitsL b k) (m := [bitsOf y (k % 8)]) encT_one rfl (.tmp 43) (.tmp 54) _ rfl _ _ _ Try.underlying23 infoT rfl w.heap.size _ rfl (ho.alloc _) _ rfl ?d2 ?d3 (by omega) ?d4 ?d5)
        case d2 => exact RdV.lit encT _ _ [bitsOf y (k % 8)] _ _ _ rfl (Nat.le_refl _) (by simp) (by simp [encT])
        case d3 => rw [Nat.mul_one]; exact lenF
        case d4 => exact Nat.le_trans hB.size (by simp)
        intro v2 w2 ho2 hg2
        clear hv
        go_wp2
        go_roundw
        case rel => exact ⟨k + 1, by omega, by go_num, by rw [hs.out]; exact ho2, belowG (belowA hB _) hg2 (fun k hk => (ho.base k hk).1)⟩
        case measure => simp [intOf]; omega
      · obtain rfl : k = m := by omega
        go_wp2
        go_ret2
        exact ⟨_, rfl, ho, hB⟩
end Go.Proofs.Ytjkofefcoeejbaa

/- The reference of layer 2: what its functions compute. -/
namespace Go.Proofs.Ytjkofefcoeejbaa
open Go.RowKit

set_option maxHeartbeats 400000 in
theorem refW_Words_no (v : Value) (l : List UInt8) (w : World) (h : RdV encB w v l) (hn : l.length % 2 = 1) :
    Calls Try.prog 89 #[v] w fun e w' => e = .returned (.tuple #[.slice none 0 0, .bool false]) ∧ w = w' := by
  obtain ⟨a, c, rfl, hc, hm, _⟩ := h.open
  have hb : ((l.length : Int) % 2 == 1) = true := by rw [beq_iff_eq]; omega
  clear hn
  go_enter Try.func89, Try.ntmps89
  go_wp2
  go_ret2
  exact ⟨rfl, rfl⟩
set_option maxRecDepth 100000 in
set_option maxHeartbeats 400000 in
theorem refW_Words_yes (v : Value) (l : List UInt8) (w : World) (h : RdV encB w v l) (hn : l.length % 2 = 0) (hl : l.length ≤ 100000) :
    Calls Try.prog 89 #[v] w fun e w' => ∃ v', e = .returned (.tuple #[v', .bool true]) ∧ Own encW 24 w' w.heap.size v' (wWords l) ∧ Below w.heap.size w w' := by
  obtain ⟨a, c, rfl, hc, hm, hcl⟩ := h.open
  have hcl' := Lib.hid hcl
  clear hcl
  have hb : ((l.length : Int) % 2 == 1) = false := by rw [beq_eq_false_iff_ne]; omega
  have hn' := Lib.hid hn
  clear hn
  go_enter Try.func89, Try.ntmps89
  go_wp2
  go_loopw [4, 5] (fun x i wr => ∃ k : Nat, k ≤ l.length ∧ k % 2 = 0 ∧ i = .int .i64 k ∧ Own encW 24 wr w.heap.size x (wWords (l.take k)) ∧ Below w.heap.size w wr) (fun _ i _ => l.length - (intOf i).toNat)
  case atStart => exact ⟨0, Nat.zero_le _, rfl, rfl, Own.nil _ _ _ _, Below.refl _ _⟩
  case round =>
    obtain ⟨k, hk, hk2, rfl, ho, hB⟩ := hrel
    clear hb
    have hn := hn'.out
    have hcl := hcl'.out
    by_cases hlt : k < l.length
    · obtain ⟨b, o, rfl, hcell⟩ := hcl.resolve_left (by omega)
      have hx0 := hcell k hlt
      have hlx := World.block_lt_of_cell? _ _ hx0
      simp only [] at hlx
      have hx := (hB.cell (p := ⟨b, o + k, none⟩) hlx).trans hx0
      have hy := (hB.cell (p := ⟨b, o + (k + 1), none⟩) hlx).trans (hcell (k + 1) (by omega))
      simp only [encB] at hx hy
      have ag := (fun e => absurd (ho.base b e).1 (by omega) : _ = some b → False)
      have hlr := Nat.lt_of_lt_of_le hlx hB.size
      have hs := Lib.hid (wWords_step l k (by omega) hk2)
      clear hcell hcl hx0
      go_wp2
      have q0 : (0 : Int) ≤ (k : Int) := by omega
      have q1 : (k : Int) < (l.length : Int) := by omega
      have q2 : (0 : Int) ≤ (k : Int) + 1 := by omega
      have q3 : (k : Int) + 1 < (l.length : Int) := by omega
      have q4 : IntKind.i64.wrap ((k : Int) + 1) = (k : Int) + 1 := IntWalk.i64_in _ (by omega)
      have q5 : ((k : Int) + 1).toNat = k + 1 := by omega
      have lenF : ((wWords (l.take k)).length + [mkW l[k] l[k + 1]].length) * 2 ≤ 140737488355328 := by rw [wWords_len, List.length_take, List.length_singleton]; omega
      go_region_held3 (fun w' => w'.cell? ⟨b, o + k, none⟩ = some (.int .u8 (l[k].toNat : Int)) ∧ w'.cell? ⟨b, o + (k + 1), none⟩ = some (.int .u8 (l[k + 1].toNat : Int)))
        (first | (go_split_ands; refine ⟨hg1.cell ?_ (fun e => ag e.symm), hg1.cell ?_ (fun e => ag e.symm)⟩ <;> assumption) | (go_keep; done))
        ((refine step_app (enc := encW) (l := wWords (l.take k)) (m := [mkW l[k] l[k + 1]]) encW_one rfl _ _ _ rfl 24 (.int .u16 0) 2 Try.underlying22 infoW rfl w.heap.size _ rfl (by first | exact ho.drew.alloc _ | exact (ho.alloc _).drew) _ rfl (RdV.drew (RdV.lit encW _ _ [mkW l[k] l[k + 1]] _ _ _ rfl (Nat.le_refl _) (by simp) (by simp [encW, add_mkW]))) (by simp) lenF (by omega) (by first | exact Nat.le_succ_of_le hB.size | (simp; exact Nat.le_succ_of_le hB.size)) ?_; intro v1 w1 ho1 hg1))
      clear q0 q1 q2 q3 q4 q5
      go_wp2
      go_roundw
      case rel => exact ⟨k + 2, by omega, by omega, by go_num, by rw [hs.out]; exact ho1, by first | exact belowG (Below.drew (belowA hB _)) hg1 (fun k hk => (ho.base k hk).1) | exact belowG (belowA (Below.drew hB) _) hg1 (fun k hk => (ho.base k hk).1)⟩
      case measure => simp [intOf]; omega
    · obtain rfl : k = l.length := by omega
      rw [List.take_length] at ho
      go_wp2
      go_ret2
      exact ⟨_, rfl, ho, hB⟩


set_option maxHeartbeats 400000 in
theorem refW_Put (n : Int) (w : World) (h0 : 0 ≤ n) (h1 : n < 65536) :
    Calls Try.prog 121 #[.int .u16 n] w fun e w' => e = .returned (.agg #[.int .u8 (n / 256), .int .u8 (n % 256)]) ∧ Below w.heap.size w w' := by
  have hd := div_u16 n 256 h0 h1 (by omega)
  go_enter Try.func121, Try.ntmps121
  go_wp2
  refine bodyPost_ret (v := .agg #[.int .u8 (n / 256), .int .u8 (n % 256)]) (by simp [results, Try.results121, go_sem]) rfl ?_
  exact ⟨rfl, belowA (Below.refl _ w) _⟩
set_option maxRecDepth 100000 in
set_option maxHeartbeats 400000 in
theorem refW_Bytes (v : Value) (l : List UInt16) (w : World) (h : RdV encW w v l) (hl : l.length ≤ 100000) :
    Calls Try.prog 82 #[v] w fun e w' => ∃ v', e = .returned v' ∧ Own encB 5 w' w.heap.size v' (wBytes l) ∧ Below w.heap.size w w' := by
  obtain ⟨a, c, rfl, hc, hm, hcl⟩ := h.open
  go_enter Try.func82, Try.ntmps82
  go_wp2
  go_loopw [3, 4] (fun x i wr => ∃ k : Nat, k ≤ l.length ∧ i = .int .i64 k ∧ Own encB 5 wr w.heap.size x (wBytes (l.take k)) ∧ Below w.heap.size w wr) (fun _ i _ => l.length - (intOf i).toNat)
  case atStart => exact ⟨0, Nat.zero_le _, rfl, Own.lit encB w _ _ (Nat.le_refl _) [] _ _ rfl (by simp) rfl, belowA (Below.refl _ w) _⟩
  case round =>
    obtain ⟨k, hk, rfl, ho, hB⟩ := hrel
    by_cases hlt : k < l.length
    · obtain ⟨b, o, rfl, hcell⟩ := hcl.resolve_left (by omega)
      have hx0 := hcell k hlt
      have hlx := World.block_lt_of_cell? _ _ hx0
      simp only [] at hlx
      have hx := (hB.cell (p := ⟨b, o + k, none⟩) hlx).trans hx0
      simp only [encW] at hx
      have hs := Lib.hid (wBytes_step l k hlt)
      have lenF : (wBytes (l.take k)).length + 2 ≤ 140737488355328 := by rw [wBytes_len, List.length_take]; omega
      have hn := l[k].toNat_lt
      clear hcell hcl hx0
      generalize l[k] = n at *
      go_wp2_with (first | (go_at_call 121; refine (refW_Put _ _ (by omega) (by omega)).mono ?_; rintro e w1 ⟨rfl, hB1⟩) |
        (at_builtin; refine wp_app (enc := encB) (l := wBytes (l.take k)) (m := [UInt8.ofNat (n.toNat / 256), UInt8.ofNat (n.toNat % 256)]) encB_one rfl (.tmp 18) (.tmp 23) _ rfl _ _ _ Try.underlying27 infoB rfl w.heap.size _ rfl (((ho.below hB1).alloc _).alloc _) _ rfl ?a2 ?a3 (by omega) ?a4 ?a5))
      case a2 => exact RdV.litg encB _ _ [UInt8.ofNat (n.toNat / 256), UInt8.ofNat (n.toNat % 256)] _ _ _ _ (by simp) rfl (Nat.le_refl _) (by simp) (by simp [encB]; omega)
      case a3 => rw [Nat.mul_one]; exact lenF
      case a4 => exact (belowA (belowA (belowT hB hB1) _) _).size
      intro v2 w2 ho2 hg2
      go_wp2
      go_roundw
      case rel => exact ⟨k + 1, by omega, by go_num, by rw [hs.out]; exact ho2, belowG (belowA (belowA (belowT hB hB1) _) _) hg2 (fun k hk => (ho.base k hk).1)⟩
      case measure => simp [intOf]; omega
    · obtain rfl : k = l.length := by omega
      rw [List.take_length] at ho
      go_wp2
      go_ret
      exact ⟨_, rfl, ho, hB⟩

set_option maxRecDepth 100000 in
set_option maxHeartbeats 800000 in
theorem refW_Pack (v : Value) (l : List Bool) (w : World) (h : RdV encT w v l) (hl : l.length ≤ 1000000) :
    Calls Try.prog 83 #[v] w fun e w' => ∃ v', e = .returned v' ∧ Own encB 5 w' w.heap.size v' (wPack l) ∧ Below w.heap.size w w' := by
  obtain ⟨a, c, rfl, hc, hm, hcl⟩ := h.open
  go_enter Try.func83, Try.ntmps83
  go_wp2
  go_loopw [3, 4, 5] (fun x y i wr => ∃ k e : Nat, k ≤ l.length ∧ e ≤ 8 ∧ e % 8 = k % 8 ∧ i = .int .i64 k ∧ y = .int .i64 (2 ^ e) ∧ Own encB 5 wr w.heap.size x (wPack (l.take k)) ∧ Below w.heap.size w wr) (fun _ _ i _ => l.length - (intOf i).toNat)
  case atStart => exact ⟨0, 0, Nat.zero_le _, by omega, rfl, rfl, rfl, (by rw [List.take_zero]; exact Own.lit encB w _ _ (Nat.le_refl _) [] _ _ rfl (by simp) rfl), belowA (Below.refl _ w) _⟩
  case round =>
    obtain ⟨k, e, hk, he, hek, rfl, rfl, ho, hB⟩ := hrel
    have hpe : (0 : Int) < 2 ^ e := Int.pow_pos (by omega)
    have hpe2 : (2 : Int) ^ e ≤ 256 := by
      have : (2 : Nat) ^ e ≤ 2 ^ 8 := Nat.pow_le_pow_right (by omega) he
      have h : (((2 : Nat) ^ e : Nat) : Int) ≤ ((2 ^ 8 : Nat) : Int) := by exact_mod_cast this
      simpa using h
    by_cases hlt : k < l.length
    · obtain ⟨b, o, rfl, hcell⟩ := hcl.resolve_left (by omega)
      have hx0 := hcell k hlt
      have hlx := World.block_lt_of_cell? _ _ hx0
      simp only [] at hlx
      have hx := (hB.cell (p := ⟨b, o + k, none⟩) hlx).trans hx0
      simp only [encT] at hx
      have lenF : (wPack (l.take k)).length + 1 ≤ 140737488355328 := by rw [wPack_len, List.length_take]; omega
      have hW := Lib.hid (pk_wPack l k hlt)
      by_cases h8 : k % 8 = 0
      · have hd : ((k : Int) % 8 == 0) = true := by rw [beq_iff_eq]; omega
        have hM := Lib.hid (pk_more l k hlt h8)
        have h8' := Lib.hid h8
        clear hcell hcl hx0 h8 hek
        go_wp2_with (at_builtin; refine wp_app (enc := encB) (l := wPack (l.take k)) (m := [0]) encB_one rfl (.tmp 16) (.tmp 17) _ rfl _ _ _ Try.underlying27 infoB rfl w.heap.size _ rfl (ho.alloc _) _ rfl ?a2 ?a3 (by omega) ?a4 ?a5)
        case a2 => exact RdV.lit encB _ _ [0] _ _ _ rfl (Nat.le_refl _) (by simp) (by simp [encB])
        case a3 => rw [Nat.mul_one]; exact lenF
        case a4 => exact (belowA hB _).size
        intro v2 w2 ho2 hg2
        rw [hM.out] at ho2
        have hB2 := belowG (belowA hB _) hg2 (fun k hk => (ho.base k hk).1)
        have hx2 := (hB2.cell (p := ⟨b, o + k, none⟩) hlx).trans ((hB.cell (p := ⟨b, o + k, none⟩) hlx).symm.trans hx)
        clear hg2 ho hB hx hd
        have h80 : k % 8 = 0 := h8'.out
        obtain ⟨g, cap, rfl, hgb, hgl⟩ := ho2.block (by rw [pk_len]; omega)
        rw [pk_len] at ho2 ⊢
        cases hv : l[k] with
        | false =>
          rw [hv] at hx2
          have hs := Lib.hid ((pk_false l k (k / 8 + 1) hlt hv).symm.trans hW.out)
          clear hv
          go_wp2
          go_roundw
          case rel => exact ⟨k + 1, 1, by omega, by omega, by omega, by go_num, by rw [Int.pow_succ, Int.mul_comm]; rfl, by rw [← hs.out]; exact ho2, hB2⟩
          case measure => simp [intOf]; omega
        | true =>
          rw [hv] at hx2
          have hn : k / 8 < (pk (l.take k) (k / 8 + 1)).length := by rw [pk_len]; omega
          have hp := pk_true l k (k / 8 + 1) hlt hv hn
          have hs := Lib.hid (hp.1.symm.trans hW.out)
          have hc8 := hp.2
          obtain ⟨hca, hfa⟩ := ho2.at (k / 8) hn
          have hset := ho2.set (k / 8) (UInt8.ofNat ((pk (l.take k) (k / 8 + 1))[k / 8].toNat + 2 ^ (k % 8)))
          simp only [encB] at hca hset
          clear hv hp
          go_wp2
          have hv1 : (((pk (l.take k) (k / 8 + 1))[k / 8].toNat : Int) + 1) % 256 = ((UInt8.ofNat ((pk (l.take k) (k / 8 + 1))[k / 8].toNat + 2 ^ (k % 8))).toNat : Int) := by
            rw [UInt8.toNat_ofNat', h80]; omega
          rw [hv1]
          go_roundw
          case rel => exact ⟨k + 1, 1, by omega, by omega, by omega, by go_num, rfl, by rw [← hs.out]; exact hset.1, belowG hB2 hset.2 (by simp; exact hgb)⟩
          case measure => simp [intOf]; omega
      · have hd : ((k : Int) % 8 == 0) = false := by rw [beq_eq_false_iff_ne]; omega
        obtain rfl : e = k % 8 := by omega
        rw [pk_enough l k hlt h8] at ho
        clear hcell hcl hx0
        obtain ⟨g, cap, rfl, hgb, hgl⟩ := ho.block (by rw [pk_len]; omega)
        rw [pk_len] at ho ⊢
        cases hv : l[k] with
        | false =>
          rw [hv] at hx
          have hs := Lib.hid ((pk_false l k (k / 8 + 1) hlt hv).symm.trans hW.out)
          clear hv
          go_wp2
          go_roundw
          case rel => exact ⟨k + 1, k % 8 + 1, by omega, by omega, by omega, by go_num, by rw [Int.pow_succ, Int.mul_comm], by rw [← hs.out]; exact ho, hB⟩
          case measure => simp [intOf]; omega
        | true =>
          rw [hv] at hx
          have hn : k / 8 < (pk (l.take k) (k / 8 + 1)).length := by rw [pk_len]; omega
          have hp := pk_true l k (k / 8 + 1) hlt hv hn
          have hs := Lib.hid (hp.1.symm.trans hW.out)
          have hc8 := hp.2
          obtain ⟨hca, hfa⟩ := ho.at (k / 8) hn
          have hset := ho.set (k / 8) (UInt8.ofNat ((pk (l.take k) (k / 8 + 1))[k / 8].toNat + 2 ^ (k % 8)))
          simp only [encB] at hca hset
          clear hv hp
          go_wp2
          have hv2 : (((pk (l.take k) (k / 8 + 1))[k / 8].toNat : Int) + 2 ^ (k % 8)) % 256 = ((UInt8.ofNat ((pk (l.take k) (k / 8 + 1))[k / 8].toNat + 2 ^ (k % 8))).toNat : Int) := by
            have h2 : ((2 ^ (k % 8) : Nat) : Int) = (2 : Int) ^ (k % 8) := by simp
            rw [UInt8.toNat_ofNat', ← h2]; omega
          rw [hv2]
          go_roundw
          case rel => exact ⟨k + 1, k % 8 + 1, by omega, by omega, by omega, by go_num, by rw [Int.pow_succ, Int.mul_comm], by rw [← hs.out]; exact hset.1, belowG hB hset.2 (by simp; exact hgb)⟩
          case measure => simp [intOf]; omega
    · obtain rfl : k = l.length := by omega
      rw [List.take_length] at ho
      go_wp2
      go_ret
      exact ⟨_, rfl, ho, hB⟩

end Go.Proofs.Ytjkofefcoeejbaa

/- Words and bits by their contracts of the old kind: that they answer so. -/
namespace Go.Proofs.Ytjkofefcoeejbaa
open Go Go.RowKit
set_option linter.unusedSimpArgs false
set_option linter.unusedVariables false
theorem repE_mk {α : Type} {enc : α → Value} {e' : α → DV} (he : ∀ a, e' a = .flat (enc a)) (h1 : ∀ a, (enc a).cells = #[enc a] ∧ isOne (enc a) = true) {I : Nat → Nat → Prop} {w : World} {b : Nat} : ∀ (l : List α) (o : Nat), (∀ j (h : j < l.length), w.cell? ⟨b, o + j, none⟩ = some (enc l[j]) ∧ I b (o + j)) → RepE I w 1 (l.map e') b o
  | [], o, _ => by simp [RepE]
  | a :: l, o, h => by
    simp only [List.map_cons, RepE]
    refine ⟨⟨by rw [he]; simp [DV.cells, DV.leaf, (h1 a).2], enc a, by rw [he]; simp only [Rep], by rw [(h1 a).1]; rfl, ?_⟩, repE_mk he h1 l (o + 1) fun j hj => ?_⟩
    · rw [(h1 a).1]
      intro j v hj
      cases j with
      | zero =>
        simp at hj
        subst hj
        obtain ⟨h2, h3⟩ := h 0 (by simp)
        exact ⟨h2, h3, (h1 _).2⟩
      | succ j => simp at hj
    · have := h (j + 1) (by simpa using hj)
      rw [show o + (j + 1) = o + 1 + j by omega] at this
      exact this
/-- a row of the call's own, handed out as a list -/
theorem own_rep {α : Type} {enc : α → Value} {e' : α → DV} (he : ∀ a, e' a = .flat (enc a)) (h1 : ∀ a, (enc a).cells = #[enc a] ∧ isOne (enc a) = true) {B : Nat → Nat → Prop} {G : Gh} {w w' : World} {H : Heap} (hB : ∀ b j, w.heap.size ≤ b → B b j) (hH : HR B G w H) {e : TypeId} {V : Value} {l : List α} (ho : Own enc e w' w.heap.size V l) : Rep (ImmB B G) w' G (mkl 1 (l.map e') .sh) V := by
  obtain ⟨⟨_, h2⟩, h3⟩ := ho
  rcases h2 with ⟨rfl, h2⟩ | ⟨g, cap, cur, rfl, hg, hc, h4, _, _, h5⟩
  · have : l = [] := List.eq_nil_of_length_eq_zero h2
    subst this
    simp only [List.map_nil, mkl, Rep, TagOk]
    exact ⟨none, 0, rfl, Nat.le_refl _, by simp, .inl trivial, trivial⟩
  · have hE : RepE (ImmB B G) w' 1 (l.map e') g 0 := by
      refine repE_mk he h1 l 0 fun j hj => ⟨?_, hB _ _ hg, fun k hk => ?_, fun k s c n hk => ?_⟩
      · rw [cell_toList hc, Nat.zero_add]
        have h6 : (l.map enc)[j]? = some (enc l[j]) := by simp [hj]
        rw [← h5] at h6
        rw [List.getElem?_take_of_lt (by omega)] at h6
        exact h6
      · have := hH.lt (.inl hk); omega
      · have := hH.lt (.inr ⟨_, _, _, hk⟩); omega
    cases l with
    | nil =>
      simp only [List.map_nil, mkl, Rep, TagOk]
      exact ⟨_, cap, rfl, h4, by simp, .inl trivial, trivial⟩
    | cons a l =>
      simp only [List.map_cons, mkl, Rep, TagOk]
      refine ⟨_, cap, by simp, by simpa using h4, by simpa using h3, .inr ⟨g, 0, rfl, by simpa using hE⟩, trivial⟩
theorem dB_some (x : DV) (a : UInt8) (h : dB x = some a) : x = .flat (encB a) := by
  unfold dB at h
  split at h
  · split at h
    · rename_i hn
      cases h
      rw [encB_low _ hn.1 hn.2]
    · cases h
  · cases h
theorem dW_some (x : DV) (a : UInt16) (h : dW x = some a) : x = .flat (encW a) := by
  unfold dW at h
  split at h
  · split at h
    · rename_i hn
      cases h
      rw [encW_low _ hn.1 hn.2]
      rfl
    · cases h
  · cases h
theorem dT_some (x : DV) (a : Bool) (h : dT x = some a) : x = .flat (encT a) := by
  unfold dT at h
  split at h
  · cases h; rfl
  · cases h
theorem primLL_ok {α β : Type} {d : DV → Option α} {ea : α → Value} {eb : β → Value} {e' : β → DV} {g : List α → List β} {f : FuncId} {t : TypeId} (hd : ∀ x a, d x = some a → x = .flat (ea a)) (h1 : ∀ a, (ea a).cells = #[ea a]) (he : ∀ a, e' a = .flat (eb a)) (h2 : ∀ a, (eb a).cells = #[eb a] ∧ isOne (eb a) = true)
    (hf : ∀ (v : Value) (l : List α) (w : World), RdV ea w v l → l.length ≤ 100000 → Calls Try.prog f #[v] w fun e w' => ∃ v', e = .returned v' ∧ Own eb t w' w.heap.size v' (g l) ∧ Below w.heap.size w w')
    {args : List DV} {r : DV} {H H' : Heap} (h : primLL d e' g args H = some (r, H')) : H' = H ∧ ∀ fl, CallOk Try.prog f args H fl r H := by
  unfold primLL at h
  split at h
  · rename_i sz xs t' H0
    obtain ⟨l, hl, h⟩ := Option.bind_eq_some_iff.1 h
    split at h
    · rename_i hlen
      simp only [Option.some.injEq, Prod.mk.injEq] at h
      obtain ⟨rfl, rfl⟩ := h
      refine ⟨rfl, fun fl B G w vs hB hH hr hfl => ⟨?_, fun _ _ => rfl, Nat.le_refl _⟩⟩
      simp only [RepL] at hr
      obtain ⟨V, _, e1, hV, rfl⟩ := hr
      have hv : vs = #[V] := by apply Array.ext'; simpa using e1
      subst hv
      exact (hf V l w (list_rd hd h1 hV hl) hlen).mono fun e w' ⟨v', h3, h4, h5⟩ => ⟨v', G, h3, Keep.below G h5, hH.below h5, own_rep he h2 hB hH h4⟩
    · cases h
  · cases h
theorem primTL_ok {β : Type} {eb : β → Value} {e' : β → DV} {f : FuncId} {t : TypeId} {c : Bool} {l2 : List β} {args : List DV} {H : Heap} (he : ∀ a, e' a = .flat (eb a)) (h2 : ∀ a, (eb a).cells = #[eb a] ∧ isOne (eb a) = true)
    (hf : ∀ (B : Nat → Nat → Prop) (G : Gh) (w : World) (vs : Array Value), RepL (ImmB B G) w G args vs.toList → Calls Try.prog f vs w fun e w' => ∃ v', e = .returned (.tuple #[v', .bool c]) ∧ Own eb t w' w.heap.size v' l2 ∧ Below w.heap.size w w') (fl : Nat) : CallOk Try.prog f args H fl (.tup [mkl 1 (l2.map e') .sh, .flat (.bool c)]) H := by
  intro B G w vs hB hH hr hfl
  refine ⟨(hf B G w vs hr).mono fun e w' ⟨v', h3, h4, h5⟩ => ⟨_, G, h3, Keep.below G h5, hH.below h5, ?_⟩, fun _ _ => rfl, Nat.le_refl _⟩
  simp only [Rep, RepL]
  exact ⟨_, rfl, _, _, rfl, own_rep he h2 hB hH h4, _, _, rfl, rfl, rfl⟩
theorem own_nil {α : Type} (enc : α → Value) (e : TypeId) (w : World) (b : Nat) : Own enc e w b (.slice none 0 0) [] := ⟨⟨rfl, .inl ⟨rfl, rfl⟩⟩, by simp⟩
theorem primWords_ok {f : FuncId} (hno : ∀ (v : Value) (l : List UInt8) (w : World), RdV encB w v l → l.length % 2 = 1 → Calls Try.prog f #[v] w fun e w' => e = .returned (.tuple #[.slice none 0 0, .bool false]) ∧ w = w')
    (hyes : ∀ (v : Value) (l : List UInt8) (w : World), RdV encB w v l → l.length % 2 = 0 → l.length ≤ 100000 → Calls Try.prog f #[v] w fun e w' => ∃ v', e = .returned (.tuple #[v', .bool true]) ∧ Own encW 24 w' w.heap.size v' (wWords l) ∧ Below w.heap.size w w')
    {args : List DV} {r : DV} {H H' : Heap} (h : primWords args H = some (r, H')) : H' = H ∧ ∀ fl, CallOk Try.prog f args H fl r H := by
  unfold primWords at h
  split at h
  · rename_i sz xs t' H0
    obtain ⟨l, hl, h⟩ := Option.bind_eq_some_iff.1 h
    split at h
    · rename_i hlen
      simp only [Option.some.injEq, Prod.mk.injEq] at h
      obtain ⟨rfl, rfl⟩ := h
      refine ⟨rfl, fun fl => primTL_ok (t := 24) (eb := encW) (fun a => rfl) (fun a => ⟨rfl, rfl⟩) (fun B G w vs hr => ?_) fl⟩
      simp only [RepL] at hr
      obtain ⟨V, _, e1, hV, rfl⟩ := hr
      have hv : vs = #[V] := by apply Array.ext'; simpa using e1
      subst hv
      have hR := list_rd dB_some (fun a => rfl) hV hl
      rcases (by omega : l.length % 2 = 1 ∨ l.length % 2 = 0) with hn | hn
      · rw [wordsTell_no hn]
        exact (hno V l w hR hn).mono fun e w' ⟨h3, h4⟩ => ⟨_, h3, own_nil _ _ _ _, by rw [← h4]; exact Below.refl _ _⟩
      · rw [wordsTell_yes hn]
        exact hyes V l w hR hn hlen
    · cases h
  · cases h
theorem primBits_ok {args : List DV} {r : DV} {H H' : Heap} (h : primBits args H = some (r, H')) : H' = H ∧ ∀ fl, CallOk Try.prog 96 args H fl r H := by
  unfold primBits at h
  split at h
  · rename_i H0 sz xs t' n
    obtain ⟨l, hl, h⟩ := Option.bind_eq_some_iff.1 h
    split at h
    · rename_i hlen
      obtain ⟨hlen, hn0, hn1⟩ := hlen
      simp only [Option.some.injEq, Prod.mk.injEq] at h
      obtain ⟨rfl, rfl⟩ := h
      refine ⟨rfl, fun fl => primTL_ok (t := 4) (eb := encT) (fun a => rfl) (fun a => ⟨rfl, rfl⟩) (fun B G w vs hr => ?_) fl⟩
      simp only [RepL] at hr
      obtain ⟨V, _, e1, hV, V2, _, rfl, hV2, rfl⟩ := hr
      simp only [Rep] at hV2
      subst hV2
      have hv : vs = #[V, .int .i64 n] := by apply Array.ext'; simpa using e1
      subst hv
      have hR := list_rd dB_some (fun a => rfl) hV hl
      by_cases h0 : 0 ≤ n ∧ bitsFit l n.toNat
      · obtain ⟨m, rfl⟩ := Int.eq_ofNat_of_zero_le h0.1
        have hf : bitsFit l m := by simpa using h0.2
        have hm : m ≤ 800000 := by have := hf.1; omega
        rw [bitsTell_nat, wBits_yes hf]
        exact word_Bits_yes V l m w hR hf hm
      · have hn : n < 0 ∨ ¬ bitsFit l n.toNat := by
          rcases (by omega : n < 0 ∨ 0 ≤ n) with h | h
          · exact .inl h
          · exact .inr fun h2 => h0 ⟨h, h2⟩
        have e : bitsTell l n = (false, []) := by
          rcases (by omega : n < 0 ∨ 0 ≤ n) with h | h
          · exact bitsTell_neg h
          · obtain ⟨m, rfl⟩ := Int.eq_ofNat_of_zero_le h
            rw [bitsTell_nat]
            exact wBits_no fun h2 => h0 ⟨h, by simpa using h2⟩
        rw [e]
        exact (word_Bits_no V l n w hR hn hn1 hn0).mono fun e w' ⟨h3, h4⟩ => ⟨_, h3, own_nil _ _ _ _, by rw [← h4]; exact Below.refl _ _⟩
    · cases h
  · cases h
theorem primW_ok (f : FuncId) (g : Prim) (args : List DV) (H : Heap) (d : DV) (H' : Heap) (hf : PRIMW f = some g) (h : g args H = some (d, H')) : (∃ fn, Try.prog.funcs[f]? = some fn ∧ fn.body.isSome = true) ∧ (∀ fl, CallOk Try.prog f args H fl d H') ∧ ∀ k : Nat, H[k]? = some .hole → H'[k]? = some .hole := by
  unfold PRIMW at hf
  by_cases c1 : f = 64
  · subst c1
    simp only [BEq.rfl, cond_true, Option.some.injEq] at hf
    subst hf
    obtain ⟨rfl, h⟩ := primLL_ok dW_some (fun a => rfl) (fun a => rfl) (fun a => ⟨rfl, rfl⟩) (fun v l w h1 h2 => word_Bytes v l w h1 h2) h
    exact ⟨⟨_, Try.func64, rfl⟩, h, fun _ h => h⟩
  have d1 : (f == 64) = false := by simpa using c1
  simp only [d1, cond_false] at hf
  by_cases c2 : f = 63
  · subst c2
    simp only [BEq.rfl, cond_true, Option.some.injEq] at hf
    subst hf
    obtain ⟨rfl, h⟩ := primLL_ok dT_some (fun a => rfl) (fun a => rfl) (fun a => ⟨rfl, rfl⟩) (fun v l w h1 h2 => word_Pack v l w h1 h2) h
    exact ⟨⟨_, Try.func63, rfl⟩, h, fun _ h => h⟩
  have d2 : (f == 63) = false := by simpa using c2
  simp only [d2, cond_false] at hf
  by_cases c3 : f = 98
  · subst c3
    simp only [BEq.rfl, cond_true, Option.some.injEq] at hf
    subst hf
    obtain ⟨rfl, h⟩ := primWords_ok (fun v l w h1 h2 => word_Words_no v l w h1 h2) (fun v l w h1 h2 h3 => word_Words_yes v l w h1 h2 h3) h
    exact ⟨⟨_, Try.func98, rfl⟩, h, fun _ h => h⟩
  have d3 : (f == 98) = false := by simpa using c3
  simp only [d3, cond_false] at hf
  by_cases c4 : f = 96
  · subst c4
    simp only [BEq.rfl, cond_true, Option.some.injEq] at hf
    subst hf
    obtain ⟨rfl, h⟩ := primBits_ok h
    exact ⟨⟨_, Try.func96, rfl⟩, h, fun _ h => h⟩
  have d4 : (f == 96) = false := by simpa using c4
  simp only [d4, cond_false] at hf
  by_cases c5 : f = 82
  · subst c5
    simp only [BEq.rfl, cond_true, Option.some.injEq] at hf
    subst hf
    obtain ⟨rfl, h⟩ := primLL_ok dW_some (fun a => rfl) (fun a => rfl) (fun a => ⟨rfl, rfl⟩) (fun v l w h1 h2 => refW_Bytes v l w h1 h2) h
    exact ⟨⟨_, Try.func82, rfl⟩, h, fun _ h => h⟩
  have d5 : (f == 82) = false := by simpa using c5
  simp only [d5, cond_false] at hf
  by_cases c6 : f = 83
  · subst c6
    simp only [BEq.rfl, cond_true, Option.some.injEq] at hf
    subst hf
    obtain ⟨rfl, h⟩ := primLL_ok dT_some (fun a => rfl) (fun a => rfl) (fun a => ⟨rfl, rfl⟩) (fun v l w h1 h2 => refW_Pack v l w h1 (by omega)) h
    exact ⟨⟨_, Try.func83, rfl⟩, h, fun _ h => h⟩
  have d6 : (f == 83) = false := by simpa using c6
  simp only [d6, cond_false] at hf
  by_cases c7 : f = 89
  · subst c7
    simp only [BEq.rfl, cond_true, Option.some.injEq] at hf
    subst hf
    obtain ⟨rfl, h⟩ := primWords_ok (fun v l w h1 h2 => refW_Words_no v l w h1 h2) (fun v l w h1 h2 h3 => refW_Words_yes v l w h1 h2 h3) h
    exact ⟨⟨_, Try.func89, rfl⟩, h, fun _ h => h⟩
  have d7 : (f == 89) = false := by simpa using c7
  simp only [d7, cond_false] at hf
  cases hf
end Go.Proofs.Ytjkofefcoeejbaa

/- Functions that are known by a contract of their own: that they answer so. -/
namespace Go.Proofs.Ytjkofefcoeejbaa
open Go Go.RowKit
set_option linter.unusedSimpArgs false
set_option linter.unusedVariables false
set_option maxHeartbeats 4000000 in
theorem grow_walk (A : Option Addr) (n : Nat) (h0 : 0 < n) (h1 : n ≤ 1000000) (w : World) :
    Calls Try.prog 120 #[.slice A 0 0, .int .i64 n] w fun e w' => ∃ cap C, e = .returned (.slice (some ⟨w.heap.size, 0, none⟩) 0 cap) ∧ More (.cells C 5 (0, 0)) w w' ∧ C.size = cap * 1 := by
  have hinf : (Try.prog.info? 5).map (fun i => (i.size, i.bytes, i.zero)) = some (1, 1, some (.int .u8 0)) := by kernel_rfl
  obtain ⟨i0, hi0, hs0⟩ := Option.map_eq_some_iff.1 hinf
  simp only [Prod.mk.injEq] at hs0
  obtain ⟨hs0, hb0, hz0⟩ := hs0
  clear hinf
  have hold : (Builtin.firstCells i0.size 0 (.slice A 0 0)).run Try.prog w.drew = .ok ([] : List Value).toArray w.drew := by
    cases A with
    | none => exact run_firstCells_none w.drew i0.size 0 0 0
    | some a => exact run_firstCells_some w.drew i0.size 0 a 0 0 [] (by simp) (fun j v hj => by simp at hj)
  have hn0 : ¬ ((n : Int) < 0) := by omega
  have hn1 : (n : Int) > 0 := by omega
  have hn2 : IntKind.i64.wrap ((n : Int) - 0) = (n : Int) := by simp [IntKind.wrap, IntKind.bits, IntKind.signed]; omega
  have hrz : ∀ ty, (Builtin.append_ #[27, 3] ty #[.slice A 0 0, .int .i64 (n : Int)]).run Try.prog w =
      .ok (.slice (some ⟨w.heap.size, 0, none⟩) n (grownCap w n 0 5)) (w.drew.alloc (.cells (([] : List Value).toArray ++ Builtin.zeroCells (Value.int .u8 0).cells n ++ Builtin.zeroCells (Value.int .u8 0).cells (grownCap w n 0 5 - n)) 5)) := fun ty => by
    have h := Lib.run_append_grow_zeros w 27 3 ty 5 i0 (.int .u8 0) .i64 .i64 Try.underlying27 Try.underlying3 hi0 hz0 A 0 0 [] hold n h0 (by omega) (by omega) (by omega) (by rw [hb0]; omega) (by rw [hb0]; exact growslice_fits (by omega) (by omega))
    rw [Nat.zero_add] at h
    exact h
  have hGn : n ≤ grownCap w n 0 5 := grownCap_ge w _ _ _
  have hcs : (([] : List Value).toArray ++ Builtin.zeroCells (Value.int .u8 0).cells n ++ Builtin.zeroCells (Value.int .u8 0).cells (grownCap w n 0 5 - n)).size = grownCap w n 0 5 * 1 := by
    simp [Builtin.zeroCells, Value.cells]
    omega
  have hG63 : grownCap w n 0 5 ≤ 9223372036854775807 := by
    have := grownCap_le_maxLen w n 0 5 (by unfold maxLen; omega)
    unfold maxLen at this
    omega
  generalize (([] : List Value).toArray ++ Builtin.zeroCells (Value.int .u8 0).cells n ++ Builtin.zeroCells (Value.int .u8 0).cells (grownCap w n 0 5 - n)) = C at *
  generalize grownCap w n 0 5 = G at *
  have fin : More (.cells C 5 (0, 0)) w (w.drew.alloc (.cells C 5)) := ⟨rfl, rfl, rfl, rfl⟩
  clear hold hb0 hz0 hs0 hi0
  go_enter Try.func120, Try.ntmps120
  go_wp2_with (at_builtin; refine Lib.wpList_append_run _ rfl _ _ _ _ rfl _ _ rfl rfl _ _ (hrz _) ?_)
  all_goals (go_ret; exact ⟨_, rfl, _, ⟨rfl, rfl, rfl, rfl⟩, by simpa using hcs⟩)
theorem grow_zero (A : Option Addr) (w : World) : Calls Try.prog 120 #[.slice A 0 0, .int .i64 0] w fun e w' => e = .returned (.slice A 0 0) ∧ w' = w := by
  go_enter Try.func120, Try.ntmps120
  go_wp2
  go_ret
  exact ⟨rfl, rfl⟩
theorem primGrow_ok {args : List DV} {d : DV} {H H' : Heap} (h : primGrow args H = some (d, H')) : (∀ fl, CallOk Try.prog 120 args H fl d H') ∧ ∀ k : Nat, H[k]? = some .hole → H'[k]? = some .hole := by
  unfold primGrow at h
  split at h
  · rename_i H0 n
    split at h
    · rename_i hn
      subst hn
      simp only [Option.some.injEq, Prod.mk.injEq] at h
      obtain ⟨rfl, rfl⟩ := h
      refine ⟨fun fl => ?_, fun k hk => hk⟩
      refine callOk_below (fun I G w vs hr => ?_) _ fl
      simp only [RepL, Rep] at hr
      obtain ⟨_, _, e1, ⟨A, c, rfl, _, _, _, ht⟩, _, _, rfl, rfl, rfl⟩ := hr
      simp only [TagOk] at ht
      have hv : vs = #[.slice A 0 0, .int .i64 0] := by
        apply Array.ext'
        simpa [ht] using e1
      subst hv
      exact (grow_zero A w).mono fun r w' ⟨h1, h2⟩ => ⟨_, h1, by rw [h2]; exact Below.refl _ _, fun I G => by simp only [Rep, TagOk]; exact ⟨A, 0, rfl, by simp, by simp, .inl trivial, rfl⟩⟩
    · split at h
      · rename_i h0 h1
        simp only [Option.some.injEq, Prod.mk.injEq] at h
        obtain ⟨rfl, rfl⟩ := h
        refine ⟨fun fl => ?_, fun k hk => by rw [List.getElem?_append_left (List.getElem?_eq_some_iff.1 hk).1]; exact hk⟩
        intro B G w vs hB hH hr hfl
        refine ⟨?_, fun k hk => List.getElem?_append_left (by omega), by simp⟩
        simp only [RepL, Rep] at hr
        obtain ⟨_, _, e1, ⟨A, c, rfl, _, _, _, ht⟩, _, _, rfl, rfl, rfl⟩ := hr
        simp only [TagOk] at ht
        obtain ⟨m, rfl⟩ := Int.eq_ofNat_of_zero_le (by omega : 0 ≤ n)
        have hv : vs = #[.slice A 0 0, .int .i64 m] := by
          apply Array.ext'
          simpa [ht] using e1
        subst hv
        refine (grow_walk A m (by omega) (by omega) w).mono fun e w' ⟨cap, C, he, hm, hC⟩ => ?_
        obtain ⟨hK, hH'⟩ := step_token (n := 0) hH hB hm (Nat.zero_le _) (by omega) (by omega) hC
        refine ⟨_, _, he, hK, hH', ?_⟩
        have hself : (G ++ [GK.own w.heap.size 1 cap 0])[H.length]? = some (GK.own w.heap.size 1 cap 0) := by rw [hH.len]; simp
        simp only [Rep]
        refine ⟨_, cap, rfl, Nat.zero_le _, by simp, .inl trivial, ?_⟩
        simp only [TagOk]
        exact ⟨_, _, _, _, hself, by simp, fun _ => ⟨rfl, rfl, rfl⟩⟩
      · cases h
  · cases h
theorem dWI_some (x : DV) (a : Int) (h : dWI x = some a) : x = .flat (.int .u16 a) ∧ 0 ≤ a ∧ a < 65536 := by
  unfold dWI at h
  split at h
  · split at h
    · rename_i hn
      cases h
      exact ⟨rfl, hn⟩
    · cases h
  · cases h
theorem mapO_dWI : ∀ (xs : List DV) (l : List Int), mapO dWI xs = some l → ∀ a ∈ l, 0 ≤ a ∧ a < 65536
  | [], l, h => by cases h; simp
  | x :: xs, l, h => by
    obtain ⟨y, s, h1, h2, rfl⟩ := mapO_cons' h
    intro a ha
    rcases List.mem_cons.1 ha with rfl | ha
    · exact (dWI_some _ _ h1).2
    · exact mapO_dWI xs s h2 a ha
theorem ofWm_low : ∀ (l : List Int), (∀ a ∈ l, 0 ≤ a ∧ a < 65536) → ofWm (l.map lowW) = l ∧ (l.map lowW).map encW = l.map (Value.int .u16)
  | [], _ => ⟨rfl, rfl⟩
  | a :: l, h => by
    obtain ⟨h1, h2⟩ := ofWm_low l fun x hx => h x (by simp [hx])
    have h3 := h a (by simp)
    refine ⟨?_, ?_⟩
    · show ((lowW a).toNat : Int) :: ofWm (l.map lowW) = _
      rw [h1, lowW_nat _ h3.1 h3.2]
    · rw [List.map_cons, List.map_cons, List.map_cons, h2, ← encW_low _ h3.1 h3.2]
theorem primMed_ok {args : List DV} {d : DV} {H H' : Heap} (h : primMed args H = some (d, H')) : H' = H ∧ ∀ fl, CallOk Try.prog 37 args H fl d H := by
  unfold primMed at h
  split at h
  · rename_i sz xs t' H0
    obtain ⟨l, hl, h⟩ := Option.bind_eq_some_iff.1 h
    split at h
    · rename_i hlen
      simp only [Option.some.injEq, Prod.mk.injEq] at h
      obtain ⟨rfl, rfl⟩ := h
      refine ⟨rfl, fun fl => callOk_below (fun I G w vs hr => ?_) _ fl⟩
      simp only [RepL] at hr
      obtain ⟨V, _, e1, hV, rfl⟩ := hr
      have hv : vs = #[V] := by apply Array.ext'; simpa using e1
      subst hv
      have hR := list_rd (enc := fun n : Int => Value.int .u16 n) (fun x a hx => (dWI_some x a hx).1) (fun a => rfl) hV hl
      obtain ⟨q1, q2⟩ := ofWm_low l (mapO_dWI _ l hl)
      have hR2 : RdV encW w V (l.map lowW) := by
        unfold RdV at hR ⊢
        rw [q2, List.length_map]
        exact hR
      have hm := median_w V (l.map lowW) w hR2 (by simpa using hlen)
      rw [q1] at hm
      exact hm.mono fun e w' ⟨h3, h4⟩ => ⟨_, h3, h4, fun I G => by
        simp only [Rep, RepL]
        exact ⟨_, rfl, _, _, rfl, rfl, _, _, rfl, rfl, rfl⟩⟩
    · cases h
  · cases h
theorem primOk (f : FuncId) (g : Prim) (args : List DV) (H : Heap) (d : DV) (H' : Heap) (hf : PRIM f = some g) (h : g args H = some (d, H')) : (∃ fn, Try.prog.funcs[f]? = some fn ∧ fn.body.isSome = true) ∧ (∀ fl, CallOk Try.prog f args H fl d H') ∧ ∀ k : Nat, H[k]? = some .hole → H'[k]? = some .hole := by
  unfold PRIM at hf
  by_cases d0 : f = 29
  · subst d0
    simp only [BEq.rfl, cond_true, Option.some.injEq] at hf
    subst hf
    cases h
  have d0' : (f == 29) = false := by simpa using d0
  simp only [d0', cond_false] at hf
  by_cases c0 : f = 37
  · subst c0
    simp only [BEq.rfl, cond_true, Option.some.injEq] at hf
    subst hf
    obtain ⟨rfl, h⟩ := primMed_ok h
    exact ⟨⟨_, Try.func37, rfl⟩, h, fun _ h => h⟩
  have c0' : (f == 37) = false := by simpa using c0
  simp only [c0', cond_false] at hf
  by_cases c3 : f = 120
  · subst c3
    simp only [BEq.rfl, cond_true, Option.some.injEq] at hf
    subst hf
    obtain ⟨h1, h2⟩ := primGrow_ok h
    exact ⟨⟨_, Try.func120, rfl⟩, h1, h2⟩
  have c4 : (f == 120) = false := by simpa using c3
  simp only [c4, cond_false] at hf
  exact primW_ok f g args H d H' hf h
end Go.Proofs.Ytjkofefcoeejbaa

/- Words and bits as bytes, and back: what the functions known by a contract answer; over lists of numbers. -/
namespace Go.Proofs.Ytjkofefcoeejbaa
open Go
set_option linter.unusedSimpArgs false
set_option linter.unusedVariables false
theorem prim_call {f : FuncId} {g : Prim} (hp : ENV.prim f = some g) (n : Nat) (args : List DV) (H : Heap) (fl : Nat) : callG Try.prog ENV (n + 1) f args H fl = g args H := by
  rw [callG_eq]
  unfold bodyG
  rw [hp]
def Words (l : List Int) : Prop := ∀ x ∈ l, 0 ≤ x ∧ x < 65536
def toB (l : List Int) : List UInt8 := l.map lowB
def toW (l : List Int) : List UInt16 := l.map fun x => UInt16.ofNat x.toNat
def ofB (l : List UInt8) : List Int := l.map fun c => (c.toNat : Int)
def ofW (l : List UInt16) : List Int := l.map fun c => (c.toNat : Int)
theorem mapO_dB (l : List Int) (h : Bytes l) : mapO dB (l.map (I .u8)) = some (toB l) := by
  induction l with
  | nil => rfl
  | cons a l ih =>
    rw [List.map_cons, mapO_cons, ih (fun x hx => h x (by simp [hx]))]
    have : dB (I .u8 a) = some (lowB a) := by unfold dB; simp only; rw [if_pos (h a (by simp))]
    rw [this]
    rfl
theorem mapO_dW (l : List Int) (h : Words l) : mapO dW (l.map (I .u16)) = some (toW l) := by
  induction l with
  | nil => rfl
  | cons a l ih =>
    rw [List.map_cons, mapO_cons, ih (fun x hx => h x (by simp [hx]))]
    have : dW (I .u16 a) = some (UInt16.ofNat a.toNat) := by unfold dW; simp only; rw [if_pos (h a (by simp))]
    rw [this]
    rfl
theorem mapO_dT (l : List Bool) : mapO dT (l.map Bo) = some l := by
  induction l with
  | nil => rfl
  | cons a l ih => rw [List.map_cons, mapO_cons, ih]; rfl
theorem mkl_eB (l : List UInt8) (t : Tag) : mkl 1 (l.map eB) t = LV 1 (I .u8) (ofB l) t := by unfold LV ofB; rw [List.map_map]; rfl
theorem mkl_eW (l : List UInt16) (t : Tag) : mkl 1 (l.map eW) t = LV 1 (I .u16) (ofW l) t := by unfold LV ofW; rw [List.map_map]; rfl
theorem primLL_LV {α β γ : Type} {d : DV → Option α} {e : β → DV} {g : List α → List β} {enc : γ → DV} {l : List γ} {l2 : List α} (t : Tag) (H : Heap) (hd : mapO d (l.map enc) = some l2) (hl : l2.length ≤ 100000) : primLL d e g (LV 1 enc l t :: []) H = some (mkl 1 ((g l2).map e) .sh, H) := by
  obtain ⟨s, h1, _⟩ := LV_list 1 enc l t
  rw [h1]
  unfold primLL
  simp only
  rw [hd, Option.bind_some, if_pos hl]
/-- words as bytes -/
def wbI (l : List Int) : List Int := ofB (wBytes (toW l))
def pkI (l : List Bool) : List Int := ofB (wPack l)
theorem ofB_bytes (l : List UInt8) : Bytes (ofB l) := by
  intro x hx
  obtain ⟨c, _, rfl⟩ := List.mem_map.1 hx
  have := c.toNat_lt
  omega
theorem toB_ofB (l : List UInt8) : toB (ofB l) = l := by
  unfold toB ofB
  rw [List.map_map]
  conv => rhs; rw [← List.map_id l]
  refine List.map_congr_left fun c _ => ?_
  show lowB (c.toNat : Int) = c
  unfold lowB
  simp
theorem ofB_toB (l : List Int) (h : Bytes l) : ofB (toB l) = l := by
  unfold toB ofB
  rw [List.map_map]
  conv => rhs; rw [← List.map_id l]
  refine List.map_congr_left fun c hc => ?_
  exact lowB_nat c (h c hc).1 (h c hc).2
theorem ofW_toW (l : List Int) (h : Words l) : ofW (toW l) = l := by
  unfold toW ofW
  rw [List.map_map]
  conv => rhs; rw [← List.map_id l]
  refine List.map_congr_left fun c hc => ?_
  have := h c hc
  show (((UInt16.ofNat c.toNat).toNat : Nat) : Int) = c
  rw [UInt16.toNat_ofNat']
  omega
theorem wbI_length (l : List Int) : (wbI l).length = 2 * l.length := by unfold wbI ofB; rw [List.length_map, wBytes_len]; simp [toW]
theorem pkI_length (l : List Bool) : (pkI l).length = (l.length + 7) / 8 := by unfold pkI ofB; rw [List.length_map, wPack_len]
theorem wbI_cons (a : Int) (l : List Int) (h : 0 ≤ a ∧ a < 65536) : wbI (a :: l) = a / 256 :: a % 256 :: wbI l := by
  have e1 : (UInt16.ofNat a.toNat).toNat = a.toNat := by rw [UInt16.toNat_ofNat']; omega
  unfold wbI toW wBytes ofB
  rw [List.map_cons, List.flatMap_cons, List.map_append]
  simp only [List.map_cons, List.map_nil, e1, List.cons_append, List.nil_append, List.cons.injEq, and_true]
  rw [UInt8.toNat_ofNat', UInt8.toNat_ofNat']
  omega
theorem wbI_nil : wbI [] = [] := rfl
/-- what Words and Bits tell -/
def wdI (l : List Int) : List Int := ofW (wordsTell (toB l)).2
def wdOk (l : List Int) : Bool := (wordsTell (toB l)).1
theorem wdI_wb (l : List Int) (h : Words l) : wdI (wbI l) = l ∧ wdOk (wbI l) = true := by
  unfold wdI wdOk wbI
  rw [toB_ofB, wordsTell_yes (by rw [wBytes_len]; omega), wWords_bytes]
  exact ⟨ofW_toW l h, rfl⟩
theorem wdI_words (l : List Int) : Words (wdI l) := by
  intro x hx
  obtain ⟨c, _, rfl⟩ := List.mem_map.1 hx
  have := c.toNat_lt
  omega
theorem cP_prim {f : FuncId} {g : Prim} {n : Nat} {args args' : List DV} {H' : Heap} {r r' : DV} (hp : ENV.prim f = some g) (hn : 1 ≤ n) (h1 : mapO argEl args = some args') (h2 : g args' [] = some (r, H')) (h3 : outD false H' r = some r') : cP n f false args = some r' := by
  obtain ⟨n, rfl⟩ : ∃ m, n = m + 1 := ⟨n - 1, by omega⟩
  exact cP_of h1 ((prim_call hp n args' [] 0).trans h2) h3
theorem word_Bytes_c (n : Nat) (l : List Int) (t : Tag) (hn : 1 ≤ n) (h : Words l) (hl : l.length ≤ 100000) : cP n 64 false [LV 1 (I .u16) l t] = some (LV 1 (I .u8) (wbI l) .sh) :=
  cP_prim (g := primLL dW eB wBytes) (args' := [LV 1 (I .u16) l .sh]) (by kernel_rfl) hn (by simp [argEl_eq]) ((primLL_LV .sh [] (mapO_dW l h) (by simpa [toW] using hl)).trans (by rw [mkl_eB])) (by simp [wbI])
theorem word_Pack_c (n : Nat) (l : List Bool) (t : Tag) (hn : 1 ≤ n) (hl : l.length ≤ 100000) : cP n 63 false [LV 1 Bo l t] = some (LV 1 (I .u8) (pkI l) .sh) :=
  cP_prim (g := primLL dT eB wPack) (args' := [LV 1 Bo l .sh]) (by kernel_rfl) hn (by simp [argEl_eq]) ((primLL_LV .sh [] (mapO_dT l) hl).trans (by rw [mkl_eB])) (by simp [pkI])
theorem ref02_Bytes_c (n : Nat) (l : List Int) (t : Tag) (hn : 1 ≤ n) (h : Words l) (hl : l.length ≤ 100000) : cP n 82 false [LV 1 (I .u16) l t] = some (LV 1 (I .u8) (wbI l) .sh) :=
  cP_prim (g := primLL dW eB wBytes) (args' := [LV 1 (I .u16) l .sh]) (by kernel_rfl) hn (by simp [argEl_eq]) ((primLL_LV .sh [] (mapO_dW l h) (by simpa [toW] using hl)).trans (by rw [mkl_eB])) (by simp [wbI])
theorem ref02_Pack_c (n : Nat) (l : List Bool) (t : Tag) (hn : 1 ≤ n) (hl : l.length ≤ 100000) : cP n 83 false [LV 1 Bo l t] = some (LV 1 (I .u8) (pkI l) .sh) :=
  cP_prim (g := primLL dT eB wPack) (args' := [LV 1 Bo l .sh]) (by kernel_rfl) hn (by simp [argEl_eq]) ((primLL_LV .sh [] (mapO_dT l) hl).trans (by rw [mkl_eB])) (by simp [pkI])
theorem ref02_Words_c (n : Nat) (l : List Int) (t : Tag) (hn : 1 ≤ n) (h : Bytes l) (hl : l.length ≤ 100000) : cP n 89 false [LV 1 (I .u8) l t] = some (.tup [LV 1 (I .u16) (wdI l) .sh, Bo (wdOk l)]) := by
  obtain ⟨s, e, _⟩ := LV_list 1 (I .u8) l .sh
  refine cP_prim (g := primWords) (args' := [LV 1 (I .u8) l .sh]) (r := .tup [LV 1 (I .u16) (wdI l) .sh, Bo (wdOk l)]) (H' := []) (by kernel_rfl) hn (by simp [argEl_eq]) ?_ (by simp)
  rw [e]
  unfold primWords
  simp only
  rw [mapO_dB l h, Option.bind_some, if_pos (by simpa [toB] using hl), mkl_eW]
  rfl
end Go.Proofs.Ytjkofefcoeejbaa

/- Requests: compared. -/
namespace Go.Proofs.Ytjkofefcoeejbaa
open Go
set_option linter.unusedSimpArgs false
set_option linter.unusedVariables false
set_option maxRecDepth 100000
structure Rq where
  code : Int
  addr : Int
  cnt : Int
  to_ : Int
  words : List Int
  bits : List Bool
  and_ : Int
  or_ : Int
  deriving DecidableEq
def rqE (x : Rq) (t t2 : Tag) : DV := .agg [I .i64 x.code, I .i64 x.addr, I .i64 x.cnt, I .i64 x.to_, LV 1 (I .u16) x.words t, LV 1 Bo x.bits t2, I .u16 x.and_, I .u16 x.or_]
structure RqOk (x : Rq) : Prop where
  w : Words x.words
  a : 0 ≤ x.and_ ∧ x.and_ < 65536
  o : 0 ≤ x.or_ ∧ x.or_ < 65536
  lw : x.words.length ≤ 3000
  lb : x.bits.length ≤ 30000
section
variable {P : Program}
end
def lgV (x : Rq) : Bool := decide (300 < x.words.length ∨ 3000 < x.bits.length)
theorem ref06_Large_c (n : Nat) (x : Rq) (t1 t2 : Tag) (hn : 1 ≤ n) : cP n 13 false [rqE x t1 t2] = some (Bo (lgV x)) := by
  obtain ⟨n, rfl⟩ : ∃ m, n = m + 1 := ⟨n - 1, by omega⟩
  unfold lgV
  by_cases h1 : 300 < x.words.length
  · rw [decide_eq_true (.inl h1)]
    exact cP_of (r := Bo true) (args' := [rqE x .sh .sh]) (by simp [argEl_eq, rqE]) ((s_triuneref06_Large_eq _ _ _ _).trans (by unfold s_triuneref06_Large rqE; simp -implicitDefEqProofs (disch := first | omega | (simp only [List.length_set, List.length_append, List.length_cons, List.length_nil, List.length_take, List.length_drop, List.length_map]; omega) | simp) [wrap_i64, wrap_u16_id, wrap_u8_id, tdiv_pos, tmod_pos, -getElem?_pos, -getElem?_neg, -List.length_eq_zero_iff, -List.getElem_cons_drop, h1]; first | exact rfl | exact ⟨rfl, rfl⟩)) (by simp)
  · by_cases h2 : 3000 < x.bits.length
    · rw [decide_eq_true (.inr h2)]
      exact cP_of (r := Bo true) (args' := [rqE x .sh .sh]) (by simp [argEl_eq, rqE]) ((s_triuneref06_Large_eq _ _ _ _).trans (by unfold s_triuneref06_Large rqE; simp -implicitDefEqProofs (disch := first | omega | (simp only [List.length_set, List.length_append, List.length_cons, List.length_nil, List.length_take, List.length_drop, List.length_map]; omega) | simp) [wrap_i64, wrap_u16_id, wrap_u8_id, tdiv_pos, tmod_pos, -getElem?_pos, -getElem?_neg, -List.length_eq_zero_iff, -List.getElem_cons_drop, h1, h2]; exact ⟨by omega, rfl⟩)) (by simp)
    · rw [decide_eq_false (by omega)]
      exact cP_of (r := Bo false) (args' := [rqE x .sh .sh]) (by simp [argEl_eq, rqE]) ((s_triuneref06_Large_eq _ _ _ _).trans (by unfold s_triuneref06_Large rqE; simp -implicitDefEqProofs (disch := first | omega | (simp only [List.length_set, List.length_append, List.length_cons, List.length_nil, List.length_take, List.length_drop, List.length_map]; omega) | simp) [wrap_i64, wrap_u16_id, wrap_u8_id, tdiv_pos, tmod_pos, -getElem?_pos, -getElem?_neg, -List.length_eq_zero_iff, -List.getElem_cons_drop, h1, h2]; exact ⟨by omega, rfl⟩)) (by simp)
end Go.Proofs.Ytjkofefcoeejbaa

/- Opening any argument of a law: what reads as data of a type stands for a deep value of the type's shape. -/
namespace Go.Proofs.Ytjkofefcoeejbaa
open Go Go.RowKit Go.ChangeShapes Go.WideShapes

def isAgT (P : Program) (t : TypeId) : Bool := match P.underlying t with
  | some (.struct _) => true
  | some (.array _ _) => true
  | _ => false
def elOf (ag : Bool) (ds : List DV) : DV := if ag then .agg ds else ds.headD .any
def ShpFs (S : TypeId → List DV → Prop) : List TypeId → List DV → Prop
  | [], ds => ds = []
  | t :: ts, ds => ∃ a b, ds = a ++ b ∧ S t a ∧ ShpFs S ts b
/-- the deep cells that data of a type has -/
def Shp (P : Program) : Nat → TypeId → List DV → Prop
  | 0, _, _ => False
  | d + 1, t, ds => match P.underlying t with
    | some (.int k) => ∃ n, ds = [.flat (.int k n)] ∧ (Lit.int k n).wf = true
    | some .bool => ∃ b, ds = [.flat (.bool b)]
    | some .string => ∃ s : ByteArray, ds = [.flat (.string s)] ∧ s.size ≤ reachBytes
    | some (.slice e) => ∃ l : List (List DV), ds = [mkl (P.cellsOf e) (l.map (elOf (isAgT P e))) .sh] ∧ l.length * P.bytesOf e ≤ reachBytes ∧ ∀ x ∈ l, Shp P d e x
    | some (.struct fs) => ShpFs (Shp P d) (fs.toList.map (·.type)) ds
    | some (.array n e) => ∃ l : List (List DV), l.length = n ∧ ds = l.flatten ∧ ∀ x ∈ l, Shp P d e x
    | _ => False
def laidFs (P : Program) (total : Nat) : Nat → List Field → Bool
  | off, [] => off == total
  | off, f :: fs => f.offset == off && laidFs P total (off + P.cellsOf f.type) fs
def deepT (P : Program) : Nat → TypeId → Bool
  | 0, _ => false
  | d + 1, t => match P.underlying t with
    | some (.int _) => P.cellsOf t == 1
    | some .bool => P.cellsOf t == 1
    | some .string => P.cellsOf t == 1
    | some (.slice e) => P.cellsOf t == 1 && decide (0 < P.bytesOf e ∧ 0 < P.cellsOf e) && (isAgT P e || P.cellsOf e == 1) && deepT P d e
    | some (.struct fs) => laidFs P (P.cellsOf t) 0 fs.toList && fs.toList.all fun f => deepT P d f.type
    | some (.array n e) => P.cellsOf t == n * P.cellsOf e && deepT P d e
    | _ => false

section
variable {H : Type} {enc' : TypeId × Value → H} {P : Program} {W : World} {spare : Nat → Bool} {held : Bool}
abbrev Any : Nat → Nat → Prop := fun _ _ => True
/-- what is found of some cells -/
def Opened (P : Program) (W : World) (d : Nat) (t : TypeId) (cs : List Value) : Prop :=
  ∃ ds : List DV, RepL Any W [] ds cs ∧ Shp P d t ds ∧ ds.all DV.leaf = true ∧ ∀ v ∈ cs, isOne v = true
theorem ex_list {α : Type} (Q : Nat → α → Prop) (n : Nat) (h : ∀ i, i < n → ∃ y, Q i y) : ∃ L : List α, L.length = n ∧ ∀ i (hi : i < L.length), Q i L[i] := by
  induction n with
  | zero => exact ⟨[], rfl, fun i hi => by simp at hi⟩
  | succ n ih =>
    obtain ⟨L, rfl, hL⟩ := ih (fun i hi => h i (by omega))
    obtain ⟨y, hy⟩ := h L.length (by omega)
    refine ⟨L ++ [y], by simp, fun i hi => ?_⟩
    by_cases hlt : i < L.length
    · rw [List.getElem_append_left hlt]; exact hL i hlt
    · have : i = L.length := by simp at hi; omega
      subst this
      simpa using hy
theorem addr_pl {w : World} {a : Addr} {v : Value} (h : w.cell? a = some v) : a = ⟨a.block, a.off, none⟩ := by
  obtain ⟨b, o, s⟩ := a
  unfold World.cell? at h
  split at h
  · cases s with
    | none => rfl
    | some s => simp at h
  · cases h
theorem addr_ad (b o j : Nat) : (⟨b, o, none⟩ : Addr).add j = ⟨b, o + j, none⟩ := by
  unfold Addr.add; split <;> simp_all
theorem RepE.of {I : Nat → Nat → Prop} {w : World} {sz b : Nat} : ∀ (xs : List DV) (o : Nat), (∀ i (hi : i < xs.length), xs[i].cells.all DV.leaf = true ∧ ∃ V, Rep I w [] xs[i] V ∧ V.cells.size = sz ∧ CellsAt I w b (o + i * sz) V.cells.toList) → RepE I w sz xs b o
  | [], _, _ => by simp [RepE]
  | x :: xs, o, h => by
    simp only [RepE]
    refine ⟨by have h0 := h 0 (by simp); rw [Nat.zero_mul, Nat.add_zero] at h0; exact h0, RepE.of xs (o + sz) fun i hi => ?_⟩
    have := h (i + 1) (by simpa using hi)
    rw [show o + (i + 1) * sz = o + sz + i * sz by rw [Nat.add_mul]; omega] at this
    simpa using this
/-- struct by struct, field by field -/
theorem open_fields {d n : Nat} {cs : List Value} {total : Nat} (hcs : cs.length = total) (ih : ∀ (t : TypeId) (cs : List Value) (x : DataW H × List MemPlace), deepT P d t = true → DataW.trod enc' P W 0 spare held n t cs = some x → (∀ k ∈ x.1.weights P t, k ≤ reachBytes) → Opened P W d t cs) :
    ∀ (fs : List Field) (off : Nat) (xs : List (DataW H × List MemPlace)), laidFs P total off fs = true → fs.all (fun f => deepT P d f.type) = true → xs.length = fs.length →
      (∀ (i : Nat) (f : Field), fs[i]? = some f → DataW.trod enc' P W 0 spare held n f.type ((cs.drop f.offset).take (P.cellsOf f.type)) = xs[i]?) →
      (∀ k ∈ DataW.weightsEach P (fs.map (·.type)) (xs.map (·.1)), k ≤ reachBytes) →
      ∃ ds : List DV, RepL Any W [] ds (cs.drop off) ∧ ShpFs (Shp P d) (fs.map (·.type)) ds ∧ ds.all DV.leaf = true ∧ ∀ v ∈ cs.drop off, isOne v = true
  | [], off, xs, hl, _, _, _, _ => by
    have : off = total := by simpa [laidFs] using hl
    have : cs.drop off = [] := by rw [List.drop_eq_nil_iff]; omega
    rw [this]
    exact ⟨[], by simp [RepL], rfl, rfl, fun v hv => by simp at hv⟩
  | f :: fs, off, [], _, _, hx, _, _ => by simp at hx
  | f :: fs, off, x :: xs, hl, hd, hx, ht, hw => by
    simp only [laidFs, Bool.and_eq_true, beq_iff_eq] at hl
    simp only [List.all_cons, Bool.and_eq_true] at hd
    have h0 := ht 0 f rfl
    simp only [List.getElem?_cons_zero] at h0
    rw [hl.1] at h0
    simp only [List.map_cons, DataW.weightsEach, List.mem_append] at hw
    obtain ⟨a, ha1, ha2, ha3, ha4⟩ := ih _ _ _ hd.1 h0 (fun k hk => hw k (.inl hk))
    obtain ⟨b, hb1, hb2, hb3, hb4⟩ := open_fields hcs ih fs (off + P.cellsOf f.type) xs hl.2 hd.2 (by simpa using hx) (fun i g hg => by
      have := ht (i + 1) g (by simpa using hg)
      simpa using this) (fun k hk => hw k (.inr hk))
    have hsplit : cs.drop off = (cs.drop off).take (P.cellsOf f.type) ++ cs.drop (off + P.cellsOf f.type) := by
      rw [← List.drop_drop, List.take_append_drop]
    refine ⟨a ++ b, ?_, ⟨a, b, rfl, ha2, hb2⟩, by simp only [List.all_append, ha3, hb3, Bool.and_self], ?_⟩
    · rw [hsplit]; exact ha1.app hb1
    · rw [hsplit]
      intro v hv
      rcases List.mem_append.mp hv with h | h
      · exact ha4 v h
      · exact hb4 v h
theorem open_items {d n : Nat} {e : TypeId} {cs : List Value} (hde : deepT P d e = true) (ih : ∀ (t : TypeId) (cs : List Value) (x : DataW H × List MemPlace), deepT P d t = true → DataW.trod enc' P W 0 spare held n t cs = some x → (∀ k ∈ x.1.weights P t, k ≤ reachBytes) → Opened P W d t cs) :
    ∀ (xs : List (DataW H × List MemPlace)) (off : Nat), cs.length = off + xs.length * P.cellsOf e → (∀ i, i < xs.length → DataW.trod enc' P W 0 spare held n e ((cs.drop (off + i * P.cellsOf e)).take (P.cellsOf e)) = xs[i]?) →
      (∀ k ∈ DataW.weightsAll P e (xs.map (·.1)), k ≤ reachBytes) →
      ∃ l : List (List DV), l.length = xs.length ∧ RepL Any W [] l.flatten (cs.drop off) ∧ (∀ x ∈ l, Shp P d e x) ∧ l.flatten.all DV.leaf = true ∧ ∀ v ∈ cs.drop off, isOne v = true
  | [], off, hl, _, _ => by
    have : cs.drop off = [] := by rw [List.drop_eq_nil_iff]; simp at hl; omega
    rw [this]
    exact ⟨[], rfl, by simp [RepL], fun x hx => by simp at hx, rfl, fun v hv => by simp at hv⟩
  | x :: xs, off, hl, ht, hw => by
    have h0 := ht 0 (by simp)
    simp only [List.getElem?_cons_zero, Nat.zero_mul, Nat.add_zero] at h0
    simp only [List.map_cons, DataW.weightsAll, List.mem_append] at hw
    obtain ⟨a, ha1, ha2, ha3, ha4⟩ := ih _ _ _ hde h0 (fun k hk => hw k (.inl hk))
    obtain ⟨l, hb0, hb1, hb2, hb3, hb4⟩ := open_items hde ih xs (off + P.cellsOf e) (by rw [hl, List.length_cons, Nat.add_mul]; omega) (fun i hi => by
      have := ht (i + 1) (by simpa using hi)
      rw [show off + (i + 1) * P.cellsOf e = off + P.cellsOf e + i * P.cellsOf e by rw [Nat.add_mul]; omega] at this
      simpa using this) (fun k hk => hw k (.inr hk))
    have hsplit : cs.drop off = (cs.drop off).take (P.cellsOf e) ++ cs.drop (off + P.cellsOf e) := by
      rw [← List.drop_drop, List.take_append_drop]
    refine ⟨a :: l, by simp [hb0], ?_, ?_, by simp only [List.flatten_cons, List.all_append, ha3, hb3, Bool.and_self], ?_⟩
    · rw [hsplit, List.flatten_cons]; exact ha1.app hb1
    · intro y hy
      rcases List.mem_cons.mp hy with rfl | hy
      · exact ha2
      · exact hb2 y hy
    · rw [hsplit]
      intro v hv
      rcases List.mem_append.mp hv with h | h
      · exact ha4 v h
      · exact hb4 v h
theorem open_cells : ∀ (d n : Nat) (t : TypeId) (cs : List Value) (x : DataW H × List MemPlace), deepT P d t = true → DataW.trod enc' P W 0 spare held n t cs = some x → (∀ k ∈ x.1.weights P t, k ≤ reachBytes) → Opened P W d t cs := by
  intro d
  induction d with
  | zero => intro n t cs x hd; cases hd
  | succ d ih =>
    intro n t cs x hd h hw
    unfold deepT at hd
    unfold Opened Shp
    split at hd
    · rename_i k hu
      obtain ⟨m, rfl, _, hwf⟩ := DataW.trod_int hu h
      exact ⟨[.flat (.int k m)], by simp [RepL, Rep], ⟨m, rfl, hwf⟩, rfl, fun v hv => by simp at hv; subst hv; rfl⟩
    · rename_i hu
      obtain ⟨b, rfl, _⟩ := DataW.trod_bool hu h
      exact ⟨[.flat (.bool b)], by simp [RepL, Rep], ⟨b, rfl⟩, rfl, fun v hv => by simp at hv; subst hv; rfl⟩
    · rename_i hu
      obtain ⟨s, rfl, rfl, _⟩ := DataW.trod_string hu h
      refine ⟨[.flat (.string s)], by simp [RepL, Rep], ⟨s, rfl, ?_⟩, rfl, fun v hv => by simp at hv; subst hv; rfl⟩
      have := hw s.data.toList.length (by simp [DataW.weights])
      simpa using this
    · rename_i e hu
      simp only [Bool.and_eq_true, beq_iff_eq, decide_eq_true_eq, Bool.or_eq_true] at hd
      obtain ⟨⟨⟨_, hB0, hpos2⟩, hag⟩, hde⟩ := hd
      rcases DataW.trod_slice hu h with ⟨rfl, _⟩ | ⟨a, len, cap, elems, rest, m, rfl, rfl, rfl, _, hl, _, hlen, hel, _, _⟩
      · refine ⟨[.list 0 [] .sh], ?_, ⟨[], rfl, by simp, fun x hx => by simp at hx⟩, rfl, fun v hv => by simp at hv; subst hv; rfl⟩
        simp only [RepL, Rep]
        exact ⟨_, _, rfl, ⟨none, 0, by simp, by simp, by simp, by simp, by simp [TagOk]⟩, rfl⟩
      · simp only [DataW.weights, hu, List.mem_cons, List.mem_append, List.length_map] at hw
        have hz := hw _ (.inl rfl)
        have hz2 : len * P.bytesOf e ≤ reachBytes := Nat.le_trans (Nat.mul_le_mul_right _ (by omega)) hz
        have hlen2 : len ≤ 140737488351232 := Nat.le_trans (Nat.le_mul_of_pos_right _ hB0) hz2
        have each : ∀ i, i < len → ∃ q : List DV, ∃ cs : List Value, W.cells? 0 (a.add (i * P.cellsOf e)) (P.cellsOf e) = some cs ∧ RepL Any W [] q cs ∧ Shp P d e q ∧ q.all DV.leaf = true ∧ ∀ v ∈ cs, isOne v = true := by
          intro i hi
          have h1 := hel i hi
          have h2 : elems[i]? = some elems[i] := List.getElem?_eq_getElem (by omega)
          rw [h2, Option.bind_eq_some_iff] at h1
          obtain ⟨cs, h3, h4⟩ := h1
          have hwi : ∀ k ∈ elems[i].1.weights P e, k ≤ reachBytes := by
            intro k hk
            refine hw k (.inr (.inl ?_))
            have : ∀ (L : List (DataW H)) (y : DataW H), y ∈ L → ∀ k ∈ y.weights P e, k ∈ DataW.weightsAll P e L := by
              intro L
              induction L with
              | nil => intro y hy; simp at hy
              | cons z L ih2 =>
                intro y hy k hk
                simp only [DataW.weightsAll, List.mem_append]
                rcases List.mem_cons.mp hy with rfl | hy
                · exact .inl hk
                · exact .inr (ih2 y hy k hk)
            exact this _ elems[i].1 (List.mem_map.mpr ⟨elems[i], List.getElem_mem _, rfl⟩) k hk
          obtain ⟨q, q1, q2, q3, q4⟩ := ih _ _ _ _ hde h4 hwi
          exact ⟨q, cs, h3, q1, q2, q3, q4⟩
        obtain ⟨L, hL, hLc⟩ := ex_list _ len each
        subst hL
        refine ⟨[mkl (P.cellsOf e) (L.map (elOf (isAgT P e))) .sh], ?_, ⟨L, rfl, hz2, ?_⟩, ?_, fun v hv => by simp at hv; subst hv; rfl⟩
        · simp only [RepL]
          refine ⟨_, _, rfl, ?_, rfl⟩
          by_cases h0 : L = []
          · subst h0
            show Rep Any W [] (.list 0 [] .sh) _
            simp only [Rep]
            exact ⟨some a, cap, rfl, Nat.zero_le _, Nat.zero_le _, .inl trivial, trivial⟩
          · have hmk : mkl (P.cellsOf e) (L.map (elOf (isAgT P e))) .sh = .list (P.cellsOf e) (L.map (elOf (isAgT P e))) .sh := by
              cases L with
              | nil => exact absurd rfl h0
              | cons => rfl
            rw [hmk]
            simp only [Rep, List.length_map]
            refine ⟨some a, cap, rfl, hl, by omega, .inr ?_, trivial⟩
            have ha : a = ⟨a.block, a.off, none⟩ := by
              have hpos : 0 < L.length := List.length_pos_iff.mpr h0
              obtain ⟨cs0, c1, c2, c3, c4, c5⟩ := hLc 0 hpos
              have hc := World.cells?_some c1
              have c := hc.2.2 0 hpos2
              simp only [Nat.zero_mul] at c
              have e1 : (a.add 0).add 0 = a := by simp [Addr.add]
              rw [e1] at c
              rw [List.getElem?_eq_getElem (by omega)] at c
              exact addr_pl c
            refine ⟨a.block, a.off, by rw [← ha], RepE.of _ _ fun i hi => ?_⟩
            have hi' : i < L.length := by simpa using hi
            obtain ⟨cs, c1, c2, c3, c4, c5⟩ := hLc i hi'
            have hc := World.cells?_some c1
            have cell : ∀ j v, cs[j]? = some v → W.cell? ⟨a.block, a.off + i * P.cellsOf e + j, none⟩ = some v ∧ Any a.block (a.off + i * P.cellsOf e + j) ∧ isOne v = true := by
              intro j v hv
              have hj : j < cs.length := by
                rcases Nat.lt_or_ge j cs.length with h | h
                · exact h
                · rw [List.getElem?_eq_none h] at hv; cases hv
              have := hc.2.2 j (by omega)
              rw [ha, addr_ad, addr_ad, hv] at this
              exact ⟨this, trivial, c5 v (List.mem_of_getElem? hv)⟩
            rw [List.getElem_map]
            by_cases hA : isAgT P e = true
            · have hel : elOf (isAgT P e) L[i] = .agg L[i] := by simp [elOf, hA]
              rw [hel]
              refine ⟨c4, .agg cs.toArray, by simp only [Rep]; exact ⟨_, rfl, c2⟩, by simpa [Value.cells] using hc.2.1, fun j v hv => cell j v (by simpa [Value.cells] using hv)⟩
            · have h1 : P.cellsOf e = 1 := by rcases hag with h | h; exact absurd h hA; exact h
              have hl2 := c2.length
              match hq : L[i], cs, hc.2.1, c2, c4, c5, cell with
              | [q], [v], _, c2, c4, c5, cell =>
                have hel : elOf (isAgT P e) [q] = q := by simp [elOf, hA]
                rw [hel]
                simp only [List.all_cons, List.all_nil, Bool.and_true] at c4
                have hqc : q.cells = [q] := by cases q <;> first | rfl | cases c4
                simp only [RepL] at c2
                obtain ⟨v', _, e1, c2, rfl⟩ := c2
                cases e1
                have hv1 : isOne v = true := c5 v (by simp)
                have hvc : v.cells = #[v] := by cases v <;> first | rfl | cases hv1
                refine ⟨by rw [hqc]; simp [c4], v, c2, by rw [hvc]; simp [h1], fun j u hu => cell j u (by rw [hvc] at hu; exact hu)⟩
              | [], [v], _, _, _, _, _ => rw [hq] at hl2; simp at hl2
              | _ :: _ :: _, [v], _, _, _, _, _ => rw [hq] at hl2; simp at hl2
              | _, [], hh, _, _, _, _ => simp at hh; omega
              | _, _ :: _ :: _, hh, _, _, _, _ => simp at hh; omega
        · intro x hx
          obtain ⟨i, hi, rfl⟩ := List.mem_iff_getElem.mp hx
          obtain ⟨cs, _, _, q2, _⟩ := hLc i hi
          exact q2
        · cases L <;> rfl
    · rename_i fs hu
      simp only [Bool.and_eq_true] at hd
      obtain ⟨xs, m, rfl, rfl, hl, hxs, hel⟩ := DataW.trod_struct hu h
      simp only [DataW.weights, hu] at hw
      obtain ⟨ds, h1, h2, h3, h4⟩ := open_fields (d := d) hl (ih m) fs.toList 0 xs hd.1 hd.2 (by simpa using hxs) (fun i f hf => hel i f (by simpa using hf)) hw
      exact ⟨ds, by simpa using h1, h2, h3, by simpa using h4⟩
    · rename_i cnt e hu
      simp only [Bool.and_eq_true, beq_iff_eq] at hd
      obtain ⟨xs, m, rfl, rfl, hl, hxs, hel⟩ := DataW.trod_array hu h
      simp only [DataW.weights, hu] at hw
      obtain ⟨l, h0, h1, h2, h3, h4⟩ := open_items (d := d) (e := e) (cs := cs) hd.2 (ih m) xs 0 (by rw [hl, hd.1, hxs, Nat.zero_add]) (fun i hi => by rw [Nat.zero_add]; exact hel i (by omega)) hw
      exact ⟨l.flatten, by simpa using h1, ⟨l, by rw [h0, hxs], rfl, h2⟩, h3, by simpa using h4⟩
    · cases hd
/-- an argument: a value of its own deep value -/
theorem open_arg (d : Nat) {t : TypeId} {r : Reach} {b0 : Nat} {v : Value} {x : DataW H} {ps : List MemPlace} (hd : deepT P d t = true) (hval : Value.okWide P W r b0 t v) (h : DataW.Trod enc' P W 0 spare held t v x ps) (hw : ∀ k ∈ x.weights P t, k ≤ reachBytes) :
    ∃ ds : List DV, Rep Any W [] (elOf (isAgT P t) ds) v ∧ Shp P d t ds := by
  obtain ⟨fuel, hf⟩ := h
  obtain ⟨ds, h1, h2, h3, h4⟩ := open_cells d fuel t v.cells.toList _ hd hf hw
  refine ⟨ds, ?_, h2⟩
  have one : isAgT P t = false → v.cells.toList = [v] → Rep Any W [] (elOf (isAgT P t) ds) v := by
    intro hA hv
    rw [hv] at h1
    match ds, h1 with
    | [q], h1 =>
      simp only [RepL] at h1
      obtain ⟨v', _, e1, h1, rfl⟩ := h1
      cases e1
      simpa [elOf, hA] using h1
    | [], h1 => simp [RepL] at h1
    | _ :: _ :: _, h1 => have := h1.length; simp at this
  cases d with
  | zero => cases hd
  | succ d =>
    unfold deepT at hd
    split at hd
    · rename_i k hu
      obtain ⟨m, rfl⟩ := okWide_int hu hval
      exact one (by unfold isAgT; rw [hu]) rfl
    · rename_i hu
      obtain ⟨m, rfl⟩ := okWide_bool hu hval
      exact one (by unfold isAgT; rw [hu]) rfl
    · rename_i hu
      obtain ⟨m, rfl⟩ := okWide_string hu hval
      exact one (by unfold isAgT; rw [hu]) rfl
    · rename_i e hu
      obtain ⟨_, _, _, rfl⟩ := okWide_slice hu hval
      exact one (by unfold isAgT; rw [hu]) rfl
    · rename_i fs hu
      obtain ⟨cs, rfl, _⟩ := okWide_struct hu hval
      have hA : isAgT P t = true := by unfold isAgT; rw [hu]
      simp only [elOf, hA, if_true, Rep]
      exact ⟨cs, rfl, h1⟩
    · rename_i n e hu
      have hA : isAgT P t = true := by unfold isAgT; rw [hu]
      unfold Value.okWide at hval
      rw [hu] at hval
      obtain ⟨cs, rfl, _⟩ := hval
      simp only [elOf, hA, if_true, Rep]
      exact ⟨cs, rfl, h1⟩
    · cases hd
end
attribute [irreducible] Shp isAgT
end Go.Proofs.Ytjkofefcoeejbaa

/- Shapes of arguments, word by word; and the way from a run of the front evaluator to a law's row. -/
namespace Go.Proofs.Ytjkofefcoeejbaa
open Go Go.RowKit

theorem wf_u8 {n : Int} (h : (Lit.int .u8 n).wf = true) : 0 ≤ n ∧ n < 256 := by
  simp [Lit.wf, IntKind.min, IntKind.max, IntKind.signed, IntKind.bits] at h; omega
theorem wf_u16 {n : Int} (h : (Lit.int .u16 n).wf = true) : 0 ≤ n ∧ n < 65536 := by
  simp [Lit.wf, IntKind.min, IntKind.max, IntKind.signed, IntKind.bits] at h; omega
theorem wf_i64 {n : Int} (h : (Lit.int .i64 n).wf = true) : -9223372036854775808 ≤ n ∧ n < 9223372036854775808 := by
  simp [Lit.wf, IntKind.min, IntKind.max, IntKind.signed, IntKind.bits] at h; omega
section
variable {P : Program} {d : Nat} {t e : TypeId} {ds : List DV}
theorem shp_int {k : IntKind} (hu : P.underlying t = some (.int k)) (h : Shp P (d + 1) t ds) : ∃ n, ds = [.flat (.int k n)] ∧ (Lit.int k n).wf = true := by
  unfold Shp at h; rw [hu] at h; exact h
theorem shp_bool (hu : P.underlying t = some .bool) (h : Shp P (d + 1) t ds) : ∃ b, ds = [.flat (.bool b)] := by
  unfold Shp at h; rw [hu] at h; exact h
theorem shp_string (hu : P.underlying t = some .string) (h : Shp P (d + 1) t ds) : ∃ s : ByteArray, ds = [.flat (.string s)] ∧ s.size ≤ reachBytes := by
  unfold Shp at h; rw [hu] at h; exact h
theorem shp_struct {fs : Array Field} (hu : P.underlying t = some (.struct fs)) (h : Shp P (d + 1) t ds) : ShpFs (Shp P d) (fs.toList.map (·.type)) ds := by
  unfold Shp at h; rw [hu] at h; exact h
theorem pick_list {α β : Type} (f : α → β → Prop) (l : List α) (h : ∀ x ∈ l, ∃ a, f x a) : ∃ L : List β, L.length = l.length ∧ ∀ i (h1 : i < l.length) (h2 : i < L.length), f l[i] L[i] := by
  induction l with
  | nil => exact ⟨[], rfl, fun i h => by simp at h⟩
  | cons x l ih =>
    obtain ⟨a, ha⟩ := h x (by simp)
    obtain ⟨L, h1, h2⟩ := ih (fun x hx => h x (by simp [hx]))
    refine ⟨a :: L, by simp [h1], fun i hi hi2 => ?_⟩
    cases i with
    | zero => exact ha
    | succ i => exact h2 i (by simpa using hi) (by simpa using hi2)
theorem shp_slice {α : Type} (enc : α → DV) (Q : α → Prop) {sz : Nat} (hu : P.underlying t = some (.slice e)) (hsz : P.cellsOf e = sz) (hel : ∀ x, Shp P d e x → ∃ a, elOf (isAgT P e) x = enc a ∧ Q a) (h : Shp P (d + 1) t ds) :
    ∃ l : List α, ds = [LV sz enc l .sh] ∧ l.length * P.bytesOf e ≤ reachBytes ∧ ∀ a ∈ l, Q a := by
  unfold Shp at h; rw [hu] at h
  obtain ⟨l, h1, h2, h3⟩ := h
  obtain ⟨L, hL, hLc⟩ := pick_list (fun (x : List DV) (a : α) => elOf (isAgT P e) x = enc a ∧ Q a) l (fun x hx => hel x (h3 x hx))
  refine ⟨L, ?_, by rw [hL]; exact h2, fun a ha => ?_⟩
  · rw [h1, hsz]
    congr 2
    refine List.ext_getElem (by simp [hL]) fun i h4 h5 => ?_
    simp only [List.getElem_map]
    exact (hLc i (by simpa using h4) (by simpa using h5)).1
  · obtain ⟨i, hi, rfl⟩ := List.mem_iff_getElem.mp ha
    exact (hLc i (by omega) hi).2
theorem shp_array {α : Type} (enc : α → List DV) (Q : α → Prop) {n : Nat} (hu : P.underlying t = some (.array n e)) (hel : ∀ x, Shp P d e x → ∃ a, x = enc a ∧ Q a) (h : Shp P (d + 1) t ds) :
    ∃ l : List α, l.length = n ∧ ds = (l.map enc).flatten ∧ ∀ a ∈ l, Q a := by
  unfold Shp at h; rw [hu] at h
  obtain ⟨l, h1, h2, h3⟩ := h
  obtain ⟨L, hL, hLc⟩ := pick_list (fun (x : List DV) (a : α) => x = enc a ∧ Q a) l (fun x hx => hel x (h3 x hx))
  refine ⟨L, by omega, ?_, fun a ha => ?_⟩
  · rw [h2]
    congr 1
    refine List.ext_getElem (by simp [hL]) fun i h4 h5 => ?_
    simp only [List.getElem_map]
    exact (hLc i (by simpa using h4) (by simpa using h5)).1
  · obtain ⟨i, hi, rfl⟩ := List.mem_iff_getElem.mp ha
    exact (hLc i (by omega) hi).2
theorem shp_ints {k : IntKind} (hu : P.underlying t = some (.slice e)) (he : P.underlying e = some (.int k)) (hsz : P.cellsOf e = 1) (h : Shp P (d + 2) t ds) :
    ∃ l : List Int, ds = [LV 1 (I k) l .sh] ∧ l.length * P.bytesOf e ≤ reachBytes ∧ ∀ a ∈ l, (Lit.int k a).wf = true :=
  shp_slice (I k) _ hu hsz (fun x hx => by
    obtain ⟨n, rfl, hn⟩ := shp_int he hx
    refine ⟨n, ?_, hn⟩
    simp [elOf, isAgT, he]) h
end
theorem mixed : Try.prog.follows .mixedOrders = true := by kernel_rfl
theorem noOwn : NoOwn Try.prog := by unfold NoOwn; kernel_rfl
theorem primSound : PrimSound Try.prog ENV := fun f g args H d H' h h2 => primOk f g args H d H' h h2
end Go.Proofs.Ytjkofefcoeejbaa

/- Requests that come in. -/
namespace Go.Proofs.Ytjkofefcoeejbaa
open Go
set_option linter.unusedSimpArgs false
set_option linter.unusedVariables false
structure RqTy (x : Rq) : Prop where
  w : Words x.words
  a : 0 ≤ x.and_ ∧ x.and_ < 65536
  o : 0 ≤ x.or_ ∧ x.or_ < 65536
  c : -9223372036854775808 ≤ x.code ∧ x.code < 9223372036854775808
  ad : -9223372036854775808 ≤ x.addr ∧ x.addr < 9223372036854775808
  cn : -9223372036854775808 ≤ x.cnt ∧ x.cnt < 9223372036854775808
  t : -9223372036854775808 ≤ x.to_ ∧ x.to_ < 9223372036854775808
theorem RqTy.ok {x : Rq} (h : RqTy x) (hl : lgV x = false) : RqOk x := by
  unfold lgV at hl
  simp only [decide_eq_false_iff_not] at hl
  exact ⟨h.w, h.a, h.o, by omega, by omega⟩
theorem shp_bo {d : Nat} {e : List DV} (h : Shp Try.prog (d + 1) 4 e) : ∃ b : Bool, elOf (isAgT Try.prog 4) e = Bo b ∧ True := by
  obtain ⟨b, rfl⟩ := shp_bool Try.underlying4 h
  exact ⟨b, by kernel_rfl, trivial⟩
theorem shp_rq {d : Nat} {e : List DV} (h : Shp Try.prog (d + 3) 26 e) : ∃ x : Rq, elOf (isAgT Try.prog 26) e = rqE x .sh .sh ∧ RqTy x := by
  have h := shp_struct Try.underlying26 h
  simp only [List.map_cons, List.map_nil, ShpFs] at h
  obtain ⟨a, _, rfl, ha, b, _, rfl, hb, c, _, rfl, hc, f, _, rfl, hf, g, _, rfl, hg, i, _, rfl, hi, j, _, rfl, hj, k, _, rfl, hk, rfl⟩ := h
  obtain ⟨a, rfl, wa⟩ := shp_int (k := .i64) Try.underlying3 ha
  obtain ⟨b, rfl, wb⟩ := shp_int (k := .i64) Try.underlying3 hb
  obtain ⟨c, rfl, wc⟩ := shp_int (k := .i64) Try.underlying3 hc
  obtain ⟨f, rfl, wf⟩ := shp_int (k := .i64) Try.underlying3 hf
  obtain ⟨g, rfl, _, wg⟩ := shp_ints (k := .u16) Try.underlying22 Try.underlying24 (by kernel_rfl) hg
  obtain ⟨i, rfl, _, _⟩ := shp_slice (e := 4) Bo (fun _ => True) (sz := 1) Try.underlying23 (by kernel_rfl) (fun x hx => shp_bo hx) hi
  obtain ⟨j, rfl, wj⟩ := shp_int (k := .u16) Try.underlying24 hj
  obtain ⟨k, rfl, wk⟩ := shp_int (k := .u16) Try.underlying24 hk
  exact ⟨⟨a, b, c, f, g, i, j, k⟩, by kernel_rfl, ⟨fun x hx => wf_u16 (wg x hx), wf_u16 wj, wf_u16 wk, wf_i64 wa, wf_i64 wb, wf_i64 wc, wf_i64 wf⟩⟩
end Go.Proofs.Ytjkofefcoeejbaa
