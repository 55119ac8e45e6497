/- Texts of mine, laid together: MedA, MedS, PlainV, MedM, Word, PrimW, PrimS, GPrimC, FPtsMay, GPoint, GPtsMay, Sym, GVote. -/
import Derived.Test.YtbhnkdnfmlnajaaKT4
import Derived.RangeFuncBox
import Derived.RangeFuncLeaves
import Derived.Shelf.Abstract
import Derived.WalkKit
import Derived.OwnWalkIn
import Derived.TacticsInMore
import Derived.LoopNIn
import Derived.LoopIn
import Derived.Maps.AppendAt
import Derived.Sort.Row
import Derived.Sort.LotA
import Derived.BigGuard
import Derived.BigCall
import Derived.CellFam
import Derived.Deep.Draws
import Derived.Deep.QuietTactic
import Derived.BigQuiet
import Derived.Deep.RegionHeld3
import Derived.IntWalk
import Derived.Below
import Derived.Lib.Walk
import Derived.Lib.SliceRun
import Derived.Lib.AppendZerosOnto
/- slices.Values and slices.AppendSeq at words: what an iterator over a slice gives, appended. (The form of the kit's worked texts over a range over a function, turned to words.) -/
namespace Go.Proofs.Ytbhnkdnfmlnajaa
open Go Go.RowKit Go.Shelf
set_option linter.unusedSimpArgs false
set_option linter.unusedVariables false
attribute [local go_sem] Oper.semAt_some
def upto {α : Type} (f : Nat → α) (k : Nat) : List α := (List.range k).map f
theorem upto_succ {α : Type} (f : Nat → α) (k : Nat) : upto f (k + 1) = upto f k ++ [f k] := by simp [upto, List.range_succ]
theorem upto_length {α : Type} (f : Nat → α) (k : Nat) : (upto f k).length = k := by simp [upto]
theorem upto_all (zs : List Int) : upto (fun j => zs[j]?.getD 0) zs.length = zs := by
  apply List.ext_getElem
  · simp [upto]
  · intro i h1 h2
    simp [upto, h2]
theorem upto_take (zs : List Int) {k : Nat} (hk : k ≤ zs.length) : upto (fun j => zs[j]?.getD 0) k = zs.take k := by
  apply List.ext_getElem
  · simp [upto, hk]
  · intro i h1 h2
    have : i < zs.length := by simp [upto] at h1; omega
    simp [upto, this]
set_option maxRecDepth 100000 in
set_option maxHeartbeats 2000000 in
/-- the closure of slices.Values -/
theorem values1_in (F : Fence) (n : Nat) (h7 : F.fn 133) (hro : F.round = none) (hn : 1 ≤ n) (l Bs n₀ b off len cap : Nat) (zs : List Int) (hreach : len * 2 ≤ 140737488351232) (hb : b < n₀) (J Jx : List Int → World → Prop)
    (hY : ∀ pre x W, J pre W → pre.length < len → YieldAt F (n - 1) Try.prog l #[.int .u16 x] W fun e W' =>
      (e = .returned (.bool true) ∧ J (pre ++ [x]) W' ∧ Below n₀ W W') ∨ (e = .returned (.bool false) ∧ Jx (pre ++ [x]) W'))
    (W : World) (hBs : W.cell? ⟨Bs, 0, none⟩ = some (.slice (some ⟨b, off, none⟩) len cap)) (hc : ∀ j, j < len → W.cell? ⟨b, off + j, none⟩ = some (.int .u16 (zs[j]?.getD 0))) (h0 : J [] W) :
    CallsIn F n Try.prog 133 #[.func (.yield l) #[] #[], .pointer (some ⟨Bs, 0, none⟩)] W fun e W' => (∃ v, e = .returned v) ∧
      ((∃ ys, ys = upto (fun j => zs[j]?.getD 0) len ∧ J ys W') ∨ (∃ pre, (∃ k, k ≤ len ∧ pre = upto (fun j => zs[j]?.getD 0) k) ∧ Jx pre W')) := by
  refine callsIn_of_wp Try.func133 rfl h7 ?_ hro
  simp only [Try.ntmps133, List.size_toArray, List.length_cons, List.length_nil, Nat.reduceAdd, Nat.reduceSub, Array.replicate_succ, Array.replicate_zero, List.push_toArray, List.append_toArray, List.nil_append, List.cons_append]
  gi_wp2
  gi_loopw [7] (fun i wr => ∃ k : Nat, k ≤ len ∧ i = .int .i64 k ∧ J (upto (fun j => zs[j]?.getD 0) k) wr ∧ Below n₀ W wr)
    (fun i _ => len - (intOf i).toNat)
  case atStart => exact ⟨0, Nat.zero_le _, rfl, h0, Below.refl _ _⟩
  case round =>
    obtain ⟨k, hk, rfl, hJs, hnx⟩ := hrel
    have hcx : k < len → wr.cell? ⟨b, off + k, none⟩ = some (.int .u16 (zs[k]?.getD 0)) := fun h => (hnx.cell (p := ⟨b, off + k, none⟩) hb).trans (hc k h)
    by_cases hlt : k < len
    · obtain ⟨fn, tmps, assign, body, hy, hR⟩ := hY _ (zs[k]?.getD 0) wr hJs (by rw [upto_length]; exact hlt)
      have hcx' := hcx hlt
      gi_wp2
      refine hR.mono ?_
      rintro e W3 (⟨rfl, hJ3, hk3⟩ | ⟨rfl, hJx3⟩)
      · gi_wp2
        go_roundw
        case rel => exact ⟨k + 1, by omega, by simp, by rw [upto_succ]; exact hJ3, hnx.trans hk3⟩
        case measure => simp [intOf]; omega
      · gi_wp2
        refine bodyPost_ret (results_none rfl _ _ _) rfl ?_
        exact ⟨⟨_, rfl⟩, .inr ⟨_, ⟨k + 1, by omega, (upto_succ _ _).symm⟩, hJx3⟩⟩
    · obtain rfl : k = len := by omega
      gi_wp2
      go_end0
      exact ⟨⟨_, rfl⟩, .inl ⟨_, rfl, hJs⟩⟩
/-- a slice value that holds the words zs, in a block below n₀ -/
def Wds (n₀ : Nat) (W : World) (sv : Value) (zs : List Int) : Prop :=
  ∃ b off cap, sv = .slice (some ⟨b, off, none⟩) zs.length cap ∧ b < n₀ ∧ ∀ j, j < zs.length → W.cell? ⟨b, off + j, none⟩ = some (.int .u16 (zs[j]?.getD 0))
theorem Wds.below {n₀ : Nat} {A B : World} (h : Below n₀ A B) {sv : Value} {zs : List Int} : Wds n₀ A sv zs → Wds n₀ B sv zs
  | ⟨b, off, cap, e, hb, hc⟩ => ⟨b, off, cap, e, hb, fun j hj => (h.cell (p := ⟨b, off + j, none⟩) hb).trans (hc j hj)⟩
set_option maxHeartbeats 1000000 in
theorem values_in (F : Fence) (n : Nat) (h5 : F.fn 125) (hro : F.round = none) (a : Option Addr) (len cap : Nat) (w : World) :
    CallsIn F n Try.prog 125 #[.slice a len cap] w fun e w' => e = .returned (.func (.func 133) #[] #[.pointer (some ⟨w.heap.size, 0, none⟩)]) ∧ w' = w.alloc (.cells #[.slice a len cap] 56) := by
  refine callsIn_of_wp Try.func125 rfl h5 ?_ hro
  simp only [Try.ntmps125, List.size_toArray, List.length_cons, List.length_nil, Nat.reduceAdd, Nat.reduceSub, Array.replicate_succ, Array.replicate_zero, List.push_toArray, List.append_toArray, List.nil_append, List.cons_append]
  gi_wp2
  go_ret
  exact ⟨rfl, rfl⟩
theorem values_stops (F : Fence) (n : Nat) (h7 : F.fn 133) (hro : F.round = none) (hn : 1 ≤ n) (Bs n₀ : Nat) (sv : Value) (zs : List Int) (hreach : zs.length * 2 ≤ 140737488351232) (w : World) (hBs : Bs < w.heap.size) (hn₀ : n₀ ≤ w.heap.size)
    (hc : w.cell? ⟨Bs, 0, none⟩ = some sv) (hI : Wds n₀ w sv zs) :
    SeqStopsK F n Try.prog 133 #[.pointer (some ⟨Bs, 0, none⟩)] (fun x : Int => #[Value.int .u16 x]) (Below n₀) (fun ys => ys = zs) (fun pre => pre <+: zs) zs.length w := fun l J Jx W hW _ _ hY h0 => by
  have hc' := (hW.cell (p := ⟨Bs, 0, none⟩) hBs).trans hc
  obtain ⟨b, off, cap, rfl, hb, hcs⟩ := hI.below (hW.mono hn₀)
  refine (values1_in F n h7 hro hn l Bs n₀ b off zs.length cap zs hreach hb J Jx hY W hc' hcs h0).mono ?_
  rintro e W' ⟨he, ⟨ys, rfl, hj⟩ | ⟨pre, ⟨k, hk, rfl⟩, hj⟩⟩
  · exact ⟨he, .inl ⟨_, upto_all zs, hj⟩⟩
  · exact ⟨he, .inr ⟨_, by rw [upto_take zs hk]; exact List.take_prefix _ _, hj⟩⟩
set_option maxRecDepth 100000 in
set_option maxHeartbeats 2000000 in
/-- slices.AppendSeq(nil, slices.Values(zs)) -/
theorem appendSeq_in (F : Fence) (n : Nat) (h11 : F.fn 136) (h7 : F.fn 133) (hro : F.round = none) (hn : 2 ≤ n) (Bs : Nat) (sv : Value) (zs : List Int) (hlen : zs.length ≤ 1000000) (w : World) (hBs : Bs < w.heap.size)
    (hc : w.cell? ⟨Bs, 0, none⟩ = some sv) (hI : Wds w.heap.size w sv zs) :
    CallsIn F n Try.prog 136 #[.slice none 0 0, .func (.func 133) #[] #[.pointer (some ⟨Bs, 0, none⟩)]] w fun e W' => ∃ v, e = .returned v ∧ W'.ownsRow w.heap.size 75 1 v zs.length (zs.map (Value.int .u16)) ∧ Below w.heap.size w W' := by
  have h1 : 1 ≤ n := by omega
  have info16 : (Try.prog.info? 75).map (fun i => (i.zero, i.size, i.bytes)) = some (some (.int .u16 0), 1, 2) := by kernel_rfl
  obtain ⟨i0, hi, hz0, hz1, hz2⟩ := info_parts info16
  refine callsIn_of_wp_marks Try.func136 rfl h11 ?_ hro
  simp only [Try.ntmps136, List.size_toArray, List.length_cons, List.length_nil, Nat.reduceAdd, Nat.reduceSub, Array.replicate_succ, Array.replicate_zero, List.push_toArray, List.append_toArray, List.nil_append, List.cons_append]
  gi_wp2
  have bO := Boxed.new w 56 (.slice none 0 0)
  have hB0 : Below w.heap.size w (w.alloc (.cells #[.slice none 0 0] 56)) := (Below.refl _ w).alloc (Nat.le_refl _) _
  refine wpIn_rangeFunc_ownG hro h1 (gf := 133) (lb := #[.pointer (some ⟨Bs, 0, none⟩)]) rfl h7 (enters_of Try.func133 (by kernel_rfl) rfl)
    (values_stops F (n - 1) h7 hro (by omega) Bs w.heap.size sv zs (by omega) _ (by simp; omega) (by simp) ((hB0.cell (p := ⟨Bs, 0, none⟩) hBs).trans hc) (hI.below hB0)) belowK_t (belowK_b (by simp)) (Below.refl _ _) (fun _ => rfl)
    (fun pre W => (∃ v, Boxed W w.heap.size 56 v ∧ W.ownsRow w.heap.size 75 1 v pre.length (pre.map (Value.int .u16)) ∧ (v = .slice none 0 0 ↔ pre = [])) ∧ Below w.heap.size w W)
    (fun _ _ _ => False)
    (OwnFrom.and (Own.from (holdsRow_own w.heap.size w.heap.size 56 75 1 (fun pre => pre.length) (fun pre => pre.map (Value.int .u16)) (fun pre v => v = .slice none 0 0 ↔ pre = [])) _) (ownFrom_below (Nat.le_refl _) (by simp)))
    (fun _ _ _ _ _ hs _ _ => hs)
    ⟨⟨_, bO, World.ownsRow_nil _ _ _ _, by simp⟩, hB0⟩
    (fun x => { tmps := #[.slice none 0 0, .func (.func 133) #[] #[.pointer (some ⟨Bs, 0, none⟩)], .pointer (some ⟨w.heap.size, 0, none⟩), undef, .slice none 0 0, .int .u16 x, .func (.func 133) #[] #[.pointer (some ⟨Bs, 0, none⟩)], .int .u16 x, undef, undef, undef, undef, undef], defers := [] }) ?assign ?body ?done ?stop
  case assign =>
    intro l x W K hK
    gi_wp2
    exact hK
  case body =>
    rintro l pre x W ⟨⟨v, hv, hrow, hnil⟩, hB⟩ hlt
    have hc := hv.cell
    gi_wp2_with (gi_at_builtin; refine wpListIn_append_own _ rfl _ _ 56 rfl w.heap.size 75 i0 (.int .u16 0) 1 2 Try.underlying56 hi hz0 hz1 hz2 rfl (by decide) _ _ _ rfl (hrow.alloc _) ⟨W.heap.size, 0, none⟩ 1 1 [.int .u16 x] rfl rfl (cell_one_new _ _ _) (by simp [Value.oneCell']) (by simp only [maxLen]; omega) (by omega) (by have := hB.size; simp; omega) ?_; intro v' w1 hown' hgrow _; obtain ⟨g', cap', rfl⟩ := ownsRow_succ hown'; obtain ⟨hv1, hv2, hr2, hk2, hb2⟩ := hv.appended (by decide) hrow hB.size (Nat.le_refl _) hown' hgrow; have hc1 := hv1.cell; have hf1 := hv1.frozen)
    exact ⟨hk2.from _, hb2, ⟨_, hv2, by simpa using hr2, by simp⟩, hB.trans hb2⟩
  case done =>
    rintro D ys W hD rfl ⟨⟨v, hv, hrow, hnil⟩, hB⟩ hK
    have hc := hv.cell
    gi_wp2
    refine ⟨by simp, .inl ⟨_, _, rfl, run_takeDeferred hK, ?_⟩⟩
    exact ⟨_, results_tmp rfl _ _ _, v, rfl, ownsRow_putObj hrow _ hK rfl, hB.trans (belowK_b (w := w) (Nat.le_refl _) W D _ _ (by simp at hD; omega) hK rfl rfl)⟩
  case stop =>
    rintro D c pre W _ _ h _
    exact h.elim
set_option maxHeartbeats 1000000 in
/-- slices.Collect(slices.Values(zs)) -/
theorem collect_in (F : Fence) (n : Nat) (h8 : F.fn 131) (h11 : F.fn 136) (h7 : F.fn 133) (hro : F.round = none) (hn : 3 ≤ n) (Bs : Nat) (sv : Value) (zs : List Int) (hlen : zs.length ≤ 1000000) (w : World) (hBs : Bs < w.heap.size)
    (hc : w.cell? ⟨Bs, 0, none⟩ = some sv) (hI : Wds w.heap.size w sv zs) :
    CallsIn F n Try.prog 131 #[.func (.func 133) #[] #[.pointer (some ⟨Bs, 0, none⟩)]] w fun e W' => ∃ v, e = .returned v ∧ W'.ownsRow w.heap.size 75 1 v zs.length (zs.map (Value.int .u16)) ∧ Below w.heap.size w W' := by
  have h1 : 1 ≤ n := by omega
  refine callsIn_of_wp Try.func131 rfl h8 ?_ hro
  simp only [Try.ntmps131, List.size_toArray, List.length_cons, List.length_nil, Nat.reduceAdd, Nat.reduceSub, Array.replicate_succ, Array.replicate_zero, List.push_toArray, List.append_toArray, List.nil_append, List.cons_append]
  gi_wp2_with (gi_at_call 136; refine (appendSeq_in F (n - 1) h11 h7 hro (by omega) Bs sv zs hlen _ hBs hc hI).mono ?_; rintro e w' ⟨v, rfl, hrow, hb⟩)
  go_ret
  exact ⟨v, rfl, hrow, hb⟩
end Go.Proofs.Ytbhnkdnfmlnajaa

/- slices.Sort at words, of up to twelve: walked. (The walk of the insertion sort has the form of the kit's worked text at ints, turned to words.) -/
namespace Go.Proofs.Ytbhnkdnfmlnajaa
open Go Go.RowKit Go.Sort
set_option linter.unusedSimpArgs false
set_option linter.unusedVariables false
section
variable {α : Type} [Inhabited α] (lt : α → α → Bool)
theorem insInner_go (a j : Nat) (d : Array α) (hj : a < j) (hl : lt d[j]! d[j - 1]! = true) : insInner lt a j d = insInner lt a (j - 1) (swp d j (j - 1)) := by
  obtain ⟨k, rfl⟩ : ∃ k, j = k + 1 := ⟨j - 1, by omega⟩
  rw [insInner]
  simp only [Nat.add_sub_cancel] at hl ⊢
  simp [hj, hl]
theorem insInner_stop (a j : Nat) (d : Array α) (h : j ≤ a ∨ lt d[j]! d[j - 1]! = false) : insInner lt a j d = d := by
  cases j with
  | zero => rw [insInner]
  | succ k =>
    rw [insInner]
    simp only [Nat.add_sub_cancel] at h
    rcases h with h | h
    · simp [show ¬ k + 1 > a by omega]
    · simp [h]
theorem insOuter_go (a b i : Nat) (d : Array α) (h : i < b) : insOuter lt a b i d = insOuter lt a b (i + 1) (insInner lt a i d) := by rw [insOuter, if_pos h]
theorem insOuter_stop (a b i : Nat) (d : Array α) (h : ¬ i < b) : insOuter lt a b i d = d := by rw [insOuter, if_neg h]
end
section
variable {α : Type} [Inhabited α] (enc : α → Value)
theorem putRow_drewN (w : World) (m q blk off : Nat) (d : Array α) : (putRow enc (Sort.ahead w m) blk off d).drewN q = putRow enc (Sort.ahead w (m + q)) blk off d := by
  show Sort.ahead (putRow enc (Sort.ahead w m) blk off d) q = _
  rw [putRow_ahead enc w m, ahead_ahead, ← putRow_ahead]
theorem swap_worldA (w : World) (m q blk off : Nat) (d : Array α) (j k : Nat) (hj : j < d.size) (hk : k < d.size) :
    (((putRow enc (Sort.ahead w m) blk off d).drewN q).setCell ⟨blk, off + j, none⟩ (enc d[k]!)).setCell ⟨blk, off + k, none⟩ (enc d[j]!) = putRow enc (Sort.ahead w (m + q)) blk off (swp d j k) := by
  rw [putRow_drewN]
  exact putRow_swp enc _ blk off d j k hj hk
end
set_option maxHeartbeats 1000000 in
theorem isNaN_w (x : Int) (w : World) : Calls Try.prog 178 #[.int .u16 x] w fun e w' => e = .returned (.bool false) ∧ w' = w := by
  go_enter Try.func178, Try.ntmps178
  go_wp2
  go_ret
  exact ⟨by simp, rfl⟩
set_option maxHeartbeats 1000000 in
theorem less_w (x y : Int) (w : World) : Calls Try.prog 159 #[.int .u16 x, .int .u16 y] w fun e w' => e = .returned (.bool (Sort.ltInt x y)) ∧ w' = w := by
  go_enter Try.func159, Try.ntmps159
  go_wp2_with (go_at_call 178; refine (isNaN_w _ _).mono ?_; rintro e w' ⟨rfl, rfl⟩)
  go_ret
  exact ⟨rfl, rfl⟩
set_option maxHeartbeats 4000000 in
set_option maxRecDepth 100000 in
theorem insertion_w (blk off cap a b : Nat) (d : Array Int) (w : World) (hH : Holds (Value.int .u16) w blk off d) (hab : a ≤ b) (hb : b ≤ d.size) (hsz : d.size < 4611686018427387904) :
    Calls Try.prog 153 #[.slice (some ⟨blk, off, none⟩) d.size cap, .int .i64 a, .int .i64 b] w fun e w' =>
      e = .returned (.tuple #[]) ∧ ∃ n, w' = putRow (Value.int .u16) (Sort.ahead w n) blk off (Sort.insertionSort ltInt d a b) := by
  go_enter Try.func153, Try.ntmps153
  go_wp2
  go_loopw [6] (fun vi wr => ∃ (i n : Nat) (dk : Array Int), vi = .int .i64 i ∧ a < i ∧ i ≤ b + 1 ∧ dk.size = d.size ∧ wr = putRow (Value.int .u16) (Sort.ahead w n) blk off dk ∧
      insOuter ltInt a b i dk = insOuter ltInt a b (a + 1) d) (fun vi _ => b + 1 - (intOf vi).toNat)
  case atStart => exact ⟨a + 1, 0, d, by go_num, by omega, by omega, rfl, (putRow_self _ _ _ _ _ hH).symm, rfl⟩
  case round =>
    obtain ⟨i, n, dk, rfl, hai, hib, hsk, hwr, hO⟩ := hrel
    have HO : Hid (insOuter ltInt a b i dk = insOuter ltInt a b (a + 1) d) := hO
    clear hO
    go_wp2
    · go_loopw [7] (fun vj wr2 => ∃ (j m : Nat) (dj : Array Int), vj = .int .i64 j ∧ a ≤ j ∧ j ≤ i ∧ dj.size = d.size ∧ wr2 = putRow (Value.int .u16) (Sort.ahead w m) blk off dj ∧
          insInner ltInt a j dj = insInner ltInt a i dk) (fun vj _ => (intOf vj).toNat)
      case atStart => exact ⟨i, n, dk, rfl, by omega, Nat.le_refl _, hsk, rfl, rfl⟩
      case round =>
        obtain ⟨j, m, dj, rfl, haj, hji, hsj, hw2, hI⟩ := hrel
        have hlt : i < b := by assumption
        obtain ⟨G, hG⟩ : ∃ G : Nat → Int, ∀ t, G t = dj[t]! := ⟨fun t => dj[t]!, fun _ => rfl⟩
        have hcw : ∀ t, t < d.size → wr.cell? ⟨blk, off + t, none⟩ = some (.int .u16 (G t)) := fun t ht => by
          rw [hw2, hG]; exact cell?_putRow _ _ _ _ d dj (holds_ahead _ _ _ _ _ _ hH) hsj t (by omega)
        have hfw : ∀ t, t < d.size → wr.frozen? ⟨blk, off + t, none⟩ = false := fun t ht => by
          rw [hw2, frozen?_putRow]; exact ((holds_ahead _ _ m _ _ _ hH) t ht).2
        have HW : Hid (wr = putRow (Value.int .u16) (Sort.ahead w m) blk off dj) := hw2
        have HG : Hid (∀ t, G t = dj[t]!) := hG
        have HI : Hid (insInner ltInt a j dj = insInner ltInt a i dk) := hI
        clear hw2 hG hI hH
        have out : (j ≤ a ∨ ltInt dj[j]! dj[j - 1]! = false) → ∀ q, ∃ i' n' dk', Value.int .i64 ((i : Int) + 1) = .int .i64 (i' : Nat) ∧ a < i' ∧ i' ≤ b + 1 ∧ dk'.size = d.size ∧
            wr.drewN q = putRow (Value.int .u16) (Sort.ahead w n') blk off dk' ∧ insOuter ltInt a b i' dk' = insOuter ltInt a b (a + 1) d := fun hs q =>
          ⟨i + 1, m + q, dj, by go_num, by omega, by omega, hsj, by rw [HW.out]; exact putRow_drewN _ _ _ _ _ _ _,
            by rw [← HO.out, insOuter_go _ _ _ _ _ hlt, ← HI.out, insInner_stop _ _ _ _ hs]⟩
        have OUT : Hid _ := out
        clear out
        go_wp2
        by_cases hja : a < j
        · go_quiet (first | (go_at_call 159; refine Calls.quiet_of_same (less_w _ _ _)))
          go_wp2
          · have hl : ltInt (G j) (G (j - 1)) = true := by assumption
            go_region
            all_goals go_wp2
            go_roundw
            case rel =>
              refine ⟨j - 1, m + (nq + 1), swp dj j (j - 1), by congr 1; omega, by omega, by omega, by rw [size_swp]; exact hsj, ?_, ?_⟩
              · rw [HW.out, HG.out, HG.out]
                exact swap_worldA _ w m (nq + 1) blk off dj j (j - 1) (by omega) (by omega)
              · rw [← HI.out, insInner_go ltInt a j dj hja (by rw [← HG.out, ← HG.out]; exact hl)]
            case measure => simp [intOf]; omega
          · have hl : ltInt (G j) (G (j - 1)) = false := by assumption
            go_roundw
            case rel => exact OUT.out (Or.inr (by rw [← HG.out, ← HG.out]; exact hl)) nq
            case measure => simp [intOf]; omega
        · go_quiet (first | (go_at_call 159; refine Calls.quiet_of_same (less_w _ _ _)))
          go_wp2
          go_roundw
          case rel => exact OUT.out (Or.inl (by omega)) nq
          case measure => simp [intOf]; omega
    · have hge : ¬ i < b := by assumption
      go_end0
      exact ⟨rfl, n, by unfold Sort.insertionSort; rw [← HO.out, insOuter_stop _ _ _ _ _ hge]⟩
set_option maxHeartbeats 4000000 in
set_option maxRecDepth 100000 in
theorem pdq_w (blk off cap : Nat) (limit : Int) (d : Array Int) (w : World) (hH : Holds (Value.int .u16) w blk off d) (hsz : d.size ≤ 12) :
    Calls Try.prog 137 #[.slice (some ⟨blk, off, none⟩) d.size cap, .int .i64 0, .int .i64 d.size, .int .i64 limit] w fun e w' =>
      e = .returned (.tuple #[]) ∧ ∃ n, w' = putRow (Value.int .u16) (Sort.ahead w n) blk off (Sort.insertionSort ltInt d 0 d.size) := by
  have hc := insertion_w blk off cap 0 d.size d w hH (Nat.zero_le _) (Nat.le_refl _) (by omega)
  have h12 : (d.size : Int) ≤ 12 := by omega
  go_enter Try.func137, Try.ntmps137
  go_wp2
  refine wp_loop_rounds 1 ?_
  rw [rounds_succ]
  go_wp2_with (go_at_call 153; refine hc.mono ?_; rintro e w1 ⟨rfl, hw1⟩)
  (try simp only [Exit.inBlock, Exit.then]); refine bodyPost_ret (results_none rfl _ _ _) rfl ?_
  exact ⟨rfl, hw1⟩
end Go.Proofs.Ytbhnkdnfmlnajaa

/- The middle of two numbers by and, xor and shift. -/
namespace Go.Proofs.Ytbhnkdnfmlnajaa
open Go
theorem and_xor_add : ∀ (n a b : Nat), a < n → 2 * (a &&& b) + (a ^^^ b) = a + b
  | 0, a, b, h => by omega
  | n + 1, a, b, h => by
    by_cases h0 : a = 0
    · subst h0
      simp
    · have ih := and_xor_add n (a / 2) (b / 2) (by omega)
      have e1 := Nat.and_div_two (a := a) (b := b)
      have e2 := Nat.xor_div_two (a := a) (b := b)
      have m1 : (a &&& b) % 2 = if a % 2 = 1 ∧ b % 2 = 1 then 1 else 0 := by
        have := Nat.and_mod_two_pow (a := a) (b := b) (n := 1)
        simp only [Nat.pow_one] at this
        rw [this]
        rcases Nat.mod_two_eq_zero_or_one a with x | x <;> rcases Nat.mod_two_eq_zero_or_one b with y | y <;> simp [x, y]
      have m2 : (a ^^^ b) % 2 = if a % 2 = b % 2 then 0 else 1 := by
        have := Nat.xor_mod_two_pow (a := a) (b := b) (n := 1)
        simp only [Nat.pow_one] at this
        rw [this]
        rcases Nat.mod_two_eq_zero_or_one a with x | x <;> rcases Nat.mod_two_eq_zero_or_one b with y | y <;> simp [x, y]
      rw [← e1, ← e2] at ih
      split at m1 <;> split at m2 <;> omega
theorem mid_two (a b : Int) (ha : 0 ≤ a ∧ a < 65536) (hb : 0 ≤ b ∧ b < 65536) : andI .u16 a b + xorI .u16 a b / 2 = (a + b) / 2 ∧ 0 ≤ andI .u16 a b ∧ 0 ≤ xorI .u16 a b := by
  obtain ⟨a, rfl⟩ := Int.eq_ofNat_of_zero_le ha.1
  obtain ⟨b, rfl⟩ := Int.eq_ofNat_of_zero_le hb.1
  have h := and_xor_add (a + 1) a b (by omega)
  have l1 : a &&& b ≤ a := Nat.and_le_left
  have e1 : andI .u16 a b = ((a &&& b : Nat) : Int) := by
    unfold andI
    rw [BitVec.toNat_and, BitVec.toNat_ofInt, BitVec.toNat_ofInt]
    have x1 : ((a : Int) % ((2 ^ IntKind.u16.bits : Nat) : Int)).toNat = a := by
      have : ((2 ^ IntKind.u16.bits : Nat) : Int) = 65536 := rfl
      rw [this]; omega
    have x2 : ((b : Int) % ((2 ^ IntKind.u16.bits : Nat) : Int)).toNat = b := by
      have : ((2 ^ IntKind.u16.bits : Nat) : Int) = 65536 := rfl
      rw [this]; omega
    rw [x1, x2, wrap_u16]
    omega
  have l2 : a ^^^ b < 65536 := Nat.xor_lt_two_pow (n := 16) (by omega) (by omega)
  have e2 : xorI .u16 a b = ((a ^^^ b : Nat) : Int) := by
    unfold xorI
    rw [BitVec.toNat_xor, BitVec.toNat_ofInt, BitVec.toNat_ofInt]
    have x1 : ((a : Int) % ((2 ^ IntKind.u16.bits : Nat) : Int)).toNat = a := by
      have : ((2 ^ IntKind.u16.bits : Nat) : Int) = 65536 := rfl
      rw [this]; omega
    have x2 : ((b : Int) % ((2 ^ IntKind.u16.bits : Nat) : Int)).toNat = b := by
      have : ((2 ^ IntKind.u16.bits : Nat) : Int) = 65536 := rfl
      rw [this]; omega
    rw [x1, x2, wrap_u16]
    omega
  rw [e1, e2]
  omega
end Go.Proofs.Ytbhnkdnfmlnajaa

/- vote.Median, walked: its contract of the old kind. -/
namespace Go.Proofs.Ytbhnkdnfmlnajaa
open Go Go.RowKit Go.Sort
set_option linter.unusedSimpArgs false
set_option linter.unusedVariables false
theorem take_putC (enc : Int → Value) (cur : Array Value) (d : Array Int) (h : d.size ≤ cur.size) (j : Nat) (hj : j < d.size) : (putCells enc 0 d cur)[j]? = some (enc d[j]!) := by
  have h2 : j < cur.size := by omega
  simp [putCells, hj, h2]
set_option maxHeartbeats 1000000 in
set_option maxRecDepth 100000 in
theorem bitsLen64_w (x : Int) (w : World) (h0 : 0 ≤ x) (h1 : x ≤ 12) : Calls Try.prog 163 #[.int .u64 x] w fun e w' => (∃ k : Int, e = .returned (.int .i64 k)) ∧ w' = w := by
  have hx : x = 0 ∨ x = 1 ∨ x = 2 ∨ x = 3 ∨ x = 4 ∨ x = 5 ∨ x = 6 ∨ x = 7 ∨ x = 8 ∨ x = 9 ∨ x = 10 ∨ x = 11 ∨ x = 12 := by omega
  rcases hx with rfl | rfl | rfl | rfl | rfl | rfl | rfl | rfl | rfl | rfl | rfl | rfl | rfl
  all_goals
    go_enter Try.func163, Try.ntmps163
    go_wp2
    go_ret
    exact ⟨⟨_, rfl⟩, rfl⟩
set_option maxHeartbeats 1000000 in
theorem bitsLen_w (x : Int) (w : World) (h0 : 0 ≤ x) (h1 : x ≤ 12) : Calls Try.prog 138 #[.int .u64 x] w fun e w' => (∃ k : Int, e = .returned (.int .i64 k)) ∧ w' = w := by
  go_enter Try.func138, Try.ntmps138
  go_wp2_with (go_at_call 163; refine (bitsLen64_w _ _ h0 h1).mono ?_; rintro e w' ⟨⟨k, rfl⟩, rfl⟩)
  go_ret
  exact ⟨⟨k, rfl⟩, rfl⟩
set_option maxHeartbeats 1000000 in
theorem sort_w (blk off cap : Nat) (d : Array Int) (w : World) (hH : Holds (Value.int .u16) w blk off d) (hsz : d.size ≤ 12) :
    Calls Try.prog 132 #[.slice (some ⟨blk, off, none⟩) d.size cap] w fun e w' =>
      e = .returned (.tuple #[]) ∧ ∃ n, w' = putRow (Value.int .u16) (Sort.ahead w n) blk off (Sort.insertionSort ltInt d 0 d.size) := by
  have hl := fun w => bitsLen_w d.size w (by omega) (by omega)
  have hp := fun k => pdq_w blk off cap k d w hH hsz
  go_enter Try.func132, Try.ntmps132
  go_wp2_with (first
    | (go_at_call 138; refine (hl _).mono ?_; rintro e w' ⟨⟨k, rfl⟩, rfl⟩)
    | (go_at_call 137; refine (hp _).mono ?_; rintro e w' ⟨rfl, n, rfl⟩))
  go_end0
  exact ⟨rfl, n, rfl⟩
theorem ownsRow_put {w : World} {g n : Nat} {e : TypeId} {cur : Array Value} (d d' : Array Int) (hl : d'.size = d.size) (hb : w.heap[g]? = some (.cells cur e (0, 0))) (h3 : d.size ≤ cur.size) :
    (∀ j, j < d.size → (putRow (Value.int .u16) (Sort.ahead w n) g 0 d').cell? ⟨g, j, none⟩ = some (.int .u16 d'[j]!)) ∧ w.grownBy (putRow (Value.int .u16) (Sort.ahead w n) g 0 d') (some g) := by
  refine ⟨fun j hj => ?_, rfl, rfl, rfl, by simp [putRow, mapBlock, Sort.ahead], fun k hk hne => ?_⟩
  · have h1 : (putRow (Value.int .u16) (Sort.ahead w n) g 0 d').heap[g]? = some (.cells (putCells (Value.int .u16) 0 d' cur) e (0, 0)) := by
      simp [putRow, mapBlock, Sort.ahead, Array.getElem?_modify, hb, onCells]
    have h2 := take_putC (Value.int .u16) cur d' (by omega) j (by omega)
    simp only [World.cell?, h1]
    simpa using h2
  · have : g ≠ k := fun e => hne (by rw [e])
    simp [putRow, mapBlock, Sort.ahead, Array.getElem?_modify, this]
set_option maxHeartbeats 1000000 in
/-- slices.Sorted(slices.Values(zs)): what stands in the middle -/
theorem sorted_w (Bs : Nat) (sv : Value) (zs : List Int) (h0 : 0 < zs.length) (hlen : zs.length ≤ 12) (w : World) (hBs : Bs < w.heap.size) (hc : w.cell? ⟨Bs, 0, none⟩ = some sv) (hI : Wds w.heap.size w sv zs) :
    Calls Try.prog 124 #[.func (.func 133) #[] #[.pointer (some ⟨Bs, 0, none⟩)]] w fun e w' => ∃ g cap, e = .returned (.slice (some ⟨g, 0, none⟩) zs.length cap) ∧
      (∀ j, j < zs.length → w'.cell? ⟨g, j, none⟩ = some (.int .u16 (Sort.insertionSort ltInt zs.toArray 0 zs.length)[j]!)) ∧ Below w.heap.size w w' := by
  have hcol := callsIn_wide.1 (collect_in .wide 3 trivial trivial trivial rfl (by omega) Bs sv zs (by omega) w hBs hc hI)
  have hss : (Sort.insertionSort ltInt zs.toArray 0 zs.length).size = zs.toArray.size := (insertionSort_holds (lt := ltInt) swo_ltInt zs.toArray 0 zs.length (by omega) (by simp)).1.1
  go_enter Try.func124, Try.ntmps124
  go_wp2_with (go_at_call 131; refine hcol.mono ?_; rintro e w1 ⟨v, rfl, hrow, hb⟩)
  rcases hrow.2 with ⟨rfl, hz⟩ | ⟨g, cap, cur, rfl, hbase, hg, r1, r2, r3, r4⟩
  · omega
  · have hH : Holds (Value.int .u16) w1 g 0 zs.toArray := by
      intro j hj
      have hj' : j < zs.length := by simpa using hj
      refine ⟨?_, by simp [World.frozen?, hg]⟩
      have h1 := hrow.cellAt j (by omega)
      simpa [hj'] using h1
    have cS := sort_w g 0 cap zs.toArray w1 hH (by simpa using hlen)
    simp only [List.size_toArray] at cS
    go_wp2_with (go_at_call 132; refine cS.mono ?_; rintro e w' ⟨rfl, nn, rfl⟩)
    obtain ⟨c1, c2⟩ := ownsRow_put (n := nn) zs.toArray (Sort.insertionSort ltInt zs.toArray 0 zs.length) hss hg (by simp; omega)
    go_ret
    exact ⟨g, cap, rfl, fun j hj => c1 j (by simpa using hj), hb.grown c2 hb.size (fun j hj => by cases hj; exact hbase)⟩
theorem mid3 (a b c : Int) : (Sort.insertionSort ltInt #[a, b, c] 0 3)[1]! = max (min a b) (min (max a b) c) := by
  unfold Sort.insertionSort
  by_cases h1 : b < a <;> by_cases h2 : c < a <;> by_cases h3 : c < b <;> simp [insOuter, insInner, swp, ltInt, h1, h2, h3] <;> omega
def ofWm (l : List UInt16) : List Int := l.map fun c => (c.toNat : Int)
theorem medI_many (l : List Int) (h : 4 ≤ l.length) : medI l = (0, false) := by
  match l, h with
  | _ :: _ :: _ :: _ :: _, _ => rfl
  | [_, _, _], h => simp at h
  | [_, _], h => simp at h
  | [_], h => simp at h
  | [], h => simp at h
set_option maxHeartbeats 4000000 in
set_option maxRecDepth 100000 in
theorem median_w (v : Value) (l : List UInt16) (w : World) (h : RdV encW w v l) (hl : l.length ≤ 100000) :
    Calls Try.prog 116 #[v] w fun e w' => e = .returned (.tuple #[.int .u16 (medI (ofWm l)).1, .bool (medI (ofWm l)).2]) ∧ Below w.heap.size w w' := by
  match l, h, hl with
  | [], h, hl =>
    obtain ⟨A, c, rfl, _, _, _⟩ := h.open
    go_enter Try.func116, Try.ntmps116
    go_wp2
    go_ret2
    exact ⟨rfl, Below.refl _ _⟩
  | [a], h, hl =>
    obtain ⟨b, o, c, rfl, hc⟩ := h.each (by simp)
    have c0 := hc 0 (by simp)
    simp only [Nat.add_zero, List.getElem_cons_zero, encW] at c0
    go_enter Try.func116, Try.ntmps116
    go_wp2
    go_ret2
    exact ⟨rfl, Below.refl _ _⟩
  | [a, b], h, hl =>
    obtain ⟨bb, o, c, rfl, hc⟩ := h.each (by simp)
    have c0 := hc 0 (by simp)
    have c1 := hc 1 (by simp)
    simp only [Nat.add_zero, List.getElem_cons_zero, List.getElem_cons_succ, encW] at c0 c1
    clear hc h
    go_enter Try.func116, Try.ntmps116
    go_wp2
    go_region
    all_goals go_wp2
    go_ret2
    refine ⟨?_, belowN (Below.refl _ w) 1⟩
    have ha : (0 : Int) ≤ (a.toNat : Int) ∧ (a.toNat : Int) < 65536 := ⟨by omega, by have := a.toNat_lt; omega⟩
    have hb : (0 : Int) ≤ (b.toNat : Int) ∧ (b.toNat : Int) < 65536 := ⟨by omega, by have := b.toNat_lt; omega⟩
    have e1 : IntKind.wrap .u16 (andI .u16 a.toNat b.toNat + xorI .u16 a.toNat b.toNat / 2) = ((a.toNat : Int) + b.toNat) / 2 := by
      rw [(mid_two _ _ ha hb).1]
      exact wrap_u16_id _ (by omega) (by omega)
    have e2 : (medI (ofWm [a, b])) = (IntKind.wrap .u16 (andI .u16 a.toNat b.toNat + xorI .u16 a.toNat b.toNat / 2), true) := by
      rw [e1]
      rfl
    rw [e2]
    rfl
  | [a, b, c], h, hl =>
    obtain ⟨bb, o, cp, rfl, hc⟩ := h.each (by simp)
    have c0 := hc 0 (by simp)
    have c1 := hc 1 (by simp)
    have c2 := hc 2 (by simp)
    simp only [Nat.add_zero, List.getElem_cons_zero, List.getElem_cons_succ, encW] at c0 c1 c2
    have hb : bb < w.heap.size := World.block_lt_of_cell? w _ c0
    have hV := callsIn_wide.1 (values_in .wide 1 trivial rfl (some ⟨bb, o, none⟩) 3 cp w)
    have hS := sorted_w w.heap.size (.slice (some ⟨bb, o, none⟩) 3 cp) [(a.toNat : Int), (b.toNat : Int), (c.toNat : Int)] (by simp) (by simp) (w.alloc (.cells #[.slice (some ⟨bb, o, none⟩) 3 cp] 56)) (by simp) (cell_made 0 _ rfl)
      ⟨bb, o, cp, rfl, by simp; omega, fun j hj => by
        have hb0 : Below w.heap.size w (w.alloc (.cells #[.slice (some ⟨bb, o, none⟩) 3 cp] 56)) := (Below.refl _ w).alloc (Nat.le_refl _) _
        have hj3 : j = 0 ∨ j = 1 ∨ j = 2 := by simp at hj; omega
        rcases hj3 with rfl | rfl | rfl
        · exact (hb0.cell (p := ⟨bb, o + 0, none⟩) hb).trans c0
        · exact (hb0.cell (p := ⟨bb, o + 1, none⟩) hb).trans c1
        · exact (hb0.cell (p := ⟨bb, o + 2, none⟩) hb).trans c2⟩
    have hm := mid3 a.toNat b.toNat c.toNat
    simp only [List.length_cons, List.length_nil, Nat.zero_add, Nat.reduceAdd] at hS hV ⊢
    go_enter Try.func116, Try.ntmps116
    go_wp2_with (first
      | (go_at_call 125; refine hV.mono ?_; rintro e w1 ⟨rfl, rfl⟩)
      | (go_at_call 124; refine hS.mono ?_; rintro e w1 ⟨g, cap, rfl, hcl, hbl⟩; have hc1 := hcl 1 (by omega)))
    go_ret2
    refine ⟨?_, ((Below.refl _ w).alloc (Nat.le_refl _) _).trans (hbl.mono (by simp))⟩
    rfl
  | a :: b :: c :: d :: l, h, hl =>
    obtain ⟨bb, o, cp, rfl, hc⟩ := h.each (by simp)
    rw [medI_many _ (by simp [ofWm])]
    have hn : (a :: b :: c :: d :: l).length = l.length + 4 := rfl
    rw [hn]
    go_enter Try.func116, Try.ntmps116
    go_wp2
    go_ret2
    exact ⟨rfl, Below.refl _ _⟩
end Go.Proofs.Ytbhnkdnfmlnajaa

/- Layer 2 (word): what each function of the program computes. -/
namespace Go.Proofs.Ytbhnkdnfmlnajaa
open Go.RowKit

theorem infoB : (Try.prog.info? 5).map (fun i => (i.zero, i.size, i.bytes)) = some (some (.int .u8 0), 1, 1) := by kernel_rfl
theorem infoW : (Try.prog.info? 75).map (fun i => (i.zero, i.size, i.bytes)) = some (some (.int .u16 0), 1, 2) := by kernel_rfl
theorem infoT : (Try.prog.info? 4).map (fun i => (i.zero, i.size, i.bytes)) = some (some (.bool false), 1, 1) := by kernel_rfl

set_option maxHeartbeats 400000 in
theorem word_Put (n : Int) (w : World) (h0 : 0 ≤ n) (h1 : n < 65536) :
    Calls Try.prog 179 #[.int .u16 n] w fun e w' => e = .returned (.agg #[.int .u8 (n / 256), .int .u8 (n % 256)]) ∧ Below w.heap.size w w' := by
  go_enter Try.func179, Try.ntmps179
  go_wp2
  refine bodyPost_ret (v := .agg #[.int .u8 (n / 256), .int .u8 (n % 256)]) (by simp [results, Try.results179, go_sem]) rfl ?_
  exact ⟨rfl, belowA (Below.refl _ w) _⟩

set_option maxHeartbeats 400000 in
theorem word_Words_no (v : Value) (l : List UInt8) (w : World) (h : RdV encB w v l) (hn : l.length % 2 = 1) :
    Calls Try.prog 171 #[v] w fun e w' => e = .returned (.tuple #[.slice none 0 0, .bool false]) ∧ w = w' := by
  obtain ⟨a, c, rfl, hc, hm, _⟩ := h.open
  have hb : (Go.bits .and .i64 (l.length : Int) 1 == 1) = true := by rw [and1_i64 _ (by omega) (by omega), beq_iff_eq]; omega
  clear hn
  go_enter Try.func171, Try.ntmps171
  go_wp2
  go_ret2
  exact ⟨rfl, rfl⟩
set_option maxRecDepth 100000 in
set_option maxHeartbeats 400000 in
theorem word_Words_yes (v : Value) (l : List UInt8) (w : World) (h : RdV encB w v l) (hn : l.length % 2 = 0) (hl : l.length ≤ 100000) :
    Calls Try.prog 171 #[v] w fun e w' => ∃ v', e = .returned (.tuple #[v', .bool true]) ∧ Own encW 75 w' w.heap.size v' (wWords l) ∧ Below w.heap.size w w' := by
  obtain ⟨a, c, rfl, hc, hm, hcl⟩ := h.open
  have hcl' := Lib.hid hcl
  clear hcl
  have hb : (Go.bits .and .i64 (l.length : Int) 1 == 1) = false := by rw [and1_i64 _ (by omega) (by omega), beq_eq_false_iff_ne]; omega
  have hn' := Lib.hid hn
  clear hn
  go_enter Try.func171, Try.ntmps171
  go_wp2
  go_loopw [4, 5] (fun x i wr => ∃ k : Nat, k ≤ l.length ∧ k % 2 = 0 ∧ i = .int .i64 k ∧ Own encW 75 wr w.heap.size x (wWords (l.take k)) ∧ Below w.heap.size w wr) (fun _ i _ => l.length - (intOf i).toNat)
  case atStart => exact ⟨0, Nat.zero_le _, rfl, rfl, Own.nil _ _ _ _, Below.refl _ _⟩
  case round =>
    obtain ⟨k, hk, hk2, rfl, ho, hB⟩ := hrel
    clear hb
    have hn := hn'.out
    have hcl := hcl'.out
    by_cases hlt : k < l.length
    · obtain ⟨b, o, rfl, hcell⟩ := hcl.resolve_left (by omega)
      have hx0 := hcell k hlt
      have hlx := World.block_lt_of_cell? _ _ hx0
      simp only [] at hlx
      have hx := (hB.cell (p := ⟨b, o + k, none⟩) hlx).trans hx0
      have hy := (hB.cell (p := ⟨b, o + (k + 1), none⟩) hlx).trans (hcell (k + 1) (by omega))
      simp only [encB] at hx hy
      have ag := (fun e => absurd (ho.base b e).1 (by omega) : _ = some b → False)
      have hlr := Nat.lt_of_lt_of_le hlx hB.size
      have hs := Lib.hid (wWords_step l k (by omega) hk2)
      clear hcell hcl hx0
      go_wp2
      have q0 : (0 : Int) ≤ (k : Int) := by omega
      have q1 : (k : Int) < (l.length : Int) := by omega
      have q2 : (0 : Int) ≤ (k : Int) + 1 := by omega
      have q3 : (k : Int) + 1 < (l.length : Int) := by omega
      have q4 : IntKind.i64.wrap ((k : Int) + 1) = (k : Int) + 1 := IntWalk.i64_in _ (by omega)
      have q5 : ((k : Int) + 1).toNat = k + 1 := by omega
      have lenF : ((wWords (l.take k)).length + [mkW l[k] l[k + 1]].length) * 2 ≤ 140737488355328 := by rw [wWords_len, List.length_take, List.length_singleton]; omega
      go_region_held3 (fun w' => w'.cell? ⟨b, o + k, none⟩ = some (.int .u8 (l[k].toNat : Int)) ∧ w'.cell? ⟨b, o + (k + 1), none⟩ = some (.int .u8 (l[k + 1].toNat : Int)))
        (first | (go_split_ands; refine ⟨hg1.cell ?_ (fun e => ag e.symm), hg1.cell ?_ (fun e => ag e.symm)⟩ <;> assumption) | (go_keep; done))
        ((refine step_app (enc := encW) (l := wWords (l.take k)) (m := [mkW l[k] l[k + 1]]) encW_one rfl _ _ _ rfl 75 (.int .u16 0) 2 Try.underlying56 infoW rfl w.heap.size _ rfl (by first | exact ho.drew.alloc _ | exact (ho.alloc _).drew) _ rfl (RdV.drew (RdV.lit encW _ _ [mkW l[k] l[k + 1]] _ _ _ rfl (Nat.le_refl _) (by simp) (by simp [encW, or_mkW]))) (by simp) lenF (by omega) (by first | exact Nat.le_succ_of_le hB.size | (simp; exact Nat.le_succ_of_le hB.size)) ?_; intro v1 w1 ho1 hg1))
      clear q0 q1 q2 q3 q4 q5
      go_wp2
      go_roundw
      case rel => exact ⟨k + 2, by omega, by omega, by go_num, by rw [hs.out]; exact ho1, by first | exact belowG (Below.drew (belowA hB _)) hg1 (fun k hk => (ho.base k hk).1) | exact belowG (belowA (Below.drew hB) _) hg1 (fun k hk => (ho.base k hk).1)⟩
      case measure => simp [intOf]; omega
    · obtain rfl : k = l.length := by omega
      rw [List.take_length] at ho
      go_wp2
      go_ret2
      exact ⟨_, rfl, ho, hB⟩

/-! ### joined, Bytes -/
set_option maxHeartbeats 400000 in
theorem word_Bytes1 (n : UInt16) (w : World) :
    Calls Try.prog 181 #[.int .u16 (n.toNat : Int)] w fun e w' => ∃ v', e = .returned v' ∧ RdV encB w' v' [UInt8.ofNat (n.toNat / 256), UInt8.ofNat (n.toNat % 256)] ∧ Below w.heap.size w w' := by
  have hn := n.toNat_lt
  go_enter Try.func181, Try.ntmps181
  go_wp2_with (go_at_call 179; refine (word_Put _ _ (by omega) (by omega)).mono ?_; rintro e w1 ⟨rfl, hB1⟩)
  go_ret
  exact ⟨_, rfl, RdV.lit encB _ _ _ _ _ _ rfl (Nat.le_refl _) (by simp) (by simp [encB]; omega), belowA hB1 _⟩
set_option maxRecDepth 100000 in
set_option maxHeartbeats 400000 in
theorem word_joined (v : Value) (l : List UInt16) (w : World) (h : RdV encW w v l) (hl : l.length ≤ 100000) :
    Calls Try.prog 180 #[v, .func (.func 181) #[] #[]] w fun e w' => ∃ v', e = .returned v' ∧ Own encB 5 w' w.heap.size v' (wBytes l) ∧ Below w.heap.size w w' := by
  obtain ⟨a, c, rfl, hc, hm, hcl⟩ := h.open
  go_enter Try.func180, Try.ntmps180
  go_wp2
  go_loopw [5, 10] (fun x i wr => ∃ k : Nat, k ≤ l.length ∧ i = .int .i64 k ∧ Own encB 5 wr w.heap.size x (wBytes (l.take k)) ∧ Below w.heap.size w wr) (fun _ i _ => l.length - (intOf i).toNat)
  case atStart => exact ⟨0, Nat.zero_le _, rfl, Own.nil _ _ _ _, Below.refl _ _⟩
  case round =>
    obtain ⟨k, hk, rfl, ho, hB⟩ := hrel
    by_cases hlt : k < l.length
    · obtain ⟨b, o, rfl, hcell⟩ := hcl.resolve_left (by omega)
      have hx0 := hcell k hlt
      have hlx := World.block_lt_of_cell? _ _ hx0
      simp only [] at hlx
      have hx := (hB.cell (p := ⟨b, o + k, none⟩) hlx).trans hx0
      simp only [encW] at hx
      have hs := Lib.hid (wBytes_step l k hlt)
      clear hcell hcl hx0
      have lenF : (wBytes (l.take k)).length + 2 ≤ 140737488355328 := by rw [wBytes_len, List.length_take]; omega
      go_wp2_with (first | (go_at_call 181; refine (word_Bytes1 _ _).mono ?_; rintro e w1 ⟨v1, rfl, hr1, hB1⟩) |
        (at_builtin; refine wp_app (enc := encB) (l := wBytes (l.take k)) (m := [UInt8.ofNat (l[k].toNat / 256), UInt8.ofNat (l[k].toNat % 256)]) encB_one rfl (.tmp 14) (.tmp 17) _ rfl _ _ _ Try.underlying251 infoB rfl w.heap.size _ rfl ?a1 _ rfl ?a2 ?a3 (by omega) ?a4 ?a5))
      case a1 => exact ho.below hB1
      case a2 => exact hr1
      case a3 => rw [Nat.mul_one]; exact lenF
      case a4 => exact (belowT hB hB1).size
      intro v2 w2 ho2 hg2
      go_wp2
      go_roundw
      case rel => exact ⟨k + 1, by omega, by go_num, by rw [hs.out]; exact ho2, belowG (belowT hB hB1) hg2 (fun k hk => (ho.base k hk).1)⟩
      case measure => simp [intOf]; omega
    · obtain rfl : k = l.length := by omega
      rw [List.take_length] at ho
      go_wp2
      go_ret
      exact ⟨_, rfl, ho, hB⟩

theorem word_Bytes (v : Value) (l : List UInt16) (w : World) (h : RdV encW w v l) (hl : l.length ≤ 100000) :
    Calls Try.prog 166 #[v] w fun e w' => ∃ v', e = .returned v' ∧ Own encB 5 w' w.heap.size v' (wBytes l) ∧ Below w.heap.size w w' := by
  go_enter Try.func166, Try.ntmps166
  go_wp2_with (go_at_call 180; refine (word_joined _ _ _ h hl).mono ?_; rintro e w1 ⟨v1, rfl, hr1, hB1⟩)
  go_ret
  exact ⟨_, rfl, hr1, hB1⟩

set_option maxRecDepth 100000 in
set_option maxHeartbeats 400000 in
theorem word_Pack (v : Value) (l : List Bool) (w : World) (h : RdV encT w v l) (hl : l.length ≤ 100000) :
    Calls Try.prog 168 #[v] w fun e w' => ∃ v', e = .returned v' ∧ Own encB 5 w' w.heap.size v' (wPack l) ∧ Below w.heap.size w w' := by
  obtain ⟨a, c, rfl, hc, hm, hcl⟩ := h.open
  obtain ⟨i0, hi0, hz0, hz1, hz2⟩ := info_parts infoB
  have hdiv : ((l.length : Int) + 8 - 1) / 8 = (((l.length + 7) / 8 : Nat) : Int) := by omega
  go_enter Try.func168, Try.ntmps168
  go_wp2_with (at_make; refine wpList_make_full _ rfl _ _ 251 rfl w.heap.size 5 i0 (.int .u8 0) 1 Try.underlying251 hi0 hz0 hz1 _ _ _ _ ((l.length + 7) / 8) rfl rfl ?a1 ?a2 ?a3 ?a4 ?a5 ?_)
  case a1 => exact hdiv
  case a2 => exact hdiv
  case a3 => rw [hz2]; omega
  case a4 => simp only [maxLen]; omega
  case a5 => exact Nat.le_refl _
  intro w1 hown hg1
  have ho1 : Own encB 5 w1 w.heap.size (.slice (some ⟨w.heap.size, 0, none⟩) ((l.length + 7) / 8) ((l.length + 7) / 8)) (pk (l.take 0) ((l.length + 7) / 8)) := by
    rw [List.take_zero, pk_nil]; exact Own.made (0 : UInt8) hown (by omega)
  have hB1 := belowG (Below.refl _ w) hg1 (by simp)
  clear hown hg1
  go_wp2
  go_loopw [14] (fun i wr => ∃ k : Nat, k ≤ l.length ∧ i = .int .i64 k ∧ Own encB 5 wr w.heap.size (.slice (some ⟨w.heap.size, 0, none⟩) ((l.length + 7) / 8) ((l.length + 7) / 8)) (pk (l.take k) ((l.length + 7) / 8)) ∧ Below w.heap.size w wr) (fun i _ => l.length - (intOf i).toNat)
  case atStart => exact ⟨0, Nat.zero_le _, rfl, ho1, hB1⟩
  case round =>
    clear ho1 hB1
    obtain ⟨k, hk, rfl, ho, hB⟩ := hrel
    by_cases hlt : k < l.length
    · obtain ⟨b, o, rfl, hcell⟩ := hcl.resolve_left (by omega)
      have hx0 := hcell k hlt
      have hlx := World.block_lt_of_cell? _ _ hx0
      simp only [] at hlx
      have hx := (hB.cell (p := ⟨b, o + k, none⟩) hlx).trans hx0
      simp only [encT] at hx
      have hn : k / 8 < (pk (l.take k) ((l.length + 7) / 8)).length := by rw [pk_len]; omega
      cases hv : l[k] with
      | false =>
        rw [hv] at hx
        have hs := Lib.hid (pk_false l k ((l.length + 7) / 8) hlt hv)
        clear hcell hcl hx0 hv
        go_wp2
        go_roundw
        case rel => exact ⟨k + 1, by omega, by go_num, by rw [hs.out]; exact ho, hB⟩
        case measure => simp [intOf]; omega
      | true =>
        rw [hv] at hx
        have hs := Lib.hid (pk_true l k ((l.length + 7) / 8) hlt hv hn).1
        have hc8 := (pk_true l k ((l.length + 7) / 8) hlt hv hn).2
        obtain ⟨hca, hfa⟩ := ho.at (k / 8) hn
        have hset := ho.set (k / 8) (UInt8.ofNat ((pk (l.take k) ((l.length + 7) / 8))[k / 8].toNat + 2 ^ (k % 8)))
        simp only [encB] at hca hset
        have hor := Lib.hid (or_bit _ (k % 8) (by omega) hc8)
        clear hcell hcl hx0 hv
        go_wp2
        go_region
        rw [hor.out]
        go_wp2
        go_roundw
        case rel => exact ⟨k + 1, by omega, by go_num, by rw [hs.out]; exact hset.1.drew, Below.drew (belowG hB hset.2 (by simp))⟩
        case measure => simp [intOf]; omega
    · obtain rfl : k = l.length := by omega
      rw [List.take_length, pk_all] at ho
      go_wp2
      go_ret
      exact ⟨_, rfl, ho, hB⟩

/-! ### Bits -/
set_option maxRecDepth 100000 in
set_option maxHeartbeats 800000 in
theorem word_Bits_no (v : Value) (b : List UInt8) (n : Int) (w : World) (h : RdV encB w v b) (hn : n < 0 ∨ ¬ bitsFit b n.toNat) (hx1 : n ≤ 9223372036854775807) (hx0 : -9223372036854775808 ≤ n) :
    Calls Try.prog 169 #[v, .int .i64 n] w fun e w' => e = .returned (.tuple #[.slice none 0 0, .bool false]) ∧ w = w' := by
  obtain ⟨a, c, rfl, hc, hm, hcl⟩ := h.open
  by_cases h0 : n < 0
  · clear hn hcl
    go_enter Try.func169, Try.ntmps169
    go_wp2
    go_ret2
    exact ⟨rfl, rfl⟩
  · obtain ⟨m, rfl⟩ := Int.eq_ofNat_of_zero_le (by omega : 0 ≤ n)
    have hf := Lib.hid (hn.resolve_left h0)
    rw [Int.toNat_natCast] at hf
    clear hn
    by_cases hl : b.length = (m + 7) / 8
    · have q1 : (((b.length : Nat) : Int) != (m : Int) / 8 + ((m : Int) % 8 + 8 - 1) / 8) = false := by rw [bne_eq_false_iff_eq]; omega
      have h8 : 0 < m % 8 := by
        rcases Nat.eq_zero_or_pos (m % 8) with h | h
        · exact absurd ⟨hl, .inl h⟩ hf.out
        · exact h
      have hne : ¬ (b.getD (m / 8) 0).toNat / 2 ^ (m % 8) = 0 := fun h => hf.out ⟨hl, .inr h⟩
      obtain ⟨g, o, rfl, hcell⟩ := hcl.resolve_left (by omega)
      have hx := hcell (b.length - 1) (by omega)
      have e1 : b[b.length - 1]'(by omega) = b.getD (m / 8) 0 := by
        rw [List.getD_eq_getElem?_getD, List.getElem?_eq_getElem (by omega), Option.getD_some]
        congr 1; omega
      rw [e1] at hx
      simp only [encB] at hx
      generalize b.getD (m / 8) 0 = y at *
      have hl' := Lib.hid hl
      have hlb : 1 ≤ b.length := by omega
      have hne' : ((y.toNat : Int) / 2 ^ (m % 8) != 0) = true := by rw [shr_nat, bne_iff_ne]; omega
      clear hcell hcl e1 hl hne
      go_enter Try.func169, Try.ntmps169
      go_wp2
      go_ret2
      exact ⟨rfl, rfl⟩
    · have q1 : (((b.length : Nat) : Int) != (m : Int) / 8 + ((m : Int) % 8 + 8 - 1) / 8) = true := by rw [bne_iff_ne]; omega
      clear hcl hl
      go_enter Try.func169, Try.ntmps169
      go_wp2
      go_ret2
      exact ⟨rfl, rfl⟩

set_option maxRecDepth 100000 in
set_option maxHeartbeats 800000 in
theorem word_Bits_yes (v : Value) (b : List UInt8) (m : Nat) (w : World) (h : RdV encB w v b) (hf : bitsFit b m) (hx : m ≤ 800000) :
    Calls Try.prog 169 #[v, .int .i64 (m : Int)] w fun e w' => ∃ v', e = .returned (.tuple #[v', .bool true]) ∧ Own encT 4 w' w.heap.size v' (wBitsL b m) ∧ Below w.heap.size w w' := by
  obtain ⟨a, c, rfl, hc, hm, hcl⟩ := h.open
  have hl := hf.1
  have hf' := Lib.hid hf
  have q1 : (((b.length : Nat) : Int) != (m : Int) / 8 + ((m : Int) % 8 + 8 - 1) / 8) = false := by rw [bne_eq_false_iff_eq]; omega
  have hl' := Lib.hid hl
  have hcl' := Lib.hid hcl
  clear hl hcl hf
  by_cases h8 : m % 8 = 0
  · have h8' := Lib.hid h8
    have hd : ((m : Int) % 8) ≤ 0 := by omega
    clear h8
    go_enter Try.func169, Try.ntmps169
    go_wp2
    go_loopw [7, 40] (fun x i wr => ∃ k : Nat, k ≤ m ∧ i = .int .i64 k ∧ Own encT 4 wr w.heap.size x (wBitsL b k) ∧ Below w.heap.size w wr) (fun _ i _ => m - (intOf i).toNat)
    case atStart => exact ⟨0, Nat.zero_le _, rfl, Own.nil _ _ _ _, Below.refl _ _⟩
    case round =>
      obtain ⟨k, hk, rfl, ho, hB⟩ := hrel
      by_cases hlt : k < m
      · have hlk : k / 8 < b.length := by have := hl'.out; omega
        obtain ⟨g, o, he, hcell⟩ := hcl'.out.resolve_left (by omega)
        have hx0 := hcell (k / 8) hlk
        have e1 : b[k / 8] = b.getD (k / 8) 0 := by rw [List.getD_eq_getElem?_getD, List.getElem?_eq_getElem hlk, Option.getD_some]
        rw [e1] at hx0
        have hlx := World.block_lt_of_cell? _ _ hx0
        simp only [] at hlx
        have hx := (hB.cell (p := ⟨g, o + k / 8, none⟩) hlx).trans hx0
        simp only [encB] at hx
        have hv := and_bit (b.getD (k / 8) 0) (k % 8)
        have hs := Lib.hid (wBitsL_step b k)
        have lenF : (wBitsL b k).length + 1 ≤ 140737488355328 := by rw [wBitsL_len]; omega
        generalize b.getD (k / 8) 0 = y at *
        clear hcell hx0 e1
        cases he
        go_wp2_with (at_builtin; refine wp_app (enc := encT) (l := wBitsL b k) (m := [bitsOf y (k % 8)]) encT_one rfl (.tmp 43) (.tmp 54) _ rfl _ _ _ Try.underlying55 infoT rfl w.heap.size _ rfl (ho.alloc _) _ rfl ?a2 ?a3 (by omega) ?a4 ?a5)
        case a2 => exact RdV.lit encT _ _ [bitsOf y (k % 8)] _ _ _ rfl (Nat.le_refl _) (by simp) (by simp [encT])
        case a3 => rw [Nat.mul_one]; exact lenF
        case a4 => exact Nat.le_trans hB.size (by simp)
        intro v2 w2 ho2 hg2
        clear hv
        go_wp2
        go_roundw
        case rel => exact ⟨k + 1, by omega, by go_num, by rw [hs.out]; exact ho2, belowG (belowA hB _) hg2 (fun k hk => (ho.base k hk).1)⟩
        case measure => simp [intOf]; omega
      · obtain rfl : k = m := by omega
        go_wp2
        go_ret2
        exact ⟨_, rfl, ho, hB⟩
  · have hd : 0 < m % 8 := by omega
    obtain ⟨g0, o0, he0, hcell0⟩ := hcl'.out.resolve_left (by have := hl'.out; omega)
    have hlb : 1 ≤ b.length := by have := hl'.out; omega
    have hx1 := hcell0 (b.length - 1) (by omega)
    have e0 : b[b.length - 1]'(by omega) = b.getD (m / 8) 0 := by
      rw [List.getD_eq_getElem?_getD, List.getElem?_eq_getElem (by have := hl'.out; omega), Option.getD_some]
      congr 1; have := hl'.out; omega
    rw [e0] at hx1
    simp only [encB] at hx1
    have hne : (((b.getD (m / 8) 0).toNat : Int) / 2 ^ (m % 8) != 0) = false := by
      rw [shr_nat, bne_eq_false_iff_eq]; have := hf'.out.2.resolve_left h8; omega
    generalize b.getD (m / 8) 0 = y0 at *
    clear hcell0 e0
    subst he0
    go_enter Try.func169, Try.ntmps169
    go_wp2
    go_loopw [7, 40] (fun x i wr => ∃ k : Nat, k ≤ m ∧ i = .int .i64 k ∧ Own encT 4 wr w.heap.size x (wBitsL b k) ∧ Below w.heap.size w wr) (fun _ i _ => m - (intOf i).toNat)
    case atStart => exact ⟨0, Nat.zero_le _, rfl, Own.nil _ _ _ _, Below.refl _ _⟩
    case round =>
      obtain ⟨k, hk, rfl, ho, hB⟩ := hrel
      by_cases hlt : k < m
      · have hlk : k / 8 < b.length := by have := hl'.out; omega
        obtain ⟨g, o, he, hcell⟩ := hcl'.out.resolve_left (by omega)
        have hx0 := hcell (k / 8) hlk
        have e1 : b[k / 8] = b.getD (k / 8) 0 := by rw [List.getD_eq_getElem?_getD, List.getElem?_eq_getElem hlk, Option.getD_some]
        rw [e1] at hx0
        have hlx := World.block_lt_of_cell? _ _ hx0
        simp only [] at hlx
        have hx := (hB.cell (p := ⟨g, o + k / 8, none⟩) hlx).trans hx0
        simp only [encB] at hx
        have hv := and_bit (b.getD (k / 8) 0) (k % 8)
        have hs := Lib.hid (wBitsL_step b k)
        have lenF : (wBitsL b k).length + 1 ≤ 140737488355328 := by rw [wBitsL_len]; omega
        generalize b.getD (k / 8) 0 = y at *
        clear hcell hx0 e1
        cases he
        go_wp2_with (at_builtin; refine wp_app (enc := encT) (l := wBitsL b k) (m := [bitsOf y (k % 8)]) encT_one rfl (.tmp 43) (.tmp 54) _ rfl _ _ _ Try.underlying55 infoT rfl w.heap.size _ rfl (ho.alloc _) _ rfl ?d2 ?d3 (by omega) ?d4 ?d5)
        case d2 => exact RdV.lit encT _ _ [bitsOf y (k % 8)] _ _ _ rfl (Nat.le_refl _) (by simp) (by simp [encT])
        case d3 => rw [Nat.mul_one]; exact lenF
        case d4 => exact Nat.le_trans hB.size (by simp)
        intro v2 w2 ho2 hg2
        clear hv
        go_wp2
        go_roundw
        case rel => exact ⟨k + 1, by omega, by go_num, by rw [hs.out]; exact ho2, belowG (belowA hB _) hg2 (fun k hk => (ho.base k hk).1)⟩
        case measure => simp [intOf]; omega
      · obtain rfl : k = m := by omega
        go_wp2
        go_ret2
        exact ⟨_, rfl, ho, hB⟩
end Go.Proofs.Ytbhnkdnfmlnajaa

/- Words and bits by their contracts of the old kind: that they answer so. -/
namespace Go.Proofs.Ytbhnkdnfmlnajaa
open Go Go.RowKit
set_option linter.unusedSimpArgs false
set_option linter.unusedVariables false
theorem repE_mk {α : Type} {enc : α → Value} {e' : α → DV} (he : ∀ a, e' a = .flat (enc a)) (h1 : ∀ a, (enc a).cells = #[enc a] ∧ isOne (enc a) = true) {I : Nat → Nat → Prop} {w : World} {b : Nat} : ∀ (l : List α) (o : Nat), (∀ j (h : j < l.length), w.cell? ⟨b, o + j, none⟩ = some (enc l[j]) ∧ I b (o + j)) → RepE I w 1 (l.map e') b o
  | [], o, _ => by simp [RepE]
  | a :: l, o, h => by
    simp only [List.map_cons, RepE]
    refine ⟨⟨by rw [he]; simp [DV.cells, DV.leaf, (h1 a).2], enc a, by rw [he]; simp only [Rep], by rw [(h1 a).1]; rfl, ?_⟩, repE_mk he h1 l (o + 1) fun j hj => ?_⟩
    · rw [(h1 a).1]
      intro j v hj
      cases j with
      | zero =>
        simp at hj
        subst hj
        obtain ⟨h2, h3⟩ := h 0 (by simp)
        exact ⟨h2, h3, (h1 _).2⟩
      | succ j => simp at hj
    · have := h (j + 1) (by simpa using hj)
      rw [show o + (j + 1) = o + 1 + j by omega] at this
      exact this
/-- a row of the call's own, handed out as a list -/
theorem own_rep {α : Type} {enc : α → Value} {e' : α → DV} (he : ∀ a, e' a = .flat (enc a)) (h1 : ∀ a, (enc a).cells = #[enc a] ∧ isOne (enc a) = true) {B : Nat → Nat → Prop} {G : Gh} {w w' : World} {H : Heap} (hB : ∀ b j, w.heap.size ≤ b → B b j) (hH : HR B G w H) {e : TypeId} {V : Value} {l : List α} (ho : Own enc e w' w.heap.size V l) : Rep (ImmB B G) w' G (mkl 1 (l.map e') .sh) V := by
  obtain ⟨⟨_, h2⟩, h3⟩ := ho
  rcases h2 with ⟨rfl, h2⟩ | ⟨g, cap, cur, rfl, hg, hc, h4, _, _, h5⟩
  · have : l = [] := List.eq_nil_of_length_eq_zero h2
    subst this
    simp only [List.map_nil, mkl, Rep, TagOk]
    exact ⟨none, 0, rfl, Nat.le_refl _, by simp, .inl trivial, trivial⟩
  · have hE : RepE (ImmB B G) w' 1 (l.map e') g 0 := by
      refine repE_mk he h1 l 0 fun j hj => ⟨?_, hB _ _ hg, fun k hk => ?_, fun k s c n hk => ?_⟩
      · rw [cell_toList hc, Nat.zero_add]
        have h6 : (l.map enc)[j]? = some (enc l[j]) := by simp [hj]
        rw [← h5] at h6
        rw [List.getElem?_take_of_lt (by omega)] at h6
        exact h6
      · have := hH.lt (.inl hk); omega
      · have := hH.lt (.inr ⟨_, _, _, hk⟩); omega
    cases l with
    | nil =>
      simp only [List.map_nil, mkl, Rep, TagOk]
      exact ⟨_, cap, rfl, h4, by simp, .inl trivial, trivial⟩
    | cons a l =>
      simp only [List.map_cons, mkl, Rep, TagOk]
      refine ⟨_, cap, by simp, by simpa using h4, by simpa using h3, .inr ⟨g, 0, rfl, by simpa using hE⟩, trivial⟩
theorem dB_some (x : DV) (a : UInt8) (h : dB x = some a) : x = .flat (encB a) := by
  unfold dB at h
  split at h
  · split at h
    · rename_i hn
      cases h
      rw [encB_low _ hn.1 hn.2]
    · cases h
  · cases h
theorem dW_some (x : DV) (a : UInt16) (h : dW x = some a) : x = .flat (encW a) := by
  unfold dW at h
  split at h
  · split at h
    · rename_i hn
      cases h
      rw [encW_low _ hn.1 hn.2]
      rfl
    · cases h
  · cases h
theorem dT_some (x : DV) (a : Bool) (h : dT x = some a) : x = .flat (encT a) := by
  unfold dT at h
  split at h
  · cases h; rfl
  · cases h
theorem primLL_ok {α β : Type} {d : DV → Option α} {ea : α → Value} {eb : β → Value} {e' : β → DV} {g : List α → List β} {f : FuncId} {t : TypeId} (hd : ∀ x a, d x = some a → x = .flat (ea a)) (h1 : ∀ a, (ea a).cells = #[ea a]) (he : ∀ a, e' a = .flat (eb a)) (h2 : ∀ a, (eb a).cells = #[eb a] ∧ isOne (eb a) = true)
    (hf : ∀ (v : Value) (l : List α) (w : World), RdV ea w v l → l.length ≤ 100000 → Calls Try.prog f #[v] w fun e w' => ∃ v', e = .returned v' ∧ Own eb t w' w.heap.size v' (g l) ∧ Below w.heap.size w w')
    {args : List DV} {r : DV} {H H' : Heap} (h : primLL d e' g args H = some (r, H')) : H' = H ∧ ∀ fl, CallOk Try.prog f args H fl r H := by
  unfold primLL at h
  split at h
  · rename_i sz xs t' H0
    obtain ⟨l, hl, h⟩ := Option.bind_eq_some_iff.1 h
    split at h
    · rename_i hlen
      simp only [Option.some.injEq, Prod.mk.injEq] at h
      obtain ⟨rfl, rfl⟩ := h
      refine ⟨rfl, fun fl B G w vs hB hH hr hfl => ⟨?_, fun _ _ => rfl, Nat.le_refl _⟩⟩
      simp only [RepL] at hr
      obtain ⟨V, _, e1, hV, rfl⟩ := hr
      have hv : vs = #[V] := by apply Array.ext'; simpa using e1
      subst hv
      exact (hf V l w (list_rd hd h1 hV hl) hlen).mono fun e w' ⟨v', h3, h4, h5⟩ => ⟨v', G, h3, Keep.below G h5, hH.below h5, own_rep he h2 hB hH h4⟩
    · cases h
  · cases h
theorem primTL_ok {β : Type} {eb : β → Value} {e' : β → DV} {f : FuncId} {t : TypeId} {c : Bool} {l2 : List β} {args : List DV} {H : Heap} (he : ∀ a, e' a = .flat (eb a)) (h2 : ∀ a, (eb a).cells = #[eb a] ∧ isOne (eb a) = true)
    (hf : ∀ (B : Nat → Nat → Prop) (G : Gh) (w : World) (vs : Array Value), RepL (ImmB B G) w G args vs.toList → Calls Try.prog f vs w fun e w' => ∃ v', e = .returned (.tuple #[v', .bool c]) ∧ Own eb t w' w.heap.size v' l2 ∧ Below w.heap.size w w') (fl : Nat) : CallOk Try.prog f args H fl (.tup [mkl 1 (l2.map e') .sh, .flat (.bool c)]) H := by
  intro B G w vs hB hH hr hfl
  refine ⟨(hf B G w vs hr).mono fun e w' ⟨v', h3, h4, h5⟩ => ⟨_, G, h3, Keep.below G h5, hH.below h5, ?_⟩, fun _ _ => rfl, Nat.le_refl _⟩
  simp only [Rep, RepL]
  exact ⟨_, rfl, _, _, rfl, own_rep he h2 hB hH h4, _, _, rfl, rfl, rfl⟩
theorem own_nil {α : Type} (enc : α → Value) (e : TypeId) (w : World) (b : Nat) : Own enc e w b (.slice none 0 0) [] := ⟨⟨rfl, .inl ⟨rfl, rfl⟩⟩, by simp⟩
theorem primWords_ok {f : FuncId} (hno : ∀ (v : Value) (l : List UInt8) (w : World), RdV encB w v l → l.length % 2 = 1 → Calls Try.prog f #[v] w fun e w' => e = .returned (.tuple #[.slice none 0 0, .bool false]) ∧ w = w')
    (hyes : ∀ (v : Value) (l : List UInt8) (w : World), RdV encB w v l → l.length % 2 = 0 → l.length ≤ 100000 → Calls Try.prog f #[v] w fun e w' => ∃ v', e = .returned (.tuple #[v', .bool true]) ∧ Own encW 75 w' w.heap.size v' (wWords l) ∧ Below w.heap.size w w')
    {args : List DV} {r : DV} {H H' : Heap} (h : primWords args H = some (r, H')) : H' = H ∧ ∀ fl, CallOk Try.prog f args H fl r H := by
  unfold primWords at h
  split at h
  · rename_i sz xs t' H0
    obtain ⟨l, hl, h⟩ := Option.bind_eq_some_iff.1 h
    split at h
    · rename_i hlen
      simp only [Option.some.injEq, Prod.mk.injEq] at h
      obtain ⟨rfl, rfl⟩ := h
      refine ⟨rfl, fun fl => primTL_ok (t := 75) (eb := encW) (fun a => rfl) (fun a => ⟨rfl, rfl⟩) (fun B G w vs hr => ?_) fl⟩
      simp only [RepL] at hr
      obtain ⟨V, _, e1, hV, rfl⟩ := hr
      have hv : vs = #[V] := by apply Array.ext'; simpa using e1
      subst hv
      have hR := list_rd dB_some (fun a => rfl) hV hl
      rcases (by omega : l.length % 2 = 1 ∨ l.length % 2 = 0) with hn | hn
      · rw [wordsTell_no hn]
        exact (hno V l w hR hn).mono fun e w' ⟨h3, h4⟩ => ⟨_, h3, own_nil _ _ _ _, by rw [← h4]; exact Below.refl _ _⟩
      · rw [wordsTell_yes hn]
        exact hyes V l w hR hn hlen
    · cases h
  · cases h
theorem primBits_ok {args : List DV} {r : DV} {H H' : Heap} (h : primBits args H = some (r, H')) : H' = H ∧ ∀ fl, CallOk Try.prog 169 args H fl r H := by
  unfold primBits at h
  split at h
  · rename_i H0 sz xs t' n
    obtain ⟨l, hl, h⟩ := Option.bind_eq_some_iff.1 h
    split at h
    · rename_i hlen
      obtain ⟨hlen, hn0, hn1⟩ := hlen
      simp only [Option.some.injEq, Prod.mk.injEq] at h
      obtain ⟨rfl, rfl⟩ := h
      refine ⟨rfl, fun fl => primTL_ok (t := 4) (eb := encT) (fun a => rfl) (fun a => ⟨rfl, rfl⟩) (fun B G w vs hr => ?_) fl⟩
      simp only [RepL] at hr
      obtain ⟨V, _, e1, hV, V2, _, rfl, hV2, rfl⟩ := hr
      simp only [Rep] at hV2
      subst hV2
      have hv : vs = #[V, .int .i64 n] := by apply Array.ext'; simpa using e1
      subst hv
      have hR := list_rd dB_some (fun a => rfl) hV hl
      by_cases h0 : 0 ≤ n ∧ bitsFit l n.toNat
      · obtain ⟨m, rfl⟩ := Int.eq_ofNat_of_zero_le h0.1
        have hf : bitsFit l m := by simpa using h0.2
        have hm : m ≤ 800000 := by have := hf.1; omega
        rw [bitsTell_nat, wBits_yes hf]
        exact word_Bits_yes V l m w hR hf hm
      · have hn : n < 0 ∨ ¬ bitsFit l n.toNat := by
          rcases (by omega : n < 0 ∨ 0 ≤ n) with h | h
          · exact .inl h
          · exact .inr fun h2 => h0 ⟨h, h2⟩
        have e : bitsTell l n = (false, []) := by
          rcases (by omega : n < 0 ∨ 0 ≤ n) with h | h
          · exact bitsTell_neg h
          · obtain ⟨m, rfl⟩ := Int.eq_ofNat_of_zero_le h
            rw [bitsTell_nat]
            exact wBits_no fun h2 => h0 ⟨h, by simpa using h2⟩
        rw [e]
        exact (word_Bits_no V l n w hR hn hn1 hn0).mono fun e w' ⟨h3, h4⟩ => ⟨_, h3, own_nil _ _ _ _, by rw [← h4]; exact Below.refl _ _⟩
    · cases h
  · cases h
theorem primW_ok (f : FuncId) (g : Prim) (args : List DV) (H : Heap) (d : DV) (H' : Heap) (hf : PRIMW f = some g) (h : g args H = some (d, H')) : (∃ fn, Try.prog.funcs[f]? = some fn ∧ fn.body.isSome = true) ∧ (∀ fl, CallOk Try.prog f args H fl d H') ∧ ∀ k : Nat, H[k]? = some .hole → H'[k]? = some .hole := by
  unfold PRIMW at hf
  by_cases c1 : f = 166
  · subst c1
    simp only [BEq.rfl, cond_true, Option.some.injEq] at hf
    subst hf
    obtain ⟨rfl, h⟩ := primLL_ok dW_some (fun a => rfl) (fun a => rfl) (fun a => ⟨rfl, rfl⟩) (fun v l w h1 h2 => word_Bytes v l w h1 h2) h
    exact ⟨⟨_, Try.func166, rfl⟩, h, fun _ h => h⟩
  have d1 : (f == 166) = false := by simpa using c1
  simp only [d1, cond_false] at hf
  by_cases c2 : f = 168
  · subst c2
    simp only [BEq.rfl, cond_true, Option.some.injEq] at hf
    subst hf
    obtain ⟨rfl, h⟩ := primLL_ok dT_some (fun a => rfl) (fun a => rfl) (fun a => ⟨rfl, rfl⟩) (fun v l w h1 h2 => word_Pack v l w h1 h2) h
    exact ⟨⟨_, Try.func168, rfl⟩, h, fun _ h => h⟩
  have d2 : (f == 168) = false := by simpa using c2
  simp only [d2, cond_false] at hf
  by_cases c3 : f = 171
  · subst c3
    simp only [BEq.rfl, cond_true, Option.some.injEq] at hf
    subst hf
    obtain ⟨rfl, h⟩ := primWords_ok (fun v l w h1 h2 => word_Words_no v l w h1 h2) (fun v l w h1 h2 h3 => word_Words_yes v l w h1 h2 h3) h
    exact ⟨⟨_, Try.func171, rfl⟩, h, fun _ h => h⟩
  have d3 : (f == 171) = false := by simpa using c3
  simp only [d3, cond_false] at hf
  by_cases c4 : f = 169
  · subst c4
    simp only [BEq.rfl, cond_true, Option.some.injEq] at hf
    subst hf
    obtain ⟨rfl, h⟩ := primBits_ok h
    exact ⟨⟨_, Try.func169, rfl⟩, h, fun _ h => h⟩
  have d4 : (f == 169) = false := by simpa using c4
  simp only [d4, cond_false] at hf
  cases hf
end Go.Proofs.Ytbhnkdnfmlnajaa

/- Functions that are known by a contract of their own: that they answer so. -/
namespace Go.Proofs.Ytbhnkdnfmlnajaa
open Go Go.RowKit
set_option linter.unusedSimpArgs false
set_option linter.unusedVariables false
set_option maxHeartbeats 4000000 in
theorem grow_walk (A : Option Addr) (n : Nat) (h0 : 0 < n) (h1 : n ≤ 1000000) (w : World) :
    Calls Try.prog 182 #[.slice A 0 0, .int .i64 n] w fun e w' => ∃ cap C, e = .returned (.slice (some ⟨w.heap.size, 0, none⟩) 0 cap) ∧ More (.cells C 5 (0, 0)) w w' ∧ C.size = cap * 1 := by
  have hinf : (Try.prog.info? 5).map (fun i => (i.size, i.bytes, i.zero)) = some (1, 1, some (.int .u8 0)) := by kernel_rfl
  obtain ⟨i0, hi0, hs0⟩ := Option.map_eq_some_iff.1 hinf
  simp only [Prod.mk.injEq] at hs0
  obtain ⟨hs0, hb0, hz0⟩ := hs0
  clear hinf
  have hold : (Builtin.firstCells i0.size 0 (.slice A 0 0)).run Try.prog w.drew = .ok ([] : List Value).toArray w.drew := by
    cases A with
    | none => exact run_firstCells_none w.drew i0.size 0 0 0
    | some a => exact run_firstCells_some w.drew i0.size 0 a 0 0 [] (by simp) (fun j v hj => by simp at hj)
  have hn0 : ¬ ((n : Int) < 0) := by omega
  have hn1 : (n : Int) > 0 := by omega
  have hn2 : IntKind.i64.wrap ((n : Int) - 0) = (n : Int) := by simp [IntKind.wrap, IntKind.bits, IntKind.signed]; omega
  have hrz : ∀ ty, (Builtin.append_ #[251, 3] ty #[.slice A 0 0, .int .i64 (n : Int)]).run Try.prog w =
      .ok (.slice (some ⟨w.heap.size, 0, none⟩) n (grownCap w n 0 5)) (w.drew.alloc (.cells (([] : List Value).toArray ++ Builtin.zeroCells (Value.int .u8 0).cells n ++ Builtin.zeroCells (Value.int .u8 0).cells (grownCap w n 0 5 - n)) 5)) := fun ty => by
    have h := Lib.run_append_grow_zeros w 251 3 ty 5 i0 (.int .u8 0) .i64 .i64 Try.underlying251 Try.underlying3 hi0 hz0 A 0 0 [] hold n h0 (by omega) (by omega) (by omega) (by rw [hb0]; omega) (by rw [hb0]; exact growslice_fits (by omega) (by omega))
    rw [Nat.zero_add] at h
    exact h
  have hGn : n ≤ grownCap w n 0 5 := grownCap_ge w _ _ _
  have hcs : (([] : List Value).toArray ++ Builtin.zeroCells (Value.int .u8 0).cells n ++ Builtin.zeroCells (Value.int .u8 0).cells (grownCap w n 0 5 - n)).size = grownCap w n 0 5 * 1 := by
    simp [Builtin.zeroCells, Value.cells]
    omega
  have hG63 : grownCap w n 0 5 ≤ 9223372036854775807 := by
    have := grownCap_le_maxLen w n 0 5 (by unfold maxLen; omega)
    unfold maxLen at this
    omega
  generalize (([] : List Value).toArray ++ Builtin.zeroCells (Value.int .u8 0).cells n ++ Builtin.zeroCells (Value.int .u8 0).cells (grownCap w n 0 5 - n)) = C at *
  generalize grownCap w n 0 5 = G at *
  have fin : More (.cells C 5 (0, 0)) w (w.drew.alloc (.cells C 5)) := ⟨rfl, rfl, rfl, rfl⟩
  clear hold hb0 hz0 hs0 hi0
  go_enter Try.func182, Try.ntmps182
  go_wp2_with (at_builtin; refine Lib.wpList_append_run _ rfl _ _ _ _ rfl _ _ rfl rfl _ _ (hrz _) ?_)
  all_goals (go_ret; exact ⟨_, rfl, _, ⟨rfl, rfl, rfl, rfl⟩, by simpa using hcs⟩)
theorem grow_zero (A : Option Addr) (w : World) : Calls Try.prog 182 #[.slice A 0 0, .int .i64 0] w fun e w' => e = .returned (.slice A 0 0) ∧ w' = w := by
  go_enter Try.func182, Try.ntmps182
  go_wp2
  go_ret
  exact ⟨rfl, rfl⟩
theorem primGrow_ok {args : List DV} {d : DV} {H H' : Heap} (h : primGrow args H = some (d, H')) : (∀ fl, CallOk Try.prog 182 args H fl d H') ∧ ∀ k : Nat, H[k]? = some .hole → H'[k]? = some .hole := by
  unfold primGrow at h
  split at h
  · rename_i H0 n
    split at h
    · rename_i hn
      subst hn
      simp only [Option.some.injEq, Prod.mk.injEq] at h
      obtain ⟨rfl, rfl⟩ := h
      refine ⟨fun fl => ?_, fun k hk => hk⟩
      refine callOk_below (fun I G w vs hr => ?_) _ fl
      simp only [RepL, Rep] at hr
      obtain ⟨_, _, e1, ⟨A, c, rfl, _, _, _, ht⟩, _, _, rfl, rfl, rfl⟩ := hr
      simp only [TagOk] at ht
      have hv : vs = #[.slice A 0 0, .int .i64 0] := by
        apply Array.ext'
        simpa [ht] using e1
      subst hv
      exact (grow_zero A w).mono fun r w' ⟨h1, h2⟩ => ⟨_, h1, by rw [h2]; exact Below.refl _ _, fun I G => by simp only [Rep, TagOk]; exact ⟨A, 0, rfl, by simp, by simp, .inl trivial, rfl⟩⟩
    · split at h
      · rename_i h0 h1
        simp only [Option.some.injEq, Prod.mk.injEq] at h
        obtain ⟨rfl, rfl⟩ := h
        refine ⟨fun fl => ?_, fun k hk => by rw [List.getElem?_append_left (List.getElem?_eq_some_iff.1 hk).1]; exact hk⟩
        intro B G w vs hB hH hr hfl
        refine ⟨?_, fun k hk => List.getElem?_append_left (by omega), by simp⟩
        simp only [RepL, Rep] at hr
        obtain ⟨_, _, e1, ⟨A, c, rfl, _, _, _, ht⟩, _, _, rfl, rfl, rfl⟩ := hr
        simp only [TagOk] at ht
        obtain ⟨m, rfl⟩ := Int.eq_ofNat_of_zero_le (by omega : 0 ≤ n)
        have hv : vs = #[.slice A 0 0, .int .i64 m] := by
          apply Array.ext'
          simpa [ht] using e1
        subst hv
        refine (grow_walk A m (by omega) (by omega) w).mono fun e w' ⟨cap, C, he, hm, hC⟩ => ?_
        obtain ⟨hK, hH'⟩ := step_token (n := 0) hH hB hm (Nat.zero_le _) (by omega) (by omega) hC
        refine ⟨_, _, he, hK, hH', ?_⟩
        have hself : (G ++ [GK.own w.heap.size 1 cap 0])[H.length]? = some (GK.own w.heap.size 1 cap 0) := by rw [hH.len]; simp
        simp only [Rep]
        refine ⟨_, cap, rfl, Nat.zero_le _, by simp, .inl trivial, ?_⟩
        simp only [TagOk]
        exact ⟨_, _, _, _, hself, by simp, fun _ => ⟨rfl, rfl, rfl⟩⟩
      · cases h
  · cases h
theorem dWI_some (x : DV) (a : Int) (h : dWI x = some a) : x = .flat (.int .u16 a) ∧ 0 ≤ a ∧ a < 65536 := by
  unfold dWI at h
  split at h
  · split at h
    · rename_i hn
      cases h
      exact ⟨rfl, hn⟩
    · cases h
  · cases h
theorem mapO_dWI : ∀ (xs : List DV) (l : List Int), mapO dWI xs = some l → ∀ a ∈ l, 0 ≤ a ∧ a < 65536
  | [], l, h => by cases h; simp
  | x :: xs, l, h => by
    obtain ⟨y, s, h1, h2, rfl⟩ := mapO_cons' h
    intro a ha
    rcases List.mem_cons.1 ha with rfl | ha
    · exact (dWI_some _ _ h1).2
    · exact mapO_dWI xs s h2 a ha
theorem ofWm_low : ∀ (l : List Int), (∀ a ∈ l, 0 ≤ a ∧ a < 65536) → ofWm (l.map lowW) = l ∧ (l.map lowW).map encW = l.map (Value.int .u16)
  | [], _ => ⟨rfl, rfl⟩
  | a :: l, h => by
    obtain ⟨h1, h2⟩ := ofWm_low l fun x hx => h x (by simp [hx])
    have h3 := h a (by simp)
    refine ⟨?_, ?_⟩
    · show ((lowW a).toNat : Int) :: ofWm (l.map lowW) = _
      rw [h1, lowW_nat _ h3.1 h3.2]
    · rw [List.map_cons, List.map_cons, List.map_cons, h2, ← encW_low _ h3.1 h3.2]
theorem primMed_ok {args : List DV} {d : DV} {H H' : Heap} (h : primMed args H = some (d, H')) : H' = H ∧ ∀ fl, CallOk Try.prog 116 args H fl d H := by
  unfold primMed at h
  split at h
  · rename_i sz xs t' H0
    obtain ⟨l, hl, h⟩ := Option.bind_eq_some_iff.1 h
    split at h
    · rename_i hlen
      simp only [Option.some.injEq, Prod.mk.injEq] at h
      obtain ⟨rfl, rfl⟩ := h
      refine ⟨rfl, fun fl => callOk_below (fun I G w vs hr => ?_) _ fl⟩
      simp only [RepL] at hr
      obtain ⟨V, _, e1, hV, rfl⟩ := hr
      have hv : vs = #[V] := by apply Array.ext'; simpa using e1
      subst hv
      have hR := list_rd (enc := fun n : Int => Value.int .u16 n) (fun x a hx => (dWI_some x a hx).1) (fun a => rfl) hV hl
      obtain ⟨q1, q2⟩ := ofWm_low l (mapO_dWI _ l hl)
      have hR2 : RdV encW w V (l.map lowW) := by
        unfold RdV at hR ⊢
        rw [q2, List.length_map]
        exact hR
      have hm := median_w V (l.map lowW) w hR2 (by simpa using hlen)
      rw [q1] at hm
      exact hm.mono fun e w' ⟨h3, h4⟩ => ⟨_, h3, h4, fun I G => by
        simp only [Rep, RepL]
        exact ⟨_, rfl, _, _, rfl, rfl, _, _, rfl, rfl, rfl⟩⟩
    · cases h
  · cases h
theorem primOk (f : FuncId) (g : Prim) (args : List DV) (H : Heap) (d : DV) (H' : Heap) (hf : PRIM f = some g) (h : g args H = some (d, H')) : (∃ fn, Try.prog.funcs[f]? = some fn ∧ fn.body.isSome = true) ∧ (∀ fl, CallOk Try.prog f args H fl d H') ∧ ∀ k : Nat, H[k]? = some .hole → H'[k]? = some .hole := by
  unfold PRIM at hf
  by_cases c0 : f = 116
  · subst c0
    simp only [BEq.rfl, cond_true, Option.some.injEq] at hf
    subst hf
    obtain ⟨rfl, h⟩ := primMed_ok h
    exact ⟨⟨_, Try.func116, rfl⟩, h, fun _ h => h⟩
  have c0' : (f == 116) = false := by simpa using c0
  simp only [c0', cond_false] at hf
  by_cases c3 : f = 182
  · subst c3
    simp only [BEq.rfl, cond_true, Option.some.injEq] at hf
    subst hf
    obtain ⟨h1, h2⟩ := primGrow_ok h
    exact ⟨⟨_, Try.func182, rfl⟩, h1, h2⟩
  have c4 : (f == 182) = false := by simpa using c3
  simp only [c4, cond_false] at hf
  exact primW_ok f g args H d H' hf h
end Go.Proofs.Ytbhnkdnfmlnajaa

/- Words and bits as bytes, and back: what the functions known by a contract answer; over lists of numbers. -/
namespace Go.Proofs.Ytbhnkdnfmlnajaa
open Go
set_option linter.unusedSimpArgs false
set_option linter.unusedVariables false
theorem prim_call {f : FuncId} {g : Prim} (hp : ENV.prim f = some g) (n : Nat) (args : List DV) (H : Heap) (fl : Nat) : callG Try.prog ENV (n + 1) f args H fl = g args H := by
  rw [callG_eq]
  unfold bodyG
  rw [hp]
def Words (l : List Int) : Prop := ∀ x ∈ l, 0 ≤ x ∧ x < 65536
def toB (l : List Int) : List UInt8 := l.map lowB
def toW (l : List Int) : List UInt16 := l.map fun x => UInt16.ofNat x.toNat
def ofB (l : List UInt8) : List Int := l.map fun c => (c.toNat : Int)
def ofW (l : List UInt16) : List Int := l.map fun c => (c.toNat : Int)
theorem mapO_dB (l : List Int) (h : Bytes l) : mapO dB (l.map (I .u8)) = some (toB l) := by
  induction l with
  | nil => rfl
  | cons a l ih =>
    rw [List.map_cons, mapO_cons, ih (fun x hx => h x (by simp [hx]))]
    have : dB (I .u8 a) = some (lowB a) := by unfold dB; simp only; rw [if_pos (h a (by simp))]
    rw [this]
    rfl
theorem mapO_dW (l : List Int) (h : Words l) : mapO dW (l.map (I .u16)) = some (toW l) := by
  induction l with
  | nil => rfl
  | cons a l ih =>
    rw [List.map_cons, mapO_cons, ih (fun x hx => h x (by simp [hx]))]
    have : dW (I .u16 a) = some (UInt16.ofNat a.toNat) := by unfold dW; simp only; rw [if_pos (h a (by simp))]
    rw [this]
    rfl
theorem mapO_dT (l : List Bool) : mapO dT (l.map Bo) = some l := by
  induction l with
  | nil => rfl
  | cons a l ih => rw [List.map_cons, mapO_cons, ih]; rfl
theorem mkl_eB (l : List UInt8) (t : Tag) : mkl 1 (l.map eB) t = LV 1 (I .u8) (ofB l) t := by unfold LV ofB; rw [List.map_map]; rfl
theorem mkl_eW (l : List UInt16) (t : Tag) : mkl 1 (l.map eW) t = LV 1 (I .u16) (ofW l) t := by unfold LV ofW; rw [List.map_map]; rfl
theorem mkl_eT (l : List Bool) (t : Tag) : mkl 1 (l.map eT) t = LV 1 Bo l t := rfl
theorem primLL_LV {α β γ : Type} {d : DV → Option α} {e : β → DV} {g : List α → List β} {enc : γ → DV} {l : List γ} {l2 : List α} (t : Tag) (H : Heap) (hd : mapO d (l.map enc) = some l2) (hl : l2.length ≤ 100000) : primLL d e g (LV 1 enc l t :: []) H = some (mkl 1 ((g l2).map e) .sh, H) := by
  obtain ⟨s, h1, _⟩ := LV_list 1 enc l t
  rw [h1]
  unfold primLL
  simp only
  rw [hd, Option.bind_some, if_pos hl]
/-- words as bytes -/
def wbI (l : List Int) : List Int := ofB (wBytes (toW l))
def pkI (l : List Bool) : List Int := ofB (wPack l)
theorem ofB_bytes (l : List UInt8) : Bytes (ofB l) := by
  intro x hx
  obtain ⟨c, _, rfl⟩ := List.mem_map.1 hx
  have := c.toNat_lt
  omega
theorem toB_ofB (l : List UInt8) : toB (ofB l) = l := by
  unfold toB ofB
  rw [List.map_map]
  conv => rhs; rw [← List.map_id l]
  refine List.map_congr_left fun c _ => ?_
  show lowB (c.toNat : Int) = c
  unfold lowB
  simp
theorem ofB_toB (l : List Int) (h : Bytes l) : ofB (toB l) = l := by
  unfold toB ofB
  rw [List.map_map]
  conv => rhs; rw [← List.map_id l]
  refine List.map_congr_left fun c hc => ?_
  exact lowB_nat c (h c hc).1 (h c hc).2
theorem ofW_toW (l : List Int) (h : Words l) : ofW (toW l) = l := by
  unfold toW ofW
  rw [List.map_map]
  conv => rhs; rw [← List.map_id l]
  refine List.map_congr_left fun c hc => ?_
  have := h c hc
  show (((UInt16.ofNat c.toNat).toNat : Nat) : Int) = c
  rw [UInt16.toNat_ofNat']
  omega
theorem wbI_length (l : List Int) : (wbI l).length = 2 * l.length := by unfold wbI ofB; rw [List.length_map, wBytes_len]; simp [toW]
theorem pkI_length (l : List Bool) : (pkI l).length = (l.length + 7) / 8 := by unfold pkI ofB; rw [List.length_map, wPack_len]
theorem wbI_cons (a : Int) (l : List Int) (h : 0 ≤ a ∧ a < 65536) : wbI (a :: l) = a / 256 :: a % 256 :: wbI l := by
  have e1 : (UInt16.ofNat a.toNat).toNat = a.toNat := by rw [UInt16.toNat_ofNat']; omega
  unfold wbI toW wBytes ofB
  rw [List.map_cons, List.flatMap_cons, List.map_append]
  simp only [List.map_cons, List.map_nil, e1, List.cons_append, List.nil_append, List.cons.injEq, and_true]
  rw [UInt8.toNat_ofNat', UInt8.toNat_ofNat']
  omega
theorem wbI_nil : wbI [] = [] := rfl
/-- what Words and Bits tell -/
def wdI (l : List Int) : List Int := ofW (wordsTell (toB l)).2
def wdOk (l : List Int) : Bool := (wordsTell (toB l)).1
def btI (l : List Int) (n : Int) : List Bool := (bitsTell (toB l) n).2
def btOk (l : List Int) (n : Int) : Bool := (bitsTell (toB l) n).1
theorem wdI_wb (l : List Int) (h : Words l) : wdI (wbI l) = l ∧ wdOk (wbI l) = true := by
  unfold wdI wdOk wbI
  rw [toB_ofB, wordsTell_yes (by rw [wBytes_len]; omega), wWords_bytes]
  exact ⟨ofW_toW l h, rfl⟩
theorem btI_pk (l : List Bool) : btI (pkI l) l.length = l ∧ btOk (pkI l) l.length = true := by
  unfold btI btOk pkI
  rw [toB_ofB, bitsTell_nat, wBits_yes (fit_pack l)]
  exact ⟨wBits_pack l, rfl⟩
theorem wdI_words (l : List Int) : Words (wdI l) := by
  intro x hx
  obtain ⟨c, _, rfl⟩ := List.mem_map.1 hx
  have := c.toNat_lt
  omega
theorem cP_prim {f : FuncId} {g : Prim} {n : Nat} {args args' : List DV} {H' : Heap} {r r' : DV} (hp : ENV.prim f = some g) (hn : 1 ≤ n) (h1 : mapO argEl args = some args') (h2 : g args' [] = some (r, H')) (h3 : outD false H' r = some r') : cP n f false args = some r' := by
  obtain ⟨n, rfl⟩ : ∃ m, n = m + 1 := ⟨n - 1, by omega⟩
  exact cP_of h1 ((prim_call hp n args' [] 0).trans h2) h3
theorem word_Bytes_c (n : Nat) (l : List Int) (t : Tag) (hn : 1 ≤ n) (h : Words l) (hl : l.length ≤ 100000) : cP n 166 false [LV 1 (I .u16) l t] = some (LV 1 (I .u8) (wbI l) .sh) :=
  cP_prim (g := primLL dW eB wBytes) (args' := [LV 1 (I .u16) l .sh]) (by kernel_rfl) hn (by simp [argEl_eq]) ((primLL_LV .sh [] (mapO_dW l h) (by simpa [toW] using hl)).trans (by rw [mkl_eB])) (by simp [wbI])
theorem word_Pack_c (n : Nat) (l : List Bool) (t : Tag) (hn : 1 ≤ n) (hl : l.length ≤ 100000) : cP n 168 false [LV 1 Bo l t] = some (LV 1 (I .u8) (pkI l) .sh) :=
  cP_prim (g := primLL dT eB wPack) (args' := [LV 1 Bo l .sh]) (by kernel_rfl) hn (by simp [argEl_eq]) ((primLL_LV .sh [] (mapO_dT l) hl).trans (by rw [mkl_eB])) (by simp [pkI])
theorem word_Words_c (n : Nat) (l : List Int) (t : Tag) (hn : 1 ≤ n) (h : Bytes l) (hl : l.length ≤ 100000) : cP n 171 false [LV 1 (I .u8) l t] = some (.tup [LV 1 (I .u16) (wdI l) .sh, Bo (wdOk l)]) := by
  obtain ⟨s, e, _⟩ := LV_list 1 (I .u8) l .sh
  refine cP_prim (g := primWords) (args' := [LV 1 (I .u8) l .sh]) (r := .tup [LV 1 (I .u16) (wdI l) .sh, Bo (wdOk l)]) (H' := []) (by kernel_rfl) hn (by simp [argEl_eq]) ?_ (by simp)
  rw [e]
  unfold primWords
  simp only
  rw [mapO_dB l h, Option.bind_some, if_pos (by simpa [toB] using hl), mkl_eW]
  rfl
theorem word_Bits_c (n : Nat) (l : List Int) (k : Int) (t : Tag) (hn : 1 ≤ n) (h : Bytes l) (hl : l.length ≤ 100000) (h0 : -9223372036854775808 ≤ k) (h1 : k < 9223372036854775808) : cP n 169 false [LV 1 (I .u8) l t, I .i64 k] = some (.tup [LV 1 Bo (btI l k) .sh, Bo (btOk l k)]) := by
  obtain ⟨s, e, _⟩ := LV_list 1 (I .u8) l .sh
  refine cP_prim (g := primBits) (args' := [LV 1 (I .u8) l .sh, I .i64 k]) (r := .tup [LV 1 Bo (btI l k) .sh, Bo (btOk l k)]) (H' := []) (by kernel_rfl) hn (by simp [argEl_eq]) ?_ (by simp)
  rw [e]
  unfold primBits
  simp only
  rw [mapO_dB l h, Option.bind_some, if_pos ⟨by simpa [toB] using hl, h0, by omega⟩, mkl_eT]
  rfl
end Go.Proofs.Ytbhnkdnfmlnajaa

/- Go functions as Lean functions on deep values; printed by a program of mine. -/
namespace Go.Proofs.Ytbhnkdnfmlnajaa
open Go
set_option maxRecDepth 100000
set_option linter.unusedVariables false
/-! triune/triuneref09.in -/
noncomputable def s_triuneref09_in (n : Nat) (H : Heap) (fl : Nat) (a0 a1 a2 : DV) : R :=
  bi (geK .i64 a0 a1) fun d0 =>
  bi (wantF d0 true (some a0)) fun d1 =>
  bi (wantF d0 true (some a2)) fun d2 =>
  bi (wantF d0 true (leK .i64 d1 d2)) fun d3 =>
  bi (pickD d0 d3 (Bo false)) fun d4 =>
  some (d4, H)
theorem s_triuneref09_in_eq (n : Nat) (H : Heap) (fl : Nat) (a0 a1 a2 : DV) : callG Try.prog ENV (n + 1) 93 [a0, a1, a2] H fl = s_triuneref09_in n H fl a0 a1 a2 := by kernel_rfl

/-! triune/triuneref09.may -/
noncomputable def s_triuneref09_may (n : Nat) (H : Heap) (fl : Nat) (a0 : DV) : R :=
  bi (allocG 87 a0 (List.length H) (H ++ [.hole])) fun h0 =>
  bi (loadG false 1 (.ptr (List.length H) 0) h0) fun d1 =>
  bi (cP n 93 false [d1, (I .i64 0), (I .i64 3)]) fun d2 =>
  bi (notD d2) fun d3 =>
  bi (wantF d3 false (some (.ptr (List.length H) 1))) fun d4 =>
  bi (wantF d3 false (loadG false 1 d4 h0)) fun d5 =>
  bi (wantF d3 false (cP n 93 false [d5, (I .i64 0), (I .i64 65535)])) fun d6 =>
  bi (wantF d3 false (notD d6)) fun d7 =>
  bi (pickD d3 (Bo true) d7) fun d8 =>
  bi (wantF d8 false (some (.ptr (List.length H) 2))) fun d9 =>
  bi (wantF d8 false (loadG false 1 d9 h0)) fun d10 =>
  bi (wantF d8 false (cP n 93 false [d10, (I .i64 0), (I .i64 899)])) fun d11 =>
  bi (wantF d8 false (notD d11)) fun d12 =>
  bi (pickD d8 (Bo true) d12) fun d13 =>
  condR d13 (
  some ((Bo false), h0)) (
  bi (loadG false 1 (.ptr (List.length H) 0) h0) fun d14 =>
  bi (leK .i64 d14 (I .i64 1)) fun d15 =>
  condR d15 (
   bi (loadG false 1 (.ptr (List.length H) 3) h0) fun d16 =>
   bi (cP n 93 false [d16, (I .i64 0), (I .i64 65535)]) fun d17 =>
   bi (wantF d17 true (some (.ptr (List.length H) 4))) fun d18 =>
   bi (wantF d17 true (loadG false 1 d18 h0)) fun d19 =>
   bi (wantF d17 true (cP n 93 false [d19, (I .i64 0), (I .i64 65535)])) fun d20 =>
   bi (pickD d17 d20 (Bo false)) fun d21 =>
  some (d21, h0)) (
  bi (loadG false 1 (.ptr (List.length H) 3) h0) fun d22 =>
  bi (eqK .i64 d22 (I .i64 0)) fun d23 =>
  bi (wantF d23 true (some (.ptr (List.length H) 4))) fun d24 =>
  bi (wantF d23 true (loadG false 1 d24 h0)) fun d25 =>
  bi (wantF d23 true (cP n 93 false [d25, (I .i64 0), (I .i64 1)])) fun d26 =>
  bi (pickD d23 d26 (Bo false)) fun d27 =>
  some (d27, h0)))
theorem s_triuneref09_may_eq (n : Nat) (H : Heap) (fl : Nat) (a0 : DV) : callG Try.prog ENV (n + 1) 94 [a0] H fl = s_triuneref09_may n H fl a0 := by kernel_rfl

/-! triune/triuneref09.Check -/
def s_triuneref09_Check_I3 (x1 x5 x6 : DV) : List DV := [.any, x1, .any, .any, .any, x5, x6, .any, .any, .any, .any, .any, .any, .any, .any, .any, .any, .any, .any, .any, .any, .any, .any, .any, .any, .any, .any, .any, .any, .any, .any, .any, .any, .any, .any, .any, .any, .any, .any, .any, .any, .any, .any, .any, .any, .any, .any, .any, .any, .any, .any, .any, .any, .any, .any, .any, .any, .any, .any, .any, .any, .any, .any, .any, .any, .any, .any, .any, .any, .any, .any, .any, .any, .any, .any, .any, .any, .any, .any, .any, .any, .any, .any, .any, .any, .any, .any, .any, .any, .any, .any, .any, .any, .any, .any, .any, .any, .any, .any, .any, .any, .any, .any, .any, .any, .any, .any, .any, .any, .any, .any, .any, .any, .any]
def s_triuneref09_Check_O3 (x1 x2 x5 : DV) : List DV := [.any, x1, x2, .any, .any, x5, .any, .any, .any, .any, .any, .any, .any, .any, .any, .any, .any, .any, .any, .any, .any, .any, .any, .any, .any, .any, .any, .any, .any, .any, .any, .any, .any, .any, .any, .any, .any, .any, .any, .any, .any, .any, .any, .any, .any, .any, .any, .any, .any, .any, .any, .any, .any, .any, .any, .any, .any, .any, .any, .any, .any, .any, .any, .any, .any, .any, .any, .any, .any, .any, .any, .any, .any, .any, .any, .any, .any, .any, .any, .any, .any, .any, .any, .any, .any, .any, .any, .any, .any, .any, .any, .any, .any, .any, .any, .any, .any, .any, .any, .any, .any, .any, .any, .any, .any, .any, .any, .any, .any, .any, .any, .any, .any, .any]
noncomputable abbrev s_triuneref09_Check_b3 (n fl : Nat) : List DV → Heap → (Ex → KF) → R := execG ⟨Try.prog, callG Try.prog ENV n, ENV.md, fl, 114⟩ n (loopAt (bodyOf Try.f55) 3) []
noncomputable def s_triuneref09_Check_B3 (n fl : Nat) (rec : DV → DV → DV → Heap → R) (k : Ex → KF) (x1 x5 x6 : DV) (H : Heap) : R :=
  bi (ltK .i64 x6 x5) fun d0 =>
  condR d0 (
  bi (fieldD 10 1 x1) fun d1 =>
  bi (loadG false 1 d1 (H ++ [.hole])) fun d2 =>
  bi (idxSl 5 d2 x5) fun d3 =>
  bi (loadG true 5 d3 (H ++ [.hole])) fun d4 =>
  bi (allocG 87 (.agg [(I .i64 0), (I .i64 0), (I .i64 0), (I .i64 0), (I .i64 0)]) (List.length H) (H ++ [.hole])) fun h5 =>
  bi (storeG 5 (.ptr (List.length H) 0) d4 h5 fl) fun h6 =>
  bi (fieldD 10 1 x1) fun d7 =>
  bi (loadG false 1 d7 (h6 ++ [.hole])) fun d8 =>
  bi (idxSl 5 d8 x6) fun d9 =>
  bi (loadG true 5 d9 (h6 ++ [.hole])) fun d10 =>
  bi (allocG 87 (.agg [(I .i64 0), (I .i64 0), (I .i64 0), (I .i64 0), (I .i64 0)]) (List.length h6) (h6 ++ [.hole])) fun h11 =>
  bi (storeG 5 (.ptr (List.length h6) 0) d10 h11 fl) fun h12 =>
  bi (loadG false 1 (.ptr (List.length H) 0) h12) fun d13 =>
  bi (loadG false 1 (.ptr (List.length h6) 0) h12) fun d14 =>
  bi (eqK .i64 d13 d14) fun d15 =>
  bi (wantF d15 true (some (.ptr (List.length H) 1))) fun d16 =>
  bi (wantF d15 true (loadG false 1 d16 h12)) fun d17 =>
  bi (wantF d15 true (some (.ptr (List.length h6) 1))) fun d18 =>
  bi (wantF d15 true (loadG false 1 d18 h12)) fun d19 =>
  bi (wantF d15 true (eqK .i64 d17 d19)) fun d20 =>
  bi (wantF d15 true (some d20)) fun d21 =>
  bi (wantF d21 false (some (.ptr (List.length H) 2))) fun d22 =>
  bi (wantF d21 false (loadG false 1 d22 h12)) fun d23 =>
  bi (wantF d21 false (some (.ptr (List.length h6) 2))) fun d24 =>
  bi (wantF d21 false (loadG false 1 d24 h12)) fun d25 =>
  bi (wantF d21 false (eqK .i64 d23 d25)) fun d26 =>
  bi (wantF d15 true (pickD d21 (Bo true) d26)) fun d27 =>
  bi (pickD d15 d27 (Bo false)) fun d28 =>
  condR d28 (
  k .ret (s_triuneref09_Check_O3 x1 (I .i64 9) x5) h12) (
  bi (addK .i64 x6 (I .i64 1)) fun d29 =>
  rec x1 x5 d29 h12)) (
  k (.exit 6) (s_triuneref09_Check_O3 x1 .any x5) H)
noncomputable def s_triuneref09_Check_L3 (n fl : Nat) (k : Ex → KF) : Nat → DV → DV → DV → Heap → R
  | 0, _, _, _, _ => none
  | m + 1, x1, x5, x6, H => s_triuneref09_Check_B3 n fl (s_triuneref09_Check_L3 n fl k m) k x1 x5 x6 H
theorem s_triuneref09_Check_S3 (n fl m : Nat) (k : Ex → KF) (x1 x5 x6 : DV) (H : Heap) : loopG [1, 5, 6] [1, 2, 5] 114 (s_triuneref09_Check_b3 n fl) (m + 1) (s_triuneref09_Check_I3 x1 x5 x6) H k = s_triuneref09_Check_B3 n fl (fun x1 x5 x6 H => loopG [1, 5, 6] [1, 2, 5] 114 (s_triuneref09_Check_b3 n fl) m (s_triuneref09_Check_I3 x1 x5 x6) H k) k x1 x5 x6 H := by kernel_rfl
theorem s_triuneref09_Check_L3_eq (n fl : Nat) (k : Ex → KF) : ∀ (m : Nat) (x1 x5 x6 : DV) (H : Heap), loopG [1, 5, 6] [1, 2, 5] 114 (s_triuneref09_Check_b3 n fl) m (s_triuneref09_Check_I3 x1 x5 x6) H k = s_triuneref09_Check_L3 n fl k m x1 x5 x6 H := by
  intro m
  induction m with
  | zero => intros; rfl
  | succ m ih =>
    intro x1 x5 x6 H
    rw [s_triuneref09_Check_S3, show (fun x1 x5 x6 H => loopG [1, 5, 6] [1, 2, 5] 114 (s_triuneref09_Check_b3 n fl) m (s_triuneref09_Check_I3 x1 x5 x6) H k) = s_triuneref09_Check_L3 n fl k m from by funext x1 x5 x6 H; exact ih _ _ _ _]
    rw [s_triuneref09_Check_L3]
def s_triuneref09_Check_I2 (x1 x5 : DV) : List DV := [.any, x1, .any, .any, .any, x5, .any, .any, .any, .any, .any, .any, .any, .any, .any, .any, .any, .any, .any, .any, .any, .any, .any, .any, .any, .any, .any, .any, .any, .any, .any, .any, .any, .any, .any, .any, .any, .any, .any, .any, .any, .any, .any, .any, .any, .any, .any, .any, .any, .any, .any, .any, .any, .any, .any, .any, .any, .any, .any, .any, .any, .any, .any, .any, .any, .any, .any, .any, .any, .any, .any, .any, .any, .any, .any, .any, .any, .any, .any, .any, .any, .any, .any, .any, .any, .any, .any, .any, .any, .any, .any, .any, .any, .any, .any, .any, .any, .any, .any, .any, .any, .any, .any, .any, .any, .any, .any, .any, .any, .any, .any, .any, .any, .any]
def s_triuneref09_Check_O2 (x2 : DV) : List DV := [.any, .any, x2, .any, .any, .any, .any, .any, .any, .any, .any, .any, .any, .any, .any, .any, .any, .any, .any, .any, .any, .any, .any, .any, .any, .any, .any, .any, .any, .any, .any, .any, .any, .any, .any, .any, .any, .any, .any, .any, .any, .any, .any, .any, .any, .any, .any, .any, .any, .any, .any, .any, .any, .any, .any, .any, .any, .any, .any, .any, .any, .any, .any, .any, .any, .any, .any, .any, .any, .any, .any, .any, .any, .any, .any, .any, .any, .any, .any, .any, .any, .any, .any, .any, .any, .any, .any, .any, .any, .any, .any, .any, .any, .any, .any, .any, .any, .any, .any, .any, .any, .any, .any, .any, .any, .any, .any, .any, .any, .any, .any, .any, .any, .any]
noncomputable abbrev s_triuneref09_Check_b2 (n fl : Nat) : List DV → Heap → (Ex → KF) → R := execG ⟨Try.prog, callG Try.prog ENV n, ENV.md, fl, 114⟩ n (loopAt (bodyOf Try.f55) 2) [([1, 5, 6], [1, 2, 5])]
noncomputable def s_triuneref09_Check_B2 (n fl : Nat) (rec : DV → DV → Heap → R) (k : Ex → KF) (x1 x5 : DV) (H : Heap) : R :=
  bi (fieldD 10 1 x1) fun d0 =>
  bi (loadG false 1 d0 H) fun d1 =>
  bi (lenD d1) fun d2 =>
  bi (ltK .i64 x5 d2) fun d3 =>
  condR d3 (
  loopG [1, 5, 6] [1, 2, 5] 114 (s_triuneref09_Check_b3 n fl) n (s_triuneref09_Check_I3 x1 x5 (I .i64 0)) H fun x S4 h4 => match x with
  | .normal => none
  | .exit i4 => (
  if i4 = 6 then (
  bi (addK .i64 (S4.getD 5 .any) (I .i64 1)) fun d5 =>
  rec (S4.getD 1 .any) d5 h4) else (
  if i4 = 5 then (
  bi (addK .i64 (S4.getD 5 .any) (I .i64 1)) fun d6 =>
  rec (S4.getD 1 .any) d6 h4) else (
  k (.exit i4) (s_triuneref09_Check_O2 (S4.getD 2 .any)) h4)))
  | .ret => (
  k .ret (s_triuneref09_Check_O2 (S4.getD 2 .any)) h4)) (
  k (.exit 4) (s_triuneref09_Check_O2 .any) H)
noncomputable def s_triuneref09_Check_L2 (n fl : Nat) (k : Ex → KF) : Nat → DV → DV → Heap → R
  | 0, _, _, _ => none
  | m + 1, x1, x5, H => s_triuneref09_Check_B2 n fl (s_triuneref09_Check_L2 n fl k m) k x1 x5 H
theorem s_triuneref09_Check_S2 (n fl m : Nat) (k : Ex → KF) (x1 x5 : DV) (H : Heap) : loopG [1, 5] [2] 114 (s_triuneref09_Check_b2 n fl) (m + 1) (s_triuneref09_Check_I2 x1 x5) H k = s_triuneref09_Check_B2 n fl (fun x1 x5 H => loopG [1, 5] [2] 114 (s_triuneref09_Check_b2 n fl) m (s_triuneref09_Check_I2 x1 x5) H k) k x1 x5 H := by kernel_rfl
theorem s_triuneref09_Check_L2_eq (n fl : Nat) (k : Ex → KF) : ∀ (m : Nat) (x1 x5 : DV) (H : Heap), loopG [1, 5] [2] 114 (s_triuneref09_Check_b2 n fl) m (s_triuneref09_Check_I2 x1 x5) H k = s_triuneref09_Check_L2 n fl k m x1 x5 H := by
  intro m
  induction m with
  | zero => intros; rfl
  | succ m ih =>
    intro x1 x5 H
    rw [s_triuneref09_Check_S2, show (fun x1 x5 H => loopG [1, 5] [2] 114 (s_triuneref09_Check_b2 n fl) m (s_triuneref09_Check_I2 x1 x5) H k) = s_triuneref09_Check_L2 n fl k m from by funext x1 x5 H; exact ih _ _ _]
    rw [s_triuneref09_Check_L2]
def s_triuneref09_Check_I1 (x1 x4 : DV) : List DV := [.any, x1, .any, .any, x4, .any, .any, .any, .any, .any, .any, .any, .any, .any, .any, .any, .any, .any, .any, .any, .any, .any, .any, .any, .any, .any, .any, .any, .any, .any, .any, .any, .any, .any, .any, .any, .any, .any, .any, .any, .any, .any, .any, .any, .any, .any, .any, .any, .any, .any, .any, .any, .any, .any, .any, .any, .any, .any, .any, .any, .any, .any, .any, .any, .any, .any, .any, .any, .any, .any, .any, .any, .any, .any, .any, .any, .any, .any, .any, .any, .any, .any, .any, .any, .any, .any, .any, .any, .any, .any, .any, .any, .any, .any, .any, .any, .any, .any, .any, .any, .any, .any, .any, .any, .any, .any, .any, .any, .any, .any, .any, .any, .any, .any]
def s_triuneref09_Check_O1 (x1 x2 : DV) : List DV := [.any, x1, x2, .any, .any, .any, .any, .any, .any, .any, .any, .any, .any, .any, .any, .any, .any, .any, .any, .any, .any, .any, .any, .any, .any, .any, .any, .any, .any, .any, .any, .any, .any, .any, .any, .any, .any, .any, .any, .any, .any, .any, .any, .any, .any, .any, .any, .any, .any, .any, .any, .any, .any, .any, .any, .any, .any, .any, .any, .any, .any, .any, .any, .any, .any, .any, .any, .any, .any, .any, .any, .any, .any, .any, .any, .any, .any, .any, .any, .any, .any, .any, .any, .any, .any, .any, .any, .any, .any, .any, .any, .any, .any, .any, .any, .any, .any, .any, .any, .any, .any, .any, .any, .any, .any, .any, .any, .any, .any, .any, .any, .any, .any, .any]
noncomputable abbrev s_triuneref09_Check_b1 (n fl : Nat) : List DV → Heap → (Ex → KF) → R := execG ⟨Try.prog, callG Try.prog ENV n, ENV.md, fl, 114⟩ n (loopAt (bodyOf Try.f55) 1) []
noncomputable def s_triuneref09_Check_B1 (n fl : Nat) (rec : DV → DV → Heap → R) (k : Ex → KF) (x1 x4 : DV) (H : Heap) : R :=
  bi (fieldD 10 1 x1) fun d0 =>
  bi (loadG false 1 d0 H) fun d1 =>
  bi (lenD d1) fun d2 =>
  bi (ltK .i64 x4 d2) fun d3 =>
  condR d3 (
  bi (fieldD 10 1 x1) fun d4 =>
  bi (loadG false 1 d4 H) fun d5 =>
  bi (idxSl 5 d5 x4) fun d6 =>
  bi (loadG true 5 d6 H) fun d7 =>
  bi (cP n 94 false [d7]) fun d8 =>
  bi (notD d8) fun d9 =>
  condR d9 (
  k .ret (s_triuneref09_Check_O1 x1 (I .i64 1)) H) (
  bi (addK .i64 x4 (I .i64 1)) fun d10 =>
  rec x1 d10 H)) (
  k (.exit 2) (s_triuneref09_Check_O1 x1 .any) H)
noncomputable def s_triuneref09_Check_L1 (n fl : Nat) (k : Ex → KF) : Nat → DV → DV → Heap → R
  | 0, _, _, _ => none
  | m + 1, x1, x4, H => s_triuneref09_Check_B1 n fl (s_triuneref09_Check_L1 n fl k m) k x1 x4 H
theorem s_triuneref09_Check_S1 (n fl m : Nat) (k : Ex → KF) (x1 x4 : DV) (H : Heap) : loopG [1, 4] [1, 2] 114 (s_triuneref09_Check_b1 n fl) (m + 1) (s_triuneref09_Check_I1 x1 x4) H k = s_triuneref09_Check_B1 n fl (fun x1 x4 H => loopG [1, 4] [1, 2] 114 (s_triuneref09_Check_b1 n fl) m (s_triuneref09_Check_I1 x1 x4) H k) k x1 x4 H := by kernel_rfl
theorem s_triuneref09_Check_L1_eq (n fl : Nat) (k : Ex → KF) : ∀ (m : Nat) (x1 x4 : DV) (H : Heap), loopG [1, 4] [1, 2] 114 (s_triuneref09_Check_b1 n fl) m (s_triuneref09_Check_I1 x1 x4) H k = s_triuneref09_Check_L1 n fl k m x1 x4 H := by
  intro m
  induction m with
  | zero => intros; rfl
  | succ m ih =>
    intro x1 x4 H
    rw [s_triuneref09_Check_S1, show (fun x1 x4 H => loopG [1, 4] [1, 2] 114 (s_triuneref09_Check_b1 n fl) m (s_triuneref09_Check_I1 x1 x4) H k) = s_triuneref09_Check_L1 n fl k m from by funext x1 x4 H; exact ih _ _ _]
    rw [s_triuneref09_Check_L1]
def s_triuneref09_Check_I0 (x1 x3 : DV) : List DV := [.any, x1, .any, x3, .any, .any, .any, .any, .any, .any, .any, .any, .any, .any, .any, .any, .any, .any, .any, .any, .any, .any, .any, .any, .any, .any, .any, .any, .any, .any, .any, .any, .any, .any, .any, .any, .any, .any, .any, .any, .any, .any, .any, .any, .any, .any, .any, .any, .any, .any, .any, .any, .any, .any, .any, .any, .any, .any, .any, .any, .any, .any, .any, .any, .any, .any, .any, .any, .any, .any, .any, .any, .any, .any, .any, .any, .any, .any, .any, .any, .any, .any, .any, .any, .any, .any, .any, .any, .any, .any, .any, .any, .any, .any, .any, .any, .any, .any, .any, .any, .any, .any, .any, .any, .any, .any, .any, .any, .any, .any, .any, .any, .any, .any]
def s_triuneref09_Check_O0 (x1 x2 : DV) : List DV := [.any, x1, x2, .any, .any, .any, .any, .any, .any, .any, .any, .any, .any, .any, .any, .any, .any, .any, .any, .any, .any, .any, .any, .any, .any, .any, .any, .any, .any, .any, .any, .any, .any, .any, .any, .any, .any, .any, .any, .any, .any, .any, .any, .any, .any, .any, .any, .any, .any, .any, .any, .any, .any, .any, .any, .any, .any, .any, .any, .any, .any, .any, .any, .any, .any, .any, .any, .any, .any, .any, .any, .any, .any, .any, .any, .any, .any, .any, .any, .any, .any, .any, .any, .any, .any, .any, .any, .any, .any, .any, .any, .any, .any, .any, .any, .any, .any, .any, .any, .any, .any, .any, .any, .any, .any, .any, .any, .any, .any, .any, .any, .any, .any, .any]
noncomputable abbrev s_triuneref09_Check_b0 (n fl : Nat) : List DV → Heap → (Ex → KF) → R := execG ⟨Try.prog, callG Try.prog ENV n, ENV.md, fl, 114⟩ n (loopAt (bodyOf Try.f55) 0) []
noncomputable def s_triuneref09_Check_B0 (n fl : Nat) (rec : DV → DV → Heap → R) (k : Ex → KF) (x1 x3 : DV) (H : Heap) : R :=
  bi (ltK .i64 x3 (I .i64 3)) fun d0 =>
  condR d0 (
  bi (fieldD 0 3 x1) fun d1 =>
  bi (idxArr 3 1 d1 x3) fun d2 =>
  bi (loadG false 1 d2 H) fun d3 =>
  bi (cvK .i64 d3) fun d4 =>
  bi (cP n 93 false [d4, (I .i64 1), (I .i64 247)]) fun d5 =>
  bi (notD d5) fun d6 =>
  condR d6 (
  k .ret (s_triuneref09_Check_O0 x1 (I .i64 1)) H) (
  bi (addK .i64 x3 (I .i64 1)) fun d7 =>
  rec x1 d7 H)) (
  k (.exit 0) (s_triuneref09_Check_O0 x1 .any) H)
noncomputable def s_triuneref09_Check_L0 (n fl : Nat) (k : Ex → KF) : Nat → DV → DV → Heap → R
  | 0, _, _, _ => none
  | m + 1, x1, x3, H => s_triuneref09_Check_B0 n fl (s_triuneref09_Check_L0 n fl k m) k x1 x3 H
theorem s_triuneref09_Check_S0 (n fl m : Nat) (k : Ex → KF) (x1 x3 : DV) (H : Heap) : loopG [1, 3] [1, 2] 114 (s_triuneref09_Check_b0 n fl) (m + 1) (s_triuneref09_Check_I0 x1 x3) H k = s_triuneref09_Check_B0 n fl (fun x1 x3 H => loopG [1, 3] [1, 2] 114 (s_triuneref09_Check_b0 n fl) m (s_triuneref09_Check_I0 x1 x3) H k) k x1 x3 H := by kernel_rfl
theorem s_triuneref09_Check_L0_eq (n fl : Nat) (k : Ex → KF) : ∀ (m : Nat) (x1 x3 : DV) (H : Heap), loopG [1, 3] [1, 2] 114 (s_triuneref09_Check_b0 n fl) m (s_triuneref09_Check_I0 x1 x3) H k = s_triuneref09_Check_L0 n fl k m x1 x3 H := by
  intro m
  induction m with
  | zero => intros; rfl
  | succ m ih =>
    intro x1 x3 H
    rw [s_triuneref09_Check_S0, show (fun x1 x3 H => loopG [1, 3] [1, 2] 114 (s_triuneref09_Check_b0 n fl) m (s_triuneref09_Check_I0 x1 x3) H k) = s_triuneref09_Check_L0 n fl k m from by funext x1 x3 H; exact ih _ _ _]
    rw [s_triuneref09_Check_L0]
noncomputable def s_triuneref09_Check (n : Nat) (H : Heap) (fl : Nat) (a0 : DV) : R :=
  bi (allocG 131 a0 (List.length H) (H ++ [.hole])) fun h0 =>
  bi (loadG false 1 (.ptr (List.length H) 10) h0) fun d1 =>
  bi (lenD d1) fun d2 =>
  bi (cP n 93 false [d2, (I .i64 1), (I .i64 48)]) fun d3 =>
  bi (notD d3) fun d4 =>
  condR d4 (
  some ((I .i64 4), h0)) (
  loopG [1, 3] [1, 2] 114 (s_triuneref09_Check_b0 n fl) n (s_triuneref09_Check_I0 (.ptr (List.length H) 0) (I .i64 0)) h0 fun x S5 h5 => match x with
  | .normal => none
  | .exit i5 => (
  if i5 = 0 then (
  bi (fieldD 3 1 (S5.getD 1 .any)) fun d6 =>
  bi (loadG false 1 d6 h5) fun d7 =>
  bi (cP n 93 false [d7, (I .i64 1), (I .i64 20)]) fun d8 =>
  bi (notD d8) fun d9 =>
  bi (wantF d9 false (fieldD 4 1 (S5.getD 1 .any))) fun d10 =>
  bi (wantF d9 false (loadG false 1 d10 h5)) fun d11 =>
  bi (wantF d9 false (cP n 93 false [d11, (I .i64 1), (I .i64 1000)])) fun d12 =>
  bi (wantF d9 false (notD d12)) fun d13 =>
  bi (pickD d9 (Bo true) d13) fun d14 =>
  bi (wantF d14 false (fieldD 5 1 (S5.getD 1 .any))) fun d15 =>
  bi (wantF d14 false (loadG false 1 d15 h5)) fun d16 =>
  bi (wantF d14 false (cP n 93 false [d16, (I .i64 1), (I .i64 5)])) fun d17 =>
  bi (wantF d14 false (notD d17)) fun d18 =>
  bi (pickD d14 (Bo true) d18) fun d19 =>
  bi (wantF d19 false (fieldD 6 1 (S5.getD 1 .any))) fun d20 =>
  bi (wantF d19 false (loadG false 1 d20 h5)) fun d21 =>
  bi (wantF d19 false (cP n 93 false [d21, (I .i64 1), (I .i64 20)])) fun d22 =>
  bi (wantF d19 false (notD d22)) fun d23 =>
  bi (pickD d19 (Bo true) d23) fun d24 =>
  bi (wantF d24 false (fieldD 7 1 (S5.getD 1 .any))) fun d25 =>
  bi (wantF d24 false (loadG false 1 d25 h5)) fun d26 =>
  bi (wantF d24 false (cP n 93 false [d26, (I .i64 1), (I .i64 8)])) fun d27 =>
  bi (wantF d24 false (notD d27)) fun d28 =>
  bi (pickD d24 (Bo true) d28) fun d29 =>
  bi (wantF d29 false (fieldD 8 1 (S5.getD 1 .any))) fun d30 =>
  bi (wantF d29 false (loadG false 1 d30 h5)) fun d31 =>
  bi (wantF d29 false (cP n 93 false [d31, (I .i64 1), (I .i64 65535)])) fun d32 =>
  bi (wantF d29 false (notD d32)) fun d33 =>
  bi (pickD d29 (Bo true) d33) fun d34 =>
  condR d34 (
  some ((I .i64 1), h5)) (
  loopG [1, 4] [1, 2] 114 (s_triuneref09_Check_b1 n fl) n (s_triuneref09_Check_I1 (S5.getD 1 .any) (I .i64 0)) h5 fun x S35 h35 => match x with
  | .normal => none
  | .exit i35 => (
  if i35 = 2 then (
  loopG [1, 5] [2] 114 (s_triuneref09_Check_b2 n fl) n (s_triuneref09_Check_I2 (S35.getD 1 .any) (I .i64 0)) h35 fun x S36 h36 => match x with
  | .normal => none
  | .exit i36 => (
  if i36 = 4 then (
  some ((I .i64 0), h36)) else (
  none))
  | .ret => (
  some ((S36.getD 2 .any), h36))) else (
  none))
  | .ret => (
  some ((S35.getD 2 .any), h35)))) else (
  none))
  | .ret => (
  some ((S5.getD 2 .any), h5)))
theorem s_triuneref09_Check_eq (n : Nat) (H : Heap) (fl : Nat) (a0 : DV) : callG Try.prog ENV (n + 1) 55 [a0] H fl = s_triuneref09_Check n H fl a0 := by kernel_rfl

/-! triune/triunelaw10.May -/
noncomputable def s_triunelaw10_May (n : Nat) (H : Heap) (fl : Nat) (a0 : DV) : R :=
  bi (lenD a0) fun d0 =>
  bi (leK .i64 d0 (I .i64 48)) fun d1 =>
  bi (wantF d1 true (buildA (.agg [(I .u8 0), (I .u8 0), (I .u8 0)]) 1 [(0, (I .u8 1)), (1, (I .u8 1)), (2, (I .u8 1))])) fun d2 =>
  bi (wantF d1 true (some a0)) fun d3 =>
  bi (wantF d1 true (buildS (.agg [(I .u8 0), (I .u8 0), (I .u8 0), (I .i64 0), (I .i64 0), (I .i64 0), (I .i64 0), (I .i64 0), (I .i64 0), (I .u16 0), (.list 0 [] .ti)]) [(0, 3), (3, 1), (4, 1), (5, 1), (6, 1), (7, 1), (8, 1), (9, 1), (10, 1)] [(0, d2), (1, (I .i64 1)), (2, (I .i64 1)), (3, (I .i64 1)), (4, (I .i64 1)), (5, (I .i64 1)), (6, (I .i64 1)), (8, d3)])) fun d4 =>
  bi (wantF d1 true (cP n 55 false [d4])) fun d5 =>
  bi (wantF d1 true (eqK .i64 d5 (I .i64 0))) fun d6 =>
  bi (pickD d1 d6 (Bo false)) fun d7 =>
  some (d7, H)
theorem s_triunelaw10_May_eq (n : Nat) (H : Heap) (fl : Nat) (a0 : DV) : callG Try.prog ENV (n + 1) 24 [a0] H fl = s_triunelaw10_May n H fl a0 := by kernel_rfl

end Go.Proofs.Ytbhnkdnfmlnajaa

/- Points, as they are told. -/
namespace Go.Proofs.Ytbhnkdnfmlnajaa
open Go
set_option linter.unusedSimpArgs false
set_option linter.unusedVariables false
structure Pt where
  kind : Int
  addr : Int
  at_ : Int
  band : Int
  safe : Int
  deriving DecidableEq
def ptE (p : Pt) : DV := .agg [I .i64 p.kind, I .i64 p.addr, I .i64 p.at_, I .i64 p.band, I .i64 p.safe]
theorem ptE_cells (p : Pt) : (ptE p).cells = [I .i64 p.kind, I .i64 p.addr, I .i64 p.at_, I .i64 p.band, I .i64 p.safe] := rfl
/-- the first place, from i on, at which something is so; -1: there is none -/
def findI (q : Pt → Bool) : List Pt → Int → Int
  | [], _ => -1
  | p :: l, i => if q p = true then i else findI q l (i + 1)
theorem findI_range (q : Pt → Bool) : ∀ (l : List Pt) (i : Int), 0 ≤ i → findI q l i = -1 ∨ (i ≤ findI q l i ∧ findI q l i < i + l.length)
  | [], i, h => .inl rfl
  | p :: l, i, h => by
    unfold findI
    split
    · exact .inr ⟨Int.le_refl _, by simp; omega⟩
    · rcases findI_range q l (i + 1) (by omega) with h2 | ⟨h2, h3⟩
      · exact .inl h2
      · exact .inr ⟨by omega, by simp only [List.length_cons]; omega⟩
def isPt (kind at_ : Int) (p : Pt) : Bool := decide (p.kind = kind ∧ p.at_ = at_)
def findP (l : List Pt) (kind at_ : Int) : Int := findI (isPt kind at_) l 0
theorem findP_range (l : List Pt) (kind at_ : Int) : findP l kind at_ = -1 ∨ (0 ≤ findP l kind at_ ∧ findP l kind at_ < l.length) := by
  rcases findI_range (isPt kind at_) l 0 (by omega) with h | ⟨h, h2⟩
  · exact .inl h
  · exact .inr ⟨h, by unfold findP; omega⟩
theorem findI_none (q : Pt → Bool) : ∀ (l : List Pt) (i : Int), (∀ p ∈ l, q p = false) → findI q l i = -1
  | [], _, _ => rfl
  | p :: l, i, h => by unfold findI; rw [if_neg (by rw [h p (by simp)]; decide)]; exact findI_none q l (i + 1) (fun p hp => h p (by simp [hp]))
theorem findP_none (l : List Pt) (kind at_ : Int) (h : ∀ p ∈ l, p.at_ ≠ at_) : findP l kind at_ = -1 :=
  findI_none _ l 0 fun p hp => by unfold isPt; exact decide_eq_false fun hh => h p hp hh.2
/-- what is found is so -/
theorem findI_get (q : Pt → Bool) : ∀ (l : List Pt) (i : Int) (k : Nat), 0 ≤ i → findI q l i = i + k → ∃ h : k < l.length, q l[k] = true
  | [], i, k, h0, h => by unfold findI at h; omega
  | p :: l, i, k, h0, h => by
    unfold findI at h
    split at h
    · rename_i hq
      have : k = 0 := by omega
      subst this
      exact ⟨by simp, hq⟩
    · rename_i hq
      cases k with
      | zero => rcases findI_range q l (i + 1) (by omega) with h2 | ⟨h2, _⟩ <;> omega
      | succ k =>
        obtain ⟨h1, h2⟩ := findI_get q l (i + 1) k (by omega) (by omega)
        exact ⟨by simpa using h1, by simpa using h2⟩
theorem findI_first (q : Pt → Bool) : ∀ (l : List Pt) (i : Int) (k : Nat) (h : k < l.length), q l[k] = true → (∀ j (hj : j < k), q l[j] = false) → findI q l i = i + k
  | [], i, k, h, _, _ => by simp at h
  | p :: l, i, 0, h, h1, _ => by unfold findI; rw [if_pos (by simpa using h1)]; simp
  | p :: l, i, k + 1, h, h1, h2 => by
    unfold findI
    rw [if_neg (by have := h2 0 (by omega); simp at this; rw [this]; decide), findI_first q l (i + 1) k (by simpa using h) (by simpa using h1) (fun j hj => by have := h2 (j + 1) (by omega); simpa using this)]
    omega
end Go.Proofs.Ytbhnkdnfmlnajaa

/- Points that may be in a configuration: the reference's answer. -/
namespace Go.Proofs.Ytbhnkdnfmlnajaa
open Go
set_option linter.unusedSimpArgs false
set_option linter.unusedVariables false
theorem idxArr_k (len sz k off : Nat) (i : Int) (h : 0 ≤ i ∧ i < len) : idxArr len sz (.ptr k off) (I .i64 i) = some (.ptr k (off + i.toNat * sz)) := by
  show (if 0 ≤ i ∧ i < (len : Int) then some (DV.ptr k (off + i.toNat * sz)) else none) = _
  rw [if_pos h]
theorem ref09_in_c (n : Nat) (a b c : Int) (hn : 1 ≤ n) : cP n 93 false [I .i64 a, I .i64 b, I .i64 c] = some (Bo (decide (b ≤ a ∧ a ≤ c))) := by
  obtain ⟨n, rfl⟩ : ∃ m, n = m + 1 := ⟨n - 1, by omega⟩
  by_cases c1 : b ≤ a
  · by_cases c2 : a ≤ c
    · exact cP_of (args' := [I .i64 a, I .i64 b, I .i64 c]) (by simp [argEl_eq]) ((s_triuneref09_in_eq _ _ _ _ _ _).trans (by unfold s_triuneref09_in; simp -implicitDefEqProofs (disch := first | omega | (simp only [List.length_set, List.length_append, List.length_cons, List.length_nil, List.length_take, List.length_drop, List.length_map]; omega) | simp) [wrap_i64, wrap_u16_id, wrap_u8_id, tdiv_pos, tmod_pos, -getElem?_pos, -getElem?_neg, -List.length_eq_zero_iff, -List.getElem_cons_drop, c1, c2]; first | exact rfl | exact ⟨rfl, rfl⟩)) (by simp [c1, c2])
    · exact cP_of (args' := [I .i64 a, I .i64 b, I .i64 c]) (by simp [argEl_eq]) ((s_triuneref09_in_eq _ _ _ _ _ _).trans (by unfold s_triuneref09_in; simp -implicitDefEqProofs (disch := first | omega | (simp only [List.length_set, List.length_append, List.length_cons, List.length_nil, List.length_take, List.length_drop, List.length_map]; omega) | simp) [wrap_i64, wrap_u16_id, wrap_u8_id, tdiv_pos, tmod_pos, -getElem?_pos, -getElem?_neg, -List.length_eq_zero_iff, -List.getElem_cons_drop, c1, c2]; first | exact rfl | exact ⟨rfl, rfl⟩)) (by simp [c1, c2])
  · exact cP_of (args' := [I .i64 a, I .i64 b, I .i64 c]) (by simp [argEl_eq]) ((s_triuneref09_in_eq _ _ _ _ _ _).trans (by unfold s_triuneref09_in; simp -implicitDefEqProofs (disch := first | omega | (simp only [List.length_set, List.length_append, List.length_cons, List.length_nil, List.length_take, List.length_drop, List.length_map]; omega) | simp) [wrap_i64, wrap_u16_id, wrap_u8_id, tdiv_pos, tmod_pos, -getElem?_pos, -getElem?_neg, -List.length_eq_zero_iff, -List.getElem_cons_drop, c1]; first | exact rfl | exact ⟨rfl, rfl⟩)) (by simp [c1])
def PtMay (p : Pt) : Prop := (0 ≤ p.kind ∧ p.kind ≤ 3) ∧ (0 ≤ p.addr ∧ p.addr ≤ 65535) ∧ (0 ≤ p.at_ ∧ p.at_ ≤ 899) ∧ 0 ≤ p.band
theorem ref09_may_c (n : Nat) (p : Pt) (hn : 2 ≤ n) : ∃ b, cP n 94 false [ptE p] = some (Bo b) ∧ (b = true → PtMay p) := by
  obtain ⟨n, rfl⟩ : ∃ m, n = m + 1 := ⟨n - 1, by omega⟩
  have q := fun a b c => ref09_in_c n a b c (by omega)
  obtain ⟨kind, addr, at_, band, safe⟩ := p
  by_cases c1 : 0 ≤ kind ∧ kind ≤ 3
  · by_cases c2 : 0 ≤ addr ∧ addr ≤ 65535
    · by_cases c3 : 0 ≤ at_ ∧ at_ ≤ 899
      · by_cases c4 : kind ≤ 1
        · by_cases c5 : 0 ≤ band ∧ band ≤ 65535
          · exact ⟨decide (0 ≤ safe ∧ safe ≤ 65535), cP_of (args' := [ptE ⟨kind, addr, at_, band, safe⟩]) (by simp [argEl_eq, ptE]) ((s_triuneref09_may_eq _ _ _ _).trans (by unfold s_triuneref09_may ptE; simp -implicitDefEqProofs (disch := first | omega | (simp only [List.length_set, List.length_append, List.length_cons, List.length_nil, List.length_take, List.length_drop, List.length_map]; omega) | simp) [wrap_i64, wrap_u16_id, wrap_u8_id, tdiv_pos, tmod_pos, -getElem?_pos, -getElem?_neg, -List.length_eq_zero_iff, -List.getElem_cons_drop, q, c1, c2, c3, c4, c5]; first | exact rfl | exact ⟨rfl, rfl⟩)) (by simp), fun _ => ⟨c1, c2, c3, by simp only; omega⟩⟩
          · exact ⟨false, cP_of (args' := [ptE ⟨kind, addr, at_, band, safe⟩]) (by simp [argEl_eq, ptE]) ((s_triuneref09_may_eq _ _ _ _).trans (by unfold s_triuneref09_may ptE; simp -implicitDefEqProofs (disch := first | omega | (simp only [List.length_set, List.length_append, List.length_cons, List.length_nil, List.length_take, List.length_drop, List.length_map]; omega) | simp) [wrap_i64, wrap_u16_id, wrap_u8_id, tdiv_pos, tmod_pos, -getElem?_pos, -getElem?_neg, -List.length_eq_zero_iff, -List.getElem_cons_drop, q, c1, c2, c3, c4, c5]; first | exact rfl | exact ⟨rfl, rfl⟩)) (by simp), fun h => by cases h⟩
        · by_cases c5 : band = 0
          · exact ⟨decide (0 ≤ safe ∧ safe ≤ 1), cP_of (args' := [ptE ⟨kind, addr, at_, band, safe⟩]) (by simp [argEl_eq, ptE]) ((s_triuneref09_may_eq _ _ _ _).trans (by unfold s_triuneref09_may ptE; simp -implicitDefEqProofs (disch := first | omega | (simp only [List.length_set, List.length_append, List.length_cons, List.length_nil, List.length_take, List.length_drop, List.length_map]; omega) | simp) [wrap_i64, wrap_u16_id, wrap_u8_id, tdiv_pos, tmod_pos, -getElem?_pos, -getElem?_neg, -List.length_eq_zero_iff, -List.getElem_cons_drop, q, c1, c2, c3, c4, c5]; first | exact rfl | exact ⟨rfl, rfl⟩)) (by simp), fun _ => ⟨c1, c2, c3, by simp only; omega⟩⟩
          · exact ⟨false, cP_of (args' := [ptE ⟨kind, addr, at_, band, safe⟩]) (by simp [argEl_eq, ptE]) ((s_triuneref09_may_eq _ _ _ _).trans (by unfold s_triuneref09_may ptE; simp -implicitDefEqProofs (disch := first | omega | (simp only [List.length_set, List.length_append, List.length_cons, List.length_nil, List.length_take, List.length_drop, List.length_map]; omega) | simp) [wrap_i64, wrap_u16_id, wrap_u8_id, tdiv_pos, tmod_pos, -getElem?_pos, -getElem?_neg, -List.length_eq_zero_iff, -List.getElem_cons_drop, q, c1, c2, c3, c4, c5]; first | exact rfl | exact ⟨rfl, rfl⟩)) (by simp), fun h => by cases h⟩
      · exact ⟨false, cP_of (args' := [ptE ⟨kind, addr, at_, band, safe⟩]) (by simp [argEl_eq, ptE]) ((s_triuneref09_may_eq _ _ _ _).trans (by unfold s_triuneref09_may ptE; simp -implicitDefEqProofs (disch := first | omega | (simp only [List.length_set, List.length_append, List.length_cons, List.length_nil, List.length_take, List.length_drop, List.length_map]; omega) | simp) [wrap_i64, wrap_u16_id, wrap_u8_id, tdiv_pos, tmod_pos, -getElem?_pos, -getElem?_neg, -List.length_eq_zero_iff, -List.getElem_cons_drop, q, c1, c2, c3]; first | exact rfl | exact ⟨rfl, rfl⟩)) (by simp), fun h => by cases h⟩
    · exact ⟨false, cP_of (args' := [ptE ⟨kind, addr, at_, band, safe⟩]) (by simp [argEl_eq, ptE]) ((s_triuneref09_may_eq _ _ _ _).trans (by unfold s_triuneref09_may ptE; simp -implicitDefEqProofs (disch := first | omega | (simp only [List.length_set, List.length_append, List.length_cons, List.length_nil, List.length_take, List.length_drop, List.length_map]; omega) | simp) [wrap_i64, wrap_u16_id, wrap_u8_id, tdiv_pos, tmod_pos, -getElem?_pos, -getElem?_neg, -List.length_eq_zero_iff, -List.getElem_cons_drop, q, c1, c2]; first | exact rfl | exact ⟨rfl, rfl⟩)) (by simp), fun h => by cases h⟩
  · exact ⟨false, cP_of (args' := [ptE ⟨kind, addr, at_, band, safe⟩]) (by simp [argEl_eq, ptE]) ((s_triuneref09_may_eq _ _ _ _).trans (by unfold s_triuneref09_may ptE; simp -implicitDefEqProofs (disch := first | omega | (simp only [List.length_set, List.length_append, List.length_cons, List.length_nil, List.length_take, List.length_drop, List.length_map]; omega) | simp) [wrap_i64, wrap_u16_id, wrap_u8_id, tdiv_pos, tmod_pos, -getElem?_pos, -getElem?_neg, -List.length_eq_zero_iff, -List.getElem_cons_drop, q, c1]; first | exact rfl | exact ⟨rfl, rfl⟩)) (by simp), fun h => by cases h⟩
def Apart (p q : Pt) : Prop := ¬ (p.kind = q.kind ∧ (p.addr = q.addr ∨ p.at_ = q.at_))
def PtsOk (l : List Pt) : Prop := (1 ≤ l.length ∧ l.length ≤ 48) ∧ (∀ p ∈ l, PtMay p) ∧ (∀ i k (hi : i < l.length) (hk : k < i), Apart l[i] l[k])
def cfgC (l : List Pt) : List DV := [I .u8 1, I .u8 1, I .u8 1, I .i64 1, I .i64 1, I .i64 1, I .i64 1, I .i64 1, I .i64 1, I .u16 0, LV 5 ptE l .sh]
theorem chk_L0 (n fl : Nat) (hn : 1 ≤ n) (a : Nat) (l : List Pt) : ∀ (m i : Nat) (H : Heap), 3 < m + i → i ≤ 3 → H[a]? = some (.cells 131 (cfgC l)) →
    ∀ K, s_triuneref09_Check_L0 n fl K m (.ptr a 0) (I .i64 i) H = K (.exit 0) (s_triuneref09_Check_O0 (.ptr a 0) .any) H := by
  intro m
  induction m with
  | zero => intro i H h; omega
  | succ m ih =>
    intro i H hm hi hc K
    unfold s_triuneref09_Check_L0 s_triuneref09_Check_B0
    have q := fun a b c => ref09_in_c n a b c hn
    unfold cfgC at hc ih
    by_cases h : i < 3
    · rcases (by omega : i = 0 ∨ i = 1 ∨ i = 2) with rfl | rfl | rfl
      · have ih' : s_triuneref09_Check_L0 n fl K m (.ptr a 0) (I .i64 1) H = _ := ih 1 H (by omega) (by omega) hc K
        simp -implicitDefEqProofs (disch := first | omega | (simp only [List.length_set, List.length_append, List.length_cons, List.length_nil, List.length_take, List.length_drop, List.length_map]; omega) | simp) [wrap_i64, wrap_u16_id, wrap_u8_id, tdiv_pos, tmod_pos, -getElem?_pos, -getElem?_neg, -List.length_eq_zero_iff, -List.getElem_cons_drop, hc, q, ih', idxArr_k]
      · have ih' : s_triuneref09_Check_L0 n fl K m (.ptr a 0) (I .i64 2) H = _ := ih 2 H (by omega) (by omega) hc K
        simp -implicitDefEqProofs (disch := first | omega | (simp only [List.length_set, List.length_append, List.length_cons, List.length_nil, List.length_take, List.length_drop, List.length_map]; omega) | simp) [wrap_i64, wrap_u16_id, wrap_u8_id, tdiv_pos, tmod_pos, -getElem?_pos, -getElem?_neg, -List.length_eq_zero_iff, -List.getElem_cons_drop, hc, q, ih', idxArr_k]
      · have ih' : s_triuneref09_Check_L0 n fl K m (.ptr a 0) (I .i64 3) H = _ := ih 3 H (by omega) (by omega) hc K
        simp -implicitDefEqProofs (disch := first | omega | (simp only [List.length_set, List.length_append, List.length_cons, List.length_nil, List.length_take, List.length_drop, List.length_map]; omega) | simp) [wrap_i64, wrap_u16_id, wrap_u8_id, tdiv_pos, tmod_pos, -getElem?_pos, -getElem?_neg, -List.length_eq_zero_iff, -List.getElem_cons_drop, hc, q, ih', idxArr_k]
    · have : i = 3 := by omega
      subst this
      simp -implicitDefEqProofs (disch := first | omega | (simp only [List.length_set, List.length_append, List.length_cons, List.length_nil, List.length_take, List.length_drop, List.length_map]; omega) | simp) [wrap_i64, wrap_u16_id, wrap_u8_id, tdiv_pos, tmod_pos, -getElem?_pos, -getElem?_neg, -List.length_eq_zero_iff, -List.getElem_cons_drop]
theorem chk_L1 (n fl : Nat) (hn : 3 ≤ n) (a : Nat) (l : List Pt) (hl : l.length ≤ 48) : ∀ (m i : Nat) (H : Heap), l.length < m + i → i ≤ l.length → H[a]? = some (.cells 131 (cfgC l)) → (∀ p ∈ l.take i, PtMay p) →
    (∀ K, s_triuneref09_Check_L1 n fl K m (.ptr a 0) (I .i64 i) H = K .ret (s_triuneref09_Check_O1 (.ptr a 0) (I .i64 1)) H) ∨
    ((∀ K, s_triuneref09_Check_L1 n fl K m (.ptr a 0) (I .i64 i) H = K (.exit 2) (s_triuneref09_Check_O1 (.ptr a 0) .any) H) ∧ ∀ p ∈ l, PtMay p) := by
  intro m
  induction m with
  | zero => intro i H h; omega
  | succ m ih =>
    intro i H hm hi hc hp
    unfold cfgC at hc ih
    by_cases h : i < l.length
    · obtain ⟨b, hb, hb2⟩ := ref09_may_c n l[i] (by omega)
      cases b with
      | false => exact .inl fun K => by unfold s_triuneref09_Check_L1 s_triuneref09_Check_B1; unfold ptE at hb; simp -implicitDefEqProofs (disch := first | omega | (simp only [List.length_set, List.length_append, List.length_cons, List.length_nil, List.length_take, List.length_drop, List.length_map]; omega) | simp) [wrap_i64, wrap_u16_id, wrap_u8_id, tdiv_pos, tmod_pos, -getElem?_pos, -getElem?_neg, -List.length_eq_zero_iff, -List.getElem_cons_drop, h, hc, ptE_cells, hb]
      | true =>
        have hi2 : ((i + 1 : Nat) : Int) = (i : Int) + 1 := by omega
        have hp2 : ∀ p ∈ l.take (i + 1), PtMay p := by
          intro p hp3
          rw [List.take_succ_eq_append_getElem h] at hp3
          rcases List.mem_append.mp hp3 with h3 | h3
          · exact hp p h3
          · simp at h3; rw [h3]; exact hb2 rfl
        have ih' := ih (i + 1) H (by omega) (by omega) hc hp2
        rw [hi2] at ih'
        unfold ptE at hb
        rcases ih' with q | ⟨q, q2⟩
        · exact .inl fun K => by unfold s_triuneref09_Check_L1 s_triuneref09_Check_B1; simp -implicitDefEqProofs (disch := first | omega | (simp only [List.length_set, List.length_append, List.length_cons, List.length_nil, List.length_take, List.length_drop, List.length_map]; omega) | simp) [wrap_i64, wrap_u16_id, wrap_u8_id, tdiv_pos, tmod_pos, -getElem?_pos, -getElem?_neg, -List.length_eq_zero_iff, -List.getElem_cons_drop, h, hc, ptE_cells, hb, q]
        · exact .inr ⟨fun K => by unfold s_triuneref09_Check_L1 s_triuneref09_Check_B1; simp -implicitDefEqProofs (disch := first | omega | (simp only [List.length_set, List.length_append, List.length_cons, List.length_nil, List.length_take, List.length_drop, List.length_map]; omega) | simp) [wrap_i64, wrap_u16_id, wrap_u8_id, tdiv_pos, tmod_pos, -getElem?_pos, -getElem?_neg, -List.length_eq_zero_iff, -List.getElem_cons_drop, h, hc, ptE_cells, hb, q], q2⟩
    · have : i = l.length := by omega
      subst this
      rw [List.take_length] at hp
      exact .inr ⟨fun K => by unfold s_triuneref09_Check_L1 s_triuneref09_Check_B1; simp -implicitDefEqProofs (disch := first | omega | (simp only [List.length_set, List.length_append, List.length_cons, List.length_nil, List.length_take, List.length_drop, List.length_map]; omega) | simp) [wrap_i64, wrap_u16_id, wrap_u8_id, tdiv_pos, tmod_pos, -getElem?_pos, -getElem?_neg, -List.length_eq_zero_iff, -List.getElem_cons_drop, hc], hp⟩
theorem chk_L3 (n fl : Nat) (hn : 3 ≤ n) (a : Nat) (l : List Pt) (hl : l.length ≤ 48) (i : Nat) (hi : i < l.length) : ∀ (m k : Nat) (H : Heap), i < m + k → k ≤ i → H[a]? = some (.cells 131 (cfgC l)) → fl ≤ H.length → (∀ j (hj : j < k) (hjl : j < l.length), Apart l[i] l[j]) →
    (∃ H', ∀ K, s_triuneref09_Check_L3 n fl K m (.ptr a 0) (I .i64 i) (I .i64 k) H = K .ret (s_triuneref09_Check_O3 (.ptr a 0) (I .i64 9) (I .i64 i)) H') ∨
    (∃ H', (∀ K, s_triuneref09_Check_L3 n fl K m (.ptr a 0) (I .i64 i) (I .i64 k) H = K (.exit 6) (s_triuneref09_Check_O3 (.ptr a 0) .any (I .i64 i)) H') ∧ H'[a]? = some (.cells 131 (cfgC l)) ∧ fl ≤ H'.length ∧ ∀ j (hj : j < i) (hjl : j < l.length), Apart l[i] l[j]) := by
  intro m
  induction m with
  | zero => intro k H h; omega
  | succ m ih =>
    intro k H hm hk hc hfl hp
    have hal := hp_lt hc
    by_cases h : k < i
    · have hkl : k < l.length := by omega
      by_cases c : Apart l[i] l[k]
      · have ih' := ih (k + 1) (H ++ [.cells 87 [I .i64 l[i].kind, I .i64 l[i].addr, I .i64 l[i].at_, I .i64 l[i].band, I .i64 l[i].safe], .cells 87 [I .i64 l[k].kind, I .i64 l[k].addr, I .i64 l[k].at_, I .i64 l[k].band, I .i64 l[k].safe]]) (by omega) (by omega) (by rw [hp_get_left _ _ _ hal]; exact hc) (by simp; omega) (by
          intro j hj hjl
          rcases Nat.lt_succ_iff_lt_or_eq.mp hj with h3 | rfl
          · exact hp j h3 hjl
          · exact c)
        have hi2 : ((k + 1 : Nat) : Int) = (k : Int) + 1 := by omega
        rw [hi2] at ih'
        unfold cfgC at hc ih'
        unfold Apart at c
        by_cases c1 : l[i].kind = l[k].kind
        · have c2 : ¬ l[i].addr = l[k].addr := fun e => c ⟨c1, .inl e⟩
          have c3 : ¬ l[i].at_ = l[k].at_ := fun e => c ⟨c1, .inr e⟩
          rw [c1] at ih'
          rcases ih' with ⟨H', q⟩ | ⟨H', q, q2⟩
          · exact .inl ⟨H', fun K => by unfold s_triuneref09_Check_L3 s_triuneref09_Check_B3; simp -implicitDefEqProofs (disch := first | omega | (simp only [List.length_set, List.length_append, List.length_cons, List.length_nil, List.length_take, List.length_drop, List.length_map]; omega) | simp) [wrap_i64, wrap_u16_id, wrap_u8_id, tdiv_pos, tmod_pos, -getElem?_pos, -getElem?_neg, -List.length_eq_zero_iff, -List.getElem_cons_drop, h, hkl, hi, hc, ptE_cells, c1, c2, c3, q]⟩
          · exact .inr ⟨H', fun K => by unfold s_triuneref09_Check_L3 s_triuneref09_Check_B3; simp -implicitDefEqProofs (disch := first | omega | (simp only [List.length_set, List.length_append, List.length_cons, List.length_nil, List.length_take, List.length_drop, List.length_map]; omega) | simp) [wrap_i64, wrap_u16_id, wrap_u8_id, tdiv_pos, tmod_pos, -getElem?_pos, -getElem?_neg, -List.length_eq_zero_iff, -List.getElem_cons_drop, h, hkl, hi, hc, ptE_cells, c1, c2, c3, q], q2⟩
        · rcases ih' with ⟨H', q⟩ | ⟨H', q, q2⟩
          · exact .inl ⟨H', fun K => by unfold s_triuneref09_Check_L3 s_triuneref09_Check_B3; simp -implicitDefEqProofs (disch := first | omega | (simp only [List.length_set, List.length_append, List.length_cons, List.length_nil, List.length_take, List.length_drop, List.length_map]; omega) | simp) [wrap_i64, wrap_u16_id, wrap_u8_id, tdiv_pos, tmod_pos, -getElem?_pos, -getElem?_neg, -List.length_eq_zero_iff, -List.getElem_cons_drop, h, hkl, hi, hc, ptE_cells, c1, q]⟩
          · exact .inr ⟨H', fun K => by unfold s_triuneref09_Check_L3 s_triuneref09_Check_B3; simp -implicitDefEqProofs (disch := first | omega | (simp only [List.length_set, List.length_append, List.length_cons, List.length_nil, List.length_take, List.length_drop, List.length_map]; omega) | simp) [wrap_i64, wrap_u16_id, wrap_u8_id, tdiv_pos, tmod_pos, -getElem?_pos, -getElem?_neg, -List.length_eq_zero_iff, -List.getElem_cons_drop, h, hkl, hi, hc, ptE_cells, c1, q], q2⟩
      · have c1 : l[i].kind = l[k].kind := Classical.byContradiction fun e => c fun h => e h.1
        unfold cfgC at hc
        by_cases c2 : l[i].addr = l[k].addr
        · exact .inl ⟨_, fun K => by unfold s_triuneref09_Check_L3 s_triuneref09_Check_B3; simp -implicitDefEqProofs (disch := first | omega | (simp only [List.length_set, List.length_append, List.length_cons, List.length_nil, List.length_take, List.length_drop, List.length_map]; omega) | simp) [wrap_i64, wrap_u16_id, wrap_u8_id, tdiv_pos, tmod_pos, -getElem?_pos, -getElem?_neg, -List.length_eq_zero_iff, -List.getElem_cons_drop, h, hkl, hi, hc, ptE_cells, c1, c2]; rfl⟩
        · have c3 : l[i].at_ = l[k].at_ := Classical.byContradiction fun e => c fun h => h.2.elim c2 e
          exact .inl ⟨_, fun K => by unfold s_triuneref09_Check_L3 s_triuneref09_Check_B3; simp -implicitDefEqProofs (disch := first | omega | (simp only [List.length_set, List.length_append, List.length_cons, List.length_nil, List.length_take, List.length_drop, List.length_map]; omega) | simp) [wrap_i64, wrap_u16_id, wrap_u8_id, tdiv_pos, tmod_pos, -getElem?_pos, -getElem?_neg, -List.length_eq_zero_iff, -List.getElem_cons_drop, h, hkl, hi, hc, ptE_cells, c1, c2, c3]; rfl⟩
    · have : k = i := by omega
      subst this
      exact .inr ⟨H, fun K => by unfold s_triuneref09_Check_L3 s_triuneref09_Check_B3; simp -implicitDefEqProofs (disch := first | omega | (simp only [List.length_set, List.length_append, List.length_cons, List.length_nil, List.length_take, List.length_drop, List.length_map]; omega) | simp) [wrap_i64, wrap_u16_id, wrap_u8_id, tdiv_pos, tmod_pos, -getElem?_pos, -getElem?_neg, -List.length_eq_zero_iff, -List.getElem_cons_drop], hc, hfl, hp⟩
theorem chk_L2 (n fl : Nat) (hn : 60 ≤ n) (a : Nat) (l : List Pt) (hl : l.length ≤ 48) : ∀ (m i : Nat) (H : Heap), l.length < m + i → i ≤ l.length → H[a]? = some (.cells 131 (cfgC l)) → fl ≤ H.length → (∀ j k (hj : j < i) (hk : k < j) (h : j < l.length), Apart l[j] l[k]) →
    (∃ H', ∀ K, s_triuneref09_Check_L2 n fl K m (.ptr a 0) (I .i64 i) H = K .ret (s_triuneref09_Check_O2 (I .i64 9)) H') ∨
    (∃ H', (∀ K, s_triuneref09_Check_L2 n fl K m (.ptr a 0) (I .i64 i) H = K (.exit 4) (s_triuneref09_Check_O2 .any) H') ∧ ∀ j k (hj : j < l.length) (hk : k < j), Apart l[j] l[k]) := by
  intro m
  induction m with
  | zero => intro i H h; omega
  | succ m ih =>
    intro i H hm hi hc hfl hp
    by_cases h : i < l.length
    · have h3 := chk_L3 n fl (by omega) a l hl i h n 0 H (by omega) (by omega) hc hfl (by intro j hj; omega)
      have hi2 : ((i + 1 : Nat) : Int) = (i : Int) + 1 := by omega
      rcases h3 with ⟨H1, q⟩ | ⟨H1, q, q2, q3, q4⟩
      · have q' := fun K => (s_triuneref09_Check_L3_eq n fl K n (.ptr a 0) (I .i64 i) (I .i64 0) H).trans (q K)
        unfold cfgC at hc
        exact .inl ⟨_, fun K => by unfold s_triuneref09_Check_L2 s_triuneref09_Check_B2; simp -implicitDefEqProofs (disch := first | omega | (simp only [List.length_set, List.length_append, List.length_cons, List.length_nil, List.length_take, List.length_drop, List.length_map]; omega) | simp) [wrap_i64, wrap_u16_id, wrap_u8_id, tdiv_pos, tmod_pos, -getElem?_pos, -getElem?_neg, -List.length_eq_zero_iff, -List.getElem_cons_drop, h, hc, q', s_triuneref09_Check_O3]; rfl⟩
      · have q' := fun K => (s_triuneref09_Check_L3_eq n fl K n (.ptr a 0) (I .i64 i) (I .i64 0) H).trans (q K)
        have ih' := ih (i + 1) H1 (by omega) (by omega) q2 q3 (by
          intro j k hj hk hjl
          rcases Nat.lt_succ_iff_lt_or_eq.mp hj with h3 | rfl
          · exact hp j k h3 hk hjl
          · exact q4 k hk (by omega))
        rw [hi2] at ih'
        unfold cfgC at hc
        rcases ih' with ⟨H', u⟩ | ⟨H', u, u2⟩
        · exact .inl ⟨H', fun K => by unfold s_triuneref09_Check_L2 s_triuneref09_Check_B2; simp -implicitDefEqProofs (disch := first | omega | (simp only [List.length_set, List.length_append, List.length_cons, List.length_nil, List.length_take, List.length_drop, List.length_map]; omega) | simp) [wrap_i64, wrap_u16_id, wrap_u8_id, tdiv_pos, tmod_pos, -getElem?_pos, -getElem?_neg, -List.length_eq_zero_iff, -List.getElem_cons_drop, h, hc, q', u, s_triuneref09_Check_O3]⟩
        · exact .inr ⟨H', fun K => by unfold s_triuneref09_Check_L2 s_triuneref09_Check_B2; simp -implicitDefEqProofs (disch := first | omega | (simp only [List.length_set, List.length_append, List.length_cons, List.length_nil, List.length_take, List.length_drop, List.length_map]; omega) | simp) [wrap_i64, wrap_u16_id, wrap_u8_id, tdiv_pos, tmod_pos, -getElem?_pos, -getElem?_neg, -List.length_eq_zero_iff, -List.getElem_cons_drop, h, hc, q', u, s_triuneref09_Check_O3], u2⟩
    · have : i = l.length := by omega
      subst this
      unfold cfgC at hc
      exact .inr ⟨H, fun K => by unfold s_triuneref09_Check_L2 s_triuneref09_Check_B2; simp -implicitDefEqProofs (disch := first | omega | (simp only [List.length_set, List.length_append, List.length_cons, List.length_nil, List.length_take, List.length_drop, List.length_map]; omega) | simp) [wrap_i64, wrap_u16_id, wrap_u8_id, tdiv_pos, tmod_pos, -getElem?_pos, -getElem?_neg, -List.length_eq_zero_iff, -List.getElem_cons_drop, hc], fun j k hj hk => hp j k hj hk hj⟩
theorem Check_c (n : Nat) (l : List Pt) (hl : l.length ≤ 48) (hn : 100 ≤ n) : ∃ e, cP n 55 false [.agg (cfgC l)] = some (I .i64 e) ∧ (e = 0 → PtsOk l) := by
  obtain ⟨n, rfl⟩ : ∃ m, n = m + 1 := ⟨n - 1, by omega⟩
  have q := fun a b c => ref09_in_c n a b c (by omega)
  by_cases c0 : l.length = 0
  · exact ⟨4, cP_of (args' := [.agg (cfgC l)]) (by unfold cfgC; simp [argEl_eq]) ((s_triuneref09_Check_eq _ _ _ _).trans (by unfold s_triuneref09_Check cfgC; simp -implicitDefEqProofs (disch := first | omega | (simp only [List.length_set, List.length_append, List.length_cons, List.length_nil, List.length_take, List.length_drop, List.length_map]; omega) | simp) [wrap_i64, wrap_u16_id, wrap_u8_id, tdiv_pos, tmod_pos, -getElem?_pos, -getElem?_neg, -List.length_eq_zero_iff, -List.getElem_cons_drop, q, c0]; first | exact rfl | exact ⟨rfl, rfl⟩)) (by simp), fun h => by omega⟩
  · have g0 := fun K => (s_triuneref09_Check_L0_eq n 0 K n (.ptr 0 0) (I .i64 0) [.cells 131 (cfgC l)]).trans (chk_L0 n 0 (by omega) 0 l n 0 [.cells 131 (cfgC l)] (by omega) (by omega) rfl K)
    have hq1 : (1 : Int) ≤ l.length ∧ (l.length : Int) ≤ 48 := by omega
    rcases chk_L1 n 0 (by omega) 0 l hl n 0 [.cells 131 (cfgC l)] (by omega) (by omega) rfl (by intro p hp; simp at hp) with u | ⟨u, u2⟩
    · have g1 := fun K => (s_triuneref09_Check_L1_eq n 0 K n (.ptr 0 0) (I .i64 0) [.cells 131 (cfgC l)]).trans (u K)
      unfold cfgC at g0 g1
      exact ⟨1, cP_of (args' := [.agg (cfgC l)]) (by unfold cfgC; simp [argEl_eq]) ((s_triuneref09_Check_eq _ _ _ _).trans (by unfold s_triuneref09_Check cfgC; simp -implicitDefEqProofs (disch := first | omega | (simp only [List.length_set, List.length_append, List.length_cons, List.length_nil, List.length_take, List.length_drop, List.length_map]; omega) | simp) [wrap_i64, wrap_u16_id, wrap_u8_id, tdiv_pos, tmod_pos, -getElem?_pos, -getElem?_neg, -List.length_eq_zero_iff, -List.getElem_cons_drop, q, hq1, g0, g1, s_triuneref09_Check_O0, s_triuneref09_Check_O1]; first | exact rfl | exact ⟨rfl, rfl⟩)) (by simp), fun h => by omega⟩
    · have g1 := fun K => (s_triuneref09_Check_L1_eq n 0 K n (.ptr 0 0) (I .i64 0) [.cells 131 (cfgC l)]).trans (u K)
      rcases chk_L2 n 0 (by omega) 0 l hl n 0 [.cells 131 (cfgC l)] (by omega) (by omega) rfl (by omega) (by intro j k hj; omega) with ⟨H', v⟩ | ⟨H', v, v2⟩
      · have g2 := fun K => (s_triuneref09_Check_L2_eq n 0 K n (.ptr 0 0) (I .i64 0) [.cells 131 (cfgC l)]).trans (v K)
        unfold cfgC at g0 g1 g2
        exact ⟨9, cP_of (args' := [.agg (cfgC l)]) (by unfold cfgC; simp [argEl_eq]) ((s_triuneref09_Check_eq _ _ _ _).trans (by unfold s_triuneref09_Check cfgC; simp -implicitDefEqProofs (disch := first | omega | (simp only [List.length_set, List.length_append, List.length_cons, List.length_nil, List.length_take, List.length_drop, List.length_map]; omega) | simp) [wrap_i64, wrap_u16_id, wrap_u8_id, tdiv_pos, tmod_pos, -getElem?_pos, -getElem?_neg, -List.length_eq_zero_iff, -List.getElem_cons_drop, q, hq1, g0, g1, g2, s_triuneref09_Check_O0, s_triuneref09_Check_O1, s_triuneref09_Check_O2]; first | exact rfl | exact ⟨rfl, rfl⟩)) (by simp), fun h => by omega⟩
      · have g2 := fun K => (s_triuneref09_Check_L2_eq n 0 K n (.ptr 0 0) (I .i64 0) [.cells 131 (cfgC l)]).trans (v K)
        unfold cfgC at g0 g1 g2
        exact ⟨0, cP_of (args' := [.agg (cfgC l)]) (by unfold cfgC; simp [argEl_eq]) ((s_triuneref09_Check_eq _ _ _ _).trans (by unfold s_triuneref09_Check cfgC; simp -implicitDefEqProofs (disch := first | omega | (simp only [List.length_set, List.length_append, List.length_cons, List.length_nil, List.length_take, List.length_drop, List.length_map]; omega) | simp) [wrap_i64, wrap_u16_id, wrap_u8_id, tdiv_pos, tmod_pos, -getElem?_pos, -getElem?_neg, -List.length_eq_zero_iff, -List.getElem_cons_drop, q, hq1, g0, g1, g2, s_triuneref09_Check_O0, s_triuneref09_Check_O1, s_triuneref09_Check_O2]; first | exact rfl | exact ⟨rfl, rfl⟩)) (by simp), fun _ => ⟨by omega, u2, fun i k hi hk => v2 i k hi hk⟩⟩
theorem May_c (n : Nat) (l : List Pt) (t : Tag) (hl : l.length ≤ 140737488355328) (hn : 101 ≤ n) : ∃ b, cP n 24 false [LV 5 ptE l t] = some (Bo b) ∧ (b = true → PtsOk l) := by
  obtain ⟨n, rfl⟩ : ∃ m, n = m + 1 := ⟨n - 1, by omega⟩
  by_cases c : l.length ≤ 48
  · obtain ⟨e, q, q2⟩ := Check_c n l c (by omega)
    unfold cfgC at q
    by_cases he : e = 0
    · exact ⟨true, cP_of (args' := [LV 5 ptE l .sh]) (by simp [argEl_eq]) ((s_triunelaw10_May_eq _ _ _ _).trans (by unfold s_triunelaw10_May; simp -implicitDefEqProofs (disch := first | omega | (simp only [List.length_set, List.length_append, List.length_cons, List.length_nil, List.length_take, List.length_drop, List.length_map]; omega) | simp) [wrap_i64, wrap_u16_id, wrap_u8_id, tdiv_pos, tmod_pos, -getElem?_pos, -getElem?_neg, -List.length_eq_zero_iff, -List.getElem_cons_drop, c, q, he]; first | exact rfl | exact ⟨rfl, rfl⟩)) (by simp), fun _ => q2 he⟩
    · exact ⟨false, cP_of (args' := [LV 5 ptE l .sh]) (by simp [argEl_eq]) ((s_triunelaw10_May_eq _ _ _ _).trans (by unfold s_triunelaw10_May; simp -implicitDefEqProofs (disch := first | omega | (simp only [List.length_set, List.length_append, List.length_cons, List.length_nil, List.length_take, List.length_drop, List.length_map]; omega) | simp) [wrap_i64, wrap_u16_id, wrap_u8_id, tdiv_pos, tmod_pos, -getElem?_pos, -getElem?_neg, -List.length_eq_zero_iff, -List.getElem_cons_drop, c, q, he]; first | exact rfl | exact ⟨rfl, rfl⟩)) (by simp), fun h => by cases h⟩
  · exact ⟨false, cP_of (args' := [LV 5 ptE l .sh]) (by simp [argEl_eq]) ((s_triunelaw10_May_eq _ _ _ _).trans (by unfold s_triunelaw10_May; simp -implicitDefEqProofs (disch := first | omega | (simp only [List.length_set, List.length_append, List.length_cons, List.length_nil, List.length_take, List.length_drop, List.length_map]; omega) | simp) [wrap_i64, wrap_u16_id, wrap_u8_id, tdiv_pos, tmod_pos, -getElem?_pos, -getElem?_neg, -List.length_eq_zero_iff, -List.getElem_cons_drop, c]; first | exact rfl | exact ⟨rfl, rfl⟩)) (by simp), fun h => by cases h⟩
end Go.Proofs.Ytbhnkdnfmlnajaa

/- Choices by a Bool that is not known: one path for both. -/
namespace Go.Proofs.Ytbhnkdnfmlnajaa
open Go
set_option linter.unusedSimpArgs false
/-- a value that is there only if b -/
def gd (b : Bool) (v : DV) : DV := if b then v else .flat undef
def gO (b : Bool) (x : Option DV) : Option DV := if b then x else some (.flat undef)
theorem wantF_sy (b : Bool) (x : Option DV) : wantF (.flat (.bool b)) true x = gO b x := by cases b <;> rfl
theorem wantF_sn (b : Bool) (x : Option DV) : wantF (.flat (.bool b)) false x = gO (!b) x := by cases b <;> rfl
theorem gO_some (b : Bool) (v : DV) : gO b (some v) = some (gd b v) := by cases b <;> rfl
theorem gO_loadG (b : Bool) (ag : Bool) (sz : Nat) (v : DV) (H : Heap) : gO b (loadG ag sz (gd b v) H) = gO b (loadG ag sz v H) := by cases b <;> rfl
theorem gO_lenD (b : Bool) (v : DV) : gO b (lenD (gd b v)) = gO b (lenD v) := by cases b <;> rfl
theorem gO_notD (b : Bool) (v : DV) : gO b (notD (gd b v)) = gO b (notD v) := by cases b <;> rfl
theorem gO_eqK1 (b : Bool) (k : IntKind) (v w : DV) : gO b (eqK k (gd b v) w) = gO b (eqK k v w) := by cases b <;> rfl
theorem gO_neK1 (b : Bool) (k : IntKind) (v w : DV) : gO b (neK k (gd b v) w) = gO b (neK k v w) := by cases b <;> rfl
theorem gO_ltK1 (b : Bool) (k : IntKind) (v w : DV) : gO b (ltK k (gd b v) w) = gO b (ltK k v w) := by cases b <;> rfl
theorem gO_leK1 (b : Bool) (k : IntKind) (v w : DV) : gO b (leK k (gd b v) w) = gO b (leK k v w) := by cases b <;> rfl
theorem gO_gtK1 (b : Bool) (k : IntKind) (v w : DV) : gO b (gtK k (gd b v) w) = gO b (gtK k v w) := by cases b <;> rfl
theorem gO_geK1 (b : Bool) (k : IntKind) (v w : DV) : gO b (geK k (gd b v) w) = gO b (geK k v w) := by cases b <;> rfl
theorem gO_max1 (b : Bool) (v w : DV) : gO b (maxI (gd b v) w) = gO b (maxI v w) := by cases b <;> rfl
theorem gO_max2 (b : Bool) (v w : DV) : gO b (maxI v (gd b w)) = gO b (maxI v w) := by cases b <;> rfl
theorem gO_addK1 (b : Bool) (k : IntKind) (v w : DV) : gO b (addK k (gd b v) w) = gO b (addK k v w) := by cases b <;> rfl
theorem gO_addK2 (b : Bool) (k : IntKind) (v w : DV) : gO b (addK k v (gd b w)) = gO b (addK k v w) := by cases b <;> rfl
theorem gO_mulK1 (b : Bool) (k : IntKind) (v w : DV) : gO b (mulK k v (gd b w)) = gO b (mulK k v w) := by cases b <;> rfl
theorem gO_ltK2 (b : Bool) (k : IntKind) (v w : DV) : gO b (ltK k v (gd b w)) = gO b (ltK k v w) := by cases b <;> rfl
theorem gO_leK2 (b : Bool) (k : IntKind) (v w : DV) : gO b (leK k v (gd b w)) = gO b (leK k v w) := by cases b <;> rfl
theorem gO_cvK (b : Bool) (k : IntKind) (v : DV) : gO b (cvK k (gd b v)) = gO b (cvK k v) := by cases b <;> rfl
theorem gO_idx (b : Bool) (sz : Nat) (v w : DV) : gO b (idxSl sz (gd b v) w) = gO b (idxSl sz v w) := by cases b <;> rfl
theorem gO_eqB (b : Bool) (v w : DV) : gO b (eqB (gd b v) (gd b w)) = gO b (eqB v w) := by cases b <;> rfl
theorem gO_pick (b : Bool) (c v w : DV) : gO b (pickD (gd b c) v w) = gO b (pickD c v w) := by cases b <;> rfl
theorem gO_pick2 (b : Bool) (c v w : DV) : gO b (pickD c (gd b v) w) = gO b (pickD c v w) := by cases b <;> rfl
theorem gO_cP1 (b : Bool) (n f : Nat) (t : Bool) (v : DV) : gO b (cP n f t [gd b v]) = gO b (cP n f t [v]) := by cases b <;> rfl
theorem gO_cP1b (b : Bool) (n f : Nat) (t : Bool) (v w : DV) : gO b (cP n f t [gd b v, w]) = gO b (cP n f t [v, w]) := by cases b <;> rfl
theorem gO_cP2 (b : Bool) (n f : Nat) (t : Bool) (v w : DV) : gO b (cP n f t [gd b v, gd b w]) = gO b (cP n f t [v, w]) := by cases b <;> rfl
theorem gO_cP2a (b : Bool) (n f : Nat) (t : Bool) (v w : DV) : gO b (cP n f t [v, gd b w]) = gO b (cP n f t [v, w]) := by cases b <;> rfl
theorem pick_t (b c : Bool) : pickD (.flat (.bool b)) (.flat (.bool true)) (gd (!b) (.flat (.bool c))) = some (.flat (.bool (b || c))) := by cases b <;> rfl
theorem pick_t2 (b c : Bool) : pickD (.flat (.bool (!b))) (.flat (.bool true)) (gd b (.flat (.bool c))) = some (.flat (.bool (!b || c))) := by cases b <;> rfl
theorem pick_f (b c : Bool) : pickD (.flat (.bool b)) (gd b (.flat (.bool c))) (.flat (.bool false)) = some (.flat (.bool (b && c))) := by cases b <;> rfl
theorem pick_f2 (b c d : Bool) : pickD (.flat (.bool b)) (gd b (.flat (.bool c))) (.flat (.bool d)) = some (.flat (.bool (if b then c else d))) := by cases b <;> rfl
theorem gd_t (v : DV) : gd true v = v := rfl
theorem gd_gd (b : Bool) (v : DV) : gd b (gd b v) = gd b v := by cases b <;> rfl
theorem wantF_gt (b c : Bool) (x : Option DV) : wantF (gd b (.flat (.bool c))) true x = gO (b && c) x := by cases b <;> cases c <;> rfl
theorem wantF_gf (b c : Bool) (x : Option DV) : wantF (gd b (.flat (.bool c))) false x = gO (b && !c) x := by cases b <;> cases c <;> rfl
theorem gO_pkf (b c e : Bool) : gO b (pickD (.flat (.bool c)) (gd (b && c) (.flat (.bool e))) (.flat (.bool false))) = gO b (some (.flat (.bool (c && e)))) := by cases b <;> cases c <;> rfl
theorem gO_pkt (b c e : Bool) : gO b (pickD (.flat (.bool c)) (.flat (.bool true)) (gd (b && !c) (.flat (.bool e)))) = gO b (some (.flat (.bool (c || e)))) := by cases b <;> cases c <;> rfl
theorem gO_pktn (b c e : Bool) : gO b (pickD (.flat (.bool (!c))) (.flat (.bool true)) (gd (b && c) (.flat (.bool e)))) = gO b (some (.flat (.bool (!c || e)))) := by cases b <;> cases c <;> rfl
theorem gO_eqK2 (b : Bool) (k : IntKind) (v w : DV) : gO b (eqK k v (gd b w)) = gO b (eqK k v w) := by cases b <;> rfl
theorem gO_neK2 (b : Bool) (k : IntKind) (v w : DV) : gO b (neK k v (gd b w)) = gO b (neK k v w) := by cases b <;> rfl
theorem gO_gtK2 (b : Bool) (k : IntKind) (v w : DV) : gO b (gtK k v (gd b w)) = gO b (gtK k v w) := by cases b <;> rfl
theorem gO_geK2 (b : Bool) (k : IntKind) (v w : DV) : gO b (geK k v (gd b w)) = gO b (geK k v w) := by cases b <;> rfl
theorem gO_subK2 (b : Bool) (k : IntKind) (v w : DV) : gO b (subK k v (gd b w)) = gO b (subK k v w) := by cases b <;> rfl
theorem gO_subK1 (b : Bool) (k : IntKind) (v w : DV) : gO b (subK k (gd b v) w) = gO b (subK k v w) := by cases b <;> rfl
theorem gO_min1 (b : Bool) (v w : DV) : gO b (minI (gd b v) w) = gO b (minI v w) := by cases b <;> rfl
theorem gO_min2 (b : Bool) (v w : DV) : gO b (minI v (gd b w)) = gO b (minI v w) := by cases b <;> rfl
theorem gO_remK1 (b : Bool) (k : IntKind) (v w : DV) : gO b (remK k (gd b v) w) = gO b (remK k v w) := by cases b <;> rfl
theorem gO_cP3 (b : Bool) (n f : Nat) (t : Bool) (v w x : DV) : gO b (cP n f t [gd b v, gd b w, gd b x]) = gO b (cP n f t [v, w, x]) := by cases b <;> rfl
theorem gO_nilD (b : Bool) (v : DV) : gO b (nilD (gd b v)) = gO b (nilD v) := by cases b <;> rfl
theorem gO_fieldD (b : Bool) (f s : Nat) (v : DV) : gO b (fieldD f s (gd b v)) = gO b (fieldD f s v) := by cases b <;> rfl
theorem gO_idxArr1 (b : Bool) (l s : Nat) (v w : DV) : gO b (idxArr l s v (gd b w)) = gO b (idxArr l s v w) := by cases b <;> rfl
theorem gO_idxArr2 (b : Bool) (l s : Nat) (v w : DV) : gO b (idxArr l s (gd b v) w) = gO b (idxArr l s v w) := by cases b <;> rfl
theorem gO_idx2 (b : Bool) (sz : Nat) (v w : DV) : gO b (idxSl sz v (gd b w)) = gO b (idxSl sz v w) := by cases b <;> rfl
theorem gO_extD (b : Bool) (i : Nat) (v : DV) : gO b (extD i (gd b v)) = gO b (extD i v) := by cases b <;> rfl
end Go.Proofs.Ytbhnkdnfmlnajaa

/- Votes: the parts but the median of three. -/
namespace Go.Proofs.Ytbhnkdnfmlnajaa
open Go
set_option linter.unusedSimpArgs false
set_option linter.unusedVariables false
set_option maxRecDepth 100000
def sumI (l : List Int) : Int := l.foldr (· + ·) 0
/-- the majority of votes -/
def majV (l : List Int) : Int × Bool := if 3 < l.length ∨ (∃ x ∈ l, 2 ≤ x) ∨ 2 * sumI l = l.length then (0, false) else if (l.length : Int) < 2 * sumI l then (1, true) else (0, true)
theorem sumI_cons (a : Int) (l : List Int) : sumI (a :: l) = a + sumI l := rfl
theorem sumI_01 : ∀ (l : List Int), Words l → (¬ ∃ x ∈ l, 2 ≤ x) → 0 ≤ sumI l ∧ sumI l ≤ l.length
  | [], _, _ => ⟨by decide, by decide⟩
  | a :: l, hw, h => by
    have := sumI_01 l (fun x hx => hw x (by simp [hx])) (fun ⟨x, hx, h2⟩ => h ⟨x, by simp [hx], h2⟩)
    have h1 := hw a (by simp)
    have h2 : ¬ 2 ≤ a := fun h2 => h ⟨a, by simp, h2⟩
    rw [sumI_cons]
    simp only [List.length_cons]
    omega
theorem maj_L (n : Nat) (l : List Int) (hw : Words l) (hl : l.length ≤ 100000) : ∀ (m i : Nat) (a b : Int), l.length < m + i → i ≤ l.length → 0 ≤ a → 0 ≤ b → a + b ≤ i →
    ((∃ x ∈ l.drop i, 2 ≤ x) → ∃ H', ∀ K, s_vote_Majority_L0 n 0 K m (LV 1 (I .u16) l .sh) (.ptr 0 0) (LV 1 (I .u16) l .sh) (I .i64 l.length) (I .i64 i) [.cells 225 [I .i64 a, I .i64 b]] = K .ret (s_vote_Majority_O0 (LV 1 (I .u16) l .sh) (I .u16 0) (Bo false) (.ptr 0 0)) H') ∧
    ((¬ ∃ x ∈ l.drop i, 2 ≤ x) → ∀ K, s_vote_Majority_L0 n 0 K m (LV 1 (I .u16) l .sh) (.ptr 0 0) (LV 1 (I .u16) l .sh) (I .i64 l.length) (I .i64 i) [.cells 225 [I .i64 a, I .i64 b]] = K (.exit 0) (s_vote_Majority_O0 (LV 1 (I .u16) l .sh) .any .any (.ptr 0 0)) [.cells 225 [I .i64 (a + ((l.drop i).length - sumI (l.drop i))), I .i64 (b + sumI (l.drop i))]]) := by
  intro m
  induction m with
  | zero => intro i a b h; omega
  | succ m ih =>
    intro i a b hm hi ha hb hab
    by_cases h : i < l.length
    · have hd : l.drop i = l[i] :: l.drop (i + 1) := List.drop_eq_getElem_cons h
      have hv := hw _ (List.getElem_mem h)
      have hi2 : ((i + 1 : Nat) : Int) = (i : Int) + 1 := by omega
      by_cases h2 : 2 ≤ l[i]
      · refine ⟨fun _ => ⟨[.cells 225 [I .i64 a, I .i64 b]], fun K => ?_⟩, fun q => absurd ⟨l[i], by rw [hd]; exact List.mem_cons_self .., h2⟩ q⟩
        unfold s_vote_Majority_L0 s_vote_Majority_B0
        simp -implicitDefEqProofs (disch := first | omega | (simp only [List.length_set, List.length_append, List.length_cons, List.length_nil, List.length_take, List.length_drop, List.length_map]; omega) | simp) [wrap_i64, wrap_u16_id, wrap_u8_id, tdiv_pos, tmod_pos, -getElem?_pos, -getElem?_neg, -List.length_eq_zero_iff, -List.getElem_cons_drop, h, h2]
      · have hx : l[i] = 0 ∨ l[i] = 1 := by omega
        have ex : (∃ x ∈ l.drop i, 2 ≤ x) ↔ ∃ x ∈ l.drop (i + 1), 2 ≤ x := by
          rw [hd]
          constructor
          · rintro ⟨x, hx, h3⟩
            rcases List.mem_cons.1 hx with rfl | hx
            · exact absurd h3 h2
            · exact ⟨x, hx, h3⟩
          · rintro ⟨x, hx, h3⟩
            exact ⟨x, List.mem_cons.2 (.inr hx), h3⟩
        rw [ex]
        have ar := fun (v : Int) (hv : v = 0 ∨ v = 1) => show idxArr 2 1 (.ptr 0 0) (I .u16 v) = some (.ptr 0 v.toNat) by rcases hv with rfl | rfl <;> rfl
        have ar' := ar l[i] hx
        rcases hx with hx | hx
        · obtain ⟨i1, i2⟩ := ih (i + 1) (a + 1) b (by omega) (by omega) (by omega) (by omega) (by omega)
          rw [hi2] at i1 i2
          rw [hx] at ar'
          have st : ∀ K, s_vote_Majority_L0 n 0 K (m + 1) (LV 1 (I .u16) l .sh) (.ptr 0 0) (LV 1 (I .u16) l .sh) (I .i64 l.length) (I .i64 i) [.cells 225 [I .i64 a, I .i64 b]] = s_vote_Majority_L0 n 0 K m (LV 1 (I .u16) l .sh) (.ptr 0 0) (LV 1 (I .u16) l .sh) (I .i64 l.length) (I .i64 (i + 1)) [.cells 225 [I .i64 (a + 1), I .i64 b]] := by
            intro K
            rw [s_vote_Majority_L0, s_vote_Majority_B0]
            simp -implicitDefEqProofs (disch := first | omega | (simp only [List.length_set, List.length_append, List.length_cons, List.length_nil, List.length_take, List.length_drop, List.length_map]; omega) | simp) [wrap_i64, wrap_u16_id, wrap_u8_id, tdiv_pos, tmod_pos, -getElem?_pos, -getElem?_neg, -List.length_eq_zero_iff, -List.getElem_cons_drop, h, hx, ar']
          refine ⟨fun q => ?_, fun q K => ?_⟩
          · obtain ⟨H', e⟩ := i1 q
            exact ⟨H', fun K => (st K).trans (e K)⟩
          · rw [st K, i2 q K, hd, sumI_cons, hx]
            simp only [List.length_cons]
            congr 5
            · rw [show a + 1 + (((l.drop (i + 1)).length : Int) - sumI (l.drop (i + 1))) = a + (((l.drop (i + 1)).length + 1 : Nat) - (0 + sumI (l.drop (i + 1)))) by omega]
            · simp
        · obtain ⟨i1, i2⟩ := ih (i + 1) a (b + 1) (by omega) (by omega) (by omega) (by omega) (by omega)
          rw [hi2] at i1 i2
          rw [hx] at ar'
          have st : ∀ K, s_vote_Majority_L0 n 0 K (m + 1) (LV 1 (I .u16) l .sh) (.ptr 0 0) (LV 1 (I .u16) l .sh) (I .i64 l.length) (I .i64 i) [.cells 225 [I .i64 a, I .i64 b]] = s_vote_Majority_L0 n 0 K m (LV 1 (I .u16) l .sh) (.ptr 0 0) (LV 1 (I .u16) l .sh) (I .i64 l.length) (I .i64 (i + 1)) [.cells 225 [I .i64 a, I .i64 (b + 1)]] := by
            intro K
            rw [s_vote_Majority_L0, s_vote_Majority_B0]
            simp -implicitDefEqProofs (disch := first | omega | (simp only [List.length_set, List.length_append, List.length_cons, List.length_nil, List.length_take, List.length_drop, List.length_map]; omega) | simp) [wrap_i64, wrap_u16_id, wrap_u8_id, tdiv_pos, tmod_pos, -getElem?_pos, -getElem?_neg, -List.length_eq_zero_iff, -List.getElem_cons_drop, h, hx, ar']
          refine ⟨fun q => ?_, fun q K => ?_⟩
          · obtain ⟨H', e⟩ := i1 q
            exact ⟨H', fun K => (st K).trans (e K)⟩
          · rw [st K, i2 q K, hd, sumI_cons, hx]
            simp only [List.length_cons]
            congr 5
            · rw [show a + (((l.drop (i + 1)).length : Int) - sumI (l.drop (i + 1))) = a + (((l.drop (i + 1)).length + 1 : Nat) - (1 + sumI (l.drop (i + 1)))) by omega]
            · rw [show b + 1 + sumI (l.drop (i + 1)) = b + (1 + sumI (l.drop (i + 1))) by omega]
    · have : i = l.length := by omega
      subst this
      rw [List.drop_length]
      refine ⟨fun ⟨x, hx, _⟩ => by simp at hx, fun q K => ?_⟩
      rw [s_vote_Majority_L0, s_vote_Majority_B0]
      simp -implicitDefEqProofs (disch := first | omega | (simp only [List.length_set, List.length_append, List.length_cons, List.length_nil, List.length_take, List.length_drop, List.length_map]; omega) | simp) [wrap_i64, wrap_u16_id, wrap_u8_id, tdiv_pos, tmod_pos, -getElem?_pos, -getElem?_neg, -List.length_eq_zero_iff, -List.getElem_cons_drop, sumI]
theorem Majority_c (n : Nat) (l : List Int) (hw : Words l) (t : Tag) (hl : l.length ≤ 1000) (hn : 1010 ≤ n) : cP n 117 false [LV 1 (I .u16) l t] = some (.tup [I .u16 (majV l).1, Bo (majV l).2]) := by
  obtain ⟨n, rfl⟩ : ∃ m, n = m + 1 := ⟨n - 1, by omega⟩
  obtain ⟨i1, i2⟩ := maj_L n l hw (by omega) n 0 0 0 (by omega) (by omega) (by omega) (by omega) (by omega)
  simp only [List.drop_zero, Int.natCast_zero] at i1 i2
  have lq : ∀ K H, loopG [0, 4, 7, 8, 9] [0, 2, 3, 4] 38 (s_vote_Majority_b0 n 0) n (s_vote_Majority_I0 (LV 1 (I .u16) l .sh) (.ptr 0 0) (LV 1 (I .u16) l .sh) (I .i64 l.length) (I .i64 0)) H K = _ := fun K H => s_vote_Majority_L0_eq _ _ _ _ _ _ _ _ _ _
  have fin : ∀ v B, (∃ H', s_vote_Majority n [] 0 (LV 1 (I .u16) l .sh) = some (.tup [I .u16 v, Bo B], H')) → majV l = (v, B) → cP (n + 1) 117 false [LV 1 (I .u16) l t] = some (.tup [I .u16 (majV l).1, Bo (majV l).2]) := by
    rintro v B ⟨H', h1⟩ h2
    rw [h2]
    exact cP_of (args' := [LV 1 (I .u16) l .sh]) (by simp [argEl_eq]) ((s_vote_Majority_eq _ _ _ _).trans h1) (by simp)
  by_cases h : ∃ x ∈ l, 2 ≤ x
  · obtain ⟨H', e⟩ := i1 h
    exact fin 0 false ⟨_, by unfold s_vote_Majority; simp -implicitDefEqProofs (disch := first | omega | (simp only [List.length_set, List.length_append, List.length_cons, List.length_nil, List.length_take, List.length_drop, List.length_map]; omega) | simp) [wrap_i64, wrap_u16_id, wrap_u8_id, tdiv_pos, tmod_pos, -getElem?_pos, -getElem?_neg, -List.length_eq_zero_iff, -List.getElem_cons_drop, lq, e, s_vote_Majority_O0]; first | rfl | exact ⟨rfl, rfl⟩⟩ (by unfold majV; rw [if_pos (.inr (.inl h))])
  · have e := i2 h
    have hs := sumI_01 l hw h
    simp only [Int.zero_add] at e
    generalize hsu : sumI l = s at *
    by_cases h3 : 3 < l.length
    · have h3' : (3 : Int) < l.length := by omega
      exact fin 0 false ⟨_, by unfold s_vote_Majority; simp -implicitDefEqProofs (disch := first | omega | (simp only [List.length_set, List.length_append, List.length_cons, List.length_nil, List.length_take, List.length_drop, List.length_map]; omega) | simp) [wrap_i64, wrap_u16_id, wrap_u8_id, tdiv_pos, tmod_pos, -getElem?_pos, -getElem?_neg, -List.length_eq_zero_iff, -List.getElem_cons_drop, lq, e, s_vote_Majority_O0, h3']; first | rfl | exact ⟨rfl, rfl⟩⟩ (by unfold majV; rw [if_pos (.inl h3)])
    · have h3' : ¬ (3 : Int) < l.length := by omega
      have j0 : idxArr 2 1 (.ptr 0 0) (I .i64 0) = some (.ptr 0 0) := rfl
      have j1 : idxArr 2 1 (.ptr 0 0) (I .i64 1) = some (.ptr 0 1) := rfl
      by_cases h4 : (l.length : Int) - s = s
      · exact fin 0 false ⟨_, by unfold s_vote_Majority; simp -implicitDefEqProofs (disch := first | omega | (simp only [List.length_set, List.length_append, List.length_cons, List.length_nil, List.length_take, List.length_drop, List.length_map]; omega) | simp) [wrap_i64, wrap_u16_id, wrap_u8_id, tdiv_pos, tmod_pos, -getElem?_pos, -getElem?_neg, -List.length_eq_zero_iff, -List.getElem_cons_drop, lq, e, s_vote_Majority_O0, h3', j0, j1, h4]; first | rfl | exact ⟨rfl, rfl⟩⟩ (by unfold majV; rw [if_pos (.inr (.inr (by omega)))])
      · have hm : majV l = if (l.length : Int) < 2 * s then (1, true) else (0, true) := by
          unfold majV
          rw [if_neg, hsu]
          rintro (k | k | k)
          · exact h3 k
          · exact h k
          · omega
        by_cases h5 : (l.length : Int) - s < s
        · exact fin 1 true ⟨_, by unfold s_vote_Majority; simp -implicitDefEqProofs (disch := first | omega | (simp only [List.length_set, List.length_append, List.length_cons, List.length_nil, List.length_take, List.length_drop, List.length_map]; omega) | simp) [wrap_i64, wrap_u16_id, wrap_u8_id, tdiv_pos, tmod_pos, -getElem?_pos, -getElem?_neg, -List.length_eq_zero_iff, -List.getElem_cons_drop, lq, e, s_vote_Majority_O0, h3', j0, j1, h4, h5]; first | rfl | exact ⟨rfl, rfl⟩⟩ (by rw [hm, if_pos (by omega)])
        · exact fin 0 true ⟨_, by unfold s_vote_Majority; simp -implicitDefEqProofs (disch := first | omega | (simp only [List.length_set, List.length_append, List.length_cons, List.length_nil, List.length_take, List.length_drop, List.length_map]; omega) | simp) [wrap_i64, wrap_u16_id, wrap_u8_id, tdiv_pos, tmod_pos, -getElem?_pos, -getElem?_neg, -List.length_eq_zero_iff, -List.getElem_cons_drop, lq, e, s_vote_Majority_O0, h3', j0, j1, h4, h5]; first | rfl | exact ⟨rfl, rfl⟩⟩ (by rw [hm, if_neg (by omega)])
def apartV (band a b : Int) : Bool := decide (band < max a b - min a b)
theorem Apart_c (n : Nat) (hn : 1 ≤ n) (p : Pt) (a b : Int) (ha : 0 ≤ a ∧ a < 65536) (hb : 0 ≤ b ∧ b < 65536) : cP n 106 false [ptE p, I .u16 a, I .u16 b] = some (Bo (apartV p.band a b)) := by
  obtain ⟨n, rfl⟩ : ∃ m, n = m + 1 := ⟨n - 1, by omega⟩
  have e1 : IntKind.wrap .u16 (max a b - min a b) = max a b - min a b := wrap_u16_id _ (by omega) (by omega)
  have e2 : IntKind.wrap .i64 (max a b - min a b) = max a b - min a b := wrap_i64 _ (by omega) (by omega)
  exact cP_of (r := Bo (apartV p.band a b)) (args' := [ptE p, I .u16 a, I .u16 b]) (by simp [argEl_eq, ptE]) ((s_vote_Apart_eq _ _ _ _ _ _).trans (by unfold s_vote_Apart ptE; simp -implicitDefEqProofs (disch := first | omega | (simp only [List.length_set, List.length_append, List.length_cons, List.length_nil, List.length_take, List.length_drop, List.length_map]; omega) | simp) [wrap_i64, wrap_u16_id, wrap_u8_id, tdiv_pos, tmod_pos, -getElem?_pos, -getElem?_neg, -List.length_eq_zero_iff, -List.getElem_cons_drop, e1, e2]; first | exact rfl | exact ⟨rfl, rfl⟩)) (by simp)
theorem neg_i64 (x : Int) : unD Try.prog .neg (I .i64 x) = some (I .i64 (IntKind.wrap .i64 (0 - x))) := by
  first | rfl | kernel_rfl
theorem ref12_Apart_c (n : Nat) (hn : 1 ≤ n) (p : Pt) (a b : Int) (ha : 0 ≤ a ∧ a < 65536) (hb : 0 ≤ b ∧ b < 65536) : cP n 83 false [ptE p, I .u16 a, I .u16 b] = some (Bo (apartV p.band a b)) := by
  obtain ⟨n, rfl⟩ : ∃ m, n = m + 1 := ⟨n - 1, by omega⟩
  by_cases h : a - b < 0
  · have e1 := neg_i64 (a - b)
    have e2 : max a b - min a b = -(a - b) := by omega
    have e3 : IntKind.wrap .i64 (0 - (a - b)) = -(a - b) := (wrap_i64 _ (by omega) (by omega)).trans (by omega)
    rw [e3] at e1
    unfold apartV
    rw [e2]
    exact cP_of (r := Bo (decide (p.band < -(a - b)))) (args' := [ptE p, I .u16 a, I .u16 b]) (by simp [argEl_eq, ptE]) ((s_triuneref12_Apart_eq _ _ _ _ _ _).trans (by unfold s_triuneref12_Apart ptE; simp -implicitDefEqProofs (disch := first | omega | (simp only [List.length_set, List.length_append, List.length_cons, List.length_nil, List.length_take, List.length_drop, List.length_map]; omega) | simp) [wrap_i64, wrap_u16_id, wrap_u8_id, tdiv_pos, tmod_pos, -getElem?_pos, -getElem?_neg, -List.length_eq_zero_iff, -List.getElem_cons_drop, e1, h]; first | exact rfl | exact ⟨rfl, rfl⟩)) (by simp)
  · have e2 : max a b - min a b = a - b := by omega
    unfold apartV
    rw [e2]
    exact cP_of (r := Bo (decide (p.band < a - b))) (args' := [ptE p, I .u16 a, I .u16 b]) (by simp [argEl_eq, ptE]) ((s_triuneref12_Apart_eq _ _ _ _ _ _).trans (by unfold s_triuneref12_Apart ptE; simp -implicitDefEqProofs (disch := first | omega | (simp only [List.length_set, List.length_append, List.length_cons, List.length_nil, List.length_take, List.length_drop, List.length_map]; omega) | simp) [wrap_i64, wrap_u16_id, wrap_u8_id, tdiv_pos, tmod_pos, -getElem?_pos, -getElem?_neg, -List.length_eq_zero_iff, -List.getElem_cons_drop, h]; first | exact rfl | exact ⟨rfl, rfl⟩)) (by simp)
/-- the document's majority: its loop looks at four -/
theorem rmaj_L (n fl : Nat) (l : List Int) (hw : Words l) (H : Heap) (hl : l.length ≤ 100000) : ∀ (m i : Nat) (s : Int), 4 < m + i → i ≤ l.length → i ≤ 4 → 0 ≤ s → s ≤ i →
    ((∃ x ∈ (l.take 4).drop i, 2 ≤ x) → ∃ s', ∀ K, s_triuneref12_Majority_L0 n fl K m (LV 1 (I .u16) l .sh) (I .i64 s) (I .i64 i) H = K .ret (s_triuneref12_Majority_O0 (LV 1 (I .u16) l .sh) (I .u16 0) (Bo false) s') H) ∧
    ((¬ ∃ x ∈ (l.take 4).drop i, 2 ≤ x) → ∀ K, s_triuneref12_Majority_L0 n fl K m (LV 1 (I .u16) l .sh) (I .i64 s) (I .i64 i) H = K (.exit 0) (s_triuneref12_Majority_O0 (LV 1 (I .u16) l .sh) .any .any (I .i64 (s + sumI ((l.take 4).drop i)))) H) := by
  intro m
  induction m with
  | zero => intro i a h; omega
  | succ m ih =>
    intro i s hm hi hi4 hs0 hs1
    by_cases h : i < l.length
    · by_cases h4 : i < 4
      · have hlt : i < (l.take 4).length := by simp; omega
        have hd : (l.take 4).drop i = l[i] :: (l.take 4).drop (i + 1) := by rw [List.drop_eq_getElem_cons hlt, List.getElem_take]
        have hv := hw _ (List.getElem_mem h)
        have hi2 : ((i + 1 : Nat) : Int) = (i : Int) + 1 := by omega
        have h4' : (i : Int) < 4 := by omega
        by_cases h2 : 1 < l[i]
        · refine ⟨fun _ => ⟨I .i64 s, fun K => ?_⟩, fun q => absurd ⟨l[i], by rw [hd]; exact List.mem_cons_self .., by omega⟩ q⟩
          rw [s_triuneref12_Majority_L0, s_triuneref12_Majority_B0]
          simp -implicitDefEqProofs (disch := first | omega | (simp only [List.length_set, List.length_append, List.length_cons, List.length_nil, List.length_take, List.length_drop, List.length_map]; omega) | simp) [wrap_i64, wrap_u16_id, wrap_u8_id, tdiv_pos, tmod_pos, -getElem?_pos, -getElem?_neg, -List.length_eq_zero_iff, -List.getElem_cons_drop, h, h4', h2]
        · obtain ⟨i1, i2⟩ := ih (i + 1) (s + l[i]) (by omega) (by omega) (by omega) (by omega) (by omega)
          rw [hi2] at i1 i2
          have ex : (∃ x ∈ (l.take 4).drop i, 2 ≤ x) ↔ ∃ x ∈ (l.take 4).drop (i + 1), 2 ≤ x := by
            rw [hd]
            constructor
            · rintro ⟨x, hx, h3⟩
              rcases List.mem_cons.1 hx with rfl | hx
              · omega
              · exact ⟨x, hx, h3⟩
            · rintro ⟨x, hx, h3⟩
              exact ⟨x, List.mem_cons.2 (.inr hx), h3⟩
          rw [ex]
          have st : ∀ K, s_triuneref12_Majority_L0 n fl K (m + 1) (LV 1 (I .u16) l .sh) (I .i64 s) (I .i64 i) H = s_triuneref12_Majority_L0 n fl K m (LV 1 (I .u16) l .sh) (I .i64 (s + l[i])) (I .i64 (i + 1)) H := by
            intro K
            rw [s_triuneref12_Majority_L0, s_triuneref12_Majority_B0]
            simp -implicitDefEqProofs (disch := first | omega | (simp only [List.length_set, List.length_append, List.length_cons, List.length_nil, List.length_take, List.length_drop, List.length_map]; omega) | simp) [wrap_i64, wrap_u16_id, wrap_u8_id, tdiv_pos, tmod_pos, -getElem?_pos, -getElem?_neg, -List.length_eq_zero_iff, -List.getElem_cons_drop, h, h4', h2]
          refine ⟨fun q => ?_, fun q K => ?_⟩
          · obtain ⟨s', e⟩ := i1 q
            exact ⟨s', fun K => (st K).trans (e K)⟩
          · rw [st K, i2 q K, hd, sumI_cons, show s + (l[i] + sumI ((l.take 4).drop (i + 1))) = s + l[i] + sumI ((l.take 4).drop (i + 1)) by omega]
      · have : i = 4 := by omega
        subst this
        have hd : (l.take 4).drop 4 = [] := List.drop_eq_nil_of_le (by simp; omega)
        rw [hd]
        refine ⟨fun ⟨x, hx, _⟩ => by simp at hx, fun q K => ?_⟩
        rw [s_triuneref12_Majority_L0, s_triuneref12_Majority_B0]
        simp -implicitDefEqProofs (disch := first | omega | (simp only [List.length_set, List.length_append, List.length_cons, List.length_nil, List.length_take, List.length_drop, List.length_map]; omega) | simp) [wrap_i64, wrap_u16_id, wrap_u8_id, tdiv_pos, tmod_pos, -getElem?_pos, -getElem?_neg, -List.length_eq_zero_iff, -List.getElem_cons_drop, h, sumI]
    · have : i = l.length := by omega
      subst this
      have hd : (l.take 4).drop l.length = [] := List.drop_eq_nil_of_le (by simp; omega)
      rw [hd]
      refine ⟨fun ⟨x, hx, _⟩ => by simp at hx, fun q K => ?_⟩
      rw [s_triuneref12_Majority_L0, s_triuneref12_Majority_B0]
      simp -implicitDefEqProofs (disch := first | omega | (simp only [List.length_set, List.length_append, List.length_cons, List.length_nil, List.length_take, List.length_drop, List.length_map]; omega) | simp) [wrap_i64, wrap_u16_id, wrap_u8_id, tdiv_pos, tmod_pos, -getElem?_pos, -getElem?_neg, -List.length_eq_zero_iff, -List.getElem_cons_drop, sumI]
theorem ref12_Majority_c (n : Nat) (l : List Int) (hw : Words l) (t : Tag) (hl : l.length ≤ 1000) (hn : 1010 ≤ n) : cP n 107 false [LV 1 (I .u16) l t] = some (.tup [I .u16 (majV l).1, Bo (majV l).2]) := by
  obtain ⟨n, rfl⟩ : ∃ m, n = m + 1 := ⟨n - 1, by omega⟩
  obtain ⟨i1, i2⟩ := rmaj_L n 0 l hw [] (by omega) n 0 0 (by omega) (by omega) (by omega) (by omega) (by omega)
  simp only [List.drop_zero, Int.natCast_zero] at i1 i2
  have lq : ∀ K H, loopG [0, 4, 5] [0, 2, 3, 4] 48 (s_triuneref12_Majority_b0 n 0) n (s_triuneref12_Majority_I0 (LV 1 (I .u16) l .sh) (I .i64 0) (I .i64 0)) H K = _ := fun K H => s_triuneref12_Majority_L0_eq _ _ _ _ _ _ _ _
  have fin : ∀ v B, (∃ H', s_triuneref12_Majority n [] 0 (LV 1 (I .u16) l .sh) = some (.tup [I .u16 v, Bo B], H')) → majV l = (v, B) → cP (n + 1) 107 false [LV 1 (I .u16) l t] = some (.tup [I .u16 (majV l).1, Bo (majV l).2]) := by
    rintro v B ⟨H', h1⟩ h2
    rw [h2]
    exact cP_of (args' := [LV 1 (I .u16) l .sh]) (by simp [argEl_eq]) ((s_triuneref12_Majority_eq _ _ _ _).trans h1) (by simp)
  by_cases h : ∃ x ∈ l.take 4, 2 ≤ x
  · obtain ⟨s', e⟩ := i1 h
    have h' : ∃ x ∈ l, 2 ≤ x := by
      obtain ⟨x, hx, h2⟩ := h
      exact ⟨x, List.mem_of_mem_take hx, h2⟩
    exact fin 0 false ⟨_, by unfold s_triuneref12_Majority; simp -implicitDefEqProofs (disch := first | omega | (simp only [List.length_set, List.length_append, List.length_cons, List.length_nil, List.length_take, List.length_drop, List.length_map]; omega) | simp) [wrap_i64, wrap_u16_id, wrap_u8_id, tdiv_pos, tmod_pos, -getElem?_pos, -getElem?_neg, -List.length_eq_zero_iff, -List.getElem_cons_drop, lq, e, s_triuneref12_Majority_O0]; first | rfl | exact ⟨rfl, rfl⟩⟩ (by unfold majV; rw [if_pos (.inr (.inl h'))])
  · have e := i2 h
    simp only [Int.zero_add] at e
    have hs := sumI_01 (l.take 4) (fun x hx => hw x (List.mem_of_mem_take hx)) h
    have hsl : (l.take 4).length ≤ 4 := by simp; omega
    by_cases h3 : 3 < l.length
    · have h3' : (3 : Int) < l.length := by omega
      generalize sumI (l.take 4) = s at *
      exact fin 0 false ⟨_, by unfold s_triuneref12_Majority; simp -implicitDefEqProofs (disch := first | omega | (simp only [List.length_set, List.length_append, List.length_cons, List.length_nil, List.length_take, List.length_drop, List.length_map]; omega) | simp) [wrap_i64, wrap_u16_id, wrap_u8_id, tdiv_pos, tmod_pos, -getElem?_pos, -getElem?_neg, -List.length_eq_zero_iff, -List.getElem_cons_drop, lq, e, s_triuneref12_Majority_O0, h3']; first | rfl | exact ⟨rfl, rfl⟩⟩ (by unfold majV; rw [if_pos (.inl h3)])
    · have h3' : ¬ (3 : Int) < l.length := by omega
      rw [List.take_of_length_le (by omega)] at e h hs
      generalize hsu : sumI l = s at *
      by_cases h0 : l.length = 0
      · have h0' : (l.length : Int) < 1 := by omega
        exact fin 0 false ⟨_, by unfold s_triuneref12_Majority; simp -implicitDefEqProofs (disch := first | omega | (simp only [List.length_set, List.length_append, List.length_cons, List.length_nil, List.length_take, List.length_drop, List.length_map]; omega) | simp) [wrap_i64, wrap_u16_id, wrap_u8_id, tdiv_pos, tmod_pos, -getElem?_pos, -getElem?_neg, -List.length_eq_zero_iff, -List.getElem_cons_drop, lq, e, s_triuneref12_Majority_O0, h0']; first | rfl | exact ⟨rfl, rfl⟩⟩ (by unfold majV; rw [if_pos (.inr (.inr (by rw [hsu]; omega)))])
      · have h0' : ¬ (l.length : Int) < 1 := by omega
        by_cases h4 : 2 * s = l.length
        · exact fin 0 false ⟨_, by unfold s_triuneref12_Majority; simp -implicitDefEqProofs (disch := first | omega | (simp only [List.length_set, List.length_append, List.length_cons, List.length_nil, List.length_take, List.length_drop, List.length_map]; omega) | simp) [wrap_i64, wrap_u16_id, wrap_u8_id, tdiv_pos, tmod_pos, -getElem?_pos, -getElem?_neg, -List.length_eq_zero_iff, -List.getElem_cons_drop, lq, e, s_triuneref12_Majority_O0, h0', h3', h4]; first | rfl | exact ⟨rfl, rfl⟩⟩ (by unfold majV; rw [if_pos (.inr (.inr (by rw [hsu]; omega)))])
        · have hm : majV l = if (l.length : Int) < 2 * s then (1, true) else (0, true) := by
            unfold majV
            rw [if_neg, hsu]
            rintro (k | k | k)
            · exact h3 k
            · exact h k
            · omega
          by_cases h5 : (l.length : Int) < 2 * s
          · exact fin 1 true ⟨_, by unfold s_triuneref12_Majority; simp -implicitDefEqProofs (disch := first | omega | (simp only [List.length_set, List.length_append, List.length_cons, List.length_nil, List.length_take, List.length_drop, List.length_map]; omega) | simp) [wrap_i64, wrap_u16_id, wrap_u8_id, tdiv_pos, tmod_pos, -getElem?_pos, -getElem?_neg, -List.length_eq_zero_iff, -List.getElem_cons_drop, lq, e, s_triuneref12_Majority_O0, h0', h3', h4, h5]; first | rfl | exact ⟨rfl, rfl⟩⟩ (by rw [hm, if_pos h5])
          · exact fin 0 true ⟨_, by unfold s_triuneref12_Majority; simp -implicitDefEqProofs (disch := first | omega | (simp only [List.length_set, List.length_append, List.length_cons, List.length_nil, List.length_take, List.length_drop, List.length_map]; omega) | simp) [wrap_i64, wrap_u16_id, wrap_u8_id, tdiv_pos, tmod_pos, -getElem?_pos, -getElem?_neg, -List.length_eq_zero_iff, -List.getElem_cons_drop, lq, e, s_triuneref12_Majority_O0, h0', h3', h4, h5]; first | rfl | exact ⟨rfl, rfl⟩⟩ (by rw [hm, if_neg h5])
end Go.Proofs.Ytbhnkdnfmlnajaa
