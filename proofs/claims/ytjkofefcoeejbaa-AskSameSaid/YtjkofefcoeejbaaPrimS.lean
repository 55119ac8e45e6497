/- Functions that are known by a contract of their own: that they answer so. -/
import Derived.Test.YtjkofefcoeejbaaPrimD
import Derived.Test.YtjkofefcoeejbaaPg
import Derived.WalkKit
import Derived.Below
import Derived.Lib.Walk
import Derived.Lib.SliceRun
import Derived.Lib.AppendZerosOnto
namespace Go.Proofs.Ytjkofefcoeejbaa
open Go Go.RowKit
set_option linter.unusedSimpArgs false
set_option linter.unusedVariables false
theorem Keep.below (G : Gh) {w w' : World} (h : Below w.heap.size w w') : Keep G w G w' :=
  ⟨h.os, h.tape, h.output, h.size, fun b hb _ => h.block b hb, fun k b sz cap hw hg hb j hj => cell_of_blk (h.block b hb) j, Evol.refl G, fun k b hb h => h, fun k b sz cap' hw' hb h => ⟨cap', hw', h, Nat.le_refl _⟩⟩
theorem HR.below {B : Nat → Nat → Prop} {G : Gh} {w w' : World} {H : Heap} (h : HR B G w H) (hb : Below w.heap.size w w') : HR B G w' H := by
  refine ⟨h.len, h.dist, fun k b g hB hg => ?_, h.bb⟩
  have := h.blk k b g hB hg
  cases b <;> cases g <;> simp only [BlkRep] at this ⊢
  · obtain ⟨C, h1, h2, h3⟩ := this
    exact ⟨C, by rw [hb.block _ (h.lt (.inl hg))]; exact h1, RepL.keep (Keep.below G hb) h2, h3⟩
  · obtain ⟨h1, h2, h3, h4, h5, C, h6, h7⟩ := this
    exact ⟨h1, h2, h3, h4, h5, C, by rw [hb.block _ (h.lt (.inr ⟨_, _, _, hg⟩))]; exact h6, h7⟩
/-- a call that leaves all that was, and answers what holds no address -/
theorem callOk_below {P : Program} {f : FuncId} {args : List DV} {r : DV} (h : ∀ (I : Nat → Nat → Prop) (G : Gh) (w : World) (vs : Array Value), RepL I w G args vs.toList → Calls P f vs w fun e w' => ∃ V, e = .returned V ∧ Below w.heap.size w w' ∧ ∀ (I : Nat → Nat → Prop) (G : Gh), Rep I w' G r V) (H : Heap) (fl : Nat) : CallOk P f args H fl r H := by
  intro B G w vs hB hH hr hfl
  refine ⟨(h _ G w vs hr).mono fun e w' ⟨V, he, hb, hV⟩ => ⟨V, G, he, Keep.below G hb, hH.below hb, hV _ _⟩, fun _ _ => rfl, Nat.le_refl _⟩
set_option maxHeartbeats 4000000 in
theorem grow_walk (A : Option Addr) (n : Nat) (h0 : 0 < n) (h1 : n ≤ 1000000) (w : World) :
    Calls Try.prog 120 #[.slice A 0 0, .int .i64 n] w fun e w' => ∃ cap C, e = .returned (.slice (some ⟨w.heap.size, 0, none⟩) 0 cap) ∧ More (.cells C 5 (0, 0)) w w' ∧ C.size = cap * 1 := by
  have hinf : (Try.prog.info? 5).map (fun i => (i.size, i.bytes, i.zero)) = some (1, 1, some (.int .u8 0)) := by kernel_rfl
  obtain ⟨i0, hi0, hs0⟩ := Option.map_eq_some_iff.1 hinf
  simp only [Prod.mk.injEq] at hs0
  obtain ⟨hs0, hb0, hz0⟩ := hs0
  clear hinf
  have hold : (Builtin.firstCells i0.size 0 (.slice A 0 0)).run Try.prog w.drew = .ok ([] : List Value).toArray w.drew := by
    cases A with
    | none => exact run_firstCells_none w.drew i0.size 0 0 0
    | some a => exact run_firstCells_some w.drew i0.size 0 a 0 0 [] (by simp) (fun j v hj => by simp at hj)
  have hn0 : ¬ ((n : Int) < 0) := by omega
  have hn1 : (n : Int) > 0 := by omega
  have hn2 : IntKind.i64.wrap ((n : Int) - 0) = (n : Int) := by simp [IntKind.wrap, IntKind.bits, IntKind.signed]; omega
  have hrz : ∀ ty, (Builtin.append_ #[27, 3] ty #[.slice A 0 0, .int .i64 (n : Int)]).run Try.prog w =
      .ok (.slice (some ⟨w.heap.size, 0, none⟩) n (grownCap w n 0 5)) (w.drew.alloc (.cells (([] : List Value).toArray ++ Builtin.zeroCells (Value.int .u8 0).cells n ++ Builtin.zeroCells (Value.int .u8 0).cells (grownCap w n 0 5 - n)) 5)) := fun ty => by
    have h := Lib.run_append_grow_zeros w 27 3 ty 5 i0 (.int .u8 0) .i64 .i64 Try.underlying27 Try.underlying3 hi0 hz0 A 0 0 [] hold n h0 (by omega) (by omega) (by omega) (by rw [hb0]; omega) (by rw [hb0]; exact growslice_fits (by omega) (by omega))
    rw [Nat.zero_add] at h
    exact h
  have hGn : n ≤ grownCap w n 0 5 := grownCap_ge w _ _ _
  have hcs : (([] : List Value).toArray ++ Builtin.zeroCells (Value.int .u8 0).cells n ++ Builtin.zeroCells (Value.int .u8 0).cells (grownCap w n 0 5 - n)).size = grownCap w n 0 5 * 1 := by
    simp [Builtin.zeroCells, Value.cells]
    omega
  have hG63 : grownCap w n 0 5 ≤ 9223372036854775807 := by
    have := grownCap_le_maxLen w n 0 5 (by unfold maxLen; omega)
    unfold maxLen at this
    omega
  generalize (([] : List Value).toArray ++ Builtin.zeroCells (Value.int .u8 0).cells n ++ Builtin.zeroCells (Value.int .u8 0).cells (grownCap w n 0 5 - n)) = C at *
  generalize grownCap w n 0 5 = G at *
  have fin : More (.cells C 5 (0, 0)) w (w.drew.alloc (.cells C 5)) := ⟨rfl, rfl, rfl, rfl⟩
  clear hold hb0 hz0 hs0 hi0
  go_enter Try.func120, Try.ntmps120
  go_wp2_with (at_builtin; refine Lib.wpList_append_run _ rfl _ _ _ _ rfl _ _ rfl rfl _ _ (hrz _) ?_)
  all_goals (go_ret; exact ⟨_, rfl, _, ⟨rfl, rfl, rfl, rfl⟩, by simpa using hcs⟩)
theorem grow_zero (A : Option Addr) (w : World) : Calls Try.prog 120 #[.slice A 0 0, .int .i64 0] w fun e w' => e = .returned (.slice A 0 0) ∧ w' = w := by
  go_enter Try.func120, Try.ntmps120
  go_wp2
  go_ret
  exact ⟨rfl, rfl⟩
theorem primGrow_ok {args : List DV} {d : DV} {H H' : Heap} (h : primGrow args H = some (d, H')) : (∀ fl, CallOk Try.prog 120 args H fl d H') ∧ ∀ k : Nat, H[k]? = some .hole → H'[k]? = some .hole := by
  unfold primGrow at h
  split at h
  · rename_i H0 n
    split at h
    · rename_i hn
      subst hn
      simp only [Option.some.injEq, Prod.mk.injEq] at h
      obtain ⟨rfl, rfl⟩ := h
      refine ⟨fun fl => ?_, fun k hk => hk⟩
      refine callOk_below (fun I G w vs hr => ?_) _ fl
      simp only [RepL, Rep] at hr
      obtain ⟨_, _, e1, ⟨A, c, rfl, _, _, _, ht⟩, _, _, rfl, rfl, rfl⟩ := hr
      simp only [TagOk] at ht
      have hv : vs = #[.slice A 0 0, .int .i64 0] := by
        apply Array.ext'
        simpa [ht] using e1
      subst hv
      exact (grow_zero A w).mono fun r w' ⟨h1, h2⟩ => ⟨_, h1, by rw [h2]; exact Below.refl _ _, fun I G => by simp only [Rep, TagOk]; exact ⟨A, 0, rfl, by simp, by simp, .inl trivial, rfl⟩⟩
    · split at h
      · rename_i h0 h1
        simp only [Option.some.injEq, Prod.mk.injEq] at h
        obtain ⟨rfl, rfl⟩ := h
        refine ⟨fun fl => ?_, fun k hk => by rw [List.getElem?_append_left (List.getElem?_eq_some_iff.1 hk).1]; exact hk⟩
        intro B G w vs hB hH hr hfl
        refine ⟨?_, fun k hk => List.getElem?_append_left (by omega), by simp⟩
        simp only [RepL, Rep] at hr
        obtain ⟨_, _, e1, ⟨A, c, rfl, _, _, _, ht⟩, _, _, rfl, rfl, rfl⟩ := hr
        simp only [TagOk] at ht
        obtain ⟨m, rfl⟩ := Int.eq_ofNat_of_zero_le (by omega : 0 ≤ n)
        have hv : vs = #[.slice A 0 0, .int .i64 m] := by
          apply Array.ext'
          simpa [ht] using e1
        subst hv
        refine (grow_walk A m (by omega) (by omega) w).mono fun e w' ⟨cap, C, he, hm, hC⟩ => ?_
        obtain ⟨hK, hH'⟩ := step_token (n := 0) hH hB hm (Nat.zero_le _) (by omega) (by omega) hC
        refine ⟨_, _, he, hK, hH', ?_⟩
        have hself : (G ++ [GK.own w.heap.size 1 cap 0])[H.length]? = some (GK.own w.heap.size 1 cap 0) := by rw [hH.len]; simp
        simp only [Rep]
        refine ⟨_, cap, rfl, Nat.zero_le _, by simp, .inl trivial, ?_⟩
        simp only [TagOk]
        exact ⟨_, _, _, _, hself, by simp, fun _ => ⟨rfl, rfl, rfl⟩⟩
      · cases h
  · cases h
theorem primOk (f : FuncId) (g : Prim) (args : List DV) (H : Heap) (d : DV) (H' : Heap) (hf : PRIM f = some g) (h : g args H = some (d, H')) : (∃ fn, Try.prog.funcs[f]? = some fn ∧ fn.body.isSome = true) ∧ (∀ fl, CallOk Try.prog f args H fl d H') ∧ ∀ k : Nat, H[k]? = some .hole → H'[k]? = some .hole := by
  unfold PRIM at hf
  by_cases c3 : f = 120
  · subst c3
    simp only [BEq.rfl, cond_true, Option.some.injEq] at hf
    subst hf
    obtain ⟨h1, h2⟩ := primGrow_ok h
    exact ⟨⟨_, Try.func120, rfl⟩, h1, h2⟩
  have c4 : (f == 120) = false := by simpa using c3
  simp only [c4, cond_false] at hf
  cases hf
end Go.Proofs.Ytjkofefcoeejbaa
