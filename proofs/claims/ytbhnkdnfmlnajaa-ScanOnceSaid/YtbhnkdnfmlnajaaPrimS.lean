/- Functions that are known by a contract of their own: that they answer so. -/
import Derived.Test.YtbhnkdnfmlnajaaPrimB
import Derived.Test.YtbhnkdnfmlnajaaPrimL
import Derived.Test.YtbhnkdnfmlnajaaMedM
import Derived.Test.YtbhnkdnfmlnajaaPrimW
import Derived.WalkKit
import Derived.Below
import Derived.Lib.Walk
import Derived.Lib.SliceRun
import Derived.Lib.AppendZerosOnto
namespace Go.Proofs.Ytbhnkdnfmlnajaa
open Go Go.RowKit
set_option linter.unusedSimpArgs false
set_option linter.unusedVariables false
set_option maxHeartbeats 4000000 in
theorem grow_walk (A : Option Addr) (n : Nat) (h0 : 0 < n) (h1 : n ≤ 1000000) (w : World) :
    Calls Try.prog 182 #[.slice A 0 0, .int .i64 n] w fun e w' => ∃ cap C, e = .returned (.slice (some ⟨w.heap.size, 0, none⟩) 0 cap) ∧ More (.cells C 5 (0, 0)) w w' ∧ C.size = cap * 1 := by
  have hinf : (Try.prog.info? 5).map (fun i => (i.size, i.bytes, i.zero)) = some (1, 1, some (.int .u8 0)) := by kernel_rfl
  obtain ⟨i0, hi0, hs0⟩ := Option.map_eq_some_iff.1 hinf
  simp only [Prod.mk.injEq] at hs0
  obtain ⟨hs0, hb0, hz0⟩ := hs0
  clear hinf
  have hold : (Builtin.firstCells i0.size 0 (.slice A 0 0)).run Try.prog w.drew = .ok ([] : List Value).toArray w.drew := by
    cases A with
    | none => exact run_firstCells_none w.drew i0.size 0 0 0
    | some a => exact run_firstCells_some w.drew i0.size 0 a 0 0 [] (by simp) (fun j v hj => by simp at hj)
  have hn0 : ¬ ((n : Int) < 0) := by omega
  have hn1 : (n : Int) > 0 := by omega
  have hn2 : IntKind.i64.wrap ((n : Int) - 0) = (n : Int) := by simp [IntKind.wrap, IntKind.bits, IntKind.signed]; omega
  have hrz : ∀ ty, (Builtin.append_ #[251, 3] ty #[.slice A 0 0, .int .i64 (n : Int)]).run Try.prog w =
      .ok (.slice (some ⟨w.heap.size, 0, none⟩) n (grownCap w n 0 5)) (w.drew.alloc (.cells (([] : List Value).toArray ++ Builtin.zeroCells (Value.int .u8 0).cells n ++ Builtin.zeroCells (Value.int .u8 0).cells (grownCap w n 0 5 - n)) 5)) := fun ty => by
    have h := Lib.run_append_grow_zeros w 251 3 ty 5 i0 (.int .u8 0) .i64 .i64 Try.underlying251 Try.underlying3 hi0 hz0 A 0 0 [] hold n h0 (by omega) (by omega) (by omega) (by rw [hb0]; omega) (by rw [hb0]; exact growslice_fits (by omega) (by omega))
    rw [Nat.zero_add] at h
    exact h
  have hGn : n ≤ grownCap w n 0 5 := grownCap_ge w _ _ _
  have hcs : (([] : List Value).toArray ++ Builtin.zeroCells (Value.int .u8 0).cells n ++ Builtin.zeroCells (Value.int .u8 0).cells (grownCap w n 0 5 - n)).size = grownCap w n 0 5 * 1 := by
    simp [Builtin.zeroCells, Value.cells]
    omega
  have hG63 : grownCap w n 0 5 ≤ 9223372036854775807 := by
    have := grownCap_le_maxLen w n 0 5 (by unfold maxLen; omega)
    unfold maxLen at this
    omega
  generalize (([] : List Value).toArray ++ Builtin.zeroCells (Value.int .u8 0).cells n ++ Builtin.zeroCells (Value.int .u8 0).cells (grownCap w n 0 5 - n)) = C at *
  generalize grownCap w n 0 5 = G at *
  have fin : More (.cells C 5 (0, 0)) w (w.drew.alloc (.cells C 5)) := ⟨rfl, rfl, rfl, rfl⟩
  clear hold hb0 hz0 hs0 hi0
  go_enter Try.func182, Try.ntmps182
  go_wp2_with (at_builtin; refine Lib.wpList_append_run _ rfl _ _ _ _ rfl _ _ rfl rfl _ _ (hrz _) ?_)
  all_goals (go_ret; exact ⟨_, rfl, _, ⟨rfl, rfl, rfl, rfl⟩, by simpa using hcs⟩)
theorem grow_zero (A : Option Addr) (w : World) : Calls Try.prog 182 #[.slice A 0 0, .int .i64 0] w fun e w' => e = .returned (.slice A 0 0) ∧ w' = w := by
  go_enter Try.func182, Try.ntmps182
  go_wp2
  go_ret
  exact ⟨rfl, rfl⟩
theorem primGrow_ok {args : List DV} {d : DV} {H H' : Heap} (h : primGrow args H = some (d, H')) : (∀ fl, CallOk Try.prog 182 args H fl d H') ∧ ∀ k : Nat, H[k]? = some .hole → H'[k]? = some .hole := by
  unfold primGrow at h
  split at h
  · rename_i H0 n
    split at h
    · rename_i hn
      subst hn
      simp only [Option.some.injEq, Prod.mk.injEq] at h
      obtain ⟨rfl, rfl⟩ := h
      refine ⟨fun fl => ?_, fun k hk => hk⟩
      refine callOk_below (fun I G w vs hr => ?_) _ fl
      simp only [RepL, Rep] at hr
      obtain ⟨_, _, e1, ⟨A, c, rfl, _, _, _, ht⟩, _, _, rfl, rfl, rfl⟩ := hr
      simp only [TagOk] at ht
      have hv : vs = #[.slice A 0 0, .int .i64 0] := by
        apply Array.ext'
        simpa [ht] using e1
      subst hv
      exact (grow_zero A w).mono fun r w' ⟨h1, h2⟩ => ⟨_, h1, by rw [h2]; exact Below.refl _ _, fun I G => by simp only [Rep, TagOk]; exact ⟨A, 0, rfl, by simp, by simp, .inl trivial, rfl⟩⟩
    · split at h
      · rename_i h0 h1
        simp only [Option.some.injEq, Prod.mk.injEq] at h
        obtain ⟨rfl, rfl⟩ := h
        refine ⟨fun fl => ?_, fun k hk => by rw [List.getElem?_append_left (List.getElem?_eq_some_iff.1 hk).1]; exact hk⟩
        intro B G w vs hB hH hr hfl
        refine ⟨?_, fun k hk => List.getElem?_append_left (by omega), by simp⟩
        simp only [RepL, Rep] at hr
        obtain ⟨_, _, e1, ⟨A, c, rfl, _, _, _, ht⟩, _, _, rfl, rfl, rfl⟩ := hr
        simp only [TagOk] at ht
        obtain ⟨m, rfl⟩ := Int.eq_ofNat_of_zero_le (by omega : 0 ≤ n)
        have hv : vs = #[.slice A 0 0, .int .i64 m] := by
          apply Array.ext'
          simpa [ht] using e1
        subst hv
        refine (grow_walk A m (by omega) (by omega) w).mono fun e w' ⟨cap, C, he, hm, hC⟩ => ?_
        obtain ⟨hK, hH'⟩ := step_token (n := 0) hH hB hm (Nat.zero_le _) (by omega) (by omega) hC
        refine ⟨_, _, he, hK, hH', ?_⟩
        have hself : (G ++ [GK.own w.heap.size 1 cap 0])[H.length]? = some (GK.own w.heap.size 1 cap 0) := by rw [hH.len]; simp
        simp only [Rep]
        refine ⟨_, cap, rfl, Nat.zero_le _, by simp, .inl trivial, ?_⟩
        simp only [TagOk]
        exact ⟨_, _, _, _, hself, by simp, fun _ => ⟨rfl, rfl, rfl⟩⟩
      · cases h
  · cases h
theorem dWI_some (x : DV) (a : Int) (h : dWI x = some a) : x = .flat (.int .u16 a) ∧ 0 ≤ a ∧ a < 65536 := by
  unfold dWI at h
  split at h
  · split at h
    · rename_i hn
      cases h
      exact ⟨rfl, hn⟩
    · cases h
  · cases h
theorem mapO_dWI : ∀ (xs : List DV) (l : List Int), mapO dWI xs = some l → ∀ a ∈ l, 0 ≤ a ∧ a < 65536
  | [], l, h => by cases h; simp
  | x :: xs, l, h => by
    obtain ⟨y, s, h1, h2, rfl⟩ := mapO_cons' h
    intro a ha
    rcases List.mem_cons.1 ha with rfl | ha
    · exact (dWI_some _ _ h1).2
    · exact mapO_dWI xs s h2 a ha
theorem ofWm_low : ∀ (l : List Int), (∀ a ∈ l, 0 ≤ a ∧ a < 65536) → ofWm (l.map lowW) = l ∧ (l.map lowW).map encW = l.map (Value.int .u16)
  | [], _ => ⟨rfl, rfl⟩
  | a :: l, h => by
    obtain ⟨h1, h2⟩ := ofWm_low l fun x hx => h x (by simp [hx])
    have h3 := h a (by simp)
    refine ⟨?_, ?_⟩
    · show ((lowW a).toNat : Int) :: ofWm (l.map lowW) = _
      rw [h1, lowW_nat _ h3.1 h3.2]
    · rw [List.map_cons, List.map_cons, List.map_cons, h2, ← encW_low _ h3.1 h3.2]
theorem primMed_ok {args : List DV} {d : DV} {H H' : Heap} (h : primMed args H = some (d, H')) : H' = H ∧ ∀ fl, CallOk Try.prog 116 args H fl d H := by
  unfold primMed at h
  split at h
  · rename_i sz xs t' H0
    obtain ⟨l, hl, h⟩ := Option.bind_eq_some_iff.1 h
    split at h
    · rename_i hlen
      simp only [Option.some.injEq, Prod.mk.injEq] at h
      obtain ⟨rfl, rfl⟩ := h
      refine ⟨rfl, fun fl => callOk_below (fun I G w vs hr => ?_) _ fl⟩
      simp only [RepL] at hr
      obtain ⟨V, _, e1, hV, rfl⟩ := hr
      have hv : vs = #[V] := by apply Array.ext'; simpa using e1
      subst hv
      have hR := list_rd (enc := fun n : Int => Value.int .u16 n) (fun x a hx => (dWI_some x a hx).1) (fun a => rfl) hV hl
      obtain ⟨q1, q2⟩ := ofWm_low l (mapO_dWI _ l hl)
      have hR2 : RdV encW w V (l.map lowW) := by
        unfold RdV at hR ⊢
        rw [q2, List.length_map]
        exact hR
      have hm := median_w V (l.map lowW) w hR2 (by simpa using hlen)
      rw [q1] at hm
      exact hm.mono fun e w' ⟨h3, h4⟩ => ⟨_, h3, h4, fun I G => by
        simp only [Rep, RepL]
        exact ⟨_, rfl, _, _, rfl, rfl, _, _, rfl, rfl, rfl⟩⟩
    · cases h
  · cases h
theorem primOk (f : FuncId) (g : Prim) (args : List DV) (H : Heap) (d : DV) (H' : Heap) (hf : PRIM f = some g) (h : g args H = some (d, H')) : (∃ fn, Try.prog.funcs[f]? = some fn ∧ fn.body.isSome = true) ∧ (∀ fl, CallOk Try.prog f args H fl d H') ∧ ∀ k : Nat, H[k]? = some .hole → H'[k]? = some .hole := by
  unfold PRIM at hf
  by_cases c0 : f = 116
  · subst c0
    simp only [BEq.rfl, cond_true, Option.some.injEq] at hf
    subst hf
    obtain ⟨rfl, h⟩ := primMed_ok h
    exact ⟨⟨_, Try.func116, rfl⟩, h, fun _ h => h⟩
  have c0' : (f == 116) = false := by simpa using c0
  simp only [c0', cond_false] at hf
  by_cases c3 : f = 182
  · subst c3
    simp only [BEq.rfl, cond_true, Option.some.injEq] at hf
    subst hf
    obtain ⟨h1, h2⟩ := primGrow_ok h
    exact ⟨⟨_, Try.func182, rfl⟩, h1, h2⟩
  have c4 : (f == 182) = false := by simpa using c3
  simp only [c4, cond_false] at hf
  exact primW_ok f g args H d H' hf h
end Go.Proofs.Ytbhnkdnfmlnajaa
