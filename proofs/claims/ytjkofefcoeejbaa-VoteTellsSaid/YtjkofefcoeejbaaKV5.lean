/- Texts of mine, laid together: PrimW, PrimS, GPrimC, FPtsMay, GPoint, GPtsMay, Sym, GVote, GVoteM, GVoteV, Op, Shp, GVoteL. -/
import Derived.Test.YtjkofefcoeejbaaKV4
import Derived.WalkKit
import Derived.Below
import Derived.Lib.Walk
import Derived.Lib.SliceRun
import Derived.Lib.AppendZerosOnto
import Derived.SizedLaws
import Derived.ChangeSlices
import Derived.OpenShut
import Derived.ChangeArms
/- Words and bits by their contracts of the old kind: that they answer so. -/
namespace Go.Proofs.Ytjkofefcoeejbaa
open Go Go.RowKit
set_option linter.unusedSimpArgs false
set_option linter.unusedVariables false
theorem repE_mk {α : Type} {enc : α → Value} {e' : α → DV} (he : ∀ a, e' a = .flat (enc a)) (h1 : ∀ a, (enc a).cells = #[enc a] ∧ isOne (enc a) = true) {I : Nat → Nat → Prop} {w : World} {b : Nat} : ∀ (l : List α) (o : Nat), (∀ j (h : j < l.length), w.cell? ⟨b, o + j, none⟩ = some (enc l[j]) ∧ I b (o + j)) → RepE I w 1 (l.map e') b o
  | [], o, _ => by simp [RepE]
  | a :: l, o, h => by
    simp only [List.map_cons, RepE]
    refine ⟨⟨by rw [he]; simp [DV.cells, DV.leaf, (h1 a).2], enc a, by rw [he]; simp only [Rep], by rw [(h1 a).1]; rfl, ?_⟩, repE_mk he h1 l (o + 1) fun j hj => ?_⟩
    · rw [(h1 a).1]
      intro j v hj
      cases j with
      | zero =>
        simp at hj
        subst hj
        obtain ⟨h2, h3⟩ := h 0 (by simp)
        exact ⟨h2, h3, (h1 _).2⟩
      | succ j => simp at hj
    · have := h (j + 1) (by simpa using hj)
      rw [show o + (j + 1) = o + 1 + j by omega] at this
      exact this
/-- a row of the call's own, handed out as a list -/
theorem own_rep {α : Type} {enc : α → Value} {e' : α → DV} (he : ∀ a, e' a = .flat (enc a)) (h1 : ∀ a, (enc a).cells = #[enc a] ∧ isOne (enc a) = true) {B : Nat → Nat → Prop} {G : Gh} {w w' : World} {H : Heap} (hB : ∀ b j, w.heap.size ≤ b → B b j) (hH : HR B G w H) {e : TypeId} {V : Value} {l : List α} (ho : Own enc e w' w.heap.size V l) : Rep (ImmB B G) w' G (mkl 1 (l.map e') .sh) V := by
  obtain ⟨⟨_, h2⟩, h3⟩ := ho
  rcases h2 with ⟨rfl, h2⟩ | ⟨g, cap, cur, rfl, hg, hc, h4, _, _, h5⟩
  · have : l = [] := List.eq_nil_of_length_eq_zero h2
    subst this
    simp only [List.map_nil, mkl, Rep, TagOk]
    exact ⟨none, 0, rfl, Nat.le_refl _, by simp, .inl trivial, trivial⟩
  · have hE : RepE (ImmB B G) w' 1 (l.map e') g 0 := by
      refine repE_mk he h1 l 0 fun j hj => ⟨?_, hB _ _ hg, fun k hk => ?_, fun k s c n hk => ?_⟩
      · rw [cell_toList hc, Nat.zero_add]
        have h6 : (l.map enc)[j]? = some (enc l[j]) := by simp [hj]
        rw [← h5] at h6
        rw [List.getElem?_take_of_lt (by omega)] at h6
        exact h6
      · have := hH.lt (.inl hk); omega
      · have := hH.lt (.inr ⟨_, _, _, hk⟩); omega
    cases l with
    | nil =>
      simp only [List.map_nil, mkl, Rep, TagOk]
      exact ⟨_, cap, rfl, h4, by simp, .inl trivial, trivial⟩
    | cons a l =>
      simp only [List.map_cons, mkl, Rep, TagOk]
      refine ⟨_, cap, by simp, by simpa using h4, by simpa using h3, .inr ⟨g, 0, rfl, by simpa using hE⟩, trivial⟩
theorem dB_some (x : DV) (a : UInt8) (h : dB x = some a) : x = .flat (encB a) := by
  unfold dB at h
  split at h
  · split at h
    · rename_i hn
      cases h
      rw [encB_low _ hn.1 hn.2]
    · cases h
  · cases h
theorem dW_some (x : DV) (a : UInt16) (h : dW x = some a) : x = .flat (encW a) := by
  unfold dW at h
  split at h
  · split at h
    · rename_i hn
      cases h
      rw [encW_low _ hn.1 hn.2]
      rfl
    · cases h
  · cases h
theorem dT_some (x : DV) (a : Bool) (h : dT x = some a) : x = .flat (encT a) := by
  unfold dT at h
  split at h
  · cases h; rfl
  · cases h
theorem primLL_ok {α β : Type} {d : DV → Option α} {ea : α → Value} {eb : β → Value} {e' : β → DV} {g : List α → List β} {f : FuncId} {t : TypeId} (hd : ∀ x a, d x = some a → x = .flat (ea a)) (h1 : ∀ a, (ea a).cells = #[ea a]) (he : ∀ a, e' a = .flat (eb a)) (h2 : ∀ a, (eb a).cells = #[eb a] ∧ isOne (eb a) = true)
    (hf : ∀ (v : Value) (l : List α) (w : World), RdV ea w v l → l.length ≤ 100000 → Calls Try.prog f #[v] w fun e w' => ∃ v', e = .returned v' ∧ Own eb t w' w.heap.size v' (g l) ∧ Below w.heap.size w w')
    {args : List DV} {r : DV} {H H' : Heap} (h : primLL d e' g args H = some (r, H')) : H' = H ∧ ∀ fl, CallOk Try.prog f args H fl r H := by
  unfold primLL at h
  split at h
  · rename_i sz xs t' H0
    obtain ⟨l, hl, h⟩ := Option.bind_eq_some_iff.1 h
    split at h
    · rename_i hlen
      simp only [Option.some.injEq, Prod.mk.injEq] at h
      obtain ⟨rfl, rfl⟩ := h
      refine ⟨rfl, fun fl B G w vs hB hH hr hfl => ⟨?_, fun _ _ => rfl, Nat.le_refl _⟩⟩
      simp only [RepL] at hr
      obtain ⟨V, _, e1, hV, rfl⟩ := hr
      have hv : vs = #[V] := by apply Array.ext'; simpa using e1
      subst hv
      exact (hf V l w (list_rd hd h1 hV hl) hlen).mono fun e w' ⟨v', h3, h4, h5⟩ => ⟨v', G, h3, Keep.below G h5, hH.below h5, own_rep he h2 hB hH h4⟩
    · cases h
  · cases h
theorem primTL_ok {β : Type} {eb : β → Value} {e' : β → DV} {f : FuncId} {t : TypeId} {c : Bool} {l2 : List β} {args : List DV} {H : Heap} (he : ∀ a, e' a = .flat (eb a)) (h2 : ∀ a, (eb a).cells = #[eb a] ∧ isOne (eb a) = true)
    (hf : ∀ (B : Nat → Nat → Prop) (G : Gh) (w : World) (vs : Array Value), RepL (ImmB B G) w G args vs.toList → Calls Try.prog f vs w fun e w' => ∃ v', e = .returned (.tuple #[v', .bool c]) ∧ Own eb t w' w.heap.size v' l2 ∧ Below w.heap.size w w') (fl : Nat) : CallOk Try.prog f args H fl (.tup [mkl 1 (l2.map e') .sh, .flat (.bool c)]) H := by
  intro B G w vs hB hH hr hfl
  refine ⟨(hf B G w vs hr).mono fun e w' ⟨v', h3, h4, h5⟩ => ⟨_, G, h3, Keep.below G h5, hH.below h5, ?_⟩, fun _ _ => rfl, Nat.le_refl _⟩
  simp only [Rep, RepL]
  exact ⟨_, rfl, _, _, rfl, own_rep he h2 hB hH h4, _, _, rfl, rfl, rfl⟩
theorem own_nil {α : Type} (enc : α → Value) (e : TypeId) (w : World) (b : Nat) : Own enc e w b (.slice none 0 0) [] := ⟨⟨rfl, .inl ⟨rfl, rfl⟩⟩, by simp⟩
theorem primWords_ok {f : FuncId} (hno : ∀ (v : Value) (l : List UInt8) (w : World), RdV encB w v l → l.length % 2 = 1 → Calls Try.prog f #[v] w fun e w' => e = .returned (.tuple #[.slice none 0 0, .bool false]) ∧ w = w')
    (hyes : ∀ (v : Value) (l : List UInt8) (w : World), RdV encB w v l → l.length % 2 = 0 → l.length ≤ 100000 → Calls Try.prog f #[v] w fun e w' => ∃ v', e = .returned (.tuple #[v', .bool true]) ∧ Own encW 24 w' w.heap.size v' (wWords l) ∧ Below w.heap.size w w')
    {args : List DV} {r : DV} {H H' : Heap} (h : primWords args H = some (r, H')) : H' = H ∧ ∀ fl, CallOk Try.prog f args H fl r H := by
  unfold primWords at h
  split at h
  · rename_i sz xs t' H0
    obtain ⟨l, hl, h⟩ := Option.bind_eq_some_iff.1 h
    split at h
    · rename_i hlen
      simp only [Option.some.injEq, Prod.mk.injEq] at h
      obtain ⟨rfl, rfl⟩ := h
      refine ⟨rfl, fun fl => primTL_ok (t := 24) (eb := encW) (fun a => rfl) (fun a => ⟨rfl, rfl⟩) (fun B G w vs hr => ?_) fl⟩
      simp only [RepL] at hr
      obtain ⟨V, _, e1, hV, rfl⟩ := hr
      have hv : vs = #[V] := by apply Array.ext'; simpa using e1
      subst hv
      have hR := list_rd dB_some (fun a => rfl) hV hl
      rcases (by omega : l.length % 2 = 1 ∨ l.length % 2 = 0) with hn | hn
      · rw [wordsTell_no hn]
        exact (hno V l w hR hn).mono fun e w' ⟨h3, h4⟩ => ⟨_, h3, own_nil _ _ _ _, by rw [← h4]; exact Below.refl _ _⟩
      · rw [wordsTell_yes hn]
        exact hyes V l w hR hn hlen
    · cases h
  · cases h
theorem primBits_ok {args : List DV} {r : DV} {H H' : Heap} (h : primBits args H = some (r, H')) : H' = H ∧ ∀ fl, CallOk Try.prog 96 args H fl r H := by
  unfold primBits at h
  split at h
  · rename_i H0 sz xs t' n
    obtain ⟨l, hl, h⟩ := Option.bind_eq_some_iff.1 h
    split at h
    · rename_i hlen
      obtain ⟨hlen, hn0, hn1⟩ := hlen
      simp only [Option.some.injEq, Prod.mk.injEq] at h
      obtain ⟨rfl, rfl⟩ := h
      refine ⟨rfl, fun fl => primTL_ok (t := 4) (eb := encT) (fun a => rfl) (fun a => ⟨rfl, rfl⟩) (fun B G w vs hr => ?_) fl⟩
      simp only [RepL] at hr
      obtain ⟨V, _, e1, hV, V2, _, rfl, hV2, rfl⟩ := hr
      simp only [Rep] at hV2
      subst hV2
      have hv : vs = #[V, .int .i64 n] := by apply Array.ext'; simpa using e1
      subst hv
      have hR := list_rd dB_some (fun a => rfl) hV hl
      by_cases h0 : 0 ≤ n ∧ bitsFit l n.toNat
      · obtain ⟨m, rfl⟩ := Int.eq_ofNat_of_zero_le h0.1
        have hf : bitsFit l m := by simpa using h0.2
        have hm : m ≤ 800000 := by have := hf.1; omega
        rw [bitsTell_nat, wBits_yes hf]
        exact word_Bits_yes V l m w hR hf hm
      · have hn : n < 0 ∨ ¬ bitsFit l n.toNat := by
          rcases (by omega : n < 0 ∨ 0 ≤ n) with h | h
          · exact .inl h
          · exact .inr fun h2 => h0 ⟨h, h2⟩
        have e : bitsTell l n = (false, []) := by
          rcases (by omega : n < 0 ∨ 0 ≤ n) with h | h
          · exact bitsTell_neg h
          · obtain ⟨m, rfl⟩ := Int.eq_ofNat_of_zero_le h
            rw [bitsTell_nat]
            exact wBits_no fun h2 => h0 ⟨h, by simpa using h2⟩
        rw [e]
        exact (word_Bits_no V l n w hR hn hn1 hn0).mono fun e w' ⟨h3, h4⟩ => ⟨_, h3, own_nil _ _ _ _, by rw [← h4]; exact Below.refl _ _⟩
    · cases h
  · cases h
theorem primW_ok (f : FuncId) (g : Prim) (args : List DV) (H : Heap) (d : DV) (H' : Heap) (hf : PRIMW f = some g) (h : g args H = some (d, H')) : (∃ fn, Try.prog.funcs[f]? = some fn ∧ fn.body.isSome = true) ∧ (∀ fl, CallOk Try.prog f args H fl d H') ∧ ∀ k : Nat, H[k]? = some .hole → H'[k]? = some .hole := by
  unfold PRIMW at hf
  by_cases c1 : f = 64
  · subst c1
    simp only [BEq.rfl, cond_true, Option.some.injEq] at hf
    subst hf
    obtain ⟨rfl, h⟩ := primLL_ok dW_some (fun a => rfl) (fun a => rfl) (fun a => ⟨rfl, rfl⟩) (fun v l w h1 h2 => word_Bytes v l w h1 h2) h
    exact ⟨⟨_, Try.func64, rfl⟩, h, fun _ h => h⟩
  have d1 : (f == 64) = false := by simpa using c1
  simp only [d1, cond_false] at hf
  by_cases c2 : f = 63
  · subst c2
    simp only [BEq.rfl, cond_true, Option.some.injEq] at hf
    subst hf
    obtain ⟨rfl, h⟩ := primLL_ok dT_some (fun a => rfl) (fun a => rfl) (fun a => ⟨rfl, rfl⟩) (fun v l w h1 h2 => word_Pack v l w h1 h2) h
    exact ⟨⟨_, Try.func63, rfl⟩, h, fun _ h => h⟩
  have d2 : (f == 63) = false := by simpa using c2
  simp only [d2, cond_false] at hf
  by_cases c3 : f = 98
  · subst c3
    simp only [BEq.rfl, cond_true, Option.some.injEq] at hf
    subst hf
    obtain ⟨rfl, h⟩ := primWords_ok (fun v l w h1 h2 => word_Words_no v l w h1 h2) (fun v l w h1 h2 h3 => word_Words_yes v l w h1 h2 h3) h
    exact ⟨⟨_, Try.func98, rfl⟩, h, fun _ h => h⟩
  have d3 : (f == 98) = false := by simpa using c3
  simp only [d3, cond_false] at hf
  by_cases c4 : f = 96
  · subst c4
    simp only [BEq.rfl, cond_true, Option.some.injEq] at hf
    subst hf
    obtain ⟨rfl, h⟩ := primBits_ok h
    exact ⟨⟨_, Try.func96, rfl⟩, h, fun _ h => h⟩
  have d4 : (f == 96) = false := by simpa using c4
  simp only [d4, cond_false] at hf
  by_cases c5 : f = 82
  · subst c5
    simp only [BEq.rfl, cond_true, Option.some.injEq] at hf
    subst hf
    obtain ⟨rfl, h⟩ := primLL_ok dW_some (fun a => rfl) (fun a => rfl) (fun a => ⟨rfl, rfl⟩) (fun v l w h1 h2 => refW_Bytes v l w h1 h2) h
    exact ⟨⟨_, Try.func82, rfl⟩, h, fun _ h => h⟩
  have d5 : (f == 82) = false := by simpa using c5
  simp only [d5, cond_false] at hf
  by_cases c6 : f = 83
  · subst c6
    simp only [BEq.rfl, cond_true, Option.some.injEq] at hf
    subst hf
    obtain ⟨rfl, h⟩ := primLL_ok dT_some (fun a => rfl) (fun a => rfl) (fun a => ⟨rfl, rfl⟩) (fun v l w h1 h2 => refW_Pack v l w h1 (by omega)) h
    exact ⟨⟨_, Try.func83, rfl⟩, h, fun _ h => h⟩
  have d6 : (f == 83) = false := by simpa using c6
  simp only [d6, cond_false] at hf
  by_cases c7 : f = 89
  · subst c7
    simp only [BEq.rfl, cond_true, Option.some.injEq] at hf
    subst hf
    obtain ⟨rfl, h⟩ := primWords_ok (fun v l w h1 h2 => refW_Words_no v l w h1 h2) (fun v l w h1 h2 h3 => refW_Words_yes v l w h1 h2 h3) h
    exact ⟨⟨_, Try.func89, rfl⟩, h, fun _ h => h⟩
  have d7 : (f == 89) = false := by simpa using c7
  simp only [d7, cond_false] at hf
  cases hf
end Go.Proofs.Ytjkofefcoeejbaa

/- Functions that are known by a contract of their own: that they answer so. -/
namespace Go.Proofs.Ytjkofefcoeejbaa
open Go Go.RowKit
set_option linter.unusedSimpArgs false
set_option linter.unusedVariables false
set_option maxHeartbeats 4000000 in
theorem grow_walk (A : Option Addr) (n : Nat) (h0 : 0 < n) (h1 : n ≤ 1000000) (w : World) :
    Calls Try.prog 120 #[.slice A 0 0, .int .i64 n] w fun e w' => ∃ cap C, e = .returned (.slice (some ⟨w.heap.size, 0, none⟩) 0 cap) ∧ More (.cells C 5 (0, 0)) w w' ∧ C.size = cap * 1 := by
  have hinf : (Try.prog.info? 5).map (fun i => (i.size, i.bytes, i.zero)) = some (1, 1, some (.int .u8 0)) := by kernel_rfl
  obtain ⟨i0, hi0, hs0⟩ := Option.map_eq_some_iff.1 hinf
  simp only [Prod.mk.injEq] at hs0
  obtain ⟨hs0, hb0, hz0⟩ := hs0
  clear hinf
  have hold : (Builtin.firstCells i0.size 0 (.slice A 0 0)).run Try.prog w.drew = .ok ([] : List Value).toArray w.drew := by
    cases A with
    | none => exact run_firstCells_none w.drew i0.size 0 0 0
    | some a => exact run_firstCells_some w.drew i0.size 0 a 0 0 [] (by simp) (fun j v hj => by simp at hj)
  have hn0 : ¬ ((n : Int) < 0) := by omega
  have hn1 : (n : Int) > 0 := by omega
  have hn2 : IntKind.i64.wrap ((n : Int) - 0) = (n : Int) := by simp [IntKind.wrap, IntKind.bits, IntKind.signed]; omega
  have hrz : ∀ ty, (Builtin.append_ #[27, 3] ty #[.slice A 0 0, .int .i64 (n : Int)]).run Try.prog w =
      .ok (.slice (some ⟨w.heap.size, 0, none⟩) n (grownCap w n 0 5)) (w.drew.alloc (.cells (([] : List Value).toArray ++ Builtin.zeroCells (Value.int .u8 0).cells n ++ Builtin.zeroCells (Value.int .u8 0).cells (grownCap w n 0 5 - n)) 5)) := fun ty => by
    have h := Lib.run_append_grow_zeros w 27 3 ty 5 i0 (.int .u8 0) .i64 .i64 Try.underlying27 Try.underlying3 hi0 hz0 A 0 0 [] hold n h0 (by omega) (by omega) (by omega) (by rw [hb0]; omega) (by rw [hb0]; exact growslice_fits (by omega) (by omega))
    rw [Nat.zero_add] at h
    exact h
  have hGn : n ≤ grownCap w n 0 5 := grownCap_ge w _ _ _
  have hcs : (([] : List Value).toArray ++ Builtin.zeroCells (Value.int .u8 0).cells n ++ Builtin.zeroCells (Value.int .u8 0).cells (grownCap w n 0 5 - n)).size = grownCap w n 0 5 * 1 := by
    simp [Builtin.zeroCells, Value.cells]
    omega
  have hG63 : grownCap w n 0 5 ≤ 9223372036854775807 := by
    have := grownCap_le_maxLen w n 0 5 (by unfold maxLen; omega)
    unfold maxLen at this
    omega
  generalize (([] : List Value).toArray ++ Builtin.zeroCells (Value.int .u8 0).cells n ++ Builtin.zeroCells (Value.int .u8 0).cells (grownCap w n 0 5 - n)) = C at *
  generalize grownCap w n 0 5 = G at *
  have fin : More (.cells C 5 (0, 0)) w (w.drew.alloc (.cells C 5)) := ⟨rfl, rfl, rfl, rfl⟩
  clear hold hb0 hz0 hs0 hi0
  go_enter Try.func120, Try.ntmps120
  go_wp2_with (at_builtin; refine Lib.wpList_append_run _ rfl _ _ _ _ rfl _ _ rfl rfl _ _ (hrz _) ?_)
  all_goals (go_ret; exact ⟨_, rfl, _, ⟨rfl, rfl, rfl, rfl⟩, by simpa using hcs⟩)
theorem grow_zero (A : Option Addr) (w : World) : Calls Try.prog 120 #[.slice A 0 0, .int .i64 0] w fun e w' => e = .returned (.slice A 0 0) ∧ w' = w := by
  go_enter Try.func120, Try.ntmps120
  go_wp2
  go_ret
  exact ⟨rfl, rfl⟩
theorem primGrow_ok {args : List DV} {d : DV} {H H' : Heap} (h : primGrow args H = some (d, H')) : (∀ fl, CallOk Try.prog 120 args H fl d H') ∧ ∀ k : Nat, H[k]? = some .hole → H'[k]? = some .hole := by
  unfold primGrow at h
  split at h
  · rename_i H0 n
    split at h
    · rename_i hn
      subst hn
      simp only [Option.some.injEq, Prod.mk.injEq] at h
      obtain ⟨rfl, rfl⟩ := h
      refine ⟨fun fl => ?_, fun k hk => hk⟩
      refine callOk_below (fun I G w vs hr => ?_) _ fl
      simp only [RepL, Rep] at hr
      obtain ⟨_, _, e1, ⟨A, c, rfl, _, _, _, ht⟩, _, _, rfl, rfl, rfl⟩ := hr
      simp only [TagOk] at ht
      have hv : vs = #[.slice A 0 0, .int .i64 0] := by
        apply Array.ext'
        simpa [ht] using e1
      subst hv
      exact (grow_zero A w).mono fun r w' ⟨h1, h2⟩ => ⟨_, h1, by rw [h2]; exact Below.refl _ _, fun I G => by simp only [Rep, TagOk]; exact ⟨A, 0, rfl, by simp, by simp, .inl trivial, rfl⟩⟩
    · split at h
      · rename_i h0 h1
        simp only [Option.some.injEq, Prod.mk.injEq] at h
        obtain ⟨rfl, rfl⟩ := h
        refine ⟨fun fl => ?_, fun k hk => by rw [List.getElem?_append_left (List.getElem?_eq_some_iff.1 hk).1]; exact hk⟩
        intro B G w vs hB hH hr hfl
        refine ⟨?_, fun k hk => List.getElem?_append_left (by omega), by simp⟩
        simp only [RepL, Rep] at hr
        obtain ⟨_, _, e1, ⟨A, c, rfl, _, _, _, ht⟩, _, _, rfl, rfl, rfl⟩ := hr
        simp only [TagOk] at ht
        obtain ⟨m, rfl⟩ := Int.eq_ofNat_of_zero_le (by omega : 0 ≤ n)
        have hv : vs = #[.slice A 0 0, .int .i64 m] := by
          apply Array.ext'
          simpa [ht] using e1
        subst hv
        refine (grow_walk A m (by omega) (by omega) w).mono fun e w' ⟨cap, C, he, hm, hC⟩ => ?_
        obtain ⟨hK, hH'⟩ := step_token (n := 0) hH hB hm (Nat.zero_le _) (by omega) (by omega) hC
        refine ⟨_, _, he, hK, hH', ?_⟩
        have hself : (G ++ [GK.own w.heap.size 1 cap 0])[H.length]? = some (GK.own w.heap.size 1 cap 0) := by rw [hH.len]; simp
        simp only [Rep]
        refine ⟨_, cap, rfl, Nat.zero_le _, by simp, .inl trivial, ?_⟩
        simp only [TagOk]
        exact ⟨_, _, _, _, hself, by simp, fun _ => ⟨rfl, rfl, rfl⟩⟩
      · cases h
  · cases h
theorem dWI_some (x : DV) (a : Int) (h : dWI x = some a) : x = .flat (.int .u16 a) ∧ 0 ≤ a ∧ a < 65536 := by
  unfold dWI at h
  split at h
  · split at h
    · rename_i hn
      cases h
      exact ⟨rfl, hn⟩
    · cases h
  · cases h
theorem mapO_dWI : ∀ (xs : List DV) (l : List Int), mapO dWI xs = some l → ∀ a ∈ l, 0 ≤ a ∧ a < 65536
  | [], l, h => by cases h; simp
  | x :: xs, l, h => by
    obtain ⟨y, s, h1, h2, rfl⟩ := mapO_cons' h
    intro a ha
    rcases List.mem_cons.1 ha with rfl | ha
    · exact (dWI_some _ _ h1).2
    · exact mapO_dWI xs s h2 a ha
theorem ofWm_low : ∀ (l : List Int), (∀ a ∈ l, 0 ≤ a ∧ a < 65536) → ofWm (l.map lowW) = l ∧ (l.map lowW).map encW = l.map (Value.int .u16)
  | [], _ => ⟨rfl, rfl⟩
  | a :: l, h => by
    obtain ⟨h1, h2⟩ := ofWm_low l fun x hx => h x (by simp [hx])
    have h3 := h a (by simp)
    refine ⟨?_, ?_⟩
    · show ((lowW a).toNat : Int) :: ofWm (l.map lowW) = _
      rw [h1, lowW_nat _ h3.1 h3.2]
    · rw [List.map_cons, List.map_cons, List.map_cons, h2, ← encW_low _ h3.1 h3.2]
theorem primMed_ok {args : List DV} {d : DV} {H H' : Heap} (h : primMed args H = some (d, H')) : H' = H ∧ ∀ fl, CallOk Try.prog 37 args H fl d H := by
  unfold primMed at h
  split at h
  · rename_i sz xs t' H0
    obtain ⟨l, hl, h⟩ := Option.bind_eq_some_iff.1 h
    split at h
    · rename_i hlen
      simp only [Option.some.injEq, Prod.mk.injEq] at h
      obtain ⟨rfl, rfl⟩ := h
      refine ⟨rfl, fun fl => callOk_below (fun I G w vs hr => ?_) _ fl⟩
      simp only [RepL] at hr
      obtain ⟨V, _, e1, hV, rfl⟩ := hr
      have hv : vs = #[V] := by apply Array.ext'; simpa using e1
      subst hv
      have hR := list_rd (enc := fun n : Int => Value.int .u16 n) (fun x a hx => (dWI_some x a hx).1) (fun a => rfl) hV hl
      obtain ⟨q1, q2⟩ := ofWm_low l (mapO_dWI _ l hl)
      have hR2 : RdV encW w V (l.map lowW) := by
        unfold RdV at hR ⊢
        rw [q2, List.length_map]
        exact hR
      have hm := median_w V (l.map lowW) w hR2 (by simpa using hlen)
      rw [q1] at hm
      exact hm.mono fun e w' ⟨h3, h4⟩ => ⟨_, h3, h4, fun I G => by
        simp only [Rep, RepL]
        exact ⟨_, rfl, _, _, rfl, rfl, _, _, rfl, rfl, rfl⟩⟩
    · cases h
  · cases h
theorem primOk (f : FuncId) (g : Prim) (args : List DV) (H : Heap) (d : DV) (H' : Heap) (hf : PRIM f = some g) (h : g args H = some (d, H')) : (∃ fn, Try.prog.funcs[f]? = some fn ∧ fn.body.isSome = true) ∧ (∀ fl, CallOk Try.prog f args H fl d H') ∧ ∀ k : Nat, H[k]? = some .hole → H'[k]? = some .hole := by
  unfold PRIM at hf
  by_cases c0 : f = 37
  · subst c0
    simp only [BEq.rfl, cond_true, Option.some.injEq] at hf
    subst hf
    obtain ⟨rfl, h⟩ := primMed_ok h
    exact ⟨⟨_, Try.func37, rfl⟩, h, fun _ h => h⟩
  have c0' : (f == 37) = false := by simpa using c0
  simp only [c0', cond_false] at hf
  by_cases c3 : f = 120
  · subst c3
    simp only [BEq.rfl, cond_true, Option.some.injEq] at hf
    subst hf
    obtain ⟨h1, h2⟩ := primGrow_ok h
    exact ⟨⟨_, Try.func120, rfl⟩, h1, h2⟩
  have c4 : (f == 120) = false := by simpa using c3
  simp only [c4, cond_false] at hf
  exact primW_ok f g args H d H' hf h
end Go.Proofs.Ytjkofefcoeejbaa

/- Words and bits as bytes, and back: what the functions known by a contract answer; over lists of numbers. -/
namespace Go.Proofs.Ytjkofefcoeejbaa
open Go
set_option linter.unusedSimpArgs false
set_option linter.unusedVariables false
theorem prim_call {f : FuncId} {g : Prim} (hp : ENV.prim f = some g) (n : Nat) (args : List DV) (H : Heap) (fl : Nat) : callG Try.prog ENV (n + 1) f args H fl = g args H := by
  rw [callG_eq]
  unfold bodyG
  rw [hp]
def Words (l : List Int) : Prop := ∀ x ∈ l, 0 ≤ x ∧ x < 65536
def toB (l : List Int) : List UInt8 := l.map lowB
def toW (l : List Int) : List UInt16 := l.map fun x => UInt16.ofNat x.toNat
def ofB (l : List UInt8) : List Int := l.map fun c => (c.toNat : Int)
def ofW (l : List UInt16) : List Int := l.map fun c => (c.toNat : Int)
theorem mapO_dB (l : List Int) (h : Bytes l) : mapO dB (l.map (I .u8)) = some (toB l) := by
  induction l with
  | nil => rfl
  | cons a l ih =>
    rw [List.map_cons, mapO_cons, ih (fun x hx => h x (by simp [hx]))]
    have : dB (I .u8 a) = some (lowB a) := by unfold dB; simp only; rw [if_pos (h a (by simp))]
    rw [this]
    rfl
theorem mapO_dW (l : List Int) (h : Words l) : mapO dW (l.map (I .u16)) = some (toW l) := by
  induction l with
  | nil => rfl
  | cons a l ih =>
    rw [List.map_cons, mapO_cons, ih (fun x hx => h x (by simp [hx]))]
    have : dW (I .u16 a) = some (UInt16.ofNat a.toNat) := by unfold dW; simp only; rw [if_pos (h a (by simp))]
    rw [this]
    rfl
theorem mapO_dT (l : List Bool) : mapO dT (l.map Bo) = some l := by
  induction l with
  | nil => rfl
  | cons a l ih => rw [List.map_cons, mapO_cons, ih]; rfl
theorem mkl_eB (l : List UInt8) (t : Tag) : mkl 1 (l.map eB) t = LV 1 (I .u8) (ofB l) t := by unfold LV ofB; rw [List.map_map]; rfl
theorem mkl_eW (l : List UInt16) (t : Tag) : mkl 1 (l.map eW) t = LV 1 (I .u16) (ofW l) t := by unfold LV ofW; rw [List.map_map]; rfl
theorem mkl_eT (l : List Bool) (t : Tag) : mkl 1 (l.map eT) t = LV 1 Bo l t := rfl
theorem primLL_LV {α β γ : Type} {d : DV → Option α} {e : β → DV} {g : List α → List β} {enc : γ → DV} {l : List γ} {l2 : List α} (t : Tag) (H : Heap) (hd : mapO d (l.map enc) = some l2) (hl : l2.length ≤ 100000) : primLL d e g (LV 1 enc l t :: []) H = some (mkl 1 ((g l2).map e) .sh, H) := by
  obtain ⟨s, h1, _⟩ := LV_list 1 enc l t
  rw [h1]
  unfold primLL
  simp only
  rw [hd, Option.bind_some, if_pos hl]
/-- words as bytes -/
def wbI (l : List Int) : List Int := ofB (wBytes (toW l))
def pkI (l : List Bool) : List Int := ofB (wPack l)
theorem ofB_bytes (l : List UInt8) : Bytes (ofB l) := by
  intro x hx
  obtain ⟨c, _, rfl⟩ := List.mem_map.1 hx
  have := c.toNat_lt
  omega
theorem toB_ofB (l : List UInt8) : toB (ofB l) = l := by
  unfold toB ofB
  rw [List.map_map]
  conv => rhs; rw [← List.map_id l]
  refine List.map_congr_left fun c _ => ?_
  show lowB (c.toNat : Int) = c
  unfold lowB
  simp
theorem ofB_toB (l : List Int) (h : Bytes l) : ofB (toB l) = l := by
  unfold toB ofB
  rw [List.map_map]
  conv => rhs; rw [← List.map_id l]
  refine List.map_congr_left fun c hc => ?_
  exact lowB_nat c (h c hc).1 (h c hc).2
theorem ofW_toW (l : List Int) (h : Words l) : ofW (toW l) = l := by
  unfold toW ofW
  rw [List.map_map]
  conv => rhs; rw [← List.map_id l]
  refine List.map_congr_left fun c hc => ?_
  have := h c hc
  show (((UInt16.ofNat c.toNat).toNat : Nat) : Int) = c
  rw [UInt16.toNat_ofNat']
  omega
theorem wbI_length (l : List Int) : (wbI l).length = 2 * l.length := by unfold wbI ofB; rw [List.length_map, wBytes_len]; simp [toW]
theorem pkI_length (l : List Bool) : (pkI l).length = (l.length + 7) / 8 := by unfold pkI ofB; rw [List.length_map, wPack_len]
theorem wbI_cons (a : Int) (l : List Int) (h : 0 ≤ a ∧ a < 65536) : wbI (a :: l) = a / 256 :: a % 256 :: wbI l := by
  have e1 : (UInt16.ofNat a.toNat).toNat = a.toNat := by rw [UInt16.toNat_ofNat']; omega
  unfold wbI toW wBytes ofB
  rw [List.map_cons, List.flatMap_cons, List.map_append]
  simp only [List.map_cons, List.map_nil, e1, List.cons_append, List.nil_append, List.cons.injEq, and_true]
  rw [UInt8.toNat_ofNat', UInt8.toNat_ofNat']
  omega
theorem wbI_nil : wbI [] = [] := rfl
/-- what Words and Bits tell -/
def wdI (l : List Int) : List Int := ofW (wordsTell (toB l)).2
def wdOk (l : List Int) : Bool := (wordsTell (toB l)).1
def btI (l : List Int) (n : Int) : List Bool := (bitsTell (toB l) n).2
def btOk (l : List Int) (n : Int) : Bool := (bitsTell (toB l) n).1
theorem wdI_wb (l : List Int) (h : Words l) : wdI (wbI l) = l ∧ wdOk (wbI l) = true := by
  unfold wdI wdOk wbI
  rw [toB_ofB, wordsTell_yes (by rw [wBytes_len]; omega), wWords_bytes]
  exact ⟨ofW_toW l h, rfl⟩
theorem btI_pk (l : List Bool) : btI (pkI l) l.length = l ∧ btOk (pkI l) l.length = true := by
  unfold btI btOk pkI
  rw [toB_ofB, bitsTell_nat, wBits_yes (fit_pack l)]
  exact ⟨wBits_pack l, rfl⟩
theorem wdI_words (l : List Int) : Words (wdI l) := by
  intro x hx
  obtain ⟨c, _, rfl⟩ := List.mem_map.1 hx
  have := c.toNat_lt
  omega
theorem cP_prim {f : FuncId} {g : Prim} {n : Nat} {args args' : List DV} {H' : Heap} {r r' : DV} (hp : ENV.prim f = some g) (hn : 1 ≤ n) (h1 : mapO argEl args = some args') (h2 : g args' [] = some (r, H')) (h3 : outD false H' r = some r') : cP n f false args = some r' := by
  obtain ⟨n, rfl⟩ : ∃ m, n = m + 1 := ⟨n - 1, by omega⟩
  exact cP_of h1 ((prim_call hp n args' [] 0).trans h2) h3
theorem word_Bytes_c (n : Nat) (l : List Int) (t : Tag) (hn : 1 ≤ n) (h : Words l) (hl : l.length ≤ 100000) : cP n 64 false [LV 1 (I .u16) l t] = some (LV 1 (I .u8) (wbI l) .sh) :=
  cP_prim (g := primLL dW eB wBytes) (args' := [LV 1 (I .u16) l .sh]) (by kernel_rfl) hn (by simp [argEl_eq]) ((primLL_LV .sh [] (mapO_dW l h) (by simpa [toW] using hl)).trans (by rw [mkl_eB])) (by simp [wbI])
theorem word_Pack_c (n : Nat) (l : List Bool) (t : Tag) (hn : 1 ≤ n) (hl : l.length ≤ 100000) : cP n 63 false [LV 1 Bo l t] = some (LV 1 (I .u8) (pkI l) .sh) :=
  cP_prim (g := primLL dT eB wPack) (args' := [LV 1 Bo l .sh]) (by kernel_rfl) hn (by simp [argEl_eq]) ((primLL_LV .sh [] (mapO_dT l) hl).trans (by rw [mkl_eB])) (by simp [pkI])
theorem word_Words_c (n : Nat) (l : List Int) (t : Tag) (hn : 1 ≤ n) (h : Bytes l) (hl : l.length ≤ 100000) : cP n 98 false [LV 1 (I .u8) l t] = some (.tup [LV 1 (I .u16) (wdI l) .sh, Bo (wdOk l)]) := by
  obtain ⟨s, e, _⟩ := LV_list 1 (I .u8) l .sh
  refine cP_prim (g := primWords) (args' := [LV 1 (I .u8) l .sh]) (r := .tup [LV 1 (I .u16) (wdI l) .sh, Bo (wdOk l)]) (H' := []) (by kernel_rfl) hn (by simp [argEl_eq]) ?_ (by simp)
  rw [e]
  unfold primWords
  simp only
  rw [mapO_dB l h, Option.bind_some, if_pos (by simpa [toB] using hl), mkl_eW]
  rfl
theorem word_Bits_c (n : Nat) (l : List Int) (k : Int) (t : Tag) (hn : 1 ≤ n) (h : Bytes l) (hl : l.length ≤ 100000) (h0 : -9223372036854775808 ≤ k) (h1 : k < 9223372036854775808) : cP n 96 false [LV 1 (I .u8) l t, I .i64 k] = some (.tup [LV 1 Bo (btI l k) .sh, Bo (btOk l k)]) := by
  obtain ⟨s, e, _⟩ := LV_list 1 (I .u8) l .sh
  refine cP_prim (g := primBits) (args' := [LV 1 (I .u8) l .sh, I .i64 k]) (r := .tup [LV 1 Bo (btI l k) .sh, Bo (btOk l k)]) (H' := []) (by kernel_rfl) hn (by simp [argEl_eq]) ?_ (by simp)
  rw [e]
  unfold primBits
  simp only
  rw [mapO_dB l h, Option.bind_some, if_pos ⟨by simpa [toB] using hl, h0, by omega⟩, mkl_eT]
  rfl
theorem ref02_Bytes_c (n : Nat) (l : List Int) (t : Tag) (hn : 1 ≤ n) (h : Words l) (hl : l.length ≤ 100000) : cP n 82 false [LV 1 (I .u16) l t] = some (LV 1 (I .u8) (wbI l) .sh) :=
  cP_prim (g := primLL dW eB wBytes) (args' := [LV 1 (I .u16) l .sh]) (by kernel_rfl) hn (by simp [argEl_eq]) ((primLL_LV .sh [] (mapO_dW l h) (by simpa [toW] using hl)).trans (by rw [mkl_eB])) (by simp [wbI])
theorem ref02_Pack_c (n : Nat) (l : List Bool) (t : Tag) (hn : 1 ≤ n) (hl : l.length ≤ 100000) : cP n 83 false [LV 1 Bo l t] = some (LV 1 (I .u8) (pkI l) .sh) :=
  cP_prim (g := primLL dT eB wPack) (args' := [LV 1 Bo l .sh]) (by kernel_rfl) hn (by simp [argEl_eq]) ((primLL_LV .sh [] (mapO_dT l) hl).trans (by rw [mkl_eB])) (by simp [pkI])
theorem ref02_Words_c (n : Nat) (l : List Int) (t : Tag) (hn : 1 ≤ n) (h : Bytes l) (hl : l.length ≤ 100000) : cP n 89 false [LV 1 (I .u8) l t] = some (.tup [LV 1 (I .u16) (wdI l) .sh, Bo (wdOk l)]) := by
  obtain ⟨s, e, _⟩ := LV_list 1 (I .u8) l .sh
  refine cP_prim (g := primWords) (args' := [LV 1 (I .u8) l .sh]) (r := .tup [LV 1 (I .u16) (wdI l) .sh, Bo (wdOk l)]) (H' := []) (by kernel_rfl) hn (by simp [argEl_eq]) ?_ (by simp)
  rw [e]
  unfold primWords
  simp only
  rw [mapO_dB l h, Option.bind_some, if_pos (by simpa [toB] using hl), mkl_eW]
  rfl
end Go.Proofs.Ytjkofefcoeejbaa

/- Go functions as Lean functions on deep values; printed by a program of mine. -/
namespace Go.Proofs.Ytjkofefcoeejbaa
open Go
set_option maxRecDepth 100000
set_option linter.unusedVariables false
/-! triune/triuneref09.in -/
noncomputable def s_triuneref09_in (n : Nat) (H : Heap) (fl : Nat) (a0 a1 a2 : DV) : R :=
  bi (geK .i64 a0 a1) fun d0 =>
  bi (wantF d0 true (some a0)) fun d1 =>
  bi (wantF d0 true (some a2)) fun d2 =>
  bi (wantF d0 true (leK .i64 d1 d2)) fun d3 =>
  bi (pickD d0 d3 (Bo false)) fun d4 =>
  some (d4, H)
theorem s_triuneref09_in_eq (n : Nat) (H : Heap) (fl : Nat) (a0 a1 a2 : DV) : callG Try.prog ENV (n + 1) 101 [a0, a1, a2] H fl = s_triuneref09_in n H fl a0 a1 a2 := by kernel_rfl

/-! triune/triuneref09.may -/
noncomputable def s_triuneref09_may (n : Nat) (H : Heap) (fl : Nat) (a0 : DV) : R :=
  bi (allocG 65 a0 (List.length H) (H ++ [.hole])) fun h0 =>
  bi (loadG false 1 (.ptr (List.length H) 0) h0) fun d1 =>
  bi (cP n 101 false [d1, (I .i64 0), (I .i64 3)]) fun d2 =>
  bi (notD d2) fun d3 =>
  bi (wantF d3 false (some (.ptr (List.length H) 1))) fun d4 =>
  bi (wantF d3 false (loadG false 1 d4 h0)) fun d5 =>
  bi (wantF d3 false (cP n 101 false [d5, (I .i64 0), (I .i64 65535)])) fun d6 =>
  bi (wantF d3 false (notD d6)) fun d7 =>
  bi (pickD d3 (Bo true) d7) fun d8 =>
  bi (wantF d8 false (some (.ptr (List.length H) 2))) fun d9 =>
  bi (wantF d8 false (loadG false 1 d9 h0)) fun d10 =>
  bi (wantF d8 false (cP n 101 false [d10, (I .i64 0), (I .i64 899)])) fun d11 =>
  bi (wantF d8 false (notD d11)) fun d12 =>
  bi (pickD d8 (Bo true) d12) fun d13 =>
  condR d13 (
  some ((Bo false), h0)) (
  bi (loadG false 1 (.ptr (List.length H) 0) h0) fun d14 =>
  bi (leK .i64 d14 (I .i64 1)) fun d15 =>
  condR d15 (
   bi (loadG false 1 (.ptr (List.length H) 3) h0) fun d16 =>
   bi (cP n 101 false [d16, (I .i64 0), (I .i64 65535)]) fun d17 =>
   bi (wantF d17 true (some (.ptr (List.length H) 4))) fun d18 =>
   bi (wantF d17 true (loadG false 1 d18 h0)) fun d19 =>
   bi (wantF d17 true (cP n 101 false [d19, (I .i64 0), (I .i64 65535)])) fun d20 =>
   bi (pickD d17 d20 (Bo false)) fun d21 =>
  some (d21, h0)) (
  bi (loadG false 1 (.ptr (List.length H) 3) h0) fun d22 =>
  bi (eqK .i64 d22 (I .i64 0)) fun d23 =>
  bi (wantF d23 true (some (.ptr (List.length H) 4))) fun d24 =>
  bi (wantF d23 true (loadG false 1 d24 h0)) fun d25 =>
  bi (wantF d23 true (cP n 101 false [d25, (I .i64 0), (I .i64 1)])) fun d26 =>
  bi (pickD d23 d26 (Bo false)) fun d27 =>
  some (d27, h0)))
theorem s_triuneref09_may_eq (n : Nat) (H : Heap) (fl : Nat) (a0 : DV) : callG Try.prog ENV (n + 1) 102 [a0] H fl = s_triuneref09_may n H fl a0 := by kernel_rfl

/-! triune/triuneref09.Check -/
def s_triuneref09_Check_I3 (x1 x5 x6 : DV) : List DV := [.any, x1, .any, .any, .any, x5, x6, .any, .any, .any, .any, .any, .any, .any, .any, .any, .any, .any, .any, .any, .any, .any, .any, .any, .any, .any, .any, .any, .any, .any, .any, .any, .any, .any, .any, .any, .any, .any, .any, .any, .any, .any, .any, .any, .any, .any, .any, .any, .any, .any, .any, .any, .any, .any, .any, .any, .any, .any, .any, .any, .any, .any, .any, .any, .any, .any, .any, .any, .any, .any, .any, .any, .any, .any, .any, .any, .any, .any, .any, .any, .any, .any, .any, .any, .any, .any, .any, .any, .any, .any, .any, .any, .any, .any, .any, .any, .any, .any, .any, .any, .any, .any, .any, .any, .any, .any, .any, .any, .any, .any, .any, .any, .any, .any]
def s_triuneref09_Check_O3 (x1 x2 x5 : DV) : List DV := [.any, x1, x2, .any, .any, x5, .any, .any, .any, .any, .any, .any, .any, .any, .any, .any, .any, .any, .any, .any, .any, .any, .any, .any, .any, .any, .any, .any, .any, .any, .any, .any, .any, .any, .any, .any, .any, .any, .any, .any, .any, .any, .any, .any, .any, .any, .any, .any, .any, .any, .any, .any, .any, .any, .any, .any, .any, .any, .any, .any, .any, .any, .any, .any, .any, .any, .any, .any, .any, .any, .any, .any, .any, .any, .any, .any, .any, .any, .any, .any, .any, .any, .any, .any, .any, .any, .any, .any, .any, .any, .any, .any, .any, .any, .any, .any, .any, .any, .any, .any, .any, .any, .any, .any, .any, .any, .any, .any, .any, .any, .any, .any, .any, .any]
noncomputable abbrev s_triuneref09_Check_b3 (n fl : Nat) : List DV → Heap → (Ex → KF) → R := execG ⟨Try.prog, callG Try.prog ENV n, ENV.md, fl, 114⟩ n (loopAt (bodyOf Try.f74) 3) []
noncomputable def s_triuneref09_Check_B3 (n fl : Nat) (rec : DV → DV → DV → Heap → R) (k : Ex → KF) (x1 x5 x6 : DV) (H : Heap) : R :=
  bi (ltK .i64 x6 x5) fun d0 =>
  condR d0 (
  bi (fieldD 10 1 x1) fun d1 =>
  bi (loadG false 1 d1 (H ++ [.hole])) fun d2 =>
  bi (idxSl 5 d2 x5) fun d3 =>
  bi (loadG true 5 d3 (H ++ [.hole])) fun d4 =>
  bi (allocG 65 (.agg [(I .i64 0), (I .i64 0), (I .i64 0), (I .i64 0), (I .i64 0)]) (List.length H) (H ++ [.hole])) fun h5 =>
  bi (storeG 5 (.ptr (List.length H) 0) d4 h5 fl) fun h6 =>
  bi (fieldD 10 1 x1) fun d7 =>
  bi (loadG false 1 d7 (h6 ++ [.hole])) fun d8 =>
  bi (idxSl 5 d8 x6) fun d9 =>
  bi (loadG true 5 d9 (h6 ++ [.hole])) fun d10 =>
  bi (allocG 65 (.agg [(I .i64 0), (I .i64 0), (I .i64 0), (I .i64 0), (I .i64 0)]) (List.length h6) (h6 ++ [.hole])) fun h11 =>
  bi (storeG 5 (.ptr (List.length h6) 0) d10 h11 fl) fun h12 =>
  bi (loadG false 1 (.ptr (List.length H) 0) h12) fun d13 =>
  bi (loadG false 1 (.ptr (List.length h6) 0) h12) fun d14 =>
  bi (eqK .i64 d13 d14) fun d15 =>
  bi (wantF d15 true (some (.ptr (List.length H) 1))) fun d16 =>
  bi (wantF d15 true (loadG false 1 d16 h12)) fun d17 =>
  bi (wantF d15 true (some (.ptr (List.length h6) 1))) fun d18 =>
  bi (wantF d15 true (loadG false 1 d18 h12)) fun d19 =>
  bi (wantF d15 true (eqK .i64 d17 d19)) fun d20 =>
  bi (wantF d15 true (some d20)) fun d21 =>
  bi (wantF d21 false (some (.ptr (List.length H) 2))) fun d22 =>
  bi (wantF d21 false (loadG false 1 d22 h12)) fun d23 =>
  bi (wantF d21 false (some (.ptr (List.length h6) 2))) fun d24 =>
  bi (wantF d21 false (loadG false 1 d24 h12)) fun d25 =>
  bi (wantF d21 false (eqK .i64 d23 d25)) fun d26 =>
  bi (wantF d15 true (pickD d21 (Bo true) d26)) fun d27 =>
  bi (pickD d15 d27 (Bo false)) fun d28 =>
  condR d28 (
  k .ret (s_triuneref09_Check_O3 x1 (I .i64 9) x5) h12) (
  bi (addK .i64 x6 (I .i64 1)) fun d29 =>
  rec x1 x5 d29 h12)) (
  k (.exit 6) (s_triuneref09_Check_O3 x1 .any x5) H)
noncomputable def s_triuneref09_Check_L3 (n fl : Nat) (k : Ex → KF) : Nat → DV → DV → DV → Heap → R
  | 0, _, _, _, _ => none
  | m + 1, x1, x5, x6, H => s_triuneref09_Check_B3 n fl (s_triuneref09_Check_L3 n fl k m) k x1 x5 x6 H
theorem s_triuneref09_Check_S3 (n fl m : Nat) (k : Ex → KF) (x1 x5 x6 : DV) (H : Heap) : loopG [1, 5, 6] [1, 2, 5] 114 (s_triuneref09_Check_b3 n fl) (m + 1) (s_triuneref09_Check_I3 x1 x5 x6) H k = s_triuneref09_Check_B3 n fl (fun x1 x5 x6 H => loopG [1, 5, 6] [1, 2, 5] 114 (s_triuneref09_Check_b3 n fl) m (s_triuneref09_Check_I3 x1 x5 x6) H k) k x1 x5 x6 H := by kernel_rfl
theorem s_triuneref09_Check_L3_eq (n fl : Nat) (k : Ex → KF) : ∀ (m : Nat) (x1 x5 x6 : DV) (H : Heap), loopG [1, 5, 6] [1, 2, 5] 114 (s_triuneref09_Check_b3 n fl) m (s_triuneref09_Check_I3 x1 x5 x6) H k = s_triuneref09_Check_L3 n fl k m x1 x5 x6 H := by
  intro m
  induction m with
  | zero => intros; rfl
  | succ m ih =>
    intro x1 x5 x6 H
    rw [s_triuneref09_Check_S3, show (fun x1 x5 x6 H => loopG [1, 5, 6] [1, 2, 5] 114 (s_triuneref09_Check_b3 n fl) m (s_triuneref09_Check_I3 x1 x5 x6) H k) = s_triuneref09_Check_L3 n fl k m from by funext x1 x5 x6 H; exact ih _ _ _ _]
    rw [s_triuneref09_Check_L3]
def s_triuneref09_Check_I2 (x1 x5 : DV) : List DV := [.any, x1, .any, .any, .any, x5, .any, .any, .any, .any, .any, .any, .any, .any, .any, .any, .any, .any, .any, .any, .any, .any, .any, .any, .any, .any, .any, .any, .any, .any, .any, .any, .any, .any, .any, .any, .any, .any, .any, .any, .any, .any, .any, .any, .any, .any, .any, .any, .any, .any, .any, .any, .any, .any, .any, .any, .any, .any, .any, .any, .any, .any, .any, .any, .any, .any, .any, .any, .any, .any, .any, .any, .any, .any, .any, .any, .any, .any, .any, .any, .any, .any, .any, .any, .any, .any, .any, .any, .any, .any, .any, .any, .any, .any, .any, .any, .any, .any, .any, .any, .any, .any, .any, .any, .any, .any, .any, .any, .any, .any, .any, .any, .any, .any]
def s_triuneref09_Check_O2 (x2 : DV) : List DV := [.any, .any, x2, .any, .any, .any, .any, .any, .any, .any, .any, .any, .any, .any, .any, .any, .any, .any, .any, .any, .any, .any, .any, .any, .any, .any, .any, .any, .any, .any, .any, .any, .any, .any, .any, .any, .any, .any, .any, .any, .any, .any, .any, .any, .any, .any, .any, .any, .any, .any, .any, .any, .any, .any, .any, .any, .any, .any, .any, .any, .any, .any, .any, .any, .any, .any, .any, .any, .any, .any, .any, .any, .any, .any, .any, .any, .any, .any, .any, .any, .any, .any, .any, .any, .any, .any, .any, .any, .any, .any, .any, .any, .any, .any, .any, .any, .any, .any, .any, .any, .any, .any, .any, .any, .any, .any, .any, .any, .any, .any, .any, .any, .any, .any]
noncomputable abbrev s_triuneref09_Check_b2 (n fl : Nat) : List DV → Heap → (Ex → KF) → R := execG ⟨Try.prog, callG Try.prog ENV n, ENV.md, fl, 114⟩ n (loopAt (bodyOf Try.f74) 2) [([1, 5, 6], [1, 2, 5])]
noncomputable def s_triuneref09_Check_B2 (n fl : Nat) (rec : DV → DV → Heap → R) (k : Ex → KF) (x1 x5 : DV) (H : Heap) : R :=
  bi (fieldD 10 1 x1) fun d0 =>
  bi (loadG false 1 d0 H) fun d1 =>
  bi (lenD d1) fun d2 =>
  bi (ltK .i64 x5 d2) fun d3 =>
  condR d3 (
  loopG [1, 5, 6] [1, 2, 5] 114 (s_triuneref09_Check_b3 n fl) n (s_triuneref09_Check_I3 x1 x5 (I .i64 0)) H fun x S4 h4 => match x with
  | .normal => none
  | .exit i4 => (
  if i4 = 6 then (
  bi (addK .i64 (S4.getD 5 .any) (I .i64 1)) fun d5 =>
  rec (S4.getD 1 .any) d5 h4) else (
  if i4 = 5 then (
  bi (addK .i64 (S4.getD 5 .any) (I .i64 1)) fun d6 =>
  rec (S4.getD 1 .any) d6 h4) else (
  k (.exit i4) (s_triuneref09_Check_O2 (S4.getD 2 .any)) h4)))
  | .ret => (
  k .ret (s_triuneref09_Check_O2 (S4.getD 2 .any)) h4)) (
  k (.exit 4) (s_triuneref09_Check_O2 .any) H)
noncomputable def s_triuneref09_Check_L2 (n fl : Nat) (k : Ex → KF) : Nat → DV → DV → Heap → R
  | 0, _, _, _ => none
  | m + 1, x1, x5, H => s_triuneref09_Check_B2 n fl (s_triuneref09_Check_L2 n fl k m) k x1 x5 H
theorem s_triuneref09_Check_S2 (n fl m : Nat) (k : Ex → KF) (x1 x5 : DV) (H : Heap) : loopG [1, 5] [2] 114 (s_triuneref09_Check_b2 n fl) (m + 1) (s_triuneref09_Check_I2 x1 x5) H k = s_triuneref09_Check_B2 n fl (fun x1 x5 H => loopG [1, 5] [2] 114 (s_triuneref09_Check_b2 n fl) m (s_triuneref09_Check_I2 x1 x5) H k) k x1 x5 H := by kernel_rfl
theorem s_triuneref09_Check_L2_eq (n fl : Nat) (k : Ex → KF) : ∀ (m : Nat) (x1 x5 : DV) (H : Heap), loopG [1, 5] [2] 114 (s_triuneref09_Check_b2 n fl) m (s_triuneref09_Check_I2 x1 x5) H k = s_triuneref09_Check_L2 n fl k m x1 x5 H := by
  intro m
  induction m with
  | zero => intros; rfl
  | succ m ih =>
    intro x1 x5 H
    rw [s_triuneref09_Check_S2, show (fun x1 x5 H => loopG [1, 5] [2] 114 (s_triuneref09_Check_b2 n fl) m (s_triuneref09_Check_I2 x1 x5) H k) = s_triuneref09_Check_L2 n fl k m from by funext x1 x5 H; exact ih _ _ _]
    rw [s_triuneref09_Check_L2]
def s_triuneref09_Check_I1 (x1 x4 : DV) : List DV := [.any, x1, .any, .any, x4, .any, .any, .any, .any, .any, .any, .any, .any, .any, .any, .any, .any, .any, .any, .any, .any, .any, .any, .any, .any, .any, .any, .any, .any, .any, .any, .any, .any, .any, .any, .any, .any, .any, .any, .any, .any, .any, .any, .any, .any, .any, .any, .any, .any, .any, .any, .any, .any, .any, .any, .any, .any, .any, .any, .any, .any, .any, .any, .any, .any, .any, .any, .any, .any, .any, .any, .any, .any, .any, .any, .any, .any, .any, .any, .any, .any, .any, .any, .any, .any, .any, .any, .any, .any, .any, .any, .any, .any, .any, .any, .any, .any, .any, .any, .any, .any, .any, .any, .any, .any, .any, .any, .any, .any, .any, .any, .any, .any, .any]
def s_triuneref09_Check_O1 (x1 x2 : DV) : List DV := [.any, x1, x2, .any, .any, .any, .any, .any, .any, .any, .any, .any, .any, .any, .any, .any, .any, .any, .any, .any, .any, .any, .any, .any, .any, .any, .any, .any, .any, .any, .any, .any, .any, .any, .any, .any, .any, .any, .any, .any, .any, .any, .any, .any, .any, .any, .any, .any, .any, .any, .any, .any, .any, .any, .any, .any, .any, .any, .any, .any, .any, .any, .any, .any, .any, .any, .any, .any, .any, .any, .any, .any, .any, .any, .any, .any, .any, .any, .any, .any, .any, .any, .any, .any, .any, .any, .any, .any, .any, .any, .any, .any, .any, .any, .any, .any, .any, .any, .any, .any, .any, .any, .any, .any, .any, .any, .any, .any, .any, .any, .any, .any, .any, .any]
noncomputable abbrev s_triuneref09_Check_b1 (n fl : Nat) : List DV → Heap → (Ex → KF) → R := execG ⟨Try.prog, callG Try.prog ENV n, ENV.md, fl, 114⟩ n (loopAt (bodyOf Try.f74) 1) []
noncomputable def s_triuneref09_Check_B1 (n fl : Nat) (rec : DV → DV → Heap → R) (k : Ex → KF) (x1 x4 : DV) (H : Heap) : R :=
  bi (fieldD 10 1 x1) fun d0 =>
  bi (loadG false 1 d0 H) fun d1 =>
  bi (lenD d1) fun d2 =>
  bi (ltK .i64 x4 d2) fun d3 =>
  condR d3 (
  bi (fieldD 10 1 x1) fun d4 =>
  bi (loadG false 1 d4 H) fun d5 =>
  bi (idxSl 5 d5 x4) fun d6 =>
  bi (loadG true 5 d6 H) fun d7 =>
  bi (cP n 102 false [d7]) fun d8 =>
  bi (notD d8) fun d9 =>
  condR d9 (
  k .ret (s_triuneref09_Check_O1 x1 (I .i64 1)) H) (
  bi (addK .i64 x4 (I .i64 1)) fun d10 =>
  rec x1 d10 H)) (
  k (.exit 2) (s_triuneref09_Check_O1 x1 .any) H)
noncomputable def s_triuneref09_Check_L1 (n fl : Nat) (k : Ex → KF) : Nat → DV → DV → Heap → R
  | 0, _, _, _ => none
  | m + 1, x1, x4, H => s_triuneref09_Check_B1 n fl (s_triuneref09_Check_L1 n fl k m) k x1 x4 H
theorem s_triuneref09_Check_S1 (n fl m : Nat) (k : Ex → KF) (x1 x4 : DV) (H : Heap) : loopG [1, 4] [1, 2] 114 (s_triuneref09_Check_b1 n fl) (m + 1) (s_triuneref09_Check_I1 x1 x4) H k = s_triuneref09_Check_B1 n fl (fun x1 x4 H => loopG [1, 4] [1, 2] 114 (s_triuneref09_Check_b1 n fl) m (s_triuneref09_Check_I1 x1 x4) H k) k x1 x4 H := by kernel_rfl
theorem s_triuneref09_Check_L1_eq (n fl : Nat) (k : Ex → KF) : ∀ (m : Nat) (x1 x4 : DV) (H : Heap), loopG [1, 4] [1, 2] 114 (s_triuneref09_Check_b1 n fl) m (s_triuneref09_Check_I1 x1 x4) H k = s_triuneref09_Check_L1 n fl k m x1 x4 H := by
  intro m
  induction m with
  | zero => intros; rfl
  | succ m ih =>
    intro x1 x4 H
    rw [s_triuneref09_Check_S1, show (fun x1 x4 H => loopG [1, 4] [1, 2] 114 (s_triuneref09_Check_b1 n fl) m (s_triuneref09_Check_I1 x1 x4) H k) = s_triuneref09_Check_L1 n fl k m from by funext x1 x4 H; exact ih _ _ _]
    rw [s_triuneref09_Check_L1]
def s_triuneref09_Check_I0 (x1 x3 : DV) : List DV := [.any, x1, .any, x3, .any, .any, .any, .any, .any, .any, .any, .any, .any, .any, .any, .any, .any, .any, .any, .any, .any, .any, .any, .any, .any, .any, .any, .any, .any, .any, .any, .any, .any, .any, .any, .any, .any, .any, .any, .any, .any, .any, .any, .any, .any, .any, .any, .any, .any, .any, .any, .any, .any, .any, .any, .any, .any, .any, .any, .any, .any, .any, .any, .any, .any, .any, .any, .any, .any, .any, .any, .any, .any, .any, .any, .any, .any, .any, .any, .any, .any, .any, .any, .any, .any, .any, .any, .any, .any, .any, .any, .any, .any, .any, .any, .any, .any, .any, .any, .any, .any, .any, .any, .any, .any, .any, .any, .any, .any, .any, .any, .any, .any, .any]
def s_triuneref09_Check_O0 (x1 x2 : DV) : List DV := [.any, x1, x2, .any, .any, .any, .any, .any, .any, .any, .any, .any, .any, .any, .any, .any, .any, .any, .any, .any, .any, .any, .any, .any, .any, .any, .any, .any, .any, .any, .any, .any, .any, .any, .any, .any, .any, .any, .any, .any, .any, .any, .any, .any, .any, .any, .any, .any, .any, .any, .any, .any, .any, .any, .any, .any, .any, .any, .any, .any, .any, .any, .any, .any, .any, .any, .any, .any, .any, .any, .any, .any, .any, .any, .any, .any, .any, .any, .any, .any, .any, .any, .any, .any, .any, .any, .any, .any, .any, .any, .any, .any, .any, .any, .any, .any, .any, .any, .any, .any, .any, .any, .any, .any, .any, .any, .any, .any, .any, .any, .any, .any, .any, .any]
noncomputable abbrev s_triuneref09_Check_b0 (n fl : Nat) : List DV → Heap → (Ex → KF) → R := execG ⟨Try.prog, callG Try.prog ENV n, ENV.md, fl, 114⟩ n (loopAt (bodyOf Try.f74) 0) []
noncomputable def s_triuneref09_Check_B0 (n fl : Nat) (rec : DV → DV → Heap → R) (k : Ex → KF) (x1 x3 : DV) (H : Heap) : R :=
  bi (ltK .i64 x3 (I .i64 3)) fun d0 =>
  condR d0 (
  bi (fieldD 0 3 x1) fun d1 =>
  bi (idxArr 3 1 d1 x3) fun d2 =>
  bi (loadG false 1 d2 H) fun d3 =>
  bi (cvK .i64 d3) fun d4 =>
  bi (cP n 101 false [d4, (I .i64 1), (I .i64 247)]) fun d5 =>
  bi (notD d5) fun d6 =>
  condR d6 (
  k .ret (s_triuneref09_Check_O0 x1 (I .i64 1)) H) (
  bi (addK .i64 x3 (I .i64 1)) fun d7 =>
  rec x1 d7 H)) (
  k (.exit 0) (s_triuneref09_Check_O0 x1 .any) H)
noncomputable def s_triuneref09_Check_L0 (n fl : Nat) (k : Ex → KF) : Nat → DV → DV → Heap → R
  | 0, _, _, _ => none
  | m + 1, x1, x3, H => s_triuneref09_Check_B0 n fl (s_triuneref09_Check_L0 n fl k m) k x1 x3 H
theorem s_triuneref09_Check_S0 (n fl m : Nat) (k : Ex → KF) (x1 x3 : DV) (H : Heap) : loopG [1, 3] [1, 2] 114 (s_triuneref09_Check_b0 n fl) (m + 1) (s_triuneref09_Check_I0 x1 x3) H k = s_triuneref09_Check_B0 n fl (fun x1 x3 H => loopG [1, 3] [1, 2] 114 (s_triuneref09_Check_b0 n fl) m (s_triuneref09_Check_I0 x1 x3) H k) k x1 x3 H := by kernel_rfl
theorem s_triuneref09_Check_L0_eq (n fl : Nat) (k : Ex → KF) : ∀ (m : Nat) (x1 x3 : DV) (H : Heap), loopG [1, 3] [1, 2] 114 (s_triuneref09_Check_b0 n fl) m (s_triuneref09_Check_I0 x1 x3) H k = s_triuneref09_Check_L0 n fl k m x1 x3 H := by
  intro m
  induction m with
  | zero => intros; rfl
  | succ m ih =>
    intro x1 x3 H
    rw [s_triuneref09_Check_S0, show (fun x1 x3 H => loopG [1, 3] [1, 2] 114 (s_triuneref09_Check_b0 n fl) m (s_triuneref09_Check_I0 x1 x3) H k) = s_triuneref09_Check_L0 n fl k m from by funext x1 x3 H; exact ih _ _ _]
    rw [s_triuneref09_Check_L0]
noncomputable def s_triuneref09_Check (n : Nat) (H : Heap) (fl : Nat) (a0 : DV) : R :=
  bi (allocG 111 a0 (List.length H) (H ++ [.hole])) fun h0 =>
  bi (loadG false 1 (.ptr (List.length H) 10) h0) fun d1 =>
  bi (lenD d1) fun d2 =>
  bi (cP n 101 false [d2, (I .i64 1), (I .i64 48)]) fun d3 =>
  bi (notD d3) fun d4 =>
  condR d4 (
  some ((I .i64 4), h0)) (
  loopG [1, 3] [1, 2] 114 (s_triuneref09_Check_b0 n fl) n (s_triuneref09_Check_I0 (.ptr (List.length H) 0) (I .i64 0)) h0 fun x S5 h5 => match x with
  | .normal => none
  | .exit i5 => (
  if i5 = 0 then (
  bi (fieldD 3 1 (S5.getD 1 .any)) fun d6 =>
  bi (loadG false 1 d6 h5) fun d7 =>
  bi (cP n 101 false [d7, (I .i64 1), (I .i64 20)]) fun d8 =>
  bi (notD d8) fun d9 =>
  bi (wantF d9 false (fieldD 4 1 (S5.getD 1 .any))) fun d10 =>
  bi (wantF d9 false (loadG false 1 d10 h5)) fun d11 =>
  bi (wantF d9 false (cP n 101 false [d11, (I .i64 1), (I .i64 1000)])) fun d12 =>
  bi (wantF d9 false (notD d12)) fun d13 =>
  bi (pickD d9 (Bo true) d13) fun d14 =>
  bi (wantF d14 false (fieldD 5 1 (S5.getD 1 .any))) fun d15 =>
  bi (wantF d14 false (loadG false 1 d15 h5)) fun d16 =>
  bi (wantF d14 false (cP n 101 false [d16, (I .i64 1), (I .i64 5)])) fun d17 =>
  bi (wantF d14 false (notD d17)) fun d18 =>
  bi (pickD d14 (Bo true) d18) fun d19 =>
  bi (wantF d19 false (fieldD 6 1 (S5.getD 1 .any))) fun d20 =>
  bi (wantF d19 false (loadG false 1 d20 h5)) fun d21 =>
  bi (wantF d19 false (cP n 101 false [d21, (I .i64 1), (I .i64 20)])) fun d22 =>
  bi (wantF d19 false (notD d22)) fun d23 =>
  bi (pickD d19 (Bo true) d23) fun d24 =>
  bi (wantF d24 false (fieldD 7 1 (S5.getD 1 .any))) fun d25 =>
  bi (wantF d24 false (loadG false 1 d25 h5)) fun d26 =>
  bi (wantF d24 false (cP n 101 false [d26, (I .i64 1), (I .i64 8)])) fun d27 =>
  bi (wantF d24 false (notD d27)) fun d28 =>
  bi (pickD d24 (Bo true) d28) fun d29 =>
  bi (wantF d29 false (fieldD 8 1 (S5.getD 1 .any))) fun d30 =>
  bi (wantF d29 false (loadG false 1 d30 h5)) fun d31 =>
  bi (wantF d29 false (cP n 101 false [d31, (I .i64 1), (I .i64 65535)])) fun d32 =>
  bi (wantF d29 false (notD d32)) fun d33 =>
  bi (pickD d29 (Bo true) d33) fun d34 =>
  condR d34 (
  some ((I .i64 1), h5)) (
  loopG [1, 4] [1, 2] 114 (s_triuneref09_Check_b1 n fl) n (s_triuneref09_Check_I1 (S5.getD 1 .any) (I .i64 0)) h5 fun x S35 h35 => match x with
  | .normal => none
  | .exit i35 => (
  if i35 = 2 then (
  loopG [1, 5] [2] 114 (s_triuneref09_Check_b2 n fl) n (s_triuneref09_Check_I2 (S35.getD 1 .any) (I .i64 0)) h35 fun x S36 h36 => match x with
  | .normal => none
  | .exit i36 => (
  if i36 = 4 then (
  some ((I .i64 0), h36)) else (
  none))
  | .ret => (
  some ((S36.getD 2 .any), h36))) else (
  none))
  | .ret => (
  some ((S35.getD 2 .any), h35)))) else (
  none))
  | .ret => (
  some ((S5.getD 2 .any), h5)))
theorem s_triuneref09_Check_eq (n : Nat) (H : Heap) (fl : Nat) (a0 : DV) : callG Try.prog ENV (n + 1) 74 [a0] H fl = s_triuneref09_Check n H fl a0 := by kernel_rfl

/-! triune/triunelaw10.May -/
noncomputable def s_triunelaw10_May (n : Nat) (H : Heap) (fl : Nat) (a0 : DV) : R :=
  bi (lenD a0) fun d0 =>
  bi (leK .i64 d0 (I .i64 48)) fun d1 =>
  bi (wantF d1 true (buildA (.agg [(I .u8 0), (I .u8 0), (I .u8 0)]) 1 [(0, (I .u8 1)), (1, (I .u8 1)), (2, (I .u8 1))])) fun d2 =>
  bi (wantF d1 true (some a0)) fun d3 =>
  bi (wantF d1 true (buildS (.agg [(I .u8 0), (I .u8 0), (I .u8 0), (I .i64 0), (I .i64 0), (I .i64 0), (I .i64 0), (I .i64 0), (I .i64 0), (I .u16 0), (.list 0 [] .ti)]) [(0, 3), (3, 1), (4, 1), (5, 1), (6, 1), (7, 1), (8, 1), (9, 1), (10, 1)] [(0, d2), (1, (I .i64 1)), (2, (I .i64 1)), (3, (I .i64 1)), (4, (I .i64 1)), (5, (I .i64 1)), (6, (I .i64 1)), (8, d3)])) fun d4 =>
  bi (wantF d1 true (cP n 74 false [d4])) fun d5 =>
  bi (wantF d1 true (eqK .i64 d5 (I .i64 0))) fun d6 =>
  bi (pickD d1 d6 (Bo false)) fun d7 =>
  some (d7, H)
theorem s_triunelaw10_May_eq (n : Nat) (H : Heap) (fl : Nat) (a0 : DV) : callG Try.prog ENV (n + 1) 36 [a0] H fl = s_triunelaw10_May n H fl a0 := by kernel_rfl

end Go.Proofs.Ytjkofefcoeejbaa

/- Points, as they are told. -/
namespace Go.Proofs.Ytjkofefcoeejbaa
open Go
set_option linter.unusedSimpArgs false
set_option linter.unusedVariables false
structure Pt where
  kind : Int
  addr : Int
  at_ : Int
  band : Int
  safe : Int
  deriving DecidableEq
def ptE (p : Pt) : DV := .agg [I .i64 p.kind, I .i64 p.addr, I .i64 p.at_, I .i64 p.band, I .i64 p.safe]
theorem ptE_cells (p : Pt) : (ptE p).cells = [I .i64 p.kind, I .i64 p.addr, I .i64 p.at_, I .i64 p.band, I .i64 p.safe] := rfl
/-- the first place, from i on, at which something is so; -1: there is none -/
def findI (q : Pt → Bool) : List Pt → Int → Int
  | [], _ => -1
  | p :: l, i => if q p = true then i else findI q l (i + 1)
theorem findI_range (q : Pt → Bool) : ∀ (l : List Pt) (i : Int), 0 ≤ i → findI q l i = -1 ∨ (i ≤ findI q l i ∧ findI q l i < i + l.length)
  | [], i, h => .inl rfl
  | p :: l, i, h => by
    unfold findI
    split
    · exact .inr ⟨Int.le_refl _, by simp; omega⟩
    · rcases findI_range q l (i + 1) (by omega) with h2 | ⟨h2, h3⟩
      · exact .inl h2
      · exact .inr ⟨by omega, by simp only [List.length_cons]; omega⟩
def isPt (kind at_ : Int) (p : Pt) : Bool := decide (p.kind = kind ∧ p.at_ = at_)
def findP (l : List Pt) (kind at_ : Int) : Int := findI (isPt kind at_) l 0
theorem findP_range (l : List Pt) (kind at_ : Int) : findP l kind at_ = -1 ∨ (0 ≤ findP l kind at_ ∧ findP l kind at_ < l.length) := by
  rcases findI_range (isPt kind at_) l 0 (by omega) with h | ⟨h, h2⟩
  · exact .inl h
  · exact .inr ⟨h, by unfold findP; omega⟩
theorem findI_none (q : Pt → Bool) : ∀ (l : List Pt) (i : Int), (∀ p ∈ l, q p = false) → findI q l i = -1
  | [], _, _ => rfl
  | p :: l, i, h => by unfold findI; rw [if_neg (by rw [h p (by simp)]; decide)]; exact findI_none q l (i + 1) (fun p hp => h p (by simp [hp]))
theorem findP_none (l : List Pt) (kind at_ : Int) (h : ∀ p ∈ l, p.at_ ≠ at_) : findP l kind at_ = -1 :=
  findI_none _ l 0 fun p hp => by unfold isPt; exact decide_eq_false fun hh => h p hp hh.2
/-- what is found is so -/
theorem findI_get (q : Pt → Bool) : ∀ (l : List Pt) (i : Int) (k : Nat), 0 ≤ i → findI q l i = i + k → ∃ h : k < l.length, q l[k] = true
  | [], i, k, h0, h => by unfold findI at h; omega
  | p :: l, i, k, h0, h => by
    unfold findI at h
    split at h
    · rename_i hq
      have : k = 0 := by omega
      subst this
      exact ⟨by simp, hq⟩
    · rename_i hq
      cases k with
      | zero => rcases findI_range q l (i + 1) (by omega) with h2 | ⟨h2, _⟩ <;> omega
      | succ k =>
        obtain ⟨h1, h2⟩ := findI_get q l (i + 1) k (by omega) (by omega)
        exact ⟨by simpa using h1, by simpa using h2⟩
theorem findI_first (q : Pt → Bool) : ∀ (l : List Pt) (i : Int) (k : Nat) (h : k < l.length), q l[k] = true → (∀ j (hj : j < k), q l[j] = false) → findI q l i = i + k
  | [], i, k, h, _, _ => by simp at h
  | p :: l, i, 0, h, h1, _ => by unfold findI; rw [if_pos (by simpa using h1)]; simp
  | p :: l, i, k + 1, h, h1, h2 => by
    unfold findI
    rw [if_neg (by have := h2 0 (by omega); simp at this; rw [this]; decide), findI_first q l (i + 1) k (by simpa using h) (by simpa using h1) (fun j hj => by have := h2 (j + 1) (by omega); simpa using this)]
    omega
end Go.Proofs.Ytjkofefcoeejbaa

/- Points that may be in a configuration: the reference's answer. -/
namespace Go.Proofs.Ytjkofefcoeejbaa
open Go
set_option linter.unusedSimpArgs false
set_option linter.unusedVariables false
theorem idxArr_k (len sz k off : Nat) (i : Int) (h : 0 ≤ i ∧ i < len) : idxArr len sz (.ptr k off) (I .i64 i) = some (.ptr k (off + i.toNat * sz)) := by
  show (if 0 ≤ i ∧ i < (len : Int) then some (DV.ptr k (off + i.toNat * sz)) else none) = _
  rw [if_pos h]
theorem ref09_in_c (n : Nat) (a b c : Int) (hn : 1 ≤ n) : cP n 101 false [I .i64 a, I .i64 b, I .i64 c] = some (Bo (decide (b ≤ a ∧ a ≤ c))) := by
  obtain ⟨n, rfl⟩ : ∃ m, n = m + 1 := ⟨n - 1, by omega⟩
  by_cases c1 : b ≤ a
  · by_cases c2 : a ≤ c
    · exact cP_of (args' := [I .i64 a, I .i64 b, I .i64 c]) (by simp [argEl_eq]) ((s_triuneref09_in_eq _ _ _ _ _ _).trans (by unfold s_triuneref09_in; simp -implicitDefEqProofs (disch := first | omega | (simp only [List.length_set, List.length_append, List.length_cons, List.length_nil, List.length_take, List.length_drop, List.length_map]; omega) | simp) [wrap_i64, wrap_u16_id, wrap_u8_id, tdiv_pos, tmod_pos, -getElem?_pos, -getElem?_neg, -List.length_eq_zero_iff, -List.getElem_cons_drop, c1, c2]; first | exact rfl | exact ⟨rfl, rfl⟩)) (by simp [c1, c2])
    · exact cP_of (args' := [I .i64 a, I .i64 b, I .i64 c]) (by simp [argEl_eq]) ((s_triuneref09_in_eq _ _ _ _ _ _).trans (by unfold s_triuneref09_in; simp -implicitDefEqProofs (disch := first | omega | (simp only [List.length_set, List.length_append, List.length_cons, List.length_nil, List.length_take, List.length_drop, List.length_map]; omega) | simp) [wrap_i64, wrap_u16_id, wrap_u8_id, tdiv_pos, tmod_pos, -getElem?_pos, -getElem?_neg, -List.length_eq_zero_iff, -List.getElem_cons_drop, c1, c2]; first | exact rfl | exact ⟨rfl, rfl⟩)) (by simp [c1, c2])
  · exact cP_of (args' := [I .i64 a, I .i64 b, I .i64 c]) (by simp [argEl_eq]) ((s_triuneref09_in_eq _ _ _ _ _ _).trans (by unfold s_triuneref09_in; simp -implicitDefEqProofs (disch := first | omega | (simp only [List.length_set, List.length_append, List.length_cons, List.length_nil, List.length_take, List.length_drop, List.length_map]; omega) | simp) [wrap_i64, wrap_u16_id, wrap_u8_id, tdiv_pos, tmod_pos, -getElem?_pos, -getElem?_neg, -List.length_eq_zero_iff, -List.getElem_cons_drop, c1]; first | exact rfl | exact ⟨rfl, rfl⟩)) (by simp [c1])
def PtMay (p : Pt) : Prop := (0 ≤ p.kind ∧ p.kind ≤ 3) ∧ (0 ≤ p.addr ∧ p.addr ≤ 65535) ∧ (0 ≤ p.at_ ∧ p.at_ ≤ 899) ∧ 0 ≤ p.band
theorem ref09_may_c (n : Nat) (p : Pt) (hn : 2 ≤ n) : ∃ b, cP n 102 false [ptE p] = some (Bo b) ∧ (b = true → PtMay p) := by
  obtain ⟨n, rfl⟩ : ∃ m, n = m + 1 := ⟨n - 1, by omega⟩
  have q := fun a b c => ref09_in_c n a b c (by omega)
  obtain ⟨kind, addr, at_, band, safe⟩ := p
  by_cases c1 : 0 ≤ kind ∧ kind ≤ 3
  · by_cases c2 : 0 ≤ addr ∧ addr ≤ 65535
    · by_cases c3 : 0 ≤ at_ ∧ at_ ≤ 899
      · by_cases c4 : kind ≤ 1
        · by_cases c5 : 0 ≤ band ∧ band ≤ 65535
          · exact ⟨decide (0 ≤ safe ∧ safe ≤ 65535), cP_of (args' := [ptE ⟨kind, addr, at_, band, safe⟩]) (by simp [argEl_eq, ptE]) ((s_triuneref09_may_eq _ _ _ _).trans (by unfold s_triuneref09_may ptE; simp -implicitDefEqProofs (disch := first | omega | (simp only [List.length_set, List.length_append, List.length_cons, List.length_nil, List.length_take, List.length_drop, List.length_map]; omega) | simp) [wrap_i64, wrap_u16_id, wrap_u8_id, tdiv_pos, tmod_pos, -getElem?_pos, -getElem?_neg, -List.length_eq_zero_iff, -List.getElem_cons_drop, q, c1, c2, c3, c4, c5]; first | exact rfl | exact ⟨rfl, rfl⟩)) (by simp), fun _ => ⟨c1, c2, c3, by simp only; omega⟩⟩
          · exact ⟨false, cP_of (args' := [ptE ⟨kind, addr, at_, band, safe⟩]) (by simp [argEl_eq, ptE]) ((s_triuneref09_may_eq _ _ _ _).trans (by unfold s_triuneref09_may ptE; simp -implicitDefEqProofs (disch := first | omega | (simp only [List.length_set, List.length_append, List.length_cons, List.length_nil, List.length_take, List.length_drop, List.length_map]; omega) | simp) [wrap_i64, wrap_u16_id, wrap_u8_id, tdiv_pos, tmod_pos, -getElem?_pos, -getElem?_neg, -List.length_eq_zero_iff, -List.getElem_cons_drop, q, c1, c2, c3, c4, c5]; first | exact rfl | exact ⟨rfl, rfl⟩)) (by simp), fun h => by cases h⟩
        · by_cases c5 : band = 0
          · exact ⟨decide (0 ≤ safe ∧ safe ≤ 1), cP_of (args' := [ptE ⟨kind, addr, at_, band, safe⟩]) (by simp [argEl_eq, ptE]) ((s_triuneref09_may_eq _ _ _ _).trans (by unfold s_triuneref09_may ptE; simp -implicitDefEqProofs (disch := first | omega | (simp only [List.length_set, List.length_append, List.length_cons, List.length_nil, List.length_take, List.length_drop, List.length_map]; omega) | simp) [wrap_i64, wrap_u16_id, wrap_u8_id, tdiv_pos, tmod_pos, -getElem?_pos, -getElem?_neg, -List.length_eq_zero_iff, -List.getElem_cons_drop, q, c1, c2, c3, c4, c5]; first | exact rfl | exact ⟨rfl, rfl⟩)) (by simp), fun _ => ⟨c1, c2, c3, by simp only; omega⟩⟩
          · exact ⟨false, cP_of (args' := [ptE ⟨kind, addr, at_, band, safe⟩]) (by simp [argEl_eq, ptE]) ((s_triuneref09_may_eq _ _ _ _).trans (by unfold s_triuneref09_may ptE; simp -implicitDefEqProofs (disch := first | omega | (simp only [List.length_set, List.length_append, List.length_cons, List.length_nil, List.length_take, List.length_drop, List.length_map]; omega) | simp) [wrap_i64, wrap_u16_id, wrap_u8_id, tdiv_pos, tmod_pos, -getElem?_pos, -getElem?_neg, -List.length_eq_zero_iff, -List.getElem_cons_drop, q, c1, c2, c3, c4, c5]; first | exact rfl | exact ⟨rfl, rfl⟩)) (by simp), fun h => by cases h⟩
      · exact ⟨false, cP_of (args' := [ptE ⟨kind, addr, at_, band, safe⟩]) (by simp [argEl_eq, ptE]) ((s_triuneref09_may_eq _ _ _ _).trans (by unfold s_triuneref09_may ptE; simp -implicitDefEqProofs (disch := first | omega | (simp only [List.length_set, List.length_append, List.length_cons, List.length_nil, List.length_take, List.length_drop, List.length_map]; omega) | simp) [wrap_i64, wrap_u16_id, wrap_u8_id, tdiv_pos, tmod_pos, -getElem?_pos, -getElem?_neg, -List.length_eq_zero_iff, -List.getElem_cons_drop, q, c1, c2, c3]; first | exact rfl | exact ⟨rfl, rfl⟩)) (by simp), fun h => by cases h⟩
    · exact ⟨false, cP_of (args' := [ptE ⟨kind, addr, at_, band, safe⟩]) (by simp [argEl_eq, ptE]) ((s_triuneref09_may_eq _ _ _ _).trans (by unfold s_triuneref09_may ptE; simp -implicitDefEqProofs (disch := first | omega | (simp only [List.length_set, List.length_append, List.length_cons, List.length_nil, List.length_take, List.length_drop, List.length_map]; omega) | simp) [wrap_i64, wrap_u16_id, wrap_u8_id, tdiv_pos, tmod_pos, -getElem?_pos, -getElem?_neg, -List.length_eq_zero_iff, -List.getElem_cons_drop, q, c1, c2]; first | exact rfl | exact ⟨rfl, rfl⟩)) (by simp), fun h => by cases h⟩
  · exact ⟨false, cP_of (args' := [ptE ⟨kind, addr, at_, band, safe⟩]) (by simp [argEl_eq, ptE]) ((s_triuneref09_may_eq _ _ _ _).trans (by unfold s_triuneref09_may ptE; simp -implicitDefEqProofs (disch := first | omega | (simp only [List.length_set, List.length_append, List.length_cons, List.length_nil, List.length_take, List.length_drop, List.length_map]; omega) | simp) [wrap_i64, wrap_u16_id, wrap_u8_id, tdiv_pos, tmod_pos, -getElem?_pos, -getElem?_neg, -List.length_eq_zero_iff, -List.getElem_cons_drop, q, c1]; first | exact rfl | exact ⟨rfl, rfl⟩)) (by simp), fun h => by cases h⟩
def Apart (p q : Pt) : Prop := ¬ (p.kind = q.kind ∧ (p.addr = q.addr ∨ p.at_ = q.at_))
def PtsOk (l : List Pt) : Prop := (1 ≤ l.length ∧ l.length ≤ 48) ∧ (∀ p ∈ l, PtMay p) ∧ (∀ i k (hi : i < l.length) (hk : k < i), Apart l[i] l[k])
def cfgC (l : List Pt) : List DV := [I .u8 1, I .u8 1, I .u8 1, I .i64 1, I .i64 1, I .i64 1, I .i64 1, I .i64 1, I .i64 1, I .u16 0, LV 5 ptE l .sh]
theorem chk_L0 (n fl : Nat) (hn : 1 ≤ n) (a : Nat) (l : List Pt) : ∀ (m i : Nat) (H : Heap), 3 < m + i → i ≤ 3 → H[a]? = some (.cells 111 (cfgC l)) →
    ∀ K, s_triuneref09_Check_L0 n fl K m (.ptr a 0) (I .i64 i) H = K (.exit 0) (s_triuneref09_Check_O0 (.ptr a 0) .any) H := by
  intro m
  induction m with
  | zero => intro i H h; omega
  | succ m ih =>
    intro i H hm hi hc K
    unfold s_triuneref09_Check_L0 s_triuneref09_Check_B0
    have q := fun a b c => ref09_in_c n a b c hn
    unfold cfgC at hc ih
    by_cases h : i < 3
    · rcases (by omega : i = 0 ∨ i = 1 ∨ i = 2) with rfl | rfl | rfl
      · have ih' : s_triuneref09_Check_L0 n fl K m (.ptr a 0) (I .i64 1) H = _ := ih 1 H (by omega) (by omega) hc K
        simp -implicitDefEqProofs (disch := first | omega | (simp only [List.length_set, List.length_append, List.length_cons, List.length_nil, List.length_take, List.length_drop, List.length_map]; omega) | simp) [wrap_i64, wrap_u16_id, wrap_u8_id, tdiv_pos, tmod_pos, -getElem?_pos, -getElem?_neg, -List.length_eq_zero_iff, -List.getElem_cons_drop, hc, q, ih', idxArr_k]
      · have ih' : s_triuneref09_Check_L0 n fl K m (.ptr a 0) (I .i64 2) H = _ := ih 2 H (by omega) (by omega) hc K
        simp -implicitDefEqProofs (disch := first | omega | (simp only [List.length_set, List.length_append, List.length_cons, List.length_nil, List.length_take, List.length_drop, List.length_map]; omega) | simp) [wrap_i64, wrap_u16_id, wrap_u8_id, tdiv_pos, tmod_pos, -getElem?_pos, -getElem?_neg, -List.length_eq_zero_iff, -List.getElem_cons_drop, hc, q, ih', idxArr_k]
      · have ih' : s_triuneref09_Check_L0 n fl K m (.ptr a 0) (I .i64 3) H = _ := ih 3 H (by omega) (by omega) hc K
        simp -implicitDefEqProofs (disch := first | omega | (simp only [List.length_set, List.length_append, List.length_cons, List.length_nil, List.length_take, List.length_drop, List.length_map]; omega) | simp) [wrap_i64, wrap_u16_id, wrap_u8_id, tdiv_pos, tmod_pos, -getElem?_pos, -getElem?_neg, -List.length_eq_zero_iff, -List.getElem_cons_drop, hc, q, ih', idxArr_k]
    · have : i = 3 := by omega
      subst this
      simp -implicitDefEqProofs (disch := first | omega | (simp only [List.length_set, List.length_append, List.length_cons, List.length_nil, List.length_take, List.length_drop, List.length_map]; omega) | simp) [wrap_i64, wrap_u16_id, wrap_u8_id, tdiv_pos, tmod_pos, -getElem?_pos, -getElem?_neg, -List.length_eq_zero_iff, -List.getElem_cons_drop]
theorem chk_L1 (n fl : Nat) (hn : 3 ≤ n) (a : Nat) (l : List Pt) (hl : l.length ≤ 48) : ∀ (m i : Nat) (H : Heap), l.length < m + i → i ≤ l.length → H[a]? = some (.cells 111 (cfgC l)) → (∀ p ∈ l.take i, PtMay p) →
    (∀ K, s_triuneref09_Check_L1 n fl K m (.ptr a 0) (I .i64 i) H = K .ret (s_triuneref09_Check_O1 (.ptr a 0) (I .i64 1)) H) ∨
    ((∀ K, s_triuneref09_Check_L1 n fl K m (.ptr a 0) (I .i64 i) H = K (.exit 2) (s_triuneref09_Check_O1 (.ptr a 0) .any) H) ∧ ∀ p ∈ l, PtMay p) := by
  intro m
  induction m with
  | zero => intro i H h; omega
  | succ m ih =>
    intro i H hm hi hc hp
    unfold cfgC at hc ih
    by_cases h : i < l.length
    · obtain ⟨b, hb, hb2⟩ := ref09_may_c n l[i] (by omega)
      cases b with
      | false => exact .inl fun K => by unfold s_triuneref09_Check_L1 s_triuneref09_Check_B1; unfold ptE at hb; simp -implicitDefEqProofs (disch := first | omega | (simp only [List.length_set, List.length_append, List.length_cons, List.length_nil, List.length_take, List.length_drop, List.length_map]; omega) | simp) [wrap_i64, wrap_u16_id, wrap_u8_id, tdiv_pos, tmod_pos, -getElem?_pos, -getElem?_neg, -List.length_eq_zero_iff, -List.getElem_cons_drop, h, hc, ptE_cells, hb]
      | true =>
        have hi2 : ((i + 1 : Nat) : Int) = (i : Int) + 1 := by omega
        have hp2 : ∀ p ∈ l.take (i + 1), PtMay p := by
          intro p hp3
          rw [List.take_succ_eq_append_getElem h] at hp3
          rcases List.mem_append.mp hp3 with h3 | h3
          · exact hp p h3
          · simp at h3; rw [h3]; exact hb2 rfl
        have ih' := ih (i + 1) H (by omega) (by omega) hc hp2
        rw [hi2] at ih'
        unfold ptE at hb
        rcases ih' with q | ⟨q, q2⟩
        · exact .inl fun K => by unfold s_triuneref09_Check_L1 s_triuneref09_Check_B1; simp -implicitDefEqProofs (disch := first | omega | (simp only [List.length_set, List.length_append, List.length_cons, List.length_nil, List.length_take, List.length_drop, List.length_map]; omega) | simp) [wrap_i64, wrap_u16_id, wrap_u8_id, tdiv_pos, tmod_pos, -getElem?_pos, -getElem?_neg, -List.length_eq_zero_iff, -List.getElem_cons_drop, h, hc, ptE_cells, hb, q]
        · exact .inr ⟨fun K => by unfold s_triuneref09_Check_L1 s_triuneref09_Check_B1; simp -implicitDefEqProofs (disch := first | omega | (simp only [List.length_set, List.length_append, List.length_cons, List.length_nil, List.length_take, List.length_drop, List.length_map]; omega) | simp) [wrap_i64, wrap_u16_id, wrap_u8_id, tdiv_pos, tmod_pos, -getElem?_pos, -getElem?_neg, -List.length_eq_zero_iff, -List.getElem_cons_drop, h, hc, ptE_cells, hb, q], q2⟩
    · have : i = l.length := by omega
      subst this
      rw [List.take_length] at hp
      exact .inr ⟨fun K => by unfold s_triuneref09_Check_L1 s_triuneref09_Check_B1; simp -implicitDefEqProofs (disch := first | omega | (simp only [List.length_set, List.length_append, List.length_cons, List.length_nil, List.length_take, List.length_drop, List.length_map]; omega) | simp) [wrap_i64, wrap_u16_id, wrap_u8_id, tdiv_pos, tmod_pos, -getElem?_pos, -getElem?_neg, -List.length_eq_zero_iff, -List.getElem_cons_drop, hc], hp⟩
theorem chk_L3 (n fl : Nat) (hn : 3 ≤ n) (a : Nat) (l : List Pt) (hl : l.length ≤ 48) (i : Nat) (hi : i < l.length) : ∀ (m k : Nat) (H : Heap), i < m + k → k ≤ i → H[a]? = some (.cells 111 (cfgC l)) → fl ≤ H.length → (∀ j (hj : j < k) (hjl : j < l.length), Apart l[i] l[j]) →
    (∃ H', ∀ K, s_triuneref09_Check_L3 n fl K m (.ptr a 0) (I .i64 i) (I .i64 k) H = K .ret (s_triuneref09_Check_O3 (.ptr a 0) (I .i64 9) (I .i64 i)) H') ∨
    (∃ H', (∀ K, s_triuneref09_Check_L3 n fl K m (.ptr a 0) (I .i64 i) (I .i64 k) H = K (.exit 6) (s_triuneref09_Check_O3 (.ptr a 0) .any (I .i64 i)) H') ∧ H'[a]? = some (.cells 111 (cfgC l)) ∧ fl ≤ H'.length ∧ ∀ j (hj : j < i) (hjl : j < l.length), Apart l[i] l[j]) := by
  intro m
  induction m with
  | zero => intro k H h; omega
  | succ m ih =>
    intro k H hm hk hc hfl hp
    have hal := hp_lt hc
    by_cases h : k < i
    · have hkl : k < l.length := by omega
      by_cases c : Apart l[i] l[k]
      · have ih' := ih (k + 1) (H ++ [.cells 65 [I .i64 l[i].kind, I .i64 l[i].addr, I .i64 l[i].at_, I .i64 l[i].band, I .i64 l[i].safe], .cells 65 [I .i64 l[k].kind, I .i64 l[k].addr, I .i64 l[k].at_, I .i64 l[k].band, I .i64 l[k].safe]]) (by omega) (by omega) (by rw [hp_get_left _ _ _ hal]; exact hc) (by simp; omega) (by
          intro j hj hjl
          rcases Nat.lt_succ_iff_lt_or_eq.mp hj with h3 | rfl
          · exact hp j h3 hjl
          · exact c)
        have hi2 : ((k + 1 : Nat) : Int) = (k : Int) + 1 := by omega
        rw [hi2] at ih'
        unfold cfgC at hc ih'
        unfold Apart at c
        by_cases c1 : l[i].kind = l[k].kind
        · have c2 : ¬ l[i].addr = l[k].addr := fun e => c ⟨c1, .inl e⟩
          have c3 : ¬ l[i].at_ = l[k].at_ := fun e => c ⟨c1, .inr e⟩
          rw [c1] at ih'
          rcases ih' with ⟨H', q⟩ | ⟨H', q, q2⟩
          · exact .inl ⟨H', fun K => by unfold s_triuneref09_Check_L3 s_triuneref09_Check_B3; simp -implicitDefEqProofs (disch := first | omega | (simp only [List.length_set, List.length_append, List.length_cons, List.length_nil, List.length_take, List.length_drop, List.length_map]; omega) | simp) [wrap_i64, wrap_u16_id, wrap_u8_id, tdiv_pos, tmod_pos, -getElem?_pos, -getElem?_neg, -List.length_eq_zero_iff, -List.getElem_cons_drop, h, hkl, hi, hc, ptE_cells, c1, c2, c3, q]⟩
          · exact .inr ⟨H', fun K => by unfold s_triuneref09_Check_L3 s_triuneref09_Check_B3; simp -implicitDefEqProofs (disch := first | omega | (simp only [List.length_set, List.length_append, List.length_cons, List.length_nil, List.length_take, List.length_drop, List.length_map]; omega) | simp) [wrap_i64, wrap_u16_id, wrap_u8_id, tdiv_pos, tmod_pos, -getElem?_pos, -getElem?_neg, -List.length_eq_zero_iff, -List.getElem_cons_drop, h, hkl, hi, hc, ptE_cells, c1, c2, c3, q], q2⟩
        · rcases ih' with ⟨H', q⟩ | ⟨H', q, q2⟩
          · exact .inl ⟨H', fun K => by unfold s_triuneref09_Check_L3 s_triuneref09_Check_B3; simp -implicitDefEqProofs (disch := first | omega | (simp only [List.length_set, List.length_append, List.length_cons, List.length_nil, List.length_take, List.length_drop, List.length_map]; omega) | simp) [wrap_i64, wrap_u16_id, wrap_u8_id, tdiv_pos, tmod_pos, -getElem?_pos, -getElem?_neg, -List.length_eq_zero_iff, -List.getElem_cons_drop, h, hkl, hi, hc, ptE_cells, c1, q]⟩
          · exact .inr ⟨H', fun K => by unfold s_triuneref09_Check_L3 s_triuneref09_Check_B3; simp -implicitDefEqProofs (disch := first | omega | (simp only [List.length_set, List.length_append, List.length_cons, List.length_nil, List.length_take, List.length_drop, List.length_map]; omega) | simp) [wrap_i64, wrap_u16_id, wrap_u8_id, tdiv_pos, tmod_pos, -getElem?_pos, -getElem?_neg, -List.length_eq_zero_iff, -List.getElem_cons_drop, h, hkl, hi, hc, ptE_cells, c1, q], q2⟩
      · have c1 : l[i].kind = l[k].kind := Classical.byContradiction fun e => c fun h => e h.1
        unfold cfgC at hc
        by_cases c2 : l[i].addr = l[k].addr
        · exact .inl ⟨_, fun K => by unfold s_triuneref09_Check_L3 s_triuneref09_Check_B3; simp -implicitDefEqProofs (disch := first | omega | (simp only [List.length_set, List.length_append, List.length_cons, List.length_nil, List.length_take, List.length_drop, List.length_map]; omega) | simp) [wrap_i64, wrap_u16_id, wrap_u8_id, tdiv_pos, tmod_pos, -getElem?_pos, -getElem?_neg, -List.length_eq_zero_iff, -List.getElem_cons_drop, h, hkl, hi, hc, ptE_cells, c1, c2]; rfl⟩
        · have c3 : l[i].at_ = l[k].at_ := Classical.byContradiction fun e => c fun h => h.2.elim c2 e
          exact .inl ⟨_, fun K => by unfold s_triuneref09_Check_L3 s_triuneref09_Check_B3; simp -implicitDefEqProofs (disch := first | omega | (simp only [List.length_set, List.length_append, List.length_cons, List.length_nil, List.length_take, List.length_drop, List.length_map]; omega) | simp) [wrap_i64, wrap_u16_id, wrap_u8_id, tdiv_pos, tmod_pos, -getElem?_pos, -getElem?_neg, -List.length_eq_zero_iff, -List.getElem_cons_drop, h, hkl, hi, hc, ptE_cells, c1, c2, c3]; rfl⟩
    · have : k = i := by omega
      subst this
      exact .inr ⟨H, fun K => by unfold s_triuneref09_Check_L3 s_triuneref09_Check_B3; simp -implicitDefEqProofs (disch := first | omega | (simp only [List.length_set, List.length_append, List.length_cons, List.length_nil, List.length_take, List.length_drop, List.length_map]; omega) | simp) [wrap_i64, wrap_u16_id, wrap_u8_id, tdiv_pos, tmod_pos, -getElem?_pos, -getElem?_neg, -List.length_eq_zero_iff, -List.getElem_cons_drop], hc, hfl, hp⟩
theorem chk_L2 (n fl : Nat) (hn : 60 ≤ n) (a : Nat) (l : List Pt) (hl : l.length ≤ 48) : ∀ (m i : Nat) (H : Heap), l.length < m + i → i ≤ l.length → H[a]? = some (.cells 111 (cfgC l)) → fl ≤ H.length → (∀ j k (hj : j < i) (hk : k < j) (h : j < l.length), Apart l[j] l[k]) →
    (∃ H', ∀ K, s_triuneref09_Check_L2 n fl K m (.ptr a 0) (I .i64 i) H = K .ret (s_triuneref09_Check_O2 (I .i64 9)) H') ∨
    (∃ H', (∀ K, s_triuneref09_Check_L2 n fl K m (.ptr a 0) (I .i64 i) H = K (.exit 4) (s_triuneref09_Check_O2 .any) H') ∧ ∀ j k (hj : j < l.length) (hk : k < j), Apart l[j] l[k]) := by
  intro m
  induction m with
  | zero => intro i H h; omega
  | succ m ih =>
    intro i H hm hi hc hfl hp
    by_cases h : i < l.length
    · have h3 := chk_L3 n fl (by omega) a l hl i h n 0 H (by omega) (by omega) hc hfl (by intro j hj; omega)
      have hi2 : ((i + 1 : Nat) : Int) = (i : Int) + 1 := by omega
      rcases h3 with ⟨H1, q⟩ | ⟨H1, q, q2, q3, q4⟩
      · have q' := fun K => (s_triuneref09_Check_L3_eq n fl K n (.ptr a 0) (I .i64 i) (I .i64 0) H).trans (q K)
        unfold cfgC at hc
        exact .inl ⟨_, fun K => by unfold s_triuneref09_Check_L2 s_triuneref09_Check_B2; simp -implicitDefEqProofs (disch := first | omega | (simp only [List.length_set, List.length_append, List.length_cons, List.length_nil, List.length_take, List.length_drop, List.length_map]; omega) | simp) [wrap_i64, wrap_u16_id, wrap_u8_id, tdiv_pos, tmod_pos, -getElem?_pos, -getElem?_neg, -List.length_eq_zero_iff, -List.getElem_cons_drop, h, hc, q', s_triuneref09_Check_O3]; rfl⟩
      · have q' := fun K => (s_triuneref09_Check_L3_eq n fl K n (.ptr a 0) (I .i64 i) (I .i64 0) H).trans (q K)
        have ih' := ih (i + 1) H1 (by omega) (by omega) q2 q3 (by
          intro j k hj hk hjl
          rcases Nat.lt_succ_iff_lt_or_eq.mp hj with h3 | rfl
          · exact hp j k h3 hk hjl
          · exact q4 k hk (by omega))
        rw [hi2] at ih'
        unfold cfgC at hc
        rcases ih' with ⟨H', u⟩ | ⟨H', u, u2⟩
        · exact .inl ⟨H', fun K => by unfold s_triuneref09_Check_L2 s_triuneref09_Check_B2; simp -implicitDefEqProofs (disch := first | omega | (simp only [List.length_set, List.length_append, List.length_cons, List.length_nil, List.length_take, List.length_drop, List.length_map]; omega) | simp) [wrap_i64, wrap_u16_id, wrap_u8_id, tdiv_pos, tmod_pos, -getElem?_pos, -getElem?_neg, -List.length_eq_zero_iff, -List.getElem_cons_drop, h, hc, q', u, s_triuneref09_Check_O3]⟩
        · exact .inr ⟨H', fun K => by unfold s_triuneref09_Check_L2 s_triuneref09_Check_B2; simp -implicitDefEqProofs (disch := first | omega | (simp only [List.length_set, List.length_append, List.length_cons, List.length_nil, List.length_take, List.length_drop, List.length_map]; omega) | simp) [wrap_i64, wrap_u16_id, wrap_u8_id, tdiv_pos, tmod_pos, -getElem?_pos, -getElem?_neg, -List.length_eq_zero_iff, -List.getElem_cons_drop, h, hc, q', u, s_triuneref09_Check_O3], u2⟩
    · have : i = l.length := by omega
      subst this
      unfold cfgC at hc
      exact .inr ⟨H, fun K => by unfold s_triuneref09_Check_L2 s_triuneref09_Check_B2; simp -implicitDefEqProofs (disch := first | omega | (simp only [List.length_set, List.length_append, List.length_cons, List.length_nil, List.length_take, List.length_drop, List.length_map]; omega) | simp) [wrap_i64, wrap_u16_id, wrap_u8_id, tdiv_pos, tmod_pos, -getElem?_pos, -getElem?_neg, -List.length_eq_zero_iff, -List.getElem_cons_drop, hc], fun j k hj hk => hp j k hj hk hj⟩
theorem Check_c (n : Nat) (l : List Pt) (hl : l.length ≤ 48) (hn : 100 ≤ n) : ∃ e, cP n 74 false [.agg (cfgC l)] = some (I .i64 e) ∧ (e = 0 → PtsOk l) := by
  obtain ⟨n, rfl⟩ : ∃ m, n = m + 1 := ⟨n - 1, by omega⟩
  have q := fun a b c => ref09_in_c n a b c (by omega)
  by_cases c0 : l.length = 0
  · exact ⟨4, cP_of (args' := [.agg (cfgC l)]) (by unfold cfgC; simp [argEl_eq]) ((s_triuneref09_Check_eq _ _ _ _).trans (by unfold s_triuneref09_Check cfgC; simp -implicitDefEqProofs (disch := first | omega | (simp only [List.length_set, List.length_append, List.length_cons, List.length_nil, List.length_take, List.length_drop, List.length_map]; omega) | simp) [wrap_i64, wrap_u16_id, wrap_u8_id, tdiv_pos, tmod_pos, -getElem?_pos, -getElem?_neg, -List.length_eq_zero_iff, -List.getElem_cons_drop, q, c0]; first | exact rfl | exact ⟨rfl, rfl⟩)) (by simp), fun h => by omega⟩
  · have g0 := fun K => (s_triuneref09_Check_L0_eq n 0 K n (.ptr 0 0) (I .i64 0) [.cells 111 (cfgC l)]).trans (chk_L0 n 0 (by omega) 0 l n 0 [.cells 111 (cfgC l)] (by omega) (by omega) rfl K)
    have hq1 : (1 : Int) ≤ l.length ∧ (l.length : Int) ≤ 48 := by omega
    rcases chk_L1 n 0 (by omega) 0 l hl n 0 [.cells 111 (cfgC l)] (by omega) (by omega) rfl (by intro p hp; simp at hp) with u | ⟨u, u2⟩
    · have g1 := fun K => (s_triuneref09_Check_L1_eq n 0 K n (.ptr 0 0) (I .i64 0) [.cells 111 (cfgC l)]).trans (u K)
      unfold cfgC at g0 g1
      exact ⟨1, cP_of (args' := [.agg (cfgC l)]) (by unfold cfgC; simp [argEl_eq]) ((s_triuneref09_Check_eq _ _ _ _).trans (by unfold s_triuneref09_Check cfgC; simp -implicitDefEqProofs (disch := first | omega | (simp only [List.length_set, List.length_append, List.length_cons, List.length_nil, List.length_take, List.length_drop, List.length_map]; omega) | simp) [wrap_i64, wrap_u16_id, wrap_u8_id, tdiv_pos, tmod_pos, -getElem?_pos, -getElem?_neg, -List.length_eq_zero_iff, -List.getElem_cons_drop, q, hq1, g0, g1, s_triuneref09_Check_O0, s_triuneref09_Check_O1]; first | exact rfl | exact ⟨rfl, rfl⟩)) (by simp), fun h => by omega⟩
    · have g1 := fun K => (s_triuneref09_Check_L1_eq n 0 K n (.ptr 0 0) (I .i64 0) [.cells 111 (cfgC l)]).trans (u K)
      rcases chk_L2 n 0 (by omega) 0 l hl n 0 [.cells 111 (cfgC l)] (by omega) (by omega) rfl (by omega) (by intro j k hj; omega) with ⟨H', v⟩ | ⟨H', v, v2⟩
      · have g2 := fun K => (s_triuneref09_Check_L2_eq n 0 K n (.ptr 0 0) (I .i64 0) [.cells 111 (cfgC l)]).trans (v K)
        unfold cfgC at g0 g1 g2
        exact ⟨9, cP_of (args' := [.agg (cfgC l)]) (by unfold cfgC; simp [argEl_eq]) ((s_triuneref09_Check_eq _ _ _ _).trans (by unfold s_triuneref09_Check cfgC; simp -implicitDefEqProofs (disch := first | omega | (simp only [List.length_set, List.length_append, List.length_cons, List.length_nil, List.length_take, List.length_drop, List.length_map]; omega) | simp) [wrap_i64, wrap_u16_id, wrap_u8_id, tdiv_pos, tmod_pos, -getElem?_pos, -getElem?_neg, -List.length_eq_zero_iff, -List.getElem_cons_drop, q, hq1, g0, g1, g2, s_triuneref09_Check_O0, s_triuneref09_Check_O1, s_triuneref09_Check_O2]; first | exact rfl | exact ⟨rfl, rfl⟩)) (by simp), fun h => by omega⟩
      · have g2 := fun K => (s_triuneref09_Check_L2_eq n 0 K n (.ptr 0 0) (I .i64 0) [.cells 111 (cfgC l)]).trans (v K)
        unfold cfgC at g0 g1 g2
        exact ⟨0, cP_of (args' := [.agg (cfgC l)]) (by unfold cfgC; simp [argEl_eq]) ((s_triuneref09_Check_eq _ _ _ _).trans (by unfold s_triuneref09_Check cfgC; simp -implicitDefEqProofs (disch := first | omega | (simp only [List.length_set, List.length_append, List.length_cons, List.length_nil, List.length_take, List.length_drop, List.length_map]; omega) | simp) [wrap_i64, wrap_u16_id, wrap_u8_id, tdiv_pos, tmod_pos, -getElem?_pos, -getElem?_neg, -List.length_eq_zero_iff, -List.getElem_cons_drop, q, hq1, g0, g1, g2, s_triuneref09_Check_O0, s_triuneref09_Check_O1, s_triuneref09_Check_O2]; first | exact rfl | exact ⟨rfl, rfl⟩)) (by simp), fun _ => ⟨by omega, u2, fun i k hi hk => v2 i k hi hk⟩⟩
theorem May_c (n : Nat) (l : List Pt) (t : Tag) (hl : l.length ≤ 140737488355328) (hn : 101 ≤ n) : ∃ b, cP n 36 false [LV 5 ptE l t] = some (Bo b) ∧ (b = true → PtsOk l) := by
  obtain ⟨n, rfl⟩ : ∃ m, n = m + 1 := ⟨n - 1, by omega⟩
  by_cases c : l.length ≤ 48
  · obtain ⟨e, q, q2⟩ := Check_c n l c (by omega)
    unfold cfgC at q
    by_cases he : e = 0
    · exact ⟨true, cP_of (args' := [LV 5 ptE l .sh]) (by simp [argEl_eq]) ((s_triunelaw10_May_eq _ _ _ _).trans (by unfold s_triunelaw10_May; simp -implicitDefEqProofs (disch := first | omega | (simp only [List.length_set, List.length_append, List.length_cons, List.length_nil, List.length_take, List.length_drop, List.length_map]; omega) | simp) [wrap_i64, wrap_u16_id, wrap_u8_id, tdiv_pos, tmod_pos, -getElem?_pos, -getElem?_neg, -List.length_eq_zero_iff, -List.getElem_cons_drop, c, q, he]; first | exact rfl | exact ⟨rfl, rfl⟩)) (by simp), fun _ => q2 he⟩
    · exact ⟨false, cP_of (args' := [LV 5 ptE l .sh]) (by simp [argEl_eq]) ((s_triunelaw10_May_eq _ _ _ _).trans (by unfold s_triunelaw10_May; simp -implicitDefEqProofs (disch := first | omega | (simp only [List.length_set, List.length_append, List.length_cons, List.length_nil, List.length_take, List.length_drop, List.length_map]; omega) | simp) [wrap_i64, wrap_u16_id, wrap_u8_id, tdiv_pos, tmod_pos, -getElem?_pos, -getElem?_neg, -List.length_eq_zero_iff, -List.getElem_cons_drop, c, q, he]; first | exact rfl | exact ⟨rfl, rfl⟩)) (by simp), fun h => by cases h⟩
  · exact ⟨false, cP_of (args' := [LV 5 ptE l .sh]) (by simp [argEl_eq]) ((s_triunelaw10_May_eq _ _ _ _).trans (by unfold s_triunelaw10_May; simp -implicitDefEqProofs (disch := first | omega | (simp only [List.length_set, List.length_append, List.length_cons, List.length_nil, List.length_take, List.length_drop, List.length_map]; omega) | simp) [wrap_i64, wrap_u16_id, wrap_u8_id, tdiv_pos, tmod_pos, -getElem?_pos, -getElem?_neg, -List.length_eq_zero_iff, -List.getElem_cons_drop, c]; first | exact rfl | exact ⟨rfl, rfl⟩)) (by simp), fun h => by cases h⟩
end Go.Proofs.Ytjkofefcoeejbaa

/- Choices by a Bool that is not known: one path for both. -/
namespace Go.Proofs.Ytjkofefcoeejbaa
open Go
set_option linter.unusedSimpArgs false
/-- a value that is there only if b -/
def gd (b : Bool) (v : DV) : DV := if b then v else .flat undef
def gO (b : Bool) (x : Option DV) : Option DV := if b then x else some (.flat undef)
theorem wantF_sy (b : Bool) (x : Option DV) : wantF (.flat (.bool b)) true x = gO b x := by cases b <;> rfl
theorem wantF_sn (b : Bool) (x : Option DV) : wantF (.flat (.bool b)) false x = gO (!b) x := by cases b <;> rfl
theorem gO_some (b : Bool) (v : DV) : gO b (some v) = some (gd b v) := by cases b <;> rfl
theorem gO_loadG (b : Bool) (ag : Bool) (sz : Nat) (v : DV) (H : Heap) : gO b (loadG ag sz (gd b v) H) = gO b (loadG ag sz v H) := by cases b <;> rfl
theorem gO_lenD (b : Bool) (v : DV) : gO b (lenD (gd b v)) = gO b (lenD v) := by cases b <;> rfl
theorem gO_notD (b : Bool) (v : DV) : gO b (notD (gd b v)) = gO b (notD v) := by cases b <;> rfl
theorem gO_eqK1 (b : Bool) (k : IntKind) (v w : DV) : gO b (eqK k (gd b v) w) = gO b (eqK k v w) := by cases b <;> rfl
theorem gO_neK1 (b : Bool) (k : IntKind) (v w : DV) : gO b (neK k (gd b v) w) = gO b (neK k v w) := by cases b <;> rfl
theorem gO_ltK1 (b : Bool) (k : IntKind) (v w : DV) : gO b (ltK k (gd b v) w) = gO b (ltK k v w) := by cases b <;> rfl
theorem gO_leK1 (b : Bool) (k : IntKind) (v w : DV) : gO b (leK k (gd b v) w) = gO b (leK k v w) := by cases b <;> rfl
theorem gO_gtK1 (b : Bool) (k : IntKind) (v w : DV) : gO b (gtK k (gd b v) w) = gO b (gtK k v w) := by cases b <;> rfl
theorem gO_geK1 (b : Bool) (k : IntKind) (v w : DV) : gO b (geK k (gd b v) w) = gO b (geK k v w) := by cases b <;> rfl
theorem gO_max1 (b : Bool) (v w : DV) : gO b (maxI (gd b v) w) = gO b (maxI v w) := by cases b <;> rfl
theorem gO_max2 (b : Bool) (v w : DV) : gO b (maxI v (gd b w)) = gO b (maxI v w) := by cases b <;> rfl
theorem gO_addK1 (b : Bool) (k : IntKind) (v w : DV) : gO b (addK k (gd b v) w) = gO b (addK k v w) := by cases b <;> rfl
theorem gO_addK2 (b : Bool) (k : IntKind) (v w : DV) : gO b (addK k v (gd b w)) = gO b (addK k v w) := by cases b <;> rfl
theorem gO_mulK1 (b : Bool) (k : IntKind) (v w : DV) : gO b (mulK k v (gd b w)) = gO b (mulK k v w) := by cases b <;> rfl
theorem gO_ltK2 (b : Bool) (k : IntKind) (v w : DV) : gO b (ltK k v (gd b w)) = gO b (ltK k v w) := by cases b <;> rfl
theorem gO_leK2 (b : Bool) (k : IntKind) (v w : DV) : gO b (leK k v (gd b w)) = gO b (leK k v w) := by cases b <;> rfl
theorem gO_cvK (b : Bool) (k : IntKind) (v : DV) : gO b (cvK k (gd b v)) = gO b (cvK k v) := by cases b <;> rfl
theorem gO_idx (b : Bool) (sz : Nat) (v w : DV) : gO b (idxSl sz (gd b v) w) = gO b (idxSl sz v w) := by cases b <;> rfl
theorem gO_eqB (b : Bool) (v w : DV) : gO b (eqB (gd b v) (gd b w)) = gO b (eqB v w) := by cases b <;> rfl
theorem gO_pick (b : Bool) (c v w : DV) : gO b (pickD (gd b c) v w) = gO b (pickD c v w) := by cases b <;> rfl
theorem gO_pick2 (b : Bool) (c v w : DV) : gO b (pickD c (gd b v) w) = gO b (pickD c v w) := by cases b <;> rfl
theorem gO_cP1 (b : Bool) (n f : Nat) (t : Bool) (v : DV) : gO b (cP n f t [gd b v]) = gO b (cP n f t [v]) := by cases b <;> rfl
theorem gO_cP1b (b : Bool) (n f : Nat) (t : Bool) (v w : DV) : gO b (cP n f t [gd b v, w]) = gO b (cP n f t [v, w]) := by cases b <;> rfl
theorem gO_cP2 (b : Bool) (n f : Nat) (t : Bool) (v w : DV) : gO b (cP n f t [gd b v, gd b w]) = gO b (cP n f t [v, w]) := by cases b <;> rfl
theorem gO_cP2a (b : Bool) (n f : Nat) (t : Bool) (v w : DV) : gO b (cP n f t [v, gd b w]) = gO b (cP n f t [v, w]) := by cases b <;> rfl
theorem pick_t (b c : Bool) : pickD (.flat (.bool b)) (.flat (.bool true)) (gd (!b) (.flat (.bool c))) = some (.flat (.bool (b || c))) := by cases b <;> rfl
theorem pick_t2 (b c : Bool) : pickD (.flat (.bool (!b))) (.flat (.bool true)) (gd b (.flat (.bool c))) = some (.flat (.bool (!b || c))) := by cases b <;> rfl
theorem pick_f (b c : Bool) : pickD (.flat (.bool b)) (gd b (.flat (.bool c))) (.flat (.bool false)) = some (.flat (.bool (b && c))) := by cases b <;> rfl
theorem pick_f2 (b c d : Bool) : pickD (.flat (.bool b)) (gd b (.flat (.bool c))) (.flat (.bool d)) = some (.flat (.bool (if b then c else d))) := by cases b <;> rfl
theorem gd_t (v : DV) : gd true v = v := rfl
theorem gd_gd (b : Bool) (v : DV) : gd b (gd b v) = gd b v := by cases b <;> rfl
theorem wantF_gt (b c : Bool) (x : Option DV) : wantF (gd b (.flat (.bool c))) true x = gO (b && c) x := by cases b <;> cases c <;> rfl
theorem wantF_gf (b c : Bool) (x : Option DV) : wantF (gd b (.flat (.bool c))) false x = gO (b && !c) x := by cases b <;> cases c <;> rfl
theorem gO_pkf (b c e : Bool) : gO b (pickD (.flat (.bool c)) (gd (b && c) (.flat (.bool e))) (.flat (.bool false))) = gO b (some (.flat (.bool (c && e)))) := by cases b <;> cases c <;> rfl
theorem gO_pkt (b c e : Bool) : gO b (pickD (.flat (.bool c)) (.flat (.bool true)) (gd (b && !c) (.flat (.bool e)))) = gO b (some (.flat (.bool (c || e)))) := by cases b <;> cases c <;> rfl
theorem gO_pktn (b c e : Bool) : gO b (pickD (.flat (.bool (!c))) (.flat (.bool true)) (gd (b && c) (.flat (.bool e)))) = gO b (some (.flat (.bool (!c || e)))) := by cases b <;> cases c <;> rfl
theorem gO_eqK2 (b : Bool) (k : IntKind) (v w : DV) : gO b (eqK k v (gd b w)) = gO b (eqK k v w) := by cases b <;> rfl
theorem gO_neK2 (b : Bool) (k : IntKind) (v w : DV) : gO b (neK k v (gd b w)) = gO b (neK k v w) := by cases b <;> rfl
theorem gO_gtK2 (b : Bool) (k : IntKind) (v w : DV) : gO b (gtK k v (gd b w)) = gO b (gtK k v w) := by cases b <;> rfl
theorem gO_geK2 (b : Bool) (k : IntKind) (v w : DV) : gO b (geK k v (gd b w)) = gO b (geK k v w) := by cases b <;> rfl
theorem gO_subK2 (b : Bool) (k : IntKind) (v w : DV) : gO b (subK k v (gd b w)) = gO b (subK k v w) := by cases b <;> rfl
theorem gO_subK1 (b : Bool) (k : IntKind) (v w : DV) : gO b (subK k (gd b v) w) = gO b (subK k v w) := by cases b <;> rfl
theorem gO_min1 (b : Bool) (v w : DV) : gO b (minI (gd b v) w) = gO b (minI v w) := by cases b <;> rfl
theorem gO_min2 (b : Bool) (v w : DV) : gO b (minI v (gd b w)) = gO b (minI v w) := by cases b <;> rfl
theorem gO_remK1 (b : Bool) (k : IntKind) (v w : DV) : gO b (remK k (gd b v) w) = gO b (remK k v w) := by cases b <;> rfl
theorem gO_cP3 (b : Bool) (n f : Nat) (t : Bool) (v w x : DV) : gO b (cP n f t [gd b v, gd b w, gd b x]) = gO b (cP n f t [v, w, x]) := by cases b <;> rfl
end Go.Proofs.Ytjkofefcoeejbaa

/- Votes: the parts but the median of three. -/
namespace Go.Proofs.Ytjkofefcoeejbaa
open Go
set_option linter.unusedSimpArgs false
set_option linter.unusedVariables false
set_option maxRecDepth 100000
def sumI (l : List Int) : Int := l.foldr (· + ·) 0
/-- the majority of votes -/
def majV (l : List Int) : Int × Bool := if 3 < l.length ∨ (∃ x ∈ l, 2 ≤ x) ∨ 2 * sumI l = l.length then (0, false) else if (l.length : Int) < 2 * sumI l then (1, true) else (0, true)
theorem sumI_cons (a : Int) (l : List Int) : sumI (a :: l) = a + sumI l := rfl
theorem sumI_01 : ∀ (l : List Int), Words l → (¬ ∃ x ∈ l, 2 ≤ x) → 0 ≤ sumI l ∧ sumI l ≤ l.length
  | [], _, _ => ⟨by decide, by decide⟩
  | a :: l, hw, h => by
    have := sumI_01 l (fun x hx => hw x (by simp [hx])) (fun ⟨x, hx, h2⟩ => h ⟨x, by simp [hx], h2⟩)
    have h1 := hw a (by simp)
    have h2 : ¬ 2 ≤ a := fun h2 => h ⟨a, by simp, h2⟩
    rw [sumI_cons]
    simp only [List.length_cons]
    omega
theorem maj_L (n : Nat) (l : List Int) (hw : Words l) (hl : l.length ≤ 100000) : ∀ (m i : Nat) (a b : Int), l.length < m + i → i ≤ l.length → 0 ≤ a → 0 ≤ b → a + b ≤ i →
    ((∃ x ∈ l.drop i, 2 ≤ x) → ∃ H', ∀ K, s_vote_Majority_L0 n 0 K m (LV 1 (I .u16) l .sh) (.ptr 0 0) (LV 1 (I .u16) l .sh) (I .i64 l.length) (I .i64 i) [.cells 117 [I .i64 a, I .i64 b]] = K .ret (s_vote_Majority_O0 (LV 1 (I .u16) l .sh) (I .u16 0) (Bo false) (.ptr 0 0)) H') ∧
    ((¬ ∃ x ∈ l.drop i, 2 ≤ x) → ∀ K, s_vote_Majority_L0 n 0 K m (LV 1 (I .u16) l .sh) (.ptr 0 0) (LV 1 (I .u16) l .sh) (I .i64 l.length) (I .i64 i) [.cells 117 [I .i64 a, I .i64 b]] = K (.exit 0) (s_vote_Majority_O0 (LV 1 (I .u16) l .sh) .any .any (.ptr 0 0)) [.cells 117 [I .i64 (a + ((l.drop i).length - sumI (l.drop i))), I .i64 (b + sumI (l.drop i))]]) := by
  intro m
  induction m with
  | zero => intro i a b h; omega
  | succ m ih =>
    intro i a b hm hi ha hb hab
    by_cases h : i < l.length
    · have hd : l.drop i = l[i] :: l.drop (i + 1) := List.drop_eq_getElem_cons h
      have hv := hw _ (List.getElem_mem h)
      have hi2 : ((i + 1 : Nat) : Int) = (i : Int) + 1 := by omega
      by_cases h2 : 2 ≤ l[i]
      · refine ⟨fun _ => ⟨[.cells 117 [I .i64 a, I .i64 b]], fun K => ?_⟩, fun q => absurd ⟨l[i], by rw [hd]; exact List.mem_cons_self .., h2⟩ q⟩
        unfold s_vote_Majority_L0 s_vote_Majority_B0
        simp -implicitDefEqProofs (disch := first | omega | (simp only [List.length_set, List.length_append, List.length_cons, List.length_nil, List.length_take, List.length_drop, List.length_map]; omega) | simp) [wrap_i64, wrap_u16_id, wrap_u8_id, tdiv_pos, tmod_pos, -getElem?_pos, -getElem?_neg, -List.length_eq_zero_iff, -List.getElem_cons_drop, h, h2]
      · have hx : l[i] = 0 ∨ l[i] = 1 := by omega
        have ex : (∃ x ∈ l.drop i, 2 ≤ x) ↔ ∃ x ∈ l.drop (i + 1), 2 ≤ x := by
          rw [hd]
          constructor
          · rintro ⟨x, hx, h3⟩
            rcases List.mem_cons.1 hx with rfl | hx
            · exact absurd h3 h2
            · exact ⟨x, hx, h3⟩
          · rintro ⟨x, hx, h3⟩
            exact ⟨x, List.mem_cons.2 (.inr hx), h3⟩
        rw [ex]
        have ar := fun (v : Int) (hv : v = 0 ∨ v = 1) => show idxArr 2 1 (.ptr 0 0) (I .u16 v) = some (.ptr 0 v.toNat) by rcases hv with rfl | rfl <;> rfl
        have ar' := ar l[i] hx
        rcases hx with hx | hx
        · obtain ⟨i1, i2⟩ := ih (i + 1) (a + 1) b (by omega) (by omega) (by omega) (by omega) (by omega)
          rw [hi2] at i1 i2
          rw [hx] at ar'
          have st : ∀ K, s_vote_Majority_L0 n 0 K (m + 1) (LV 1 (I .u16) l .sh) (.ptr 0 0) (LV 1 (I .u16) l .sh) (I .i64 l.length) (I .i64 i) [.cells 117 [I .i64 a, I .i64 b]] = s_vote_Majority_L0 n 0 K m (LV 1 (I .u16) l .sh) (.ptr 0 0) (LV 1 (I .u16) l .sh) (I .i64 l.length) (I .i64 (i + 1)) [.cells 117 [I .i64 (a + 1), I .i64 b]] := by
            intro K
            rw [s_vote_Majority_L0, s_vote_Majority_B0]
            simp -implicitDefEqProofs (disch := first | omega | (simp only [List.length_set, List.length_append, List.length_cons, List.length_nil, List.length_take, List.length_drop, List.length_map]; omega) | simp) [wrap_i64, wrap_u16_id, wrap_u8_id, tdiv_pos, tmod_pos, -getElem?_pos, -getElem?_neg, -List.length_eq_zero_iff, -List.getElem_cons_drop, h, hx, ar']
          refine ⟨fun q => ?_, fun q K => ?_⟩
          · obtain ⟨H', e⟩ := i1 q
            exact ⟨H', fun K => (st K).trans (e K)⟩
          · rw [st K, i2 q K, hd, sumI_cons, hx]
            simp only [List.length_cons]
            congr 5
            · rw [show a + 1 + (((l.drop (i + 1)).length : Int) - sumI (l.drop (i + 1))) = a + (((l.drop (i + 1)).length + 1 : Nat) - (0 + sumI (l.drop (i + 1)))) by omega]
            · simp
        · obtain ⟨i1, i2⟩ := ih (i + 1) a (b + 1) (by omega) (by omega) (by omega) (by omega) (by omega)
          rw [hi2] at i1 i2
          rw [hx] at ar'
          have st : ∀ K, s_vote_Majority_L0 n 0 K (m + 1) (LV 1 (I .u16) l .sh) (.ptr 0 0) (LV 1 (I .u16) l .sh) (I .i64 l.length) (I .i64 i) [.cells 117 [I .i64 a, I .i64 b]] = s_vote_Majority_L0 n 0 K m (LV 1 (I .u16) l .sh) (.ptr 0 0) (LV 1 (I .u16) l .sh) (I .i64 l.length) (I .i64 (i + 1)) [.cells 117 [I .i64 a, I .i64 (b + 1)]] := by
            intro K
            rw [s_vote_Majority_L0, s_vote_Majority_B0]
            simp -implicitDefEqProofs (disch := first | omega | (simp only [List.length_set, List.length_append, List.length_cons, List.length_nil, List.length_take, List.length_drop, List.length_map]; omega) | simp) [wrap_i64, wrap_u16_id, wrap_u8_id, tdiv_pos, tmod_pos, -getElem?_pos, -getElem?_neg, -List.length_eq_zero_iff, -List.getElem_cons_drop, h, hx, ar']
          refine ⟨fun q => ?_, fun q K => ?_⟩
          · obtain ⟨H', e⟩ := i1 q
            exact ⟨H', fun K => (st K).trans (e K)⟩
          · rw [st K, i2 q K, hd, sumI_cons, hx]
            simp only [List.length_cons]
            congr 5
            · rw [show a + (((l.drop (i + 1)).length : Int) - sumI (l.drop (i + 1))) = a + (((l.drop (i + 1)).length + 1 : Nat) - (1 + sumI (l.drop (i + 1)))) by omega]
            · rw [show b + 1 + sumI (l.drop (i + 1)) = b + (1 + sumI (l.drop (i + 1))) by omega]
    · have : i = l.length := by omega
      subst this
      rw [List.drop_length]
      refine ⟨fun ⟨x, hx, _⟩ => by simp at hx, fun q K => ?_⟩
      rw [s_vote_Majority_L0, s_vote_Majority_B0]
      simp -implicitDefEqProofs (disch := first | omega | (simp only [List.length_set, List.length_append, List.length_cons, List.length_nil, List.length_take, List.length_drop, List.length_map]; omega) | simp) [wrap_i64, wrap_u16_id, wrap_u8_id, tdiv_pos, tmod_pos, -getElem?_pos, -getElem?_neg, -List.length_eq_zero_iff, -List.getElem_cons_drop, sumI]
theorem Majority_c (n : Nat) (l : List Int) (hw : Words l) (t : Tag) (hl : l.length ≤ 1000) (hn : 1010 ≤ n) : cP n 39 false [LV 1 (I .u16) l t] = some (.tup [I .u16 (majV l).1, Bo (majV l).2]) := by
  obtain ⟨n, rfl⟩ : ∃ m, n = m + 1 := ⟨n - 1, by omega⟩
  obtain ⟨i1, i2⟩ := maj_L n l hw (by omega) n 0 0 0 (by omega) (by omega) (by omega) (by omega) (by omega)
  simp only [List.drop_zero, Int.natCast_zero] at i1 i2
  have lq : ∀ K H, loopG [0, 4, 7, 8, 9] [0, 2, 3, 4] 38 (s_vote_Majority_b0 n 0) n (s_vote_Majority_I0 (LV 1 (I .u16) l .sh) (.ptr 0 0) (LV 1 (I .u16) l .sh) (I .i64 l.length) (I .i64 0)) H K = _ := fun K H => s_vote_Majority_L0_eq _ _ _ _ _ _ _ _ _ _
  have fin : ∀ v B, (∃ H', s_vote_Majority n [] 0 (LV 1 (I .u16) l .sh) = some (.tup [I .u16 v, Bo B], H')) → majV l = (v, B) → cP (n + 1) 39 false [LV 1 (I .u16) l t] = some (.tup [I .u16 (majV l).1, Bo (majV l).2]) := by
    rintro v B ⟨H', h1⟩ h2
    rw [h2]
    exact cP_of (args' := [LV 1 (I .u16) l .sh]) (by simp [argEl_eq]) ((s_vote_Majority_eq _ _ _ _).trans h1) (by simp)
  by_cases h : ∃ x ∈ l, 2 ≤ x
  · obtain ⟨H', e⟩ := i1 h
    exact fin 0 false ⟨_, by unfold s_vote_Majority; simp -implicitDefEqProofs (disch := first | omega | (simp only [List.length_set, List.length_append, List.length_cons, List.length_nil, List.length_take, List.length_drop, List.length_map]; omega) | simp) [wrap_i64, wrap_u16_id, wrap_u8_id, tdiv_pos, tmod_pos, -getElem?_pos, -getElem?_neg, -List.length_eq_zero_iff, -List.getElem_cons_drop, lq, e, s_vote_Majority_O0]; first | rfl | exact ⟨rfl, rfl⟩⟩ (by unfold majV; rw [if_pos (.inr (.inl h))])
  · have e := i2 h
    have hs := sumI_01 l hw h
    simp only [Int.zero_add] at e
    generalize hsu : sumI l = s at *
    by_cases h3 : 3 < l.length
    · have h3' : (3 : Int) < l.length := by omega
      exact fin 0 false ⟨_, by unfold s_vote_Majority; simp -implicitDefEqProofs (disch := first | omega | (simp only [List.length_set, List.length_append, List.length_cons, List.length_nil, List.length_take, List.length_drop, List.length_map]; omega) | simp) [wrap_i64, wrap_u16_id, wrap_u8_id, tdiv_pos, tmod_pos, -getElem?_pos, -getElem?_neg, -List.length_eq_zero_iff, -List.getElem_cons_drop, lq, e, s_vote_Majority_O0, h3']; first | rfl | exact ⟨rfl, rfl⟩⟩ (by unfold majV; rw [if_pos (.inl h3)])
    · have h3' : ¬ (3 : Int) < l.length := by omega
      have j0 : idxArr 2 1 (.ptr 0 0) (I .i64 0) = some (.ptr 0 0) := rfl
      have j1 : idxArr 2 1 (.ptr 0 0) (I .i64 1) = some (.ptr 0 1) := rfl
      by_cases h4 : (l.length : Int) - s = s
      · exact fin 0 false ⟨_, by unfold s_vote_Majority; simp -implicitDefEqProofs (disch := first | omega | (simp only [List.length_set, List.length_append, List.length_cons, List.length_nil, List.length_take, List.length_drop, List.length_map]; omega) | simp) [wrap_i64, wrap_u16_id, wrap_u8_id, tdiv_pos, tmod_pos, -getElem?_pos, -getElem?_neg, -List.length_eq_zero_iff, -List.getElem_cons_drop, lq, e, s_vote_Majority_O0, h3', j0, j1, h4]; first | rfl | exact ⟨rfl, rfl⟩⟩ (by unfold majV; rw [if_pos (.inr (.inr (by omega)))])
      · have hm : majV l = if (l.length : Int) < 2 * s then (1, true) else (0, true) := by
          unfold majV
          rw [if_neg, hsu]
          rintro (k | k | k)
          · exact h3 k
          · exact h k
          · omega
        by_cases h5 : (l.length : Int) - s < s
        · exact fin 1 true ⟨_, by unfold s_vote_Majority; simp -implicitDefEqProofs (disch := first | omega | (simp only [List.length_set, List.length_append, List.length_cons, List.length_nil, List.length_take, List.length_drop, List.length_map]; omega) | simp) [wrap_i64, wrap_u16_id, wrap_u8_id, tdiv_pos, tmod_pos, -getElem?_pos, -getElem?_neg, -List.length_eq_zero_iff, -List.getElem_cons_drop, lq, e, s_vote_Majority_O0, h3', j0, j1, h4, h5]; first | rfl | exact ⟨rfl, rfl⟩⟩ (by rw [hm, if_pos (by omega)])
        · exact fin 0 true ⟨_, by unfold s_vote_Majority; simp -implicitDefEqProofs (disch := first | omega | (simp only [List.length_set, List.length_append, List.length_cons, List.length_nil, List.length_take, List.length_drop, List.length_map]; omega) | simp) [wrap_i64, wrap_u16_id, wrap_u8_id, tdiv_pos, tmod_pos, -getElem?_pos, -getElem?_neg, -List.length_eq_zero_iff, -List.getElem_cons_drop, lq, e, s_vote_Majority_O0, h3', j0, j1, h4, h5]; first | rfl | exact ⟨rfl, rfl⟩⟩ (by rw [hm, if_neg (by omega)])
def apartV (band a b : Int) : Bool := decide (band < max a b - min a b)
theorem Apart_c (n : Nat) (hn : 1 ≤ n) (p : Pt) (a b : Int) (ha : 0 ≤ a ∧ a < 65536) (hb : 0 ≤ b ∧ b < 65536) : cP n 43 false [ptE p, I .u16 a, I .u16 b] = some (Bo (apartV p.band a b)) := by
  obtain ⟨n, rfl⟩ : ∃ m, n = m + 1 := ⟨n - 1, by omega⟩
  have e1 : IntKind.wrap .u16 (max a b - min a b) = max a b - min a b := wrap_u16_id _ (by omega) (by omega)
  have e2 : IntKind.wrap .i64 (max a b - min a b) = max a b - min a b := wrap_i64 _ (by omega) (by omega)
  exact cP_of (r := Bo (apartV p.band a b)) (args' := [ptE p, I .u16 a, I .u16 b]) (by simp [argEl_eq, ptE]) ((s_vote_Apart_eq _ _ _ _ _ _).trans (by unfold s_vote_Apart ptE; simp -implicitDefEqProofs (disch := first | omega | (simp only [List.length_set, List.length_append, List.length_cons, List.length_nil, List.length_take, List.length_drop, List.length_map]; omega) | simp) [wrap_i64, wrap_u16_id, wrap_u8_id, tdiv_pos, tmod_pos, -getElem?_pos, -getElem?_neg, -List.length_eq_zero_iff, -List.getElem_cons_drop, e1, e2]; first | exact rfl | exact ⟨rfl, rfl⟩)) (by simp)
theorem neg_i64 (x : Int) : unD Try.prog .neg (I .i64 x) = some (I .i64 (IntKind.wrap .i64 (0 - x))) := by
  first | rfl | kernel_rfl
theorem ref12_Apart_c (n : Nat) (hn : 1 ≤ n) (p : Pt) (a b : Int) (ha : 0 ≤ a ∧ a < 65536) (hb : 0 ≤ b ∧ b < 65536) : cP n 44 false [ptE p, I .u16 a, I .u16 b] = some (Bo (apartV p.band a b)) := by
  obtain ⟨n, rfl⟩ : ∃ m, n = m + 1 := ⟨n - 1, by omega⟩
  by_cases h : a - b < 0
  · have e1 := neg_i64 (a - b)
    have e2 : max a b - min a b = -(a - b) := by omega
    have e3 : IntKind.wrap .i64 (0 - (a - b)) = -(a - b) := (wrap_i64 _ (by omega) (by omega)).trans (by omega)
    rw [e3] at e1
    unfold apartV
    rw [e2]
    exact cP_of (r := Bo (decide (p.band < -(a - b)))) (args' := [ptE p, I .u16 a, I .u16 b]) (by simp [argEl_eq, ptE]) ((s_triuneref12_Apart_eq _ _ _ _ _ _).trans (by unfold s_triuneref12_Apart ptE; simp -implicitDefEqProofs (disch := first | omega | (simp only [List.length_set, List.length_append, List.length_cons, List.length_nil, List.length_take, List.length_drop, List.length_map]; omega) | simp) [wrap_i64, wrap_u16_id, wrap_u8_id, tdiv_pos, tmod_pos, -getElem?_pos, -getElem?_neg, -List.length_eq_zero_iff, -List.getElem_cons_drop, e1, h]; first | exact rfl | exact ⟨rfl, rfl⟩)) (by simp)
  · have e2 : max a b - min a b = a - b := by omega
    unfold apartV
    rw [e2]
    exact cP_of (r := Bo (decide (p.band < a - b))) (args' := [ptE p, I .u16 a, I .u16 b]) (by simp [argEl_eq, ptE]) ((s_triuneref12_Apart_eq _ _ _ _ _ _).trans (by unfold s_triuneref12_Apart ptE; simp -implicitDefEqProofs (disch := first | omega | (simp only [List.length_set, List.length_append, List.length_cons, List.length_nil, List.length_take, List.length_drop, List.length_map]; omega) | simp) [wrap_i64, wrap_u16_id, wrap_u8_id, tdiv_pos, tmod_pos, -getElem?_pos, -getElem?_neg, -List.length_eq_zero_iff, -List.getElem_cons_drop, h]; first | exact rfl | exact ⟨rfl, rfl⟩)) (by simp)
/-- the document's majority: its loop looks at four -/
theorem rmaj_L (n fl : Nat) (l : List Int) (hw : Words l) (H : Heap) (hl : l.length ≤ 100000) : ∀ (m i : Nat) (s : Int), 4 < m + i → i ≤ l.length → i ≤ 4 → 0 ≤ s → s ≤ i →
    ((∃ x ∈ (l.take 4).drop i, 2 ≤ x) → ∃ s', ∀ K, s_triuneref12_Majority_L0 n fl K m (LV 1 (I .u16) l .sh) (I .i64 s) (I .i64 i) H = K .ret (s_triuneref12_Majority_O0 (LV 1 (I .u16) l .sh) (I .u16 0) (Bo false) s') H) ∧
    ((¬ ∃ x ∈ (l.take 4).drop i, 2 ≤ x) → ∀ K, s_triuneref12_Majority_L0 n fl K m (LV 1 (I .u16) l .sh) (I .i64 s) (I .i64 i) H = K (.exit 0) (s_triuneref12_Majority_O0 (LV 1 (I .u16) l .sh) .any .any (I .i64 (s + sumI ((l.take 4).drop i)))) H) := by
  intro m
  induction m with
  | zero => intro i a h; omega
  | succ m ih =>
    intro i s hm hi hi4 hs0 hs1
    by_cases h : i < l.length
    · by_cases h4 : i < 4
      · have hlt : i < (l.take 4).length := by simp; omega
        have hd : (l.take 4).drop i = l[i] :: (l.take 4).drop (i + 1) := by rw [List.drop_eq_getElem_cons hlt, List.getElem_take]
        have hv := hw _ (List.getElem_mem h)
        have hi2 : ((i + 1 : Nat) : Int) = (i : Int) + 1 := by omega
        have h4' : (i : Int) < 4 := by omega
        by_cases h2 : 1 < l[i]
        · refine ⟨fun _ => ⟨I .i64 s, fun K => ?_⟩, fun q => absurd ⟨l[i], by rw [hd]; exact List.mem_cons_self .., by omega⟩ q⟩
          rw [s_triuneref12_Majority_L0, s_triuneref12_Majority_B0]
          simp -implicitDefEqProofs (disch := first | omega | (simp only [List.length_set, List.length_append, List.length_cons, List.length_nil, List.length_take, List.length_drop, List.length_map]; omega) | simp) [wrap_i64, wrap_u16_id, wrap_u8_id, tdiv_pos, tmod_pos, -getElem?_pos, -getElem?_neg, -List.length_eq_zero_iff, -List.getElem_cons_drop, h, h4', h2]
        · obtain ⟨i1, i2⟩ := ih (i + 1) (s + l[i]) (by omega) (by omega) (by omega) (by omega) (by omega)
          rw [hi2] at i1 i2
          have ex : (∃ x ∈ (l.take 4).drop i, 2 ≤ x) ↔ ∃ x ∈ (l.take 4).drop (i + 1), 2 ≤ x := by
            rw [hd]
            constructor
            · rintro ⟨x, hx, h3⟩
              rcases List.mem_cons.1 hx with rfl | hx
              · omega
              · exact ⟨x, hx, h3⟩
            · rintro ⟨x, hx, h3⟩
              exact ⟨x, List.mem_cons.2 (.inr hx), h3⟩
          rw [ex]
          have st : ∀ K, s_triuneref12_Majority_L0 n fl K (m + 1) (LV 1 (I .u16) l .sh) (I .i64 s) (I .i64 i) H = s_triuneref12_Majority_L0 n fl K m (LV 1 (I .u16) l .sh) (I .i64 (s + l[i])) (I .i64 (i + 1)) H := by
            intro K
            rw [s_triuneref12_Majority_L0, s_triuneref12_Majority_B0]
            simp -implicitDefEqProofs (disch := first | omega | (simp only [List.length_set, List.length_append, List.length_cons, List.length_nil, List.length_take, List.length_drop, List.length_map]; omega) | simp) [wrap_i64, wrap_u16_id, wrap_u8_id, tdiv_pos, tmod_pos, -getElem?_pos, -getElem?_neg, -List.length_eq_zero_iff, -List.getElem_cons_drop, h, h4', h2]
          refine ⟨fun q => ?_, fun q K => ?_⟩
          · obtain ⟨s', e⟩ := i1 q
            exact ⟨s', fun K => (st K).trans (e K)⟩
          · rw [st K, i2 q K, hd, sumI_cons, show s + (l[i] + sumI ((l.take 4).drop (i + 1))) = s + l[i] + sumI ((l.take 4).drop (i + 1)) by omega]
      · have : i = 4 := by omega
        subst this
        have hd : (l.take 4).drop 4 = [] := List.drop_eq_nil_of_le (by simp; omega)
        rw [hd]
        refine ⟨fun ⟨x, hx, _⟩ => by simp at hx, fun q K => ?_⟩
        rw [s_triuneref12_Majority_L0, s_triuneref12_Majority_B0]
        simp -implicitDefEqProofs (disch := first | omega | (simp only [List.length_set, List.length_append, List.length_cons, List.length_nil, List.length_take, List.length_drop, List.length_map]; omega) | simp) [wrap_i64, wrap_u16_id, wrap_u8_id, tdiv_pos, tmod_pos, -getElem?_pos, -getElem?_neg, -List.length_eq_zero_iff, -List.getElem_cons_drop, h, sumI]
    · have : i = l.length := by omega
      subst this
      have hd : (l.take 4).drop l.length = [] := List.drop_eq_nil_of_le (by simp; omega)
      rw [hd]
      refine ⟨fun ⟨x, hx, _⟩ => by simp at hx, fun q K => ?_⟩
      rw [s_triuneref12_Majority_L0, s_triuneref12_Majority_B0]
      simp -implicitDefEqProofs (disch := first | omega | (simp only [List.length_set, List.length_append, List.length_cons, List.length_nil, List.length_take, List.length_drop, List.length_map]; omega) | simp) [wrap_i64, wrap_u16_id, wrap_u8_id, tdiv_pos, tmod_pos, -getElem?_pos, -getElem?_neg, -List.length_eq_zero_iff, -List.getElem_cons_drop, sumI]
theorem ref12_Majority_c (n : Nat) (l : List Int) (hw : Words l) (t : Tag) (hl : l.length ≤ 1000) (hn : 1010 ≤ n) : cP n 40 false [LV 1 (I .u16) l t] = some (.tup [I .u16 (majV l).1, Bo (majV l).2]) := by
  obtain ⟨n, rfl⟩ : ∃ m, n = m + 1 := ⟨n - 1, by omega⟩
  obtain ⟨i1, i2⟩ := rmaj_L n 0 l hw [] (by omega) n 0 0 (by omega) (by omega) (by omega) (by omega) (by omega)
  simp only [List.drop_zero, Int.natCast_zero] at i1 i2
  have lq : ∀ K H, loopG [0, 4, 5] [0, 2, 3, 4] 48 (s_triuneref12_Majority_b0 n 0) n (s_triuneref12_Majority_I0 (LV 1 (I .u16) l .sh) (I .i64 0) (I .i64 0)) H K = _ := fun K H => s_triuneref12_Majority_L0_eq _ _ _ _ _ _ _ _
  have fin : ∀ v B, (∃ H', s_triuneref12_Majority n [] 0 (LV 1 (I .u16) l .sh) = some (.tup [I .u16 v, Bo B], H')) → majV l = (v, B) → cP (n + 1) 40 false [LV 1 (I .u16) l t] = some (.tup [I .u16 (majV l).1, Bo (majV l).2]) := by
    rintro v B ⟨H', h1⟩ h2
    rw [h2]
    exact cP_of (args' := [LV 1 (I .u16) l .sh]) (by simp [argEl_eq]) ((s_triuneref12_Majority_eq _ _ _ _).trans h1) (by simp)
  by_cases h : ∃ x ∈ l.take 4, 2 ≤ x
  · obtain ⟨s', e⟩ := i1 h
    have h' : ∃ x ∈ l, 2 ≤ x := by
      obtain ⟨x, hx, h2⟩ := h
      exact ⟨x, List.mem_of_mem_take hx, h2⟩
    exact fin 0 false ⟨_, by unfold s_triuneref12_Majority; simp -implicitDefEqProofs (disch := first | omega | (simp only [List.length_set, List.length_append, List.length_cons, List.length_nil, List.length_take, List.length_drop, List.length_map]; omega) | simp) [wrap_i64, wrap_u16_id, wrap_u8_id, tdiv_pos, tmod_pos, -getElem?_pos, -getElem?_neg, -List.length_eq_zero_iff, -List.getElem_cons_drop, lq, e, s_triuneref12_Majority_O0]; first | rfl | exact ⟨rfl, rfl⟩⟩ (by unfold majV; rw [if_pos (.inr (.inl h'))])
  · have e := i2 h
    simp only [Int.zero_add] at e
    have hs := sumI_01 (l.take 4) (fun x hx => hw x (List.mem_of_mem_take hx)) h
    have hsl : (l.take 4).length ≤ 4 := by simp; omega
    by_cases h3 : 3 < l.length
    · have h3' : (3 : Int) < l.length := by omega
      generalize sumI (l.take 4) = s at *
      exact fin 0 false ⟨_, by unfold s_triuneref12_Majority; simp -implicitDefEqProofs (disch := first | omega | (simp only [List.length_set, List.length_append, List.length_cons, List.length_nil, List.length_take, List.length_drop, List.length_map]; omega) | simp) [wrap_i64, wrap_u16_id, wrap_u8_id, tdiv_pos, tmod_pos, -getElem?_pos, -getElem?_neg, -List.length_eq_zero_iff, -List.getElem_cons_drop, lq, e, s_triuneref12_Majority_O0, h3']; first | rfl | exact ⟨rfl, rfl⟩⟩ (by unfold majV; rw [if_pos (.inl h3)])
    · have h3' : ¬ (3 : Int) < l.length := by omega
      rw [List.take_of_length_le (by omega)] at e h hs
      generalize hsu : sumI l = s at *
      by_cases h0 : l.length = 0
      · have h0' : (l.length : Int) < 1 := by omega
        exact fin 0 false ⟨_, by unfold s_triuneref12_Majority; simp -implicitDefEqProofs (disch := first | omega | (simp only [List.length_set, List.length_append, List.length_cons, List.length_nil, List.length_take, List.length_drop, List.length_map]; omega) | simp) [wrap_i64, wrap_u16_id, wrap_u8_id, tdiv_pos, tmod_pos, -getElem?_pos, -getElem?_neg, -List.length_eq_zero_iff, -List.getElem_cons_drop, lq, e, s_triuneref12_Majority_O0, h0']; first | rfl | exact ⟨rfl, rfl⟩⟩ (by unfold majV; rw [if_pos (.inr (.inr (by rw [hsu]; omega)))])
      · have h0' : ¬ (l.length : Int) < 1 := by omega
        by_cases h4 : 2 * s = l.length
        · exact fin 0 false ⟨_, by unfold s_triuneref12_Majority; simp -implicitDefEqProofs (disch := first | omega | (simp only [List.length_set, List.length_append, List.length_cons, List.length_nil, List.length_take, List.length_drop, List.length_map]; omega) | simp) [wrap_i64, wrap_u16_id, wrap_u8_id, tdiv_pos, tmod_pos, -getElem?_pos, -getElem?_neg, -List.length_eq_zero_iff, -List.getElem_cons_drop, lq, e, s_triuneref12_Majority_O0, h0', h3', h4]; first | rfl | exact ⟨rfl, rfl⟩⟩ (by unfold majV; rw [if_pos (.inr (.inr (by rw [hsu]; omega)))])
        · have hm : majV l = if (l.length : Int) < 2 * s then (1, true) else (0, true) := by
            unfold majV
            rw [if_neg, hsu]
            rintro (k | k | k)
            · exact h3 k
            · exact h k
            · omega
          by_cases h5 : (l.length : Int) < 2 * s
          · exact fin 1 true ⟨_, by unfold s_triuneref12_Majority; simp -implicitDefEqProofs (disch := first | omega | (simp only [List.length_set, List.length_append, List.length_cons, List.length_nil, List.length_take, List.length_drop, List.length_map]; omega) | simp) [wrap_i64, wrap_u16_id, wrap_u8_id, tdiv_pos, tmod_pos, -getElem?_pos, -getElem?_neg, -List.length_eq_zero_iff, -List.getElem_cons_drop, lq, e, s_triuneref12_Majority_O0, h0', h3', h4, h5]; first | rfl | exact ⟨rfl, rfl⟩⟩ (by rw [hm, if_pos h5])
          · exact fin 0 true ⟨_, by unfold s_triuneref12_Majority; simp -implicitDefEqProofs (disch := first | omega | (simp only [List.length_set, List.length_append, List.length_cons, List.length_nil, List.length_take, List.length_drop, List.length_map]; omega) | simp) [wrap_i64, wrap_u16_id, wrap_u8_id, tdiv_pos, tmod_pos, -getElem?_pos, -getElem?_neg, -List.length_eq_zero_iff, -List.getElem_cons_drop, lq, e, s_triuneref12_Majority_O0, h0', h3', h4, h5]; first | rfl | exact ⟨rfl, rfl⟩⟩ (by rw [hm, if_neg h5])
end Go.Proofs.Ytjkofefcoeejbaa

/- The document's median. -/
namespace Go.Proofs.Ytjkofefcoeejbaa
open Go
set_option linter.unusedSimpArgs false
set_option linter.unusedVariables false
set_option maxRecDepth 100000
def medV : List Int → Int × Bool
  | [a] => (a, true)
  | [a, b] => ((a + b) / 2, true)
  | [a, b, c] => (max (min a b) (min (max a b) c), true)
  | _ => (0, false)
theorem medV_other (l : List Int) (h1 : l.length ≠ 1) (h2 : l.length ≠ 2) (h3 : l.length ≠ 3) : medV l = (0, false) := by
  match l, h1, h2, h3 with
  | [], _, _, _ => rfl
  | [a], h1, _, _ => exact absurd rfl h1
  | [a, b], _, h2, _ => exact absurd rfl h2
  | [a, b, c], _, _, h3 => exact absurd rfl h3
  | _ :: _ :: _ :: _ :: _, _, _, _ => rfl
def oneI (p : Prop) [Decidable p] : Int := if p then 1 else 0
theorem oneI_le (p : Prop) [Decidable p] : 0 ≤ oneI p ∧ oneI p ≤ 1 := by unfold oneI; split <;> omega
theorem rmed_step (n fl : Nat) (H : Heap) (l : List Int) (hl : l.length = 3) (K : Ex → KF) (m i k : Nat) (lo hi : Int) (hi3 : i < l.length) (hk : k < l.length) (b1 : 0 ≤ lo ∧ lo ≤ 100) (b2 : 0 ≤ hi ∧ hi ≤ 100) :
    s_triuneref12_Median_L1 n fl K (m + 1) (LV 1 (I .u16) l .sh) (I .i64 i) (I .i64 lo) (I .i64 hi) (I .i64 k) H = s_triuneref12_Median_L1 n fl K m (LV 1 (I .u16) l .sh) (I .i64 i) (I .i64 (lo + oneI (l[k] < l[i]))) (I .i64 (hi + oneI (l[i] < l[k]))) (I .i64 (k + 1)) H := by
  have hk3 : (k : Int) < 3 := by omega
  rw [s_triuneref12_Median_L1, s_triuneref12_Median_B1]
  by_cases h1 : l[k] < l[i]
  · have h2 : ¬ l[i] < l[k] := by omega
    have e1 : oneI (l[k] < l[i]) = 1 := if_pos h1
    have e2 : oneI (l[i] < l[k]) = 0 := if_neg h2
    rw [e1, e2, Int.add_zero]
    simp -implicitDefEqProofs (disch := first | omega | (simp only [List.length_set, List.length_append, List.length_cons, List.length_nil, List.length_take, List.length_drop, List.length_map]; omega) | simp) [wrap_i64, wrap_u16_id, wrap_u8_id, tdiv_pos, tmod_pos, -getElem?_pos, -getElem?_neg, -List.length_eq_zero_iff, -List.getElem_cons_drop, hk3, hk, hi3, h1, h2]
  · have e1 : oneI (l[k] < l[i]) = 0 := if_neg h1
    rw [e1, Int.add_zero]
    by_cases h2 : l[i] < l[k]
    · have e2 : oneI (l[i] < l[k]) = 1 := if_pos h2
      rw [e2]
      simp -implicitDefEqProofs (disch := first | omega | (simp only [List.length_set, List.length_append, List.length_cons, List.length_nil, List.length_take, List.length_drop, List.length_map]; omega) | simp) [wrap_i64, wrap_u16_id, wrap_u8_id, tdiv_pos, tmod_pos, -getElem?_pos, -getElem?_neg, -List.length_eq_zero_iff, -List.getElem_cons_drop, hk3, hk, hi3, h1, h2]
    · have e2 : oneI (l[i] < l[k]) = 0 := if_neg h2
      rw [e2, Int.add_zero]
      simp -implicitDefEqProofs (disch := first | omega | (simp only [List.length_set, List.length_append, List.length_cons, List.length_nil, List.length_take, List.length_drop, List.length_map]; omega) | simp) [wrap_i64, wrap_u16_id, wrap_u8_id, tdiv_pos, tmod_pos, -getElem?_pos, -getElem?_neg, -List.length_eq_zero_iff, -List.getElem_cons_drop, hk3, hk, hi3, h1, h2]
theorem rmed_L1 (n fl : Nat) (H : Heap) (l : List Int) (hl : l.length = 3) (K : Ex → KF) (m i : Nat) (hi3 : i < l.length) :
    s_triuneref12_Median_L1 n fl K (m + 4) (LV 1 (I .u16) l .sh) (I .i64 i) (I .i64 0) (I .i64 0) (I .i64 0) H = K (.exit 2) (s_triuneref12_Median_O1 (LV 1 (I .u16) l .sh) (I .i64 i) (I .i64 (oneI (l[0] < l[i]) + oneI (l[1] < l[i]) + oneI (l[2] < l[i]))) (I .i64 (oneI (l[i] < l[0]) + oneI (l[i] < l[1]) + oneI (l[i] < l[2])))) H := by
  have o1 := oneI_le (l[0] < l[i])
  have o2 := oneI_le (l[1] < l[i])
  have o3 := oneI_le (l[i] < l[0])
  have o4 := oneI_le (l[i] < l[1])
  have s0 := rmed_step n fl H l hl K (m + 3) i 0 0 0 hi3 (by omega) (by omega) (by omega)
  have s1 := rmed_step n fl H l hl K (m + 2) i 1 (oneI (l[0] < l[i])) (oneI (l[i] < l[0])) hi3 (by omega) (by omega) (by omega)
  have s2 := rmed_step n fl H l hl K (m + 1) i 2 (oneI (l[0] < l[i]) + oneI (l[1] < l[i])) (oneI (l[i] < l[0]) + oneI (l[i] < l[1])) hi3 (by omega) (by omega) (by omega)
  simp only [Int.zero_add, Int.natCast_zero] at s0
  refine Eq.trans s0 (Eq.trans s1 (Eq.trans s2 ?_))
  rw [s_triuneref12_Median_L1, s_triuneref12_Median_B1]
  simp -implicitDefEqProofs (disch := first | omega | (simp only [List.length_set, List.length_append, List.length_cons, List.length_nil, List.length_take, List.length_drop, List.length_map]; omega) | simp) [wrap_i64, wrap_u16_id, wrap_u8_id, tdiv_pos, tmod_pos, -getElem?_pos, -getElem?_neg, -List.length_eq_zero_iff, -List.getElem_cons_drop]
def loI (l : List Int) (i : Nat) : Int := oneI (l.getD 0 0 < l.getD i 0) + oneI (l.getD 1 0 < l.getD i 0) + oneI (l.getD 2 0 < l.getD i 0)
def hiI (l : List Int) (i : Nat) : Int := oneI (l.getD i 0 < l.getD 0 0) + oneI (l.getD i 0 < l.getD 1 0) + oneI (l.getD i 0 < l.getD 2 0)
theorem rmed_round (n : Nat) (hn : 10 ≤ n) (fl : Nat) (H : Heap) (l : List Int) (hl : l.length = 3) (K : Ex → KF) (m i : Nat) (hi3 : i < l.length) :
    s_triuneref12_Median_L0 n fl K (m + 1) (LV 1 (I .u16) l .sh) (I .i64 i) H = if loI l i ≤ 1 ∧ hiI l i ≤ 1 then K .ret (s_triuneref12_Median_O0 (I .u16 l[i]) (Bo true)) H else s_triuneref12_Median_L0 n fl K m (LV 1 (I .u16) l .sh) (I .i64 (i + 1)) H := by
  obtain ⟨n', rfl⟩ : ∃ n', n = n' + 4 := ⟨n - 4, by omega⟩
  have hk3 : (i : Int) < 3 := by omega
  have q : ∀ K, loopG [0, 4, 5, 6, 7] [0, 4, 5, 6] 71 (s_triuneref12_Median_b1 (n' + 4) fl) (n' + 4) (s_triuneref12_Median_I1 (LV 1 (I .u16) l .sh) (I .i64 i) (I .i64 0) (I .i64 0) (I .i64 0)) H K = _ := fun K => (s_triuneref12_Median_L1_eq _ _ _ _ _ _ _ _ _ _).trans (rmed_L1 (n' + 4) fl H l hl K n' i hi3)
  have g0 : l.getD 0 0 = l[0] := by simp [hl]
  have g1 : l.getD 1 0 = l[1] := by simp [hl]
  have g2 : l.getD 2 0 = l[2] := by simp [hl]
  have gi : l.getD i 0 = l[i] := by simp [hi3]
  have e1 : loI l i = oneI (l[0] < l[i]) + oneI (l[1] < l[i]) + oneI (l[2] < l[i]) := by unfold loI; simp only [g0, g1, g2, gi]
  have e2 : hiI l i = oneI (l[i] < l[0]) + oneI (l[i] < l[1]) + oneI (l[i] < l[2]) := by unfold hiI; simp only [g0, g1, g2, gi]
  rw [← e1, ← e2] at q
  rw [s_triuneref12_Median_L0, s_triuneref12_Median_B0]
  generalize loI l i = lo at *
  generalize hiI l i = hi at *
  by_cases h1 : lo ≤ 1
  · by_cases h2 : hi ≤ 1
    · rw [if_pos ⟨h1, h2⟩]
      simp -implicitDefEqProofs (disch := first | omega | (simp only [List.length_set, List.length_append, List.length_cons, List.length_nil, List.length_take, List.length_drop, List.length_map]; omega) | simp) [wrap_i64, wrap_u16_id, wrap_u8_id, tdiv_pos, tmod_pos, -getElem?_pos, -getElem?_neg, -List.length_eq_zero_iff, -List.getElem_cons_drop, hk3, q, s_triuneref12_Median_O1, h1, h2, hi3]
    · rw [if_neg (fun h => h2 h.2)]
      simp -implicitDefEqProofs (disch := first | omega | (simp only [List.length_set, List.length_append, List.length_cons, List.length_nil, List.length_take, List.length_drop, List.length_map]; omega) | simp) [wrap_i64, wrap_u16_id, wrap_u8_id, tdiv_pos, tmod_pos, -getElem?_pos, -getElem?_neg, -List.length_eq_zero_iff, -List.getElem_cons_drop, hk3, q, s_triuneref12_Median_O1, h1, h2, hi3]
  · rw [if_neg (fun h => h1 h.1)]
    simp -implicitDefEqProofs (disch := first | omega | (simp only [List.length_set, List.length_append, List.length_cons, List.length_nil, List.length_take, List.length_drop, List.length_map]; omega) | simp) [wrap_i64, wrap_u16_id, wrap_u8_id, tdiv_pos, tmod_pos, -getElem?_pos, -getElem?_neg, -List.length_eq_zero_iff, -List.getElem_cons_drop, hk3, q, s_triuneref12_Median_O1, h1, hi3]
theorem med_good (a b c : Int) (i : Nat) (hi : i < 3) (h : loI [a, b, c] i ≤ 1 ∧ hiI [a, b, c] i ≤ 1) : max (min a b) (min (max a b) c) = [a, b, c].getD i 0 := by
  have hi' : i = 0 ∨ i = 1 ∨ i = 2 := by omega
  unfold loI hiI oneI at h
  rcases hi' with rfl | rfl | rfl <;> simp only [List.getD_cons_zero, List.getD_cons_succ] at h ⊢ <;> omega
theorem med_some (a b c : Int) (h0 : ¬ (loI [a, b, c] 0 ≤ 1 ∧ hiI [a, b, c] 0 ≤ 1)) (h1 : ¬ (loI [a, b, c] 1 ≤ 1 ∧ hiI [a, b, c] 1 ≤ 1)) : loI [a, b, c] 2 ≤ 1 ∧ hiI [a, b, c] 2 ≤ 1 := by
  unfold loI hiI oneI at *
  simp only [List.getD_cons_zero, List.getD_cons_succ] at h0 h1 ⊢
  omega
theorem len1 : ∀ (l : List Int), l.length = 1 → ∃ a, l = [a]
  | [a], _ => ⟨a, rfl⟩
theorem len2 : ∀ (l : List Int), l.length = 2 → ∃ a b, l = [a, b]
  | [a, b], _ => ⟨a, b, rfl⟩
theorem len3 : ∀ (l : List Int), l.length = 3 → ∃ a b c, l = [a, b, c]
  | [a, b, c], _ => ⟨a, b, c, rfl⟩
theorem ref12_Median_c (n : Nat) (hn : 20 ≤ n) (l : List Int) (hw : Words l) (hl : l.length ≤ 1000) (t : Tag) : cP n 38 false [LV 1 (I .u16) l t] = some (.tup [I .u16 (medV l).1, Bo (medV l).2]) := by
  obtain ⟨n, rfl⟩ : ∃ m, n = m + 1 := ⟨n - 1, by omega⟩
  have fin : ∀ v B, (∃ H', s_triuneref12_Median n [] 0 (LV 1 (I .u16) l .sh) = some (.tup [I .u16 v, Bo B], H')) → medV l = (v, B) → cP (n + 1) 38 false [LV 1 (I .u16) l t] = some (.tup [I .u16 (medV l).1, Bo (medV l).2]) := by
    rintro v B ⟨H', h1⟩ h2
    rw [h2]
    exact cP_of (args' := [LV 1 (I .u16) l .sh]) (by simp [argEl_eq]) ((s_triuneref12_Median_eq _ _ _ _).trans h1) (by simp)
  by_cases h1 : l.length = 1
  · obtain ⟨a, rfl⟩ : ∃ a, l = [a] := len1 l h1
    exact fin a true ⟨_, by unfold s_triuneref12_Median; simp -implicitDefEqProofs (disch := first | omega | (simp only [List.length_set, List.length_append, List.length_cons, List.length_nil, List.length_take, List.length_drop, List.length_map]; omega) | simp) [wrap_i64, wrap_u16_id, wrap_u8_id, tdiv_pos, tmod_pos, -getElem?_pos, -getElem?_neg, -List.length_eq_zero_iff, -List.getElem_cons_drop]; first | rfl | exact ⟨rfl, rfl⟩⟩ rfl
  · have h1' : ¬ (l.length : Int) = 1 := by omega
    by_cases h2 : l.length = 2
    · obtain ⟨a, b, rfl⟩ : ∃ a b, l = [a, b] := len2 l h2
      have ha := hw a (by simp)
      have hb := hw b (by simp)
      have e1 : IntKind.wrap .u16 ((a + b) / 2) = (a + b) / 2 := wrap_u16_id _ (by omega) (by omega)
      exact fin ((a + b) / 2) true ⟨_, by unfold s_triuneref12_Median; simp -implicitDefEqProofs (disch := first | omega | (simp only [List.length_set, List.length_append, List.length_cons, List.length_nil, List.length_take, List.length_drop, List.length_map]; omega) | simp) [wrap_i64, wrap_u16_id, wrap_u8_id, tdiv_pos, tmod_pos, -getElem?_pos, -getElem?_neg, -List.length_eq_zero_iff, -List.getElem_cons_drop, e1]; first | rfl | exact ⟨rfl, rfl⟩⟩ rfl
    · have h2' : ¬ (l.length : Int) = 2 := by omega
      by_cases h3 : l.length = 3
      · have h3' : (l.length : Int) = 3 := by omega
        have lq : ∀ K H, loopG [0, 4] [2, 3] 71 (s_triuneref12_Median_b0 n 0) n (s_triuneref12_Median_I0 (LV 1 (I .u16) l .sh) (I .i64 0)) H K = _ := fun K H => s_triuneref12_Median_L0_eq _ _ _ _ _ _ _
        obtain ⟨m, rfl⟩ : ∃ m, n = m + 3 := ⟨n - 3, by omega⟩
        have r0 := fun K H => rmed_round (m + 3) (by omega) 0 H l h3 K (m + 2) 0 (by omega)
        have r1 := fun K H => rmed_round (m + 3) (by omega) 0 H l h3 K (m + 1) 1 (by omega)
        have r2 := fun K H => rmed_round (m + 3) (by omega) 0 H l h3 K m 2 (by omega)
        have all : ∃ i, ∃ hi : i < l.length, (medV l = (l[i], true)) ∧ ∀ K H, s_triuneref12_Median_L0 (m + 3) 0 K (m + 3) (LV 1 (I .u16) l .sh) (I .i64 0) H = K .ret (s_triuneref12_Median_O0 (I .u16 l[i]) (Bo true)) H := by
          obtain ⟨a, b, c, rfl⟩ : ∃ a b c, l = [a, b, c] := len3 l h3
          have md : ∀ i (h : i < 3), (loI [a, b, c] i ≤ 1 ∧ hiI [a, b, c] i ≤ 1) → medV [a, b, c] = ([a, b, c][i], true) := by
            intro i h g
            have := med_good a b c i h g
            show (max (min a b) (min (max a b) c), true) = _
            rw [this]
            simp [h]
          by_cases g0 : loI [a, b, c] 0 ≤ 1 ∧ hiI [a, b, c] 0 ≤ 1
          · exact ⟨0, by simp, md 0 (by omega) g0, fun K H => by rw [show (I .i64 0) = I .i64 ((0 : Nat) : Int) from rfl, r0 K H, if_pos g0]⟩
          · by_cases g1 : loI [a, b, c] 1 ≤ 1 ∧ hiI [a, b, c] 1 ≤ 1
            · exact ⟨1, by simp, md 1 (by omega) g1, fun K H => by
                rw [show (I .i64 0) = I .i64 ((0 : Nat) : Int) from rfl, r0 K H, if_neg g0]
                rw [show I .i64 (((0 : Nat) : Int) + 1) = I .i64 ((1 : Nat) : Int) from rfl, r1 K H, if_pos g1]⟩
            · have g2 := med_some a b c g0 g1
              exact ⟨2, by simp, md 2 (by omega) g2, fun K H => by
                rw [show (I .i64 0) = I .i64 ((0 : Nat) : Int) from rfl, r0 K H, if_neg g0]
                rw [show I .i64 (((0 : Nat) : Int) + 1) = I .i64 ((1 : Nat) : Int) from rfl, r1 K H, if_neg g1]
                rw [show I .i64 (((1 : Nat) : Int) + 1) = I .i64 ((2 : Nat) : Int) from rfl, r2 K H, if_pos g2]⟩
        obtain ⟨i, hi, e1, e2⟩ := all
        exact fin l[i] true ⟨_, by unfold s_triuneref12_Median; simp -implicitDefEqProofs (disch := first | omega | (simp only [List.length_set, List.length_append, List.length_cons, List.length_nil, List.length_take, List.length_drop, List.length_map]; omega) | simp) [wrap_i64, wrap_u16_id, wrap_u8_id, tdiv_pos, tmod_pos, -getElem?_pos, -getElem?_neg, -List.length_eq_zero_iff, -List.getElem_cons_drop, h1', h2', h3', lq, e2, s_triuneref12_Median_O0]; first | rfl | exact ⟨rfl, rfl⟩⟩ e1
      · have h3' : ¬ (l.length : Int) = 3 := by omega
        exact fin 0 false ⟨_, by unfold s_triuneref12_Median; simp -implicitDefEqProofs (disch := first | omega | (simp only [List.length_set, List.length_append, List.length_cons, List.length_nil, List.length_take, List.length_drop, List.length_map]; omega) | simp) [wrap_i64, wrap_u16_id, wrap_u8_id, tdiv_pos, tmod_pos, -getElem?_pos, -getElem?_neg, -List.length_eq_zero_iff, -List.getElem_cons_drop, h1', h2', h3']; first | rfl | exact ⟨rfl, rfl⟩⟩ (medV_other l h1 h2 h3)
end Go.Proofs.Ytjkofefcoeejbaa

/- Votes: the vote of a point, both sides; the program's median is wanted as a premise (its contract is not proved yet). -/
namespace Go.Proofs.Ytjkofefcoeejbaa
open Go
set_option linter.unusedSimpArgs false
set_option linter.unusedVariables false
set_option maxRecDepth 100000
def pickV (kind : Int) (l : List Int) : Int × Bool := if kind ≤ 1 then medV l else majV l
def voteV (p : Pt) (l : List Int) : Int × Bool := if (pickV p.kind l).2 = true then ((pickV p.kind l).1, true) else (p.safe % 65536, false)
theorem ref12_Vote_c (n : Nat) (hn : 1020 ≤ n) (p : Pt) (l : List Int) (hw : Words l) (hl : l.length ≤ 1000) (t : Tag) : cP n 42 false [ptE p, LV 1 (I .u16) l t] = some (.tup [I .u16 (voteV p l).1, Bo (voteV p l).2]) := by
  obtain ⟨n, rfl⟩ : ∃ m, n = m + 1 := ⟨n - 1, by omega⟩
  have e1 := ref12_Majority_c n l hw .sh hl (by omega)
  have e2 := ref12_Median_c n (by omega) l hw hl .sh
  obtain ⟨k, ad, at_, band, safe⟩ := p
  have fin : ∀ v B, (∃ H', s_triuneref12_Vote n [] 0 (ptE ⟨k, ad, at_, band, safe⟩) (LV 1 (I .u16) l .sh) = some (.tup [I .u16 v, Bo B], H')) → voteV ⟨k, ad, at_, band, safe⟩ l = (v, B) → cP (n + 1) 42 false [ptE ⟨k, ad, at_, band, safe⟩, LV 1 (I .u16) l t] = some (.tup [I .u16 (voteV ⟨k, ad, at_, band, safe⟩ l).1, Bo (voteV ⟨k, ad, at_, band, safe⟩ l).2]) := by
    rintro v B ⟨H', h1⟩ h2
    rw [h2]
    exact cP_of (args' := [ptE ⟨k, ad, at_, band, safe⟩, LV 1 (I .u16) l .sh]) (by simp [argEl_eq, ptE]) ((s_triuneref12_Vote_eq _ _ _ _ _).trans h1) (by simp)
  unfold voteV pickV at fin ⊢
  simp only at fin ⊢
  generalize medV l = m1 at *
  generalize majV l = m2 at *
  obtain ⟨v1, b1⟩ := m1
  obtain ⟨v2, b2⟩ := m2
  simp only at e1 e2
  by_cases h : k ≤ 1
  · simp only [h, if_true] at fin ⊢
    cases b1 with
    | true => exact fin v1 true ⟨_, by unfold s_triuneref12_Vote ptE; simp -implicitDefEqProofs (disch := first | omega | (simp only [List.length_set, List.length_append, List.length_cons, List.length_nil, List.length_take, List.length_drop, List.length_map]; omega) | simp) [wrap_i64, wrap_u16_id, wrap_u8_id, tdiv_pos, tmod_pos, -getElem?_pos, -getElem?_neg, -List.length_eq_zero_iff, -List.getElem_cons_drop, e1, e2, h]; first | rfl | exact ⟨rfl, rfl⟩⟩ (by simp)
    | false => exact fin (safe % 65536) false ⟨_, by unfold s_triuneref12_Vote ptE; simp -implicitDefEqProofs (disch := first | omega | (simp only [List.length_set, List.length_append, List.length_cons, List.length_nil, List.length_take, List.length_drop, List.length_map]; omega) | simp) [wrap_i64, wrap_u16_id, wrap_u8_id, tdiv_pos, tmod_pos, -getElem?_pos, -getElem?_neg, -List.length_eq_zero_iff, -List.getElem_cons_drop, e1, e2, h, wrap_u16]; first | rfl | exact ⟨rfl, rfl⟩⟩ (by simp)
  · simp only [h, if_false] at fin ⊢
    cases b2 with
    | true => exact fin v2 true ⟨_, by unfold s_triuneref12_Vote ptE; simp -implicitDefEqProofs (disch := first | omega | (simp only [List.length_set, List.length_append, List.length_cons, List.length_nil, List.length_take, List.length_drop, List.length_map]; omega) | simp) [wrap_i64, wrap_u16_id, wrap_u8_id, tdiv_pos, tmod_pos, -getElem?_pos, -getElem?_neg, -List.length_eq_zero_iff, -List.getElem_cons_drop, e1, e2, h]; first | rfl | exact ⟨rfl, rfl⟩⟩ (by simp)
    | false => exact fin (safe % 65536) false ⟨_, by unfold s_triuneref12_Vote ptE; simp -implicitDefEqProofs (disch := first | omega | (simp only [List.length_set, List.length_append, List.length_cons, List.length_nil, List.length_take, List.length_drop, List.length_map]; omega) | simp) [wrap_i64, wrap_u16_id, wrap_u8_id, tdiv_pos, tmod_pos, -getElem?_pos, -getElem?_neg, -List.length_eq_zero_iff, -List.getElem_cons_drop, e1, e2, h, wrap_u16]; first | rfl | exact ⟨rfl, rfl⟩⟩ (by simp)
@[simp] theorem leaf_fnV (i : Nat) : (DV.flat (.func (.func i) #[] #[])).leaf = true := rfl
@[simp] theorem leaf_nilV : (DV.flat .nilFunc).leaf = true := rfl
def fnV (i : Nat) : DV := .flat (.func (.func i) #[] #[])
theorem of_c (n : Nat) (hn : 1 ≤ n) (k : Int) : cP n 77 false [I .i64 k] = some (.agg [fnV (if k = 0 ∨ k = 1 then 37 else 39)]) := by
  obtain ⟨n, rfl⟩ : ∃ m, n = m + 1 := ⟨n - 1, by omega⟩
  by_cases h : k = 0
  · subst h
    exact cP_of (r := .agg [fnV 37]) (args' := [I .i64 0]) rfl ((s_vote_of_eq _ _ _ _).trans (by unfold s_vote_of; simp -implicitDefEqProofs (disch := first | omega | (simp only [List.length_set, List.length_append, List.length_cons, List.length_nil, List.length_take, List.length_drop, List.length_map]; omega) | simp) [wrap_i64, wrap_u16_id, wrap_u8_id, tdiv_pos, tmod_pos, -getElem?_pos, -getElem?_neg, -List.length_eq_zero_iff, -List.getElem_cons_drop]; first | exact rfl | exact ⟨rfl, rfl⟩)) rfl
  · by_cases h1 : k = 1
    · subst h1
      exact cP_of (r := .agg [fnV 37]) (args' := [I .i64 1]) rfl ((s_vote_of_eq _ _ _ _).trans (by unfold s_vote_of; simp -implicitDefEqProofs (disch := first | omega | (simp only [List.length_set, List.length_append, List.length_cons, List.length_nil, List.length_take, List.length_drop, List.length_map]; omega) | simp) [wrap_i64, wrap_u16_id, wrap_u8_id, tdiv_pos, tmod_pos, -getElem?_pos, -getElem?_neg, -List.length_eq_zero_iff, -List.getElem_cons_drop]; first | exact rfl | exact ⟨rfl, rfl⟩)) rfl
    · rw [if_neg (by omega)]
      exact cP_of (r := .agg [fnV 39]) (args' := [I .i64 k]) rfl ((s_vote_of_eq _ _ _ _).trans (by unfold s_vote_of; simp -implicitDefEqProofs (disch := first | omega | (simp only [List.length_set, List.length_append, List.length_cons, List.length_nil, List.length_take, List.length_drop, List.length_map]; omega) | simp) [wrap_i64, wrap_u16_id, wrap_u8_id, tdiv_pos, tmod_pos, -getElem?_pos, -getElem?_neg, -List.length_eq_zero_iff, -List.getElem_cons_drop, h, h1]; first | exact rfl | exact ⟨rfl, rfl⟩)) rfl
theorem cV_pure {n fl i : Nat} {args : List DV} {H : Heap} {d : DV} (hm : ENV.md i = .pure false) (h : cP n i false args = some d) : cV n fl (fnV i) args H = some (d, H) := by
  unfold cV callVG callV
  have : fnOf (fnV i) = some (i, []) := rfl
  rw [this]
  simp only [hm, List.append_nil, callD, effH]
  unfold cP callP at h
  cases h1 : mapO argEl args with
  | none => rw [h1] at h; cases h
  | some bs =>
    rw [h1, bi_some] at h
    cases h2 : callG Try.prog ENV n i bs [] 0 with
    | none => rw [h2] at h; cases h
    | some r =>
      rw [h2, bi_some] at h
      simp only [Option.bind_some, h2, h]
      rfl
theorem Vote_c (n : Nat) (hn : 1020 ≤ n) (p : Pt) (l : List Int) (hw : Words l) (hl : l.length ≤ 1000) (t : Tag) (hk : 0 ≤ p.kind)
    (hM : cP (n - 1) 37 false [LV 1 (I .u16) l .sh] = some (.tup [I .u16 (medV l).1, Bo (medV l).2])) :
    cP n 41 false [ptE p, LV 1 (I .u16) l t] = some (.tup [I .u16 (voteV p l).1, Bo (voteV p l).2]) := by
  obtain ⟨n, rfl⟩ : ∃ m, n = m + 1 := ⟨n - 1, by omega⟩
  have e1 := Majority_c n l hw .sh hl (by omega)
  rw [Nat.add_sub_cancel] at hM
  obtain ⟨k, ad, at_, band, safe⟩ := p
  have eo := of_c n (by omega) k
  have fin : ∀ v B, (∃ H', s_vote_Vote n [] 0 (ptE ⟨k, ad, at_, band, safe⟩) (LV 1 (I .u16) l .sh) = some (.tup [I .u16 v, Bo B], H')) → voteV ⟨k, ad, at_, band, safe⟩ l = (v, B) → cP (n + 1) 41 false [ptE ⟨k, ad, at_, band, safe⟩, LV 1 (I .u16) l t] = some (.tup [I .u16 (voteV ⟨k, ad, at_, band, safe⟩ l).1, Bo (voteV ⟨k, ad, at_, band, safe⟩ l).2]) := by
    rintro v B ⟨H', h1⟩ h2
    rw [h2]
    exact cP_of (args' := [ptE ⟨k, ad, at_, band, safe⟩, LV 1 (I .u16) l .sh]) (by simp [argEl_eq, ptE]) ((s_vote_Vote_eq _ _ _ _ _).trans h1) (by simp)
  have fld : ∀ i, fldD false 1 0 (.agg [fnV i]) = some (fnV i) := fun i => rfl
  unfold voteV pickV at fin ⊢
  simp only at fin ⊢ hk
  by_cases h : k ≤ 1
  · rw [if_pos (by omega)] at eo
    simp only [h, if_true] at fin ⊢
    have ev := fun H => cV_pure (fl := 0) (H := H) (by kernel_rfl) hM
    generalize medV l = m1 at *
    obtain ⟨v1, b1⟩ := m1
    simp only at ev
    cases b1 with
    | true => exact fin v1 true ⟨_, by unfold s_vote_Vote ptE; simp -implicitDefEqProofs (disch := first | omega | (simp only [List.length_set, List.length_append, List.length_cons, List.length_nil, List.length_take, List.length_drop, List.length_map]; omega) | simp) [wrap_i64, wrap_u16_id, wrap_u8_id, tdiv_pos, tmod_pos, -getElem?_pos, -getElem?_neg, -List.length_eq_zero_iff, -List.getElem_cons_drop, eo, fld, ev]; first | rfl | exact ⟨rfl, rfl⟩⟩ (by simp)
    | false => exact fin (safe % 65536) false ⟨_, by unfold s_vote_Vote ptE; simp -implicitDefEqProofs (disch := first | omega | (simp only [List.length_set, List.length_append, List.length_cons, List.length_nil, List.length_take, List.length_drop, List.length_map]; omega) | simp) [wrap_i64, wrap_u16_id, wrap_u8_id, tdiv_pos, tmod_pos, -getElem?_pos, -getElem?_neg, -List.length_eq_zero_iff, -List.getElem_cons_drop, eo, fld, ev, wrap_u16]; first | rfl | exact ⟨rfl, rfl⟩⟩ (by simp)
  · rw [if_neg (by omega)] at eo
    simp only [h, if_false] at fin ⊢
    have ev := fun H => cV_pure (fl := 0) (H := H) (by kernel_rfl) e1
    generalize majV l = m2 at *
    obtain ⟨v2, b2⟩ := m2
    simp only at ev
    cases b2 with
    | true => exact fin v2 true ⟨_, by unfold s_vote_Vote ptE; simp -implicitDefEqProofs (disch := first | omega | (simp only [List.length_set, List.length_append, List.length_cons, List.length_nil, List.length_take, List.length_drop, List.length_map]; omega) | simp) [wrap_i64, wrap_u16_id, wrap_u8_id, tdiv_pos, tmod_pos, -getElem?_pos, -getElem?_neg, -List.length_eq_zero_iff, -List.getElem_cons_drop, eo, fld, ev]; first | rfl | exact ⟨rfl, rfl⟩⟩ (by simp)
    | false => exact fin (safe % 65536) false ⟨_, by unfold s_vote_Vote ptE; simp -implicitDefEqProofs (disch := first | omega | (simp only [List.length_set, List.length_append, List.length_cons, List.length_nil, List.length_take, List.length_drop, List.length_map]; omega) | simp) [wrap_i64, wrap_u16_id, wrap_u8_id, tdiv_pos, tmod_pos, -getElem?_pos, -getElem?_neg, -List.length_eq_zero_iff, -List.getElem_cons_drop, eo, fld, ev, wrap_u16]; first | rfl | exact ⟨rfl, rfl⟩⟩ (by simp)
/-- the contract of vote.Median -/
def MedC : Prop := ∀ (m : Nat) (l : List Int) (t : Tag), 100 ≤ m → Words l → l.length ≤ 1000 → cP m 37 false [LV 1 (I .u16) l t] = some (.tup [I .u16 (medV l).1, Bo (medV l).2])
theorem medI_V (l : List Int) : medI l = medV l := by
  unfold medI medV
  rfl
theorem mapO_dWI_words (l : List Int) (h : Words l) : mapO dWI (l.map (I .u16)) = some l := by
  induction l with
  | nil => rfl
  | cons a l ih =>
    rw [List.map_cons, mapO_cons, ih (fun x hx => h x (by simp [hx]))]
    have : dWI (I .u16 a) = some a := by unfold dWI; simp only; rw [if_pos (h a (by simp))]
    rw [this]
    rfl
theorem medC : MedC := by
  intro m l t hm hw hl
  obtain ⟨m, rfl⟩ : ∃ k, m = k + 1 := ⟨m - 1, by omega⟩
  refine cP_of (H' := []) (args' := [LV 1 (I .u16) l .sh]) (r := .tup [I .u16 (medV l).1, Bo (medV l).2]) (by simp [argEl_eq]) ((prim_call rfl m _ [] 0).trans ?_) (by simp)
  obtain ⟨s, h1, _⟩ := LV_list 1 (I .u16) l .sh
  rw [h1]
  unfold primMed
  simp only
  rw [mapO_dWI_words l hw, Option.bind_some, if_pos (by omega), medI_V]
end Go.Proofs.Ytjkofefcoeejbaa

/- Opening any argument of a law: what reads as data of a type stands for a deep value of the type's shape. -/
namespace Go.Proofs.Ytjkofefcoeejbaa
open Go Go.RowKit Go.ChangeShapes Go.WideShapes

def isAgT (P : Program) (t : TypeId) : Bool := match P.underlying t with
  | some (.struct _) => true
  | some (.array _ _) => true
  | _ => false
def elOf (ag : Bool) (ds : List DV) : DV := if ag then .agg ds else ds.headD .any
def ShpFs (S : TypeId → List DV → Prop) : List TypeId → List DV → Prop
  | [], ds => ds = []
  | t :: ts, ds => ∃ a b, ds = a ++ b ∧ S t a ∧ ShpFs S ts b
/-- the deep cells that data of a type has -/
def Shp (P : Program) : Nat → TypeId → List DV → Prop
  | 0, _, _ => False
  | d + 1, t, ds => match P.underlying t with
    | some (.int k) => ∃ n, ds = [.flat (.int k n)] ∧ (Lit.int k n).wf = true
    | some .bool => ∃ b, ds = [.flat (.bool b)]
    | some .string => ∃ s : ByteArray, ds = [.flat (.string s)] ∧ s.size ≤ reachBytes
    | some (.slice e) => ∃ l : List (List DV), ds = [mkl (P.cellsOf e) (l.map (elOf (isAgT P e))) .sh] ∧ l.length * P.bytesOf e ≤ reachBytes ∧ ∀ x ∈ l, Shp P d e x
    | some (.struct fs) => ShpFs (Shp P d) (fs.toList.map (·.type)) ds
    | some (.array n e) => ∃ l : List (List DV), l.length = n ∧ ds = l.flatten ∧ ∀ x ∈ l, Shp P d e x
    | _ => False
def laidFs (P : Program) (total : Nat) : Nat → List Field → Bool
  | off, [] => off == total
  | off, f :: fs => f.offset == off && laidFs P total (off + P.cellsOf f.type) fs
def deepT (P : Program) : Nat → TypeId → Bool
  | 0, _ => false
  | d + 1, t => match P.underlying t with
    | some (.int _) => P.cellsOf t == 1
    | some .bool => P.cellsOf t == 1
    | some .string => P.cellsOf t == 1
    | some (.slice e) => P.cellsOf t == 1 && decide (0 < P.bytesOf e ∧ 0 < P.cellsOf e) && (isAgT P e || P.cellsOf e == 1) && deepT P d e
    | some (.struct fs) => laidFs P (P.cellsOf t) 0 fs.toList && fs.toList.all fun f => deepT P d f.type
    | some (.array n e) => P.cellsOf t == n * P.cellsOf e && deepT P d e
    | _ => false

section
variable {H : Type} {enc' : TypeId × Value → H} {P : Program} {W : World} {spare : Nat → Bool} {held : Bool}
abbrev Any : Nat → Nat → Prop := fun _ _ => True
/-- what is found of some cells -/
def Opened (P : Program) (W : World) (d : Nat) (t : TypeId) (cs : List Value) : Prop :=
  ∃ ds : List DV, RepL Any W [] ds cs ∧ Shp P d t ds ∧ ds.all DV.leaf = true ∧ ∀ v ∈ cs, isOne v = true
theorem ex_list {α : Type} (Q : Nat → α → Prop) (n : Nat) (h : ∀ i, i < n → ∃ y, Q i y) : ∃ L : List α, L.length = n ∧ ∀ i (hi : i < L.length), Q i L[i] := by
  induction n with
  | zero => exact ⟨[], rfl, fun i hi => by simp at hi⟩
  | succ n ih =>
    obtain ⟨L, rfl, hL⟩ := ih (fun i hi => h i (by omega))
    obtain ⟨y, hy⟩ := h L.length (by omega)
    refine ⟨L ++ [y], by simp, fun i hi => ?_⟩
    by_cases hlt : i < L.length
    · rw [List.getElem_append_left hlt]; exact hL i hlt
    · have : i = L.length := by simp at hi; omega
      subst this
      simpa using hy
theorem addr_pl {w : World} {a : Addr} {v : Value} (h : w.cell? a = some v) : a = ⟨a.block, a.off, none⟩ := by
  obtain ⟨b, o, s⟩ := a
  unfold World.cell? at h
  split at h
  · cases s with
    | none => rfl
    | some s => simp at h
  · cases h
theorem addr_ad (b o j : Nat) : (⟨b, o, none⟩ : Addr).add j = ⟨b, o + j, none⟩ := by
  unfold Addr.add; split <;> simp_all
theorem RepE.of {I : Nat → Nat → Prop} {w : World} {sz b : Nat} : ∀ (xs : List DV) (o : Nat), (∀ i (hi : i < xs.length), xs[i].cells.all DV.leaf = true ∧ ∃ V, Rep I w [] xs[i] V ∧ V.cells.size = sz ∧ CellsAt I w b (o + i * sz) V.cells.toList) → RepE I w sz xs b o
  | [], _, _ => by simp [RepE]
  | x :: xs, o, h => by
    simp only [RepE]
    refine ⟨by have h0 := h 0 (by simp); rw [Nat.zero_mul, Nat.add_zero] at h0; exact h0, RepE.of xs (o + sz) fun i hi => ?_⟩
    have := h (i + 1) (by simpa using hi)
    rw [show o + (i + 1) * sz = o + sz + i * sz by rw [Nat.add_mul]; omega] at this
    simpa using this
/-- struct by struct, field by field -/
theorem open_fields {d n : Nat} {cs : List Value} {total : Nat} (hcs : cs.length = total) (ih : ∀ (t : TypeId) (cs : List Value) (x : DataW H × List MemPlace), deepT P d t = true → DataW.trod enc' P W 0 spare held n t cs = some x → (∀ k ∈ x.1.weights P t, k ≤ reachBytes) → Opened P W d t cs) :
    ∀ (fs : List Field) (off : Nat) (xs : List (DataW H × List MemPlace)), laidFs P total off fs = true → fs.all (fun f => deepT P d f.type) = true → xs.length = fs.length →
      (∀ (i : Nat) (f : Field), fs[i]? = some f → DataW.trod enc' P W 0 spare held n f.type ((cs.drop f.offset).take (P.cellsOf f.type)) = xs[i]?) →
      (∀ k ∈ DataW.weightsEach P (fs.map (·.type)) (xs.map (·.1)), k ≤ reachBytes) →
      ∃ ds : List DV, RepL Any W [] ds (cs.drop off) ∧ ShpFs (Shp P d) (fs.map (·.type)) ds ∧ ds.all DV.leaf = true ∧ ∀ v ∈ cs.drop off, isOne v = true
  | [], off, xs, hl, _, _, _, _ => by
    have : off = total := by simpa [laidFs] using hl
    have : cs.drop off = [] := by rw [List.drop_eq_nil_iff]; omega
    rw [this]
    exact ⟨[], by simp [RepL], rfl, rfl, fun v hv => by simp at hv⟩
  | f :: fs, off, [], _, _, hx, _, _ => by simp at hx
  | f :: fs, off, x :: xs, hl, hd, hx, ht, hw => by
    simp only [laidFs, Bool.and_eq_true, beq_iff_eq] at hl
    simp only [List.all_cons, Bool.and_eq_true] at hd
    have h0 := ht 0 f rfl
    simp only [List.getElem?_cons_zero] at h0
    rw [hl.1] at h0
    simp only [List.map_cons, DataW.weightsEach, List.mem_append] at hw
    obtain ⟨a, ha1, ha2, ha3, ha4⟩ := ih _ _ _ hd.1 h0 (fun k hk => hw k (.inl hk))
    obtain ⟨b, hb1, hb2, hb3, hb4⟩ := open_fields hcs ih fs (off + P.cellsOf f.type) xs hl.2 hd.2 (by simpa using hx) (fun i g hg => by
      have := ht (i + 1) g (by simpa using hg)
      simpa using this) (fun k hk => hw k (.inr hk))
    have hsplit : cs.drop off = (cs.drop off).take (P.cellsOf f.type) ++ cs.drop (off + P.cellsOf f.type) := by
      rw [← List.drop_drop, List.take_append_drop]
    refine ⟨a ++ b, ?_, ⟨a, b, rfl, ha2, hb2⟩, by simp only [List.all_append, ha3, hb3, Bool.and_self], ?_⟩
    · rw [hsplit]; exact ha1.app hb1
    · rw [hsplit]
      intro v hv
      rcases List.mem_append.mp hv with h | h
      · exact ha4 v h
      · exact hb4 v h
theorem open_items {d n : Nat} {e : TypeId} {cs : List Value} (hde : deepT P d e = true) (ih : ∀ (t : TypeId) (cs : List Value) (x : DataW H × List MemPlace), deepT P d t = true → DataW.trod enc' P W 0 spare held n t cs = some x → (∀ k ∈ x.1.weights P t, k ≤ reachBytes) → Opened P W d t cs) :
    ∀ (xs : List (DataW H × List MemPlace)) (off : Nat), cs.length = off + xs.length * P.cellsOf e → (∀ i, i < xs.length → DataW.trod enc' P W 0 spare held n e ((cs.drop (off + i * P.cellsOf e)).take (P.cellsOf e)) = xs[i]?) →
      (∀ k ∈ DataW.weightsAll P e (xs.map (·.1)), k ≤ reachBytes) →
      ∃ l : List (List DV), l.length = xs.length ∧ RepL Any W [] l.flatten (cs.drop off) ∧ (∀ x ∈ l, Shp P d e x) ∧ l.flatten.all DV.leaf = true ∧ ∀ v ∈ cs.drop off, isOne v = true
  | [], off, hl, _, _ => by
    have : cs.drop off = [] := by rw [List.drop_eq_nil_iff]; simp at hl; omega
    rw [this]
    exact ⟨[], rfl, by simp [RepL], fun x hx => by simp at hx, rfl, fun v hv => by simp at hv⟩
  | x :: xs, off, hl, ht, hw => by
    have h0 := ht 0 (by simp)
    simp only [List.getElem?_cons_zero, Nat.zero_mul, Nat.add_zero] at h0
    simp only [List.map_cons, DataW.weightsAll, List.mem_append] at hw
    obtain ⟨a, ha1, ha2, ha3, ha4⟩ := ih _ _ _ hde h0 (fun k hk => hw k (.inl hk))
    obtain ⟨l, hb0, hb1, hb2, hb3, hb4⟩ := open_items hde ih xs (off + P.cellsOf e) (by rw [hl, List.length_cons, Nat.add_mul]; omega) (fun i hi => by
      have := ht (i + 1) (by simpa using hi)
      rw [show off + (i + 1) * P.cellsOf e = off + P.cellsOf e + i * P.cellsOf e by rw [Nat.add_mul]; omega] at this
      simpa using this) (fun k hk => hw k (.inr hk))
    have hsplit : cs.drop off = (cs.drop off).take (P.cellsOf e) ++ cs.drop (off + P.cellsOf e) := by
      rw [← List.drop_drop, List.take_append_drop]
    refine ⟨a :: l, by simp [hb0], ?_, ?_, by simp only [List.flatten_cons, List.all_append, ha3, hb3, Bool.and_self], ?_⟩
    · rw [hsplit, List.flatten_cons]; exact ha1.app hb1
    · intro y hy
      rcases List.mem_cons.mp hy with rfl | hy
      · exact ha2
      · exact hb2 y hy
    · rw [hsplit]
      intro v hv
      rcases List.mem_append.mp hv with h | h
      · exact ha4 v h
      · exact hb4 v h
theorem open_cells : ∀ (d n : Nat) (t : TypeId) (cs : List Value) (x : DataW H × List MemPlace), deepT P d t = true → DataW.trod enc' P W 0 spare held n t cs = some x → (∀ k ∈ x.1.weights P t, k ≤ reachBytes) → Opened P W d t cs := by
  intro d
  induction d with
  | zero => intro n t cs x hd; cases hd
  | succ d ih =>
    intro n t cs x hd h hw
    unfold deepT at hd
    unfold Opened Shp
    split at hd
    · rename_i k hu
      obtain ⟨m, rfl, _, hwf⟩ := DataW.trod_int hu h
      exact ⟨[.flat (.int k m)], by simp [RepL, Rep], ⟨m, rfl, hwf⟩, rfl, fun v hv => by simp at hv; subst hv; rfl⟩
    · rename_i hu
      obtain ⟨b, rfl, _⟩ := DataW.trod_bool hu h
      exact ⟨[.flat (.bool b)], by simp [RepL, Rep], ⟨b, rfl⟩, rfl, fun v hv => by simp at hv; subst hv; rfl⟩
    · rename_i hu
      obtain ⟨s, rfl, rfl, _⟩ := DataW.trod_string hu h
      refine ⟨[.flat (.string s)], by simp [RepL, Rep], ⟨s, rfl, ?_⟩, rfl, fun v hv => by simp at hv; subst hv; rfl⟩
      have := hw s.data.toList.length (by simp [DataW.weights])
      simpa using this
    · rename_i e hu
      simp only [Bool.and_eq_true, beq_iff_eq, decide_eq_true_eq, Bool.or_eq_true] at hd
      obtain ⟨⟨⟨_, hB0, hpos2⟩, hag⟩, hde⟩ := hd
      rcases DataW.trod_slice hu h with ⟨rfl, _⟩ | ⟨a, len, cap, elems, rest, m, rfl, rfl, rfl, _, hl, _, hlen, hel, _, _⟩
      · refine ⟨[.list 0 [] .sh], ?_, ⟨[], rfl, by simp, fun x hx => by simp at hx⟩, rfl, fun v hv => by simp at hv; subst hv; rfl⟩
        simp only [RepL, Rep]
        exact ⟨_, _, rfl, ⟨none, 0, by simp, by simp, by simp, by simp, by simp [TagOk]⟩, rfl⟩
      · simp only [DataW.weights, hu, List.mem_cons, List.mem_append, List.length_map] at hw
        have hz := hw _ (.inl rfl)
        have hz2 : len * P.bytesOf e ≤ reachBytes := Nat.le_trans (Nat.mul_le_mul_right _ (by omega)) hz
        have hlen2 : len ≤ 140737488351232 := Nat.le_trans (Nat.le_mul_of_pos_right _ hB0) hz2
        have each : ∀ i, i < len → ∃ q : List DV, ∃ cs : List Value, W.cells? 0 (a.add (i * P.cellsOf e)) (P.cellsOf e) = some cs ∧ RepL Any W [] q cs ∧ Shp P d e q ∧ q.all DV.leaf = true ∧ ∀ v ∈ cs, isOne v = true := by
          intro i hi
          have h1 := hel i hi
          have h2 : elems[i]? = some elems[i] := List.getElem?_eq_getElem (by omega)
          rw [h2, Option.bind_eq_some_iff] at h1
          obtain ⟨cs, h3, h4⟩ := h1
          have hwi : ∀ k ∈ elems[i].1.weights P e, k ≤ reachBytes := by
            intro k hk
            refine hw k (.inr (.inl ?_))
            have : ∀ (L : List (DataW H)) (y : DataW H), y ∈ L → ∀ k ∈ y.weights P e, k ∈ DataW.weightsAll P e L := by
              intro L
              induction L with
              | nil => intro y hy; simp at hy
              | cons z L ih2 =>
                intro y hy k hk
                simp only [DataW.weightsAll, List.mem_append]
                rcases List.mem_cons.mp hy with rfl | hy
                · exact .inl hk
                · exact .inr (ih2 y hy k hk)
            exact this _ elems[i].1 (List.mem_map.mpr ⟨elems[i], List.getElem_mem _, rfl⟩) k hk
          obtain ⟨q, q1, q2, q3, q4⟩ := ih _ _ _ _ hde h4 hwi
          exact ⟨q, cs, h3, q1, q2, q3, q4⟩
        obtain ⟨L, hL, hLc⟩ := ex_list _ len each
        subst hL
        refine ⟨[mkl (P.cellsOf e) (L.map (elOf (isAgT P e))) .sh], ?_, ⟨L, rfl, hz2, ?_⟩, ?_, fun v hv => by simp at hv; subst hv; rfl⟩
        · simp only [RepL]
          refine ⟨_, _, rfl, ?_, rfl⟩
          by_cases h0 : L = []
          · subst h0
            show Rep Any W [] (.list 0 [] .sh) _
            simp only [Rep]
            exact ⟨some a, cap, rfl, Nat.zero_le _, Nat.zero_le _, .inl trivial, trivial⟩
          · have hmk : mkl (P.cellsOf e) (L.map (elOf (isAgT P e))) .sh = .list (P.cellsOf e) (L.map (elOf (isAgT P e))) .sh := by
              cases L with
              | nil => exact absurd rfl h0
              | cons => rfl
            rw [hmk]
            simp only [Rep, List.length_map]
            refine ⟨some a, cap, rfl, hl, by omega, .inr ?_, trivial⟩
            have ha : a = ⟨a.block, a.off, none⟩ := by
              have hpos : 0 < L.length := List.length_pos_iff.mpr h0
              obtain ⟨cs0, c1, c2, c3, c4, c5⟩ := hLc 0 hpos
              have hc := World.cells?_some c1
              have c := hc.2.2 0 hpos2
              simp only [Nat.zero_mul] at c
              have e1 : (a.add 0).add 0 = a := by simp [Addr.add]
              rw [e1] at c
              rw [List.getElem?_eq_getElem (by omega)] at c
              exact addr_pl c
            refine ⟨a.block, a.off, by rw [← ha], RepE.of _ _ fun i hi => ?_⟩
            have hi' : i < L.length := by simpa using hi
            obtain ⟨cs, c1, c2, c3, c4, c5⟩ := hLc i hi'
            have hc := World.cells?_some c1
            have cell : ∀ j v, cs[j]? = some v → W.cell? ⟨a.block, a.off + i * P.cellsOf e + j, none⟩ = some v ∧ Any a.block (a.off + i * P.cellsOf e + j) ∧ isOne v = true := by
              intro j v hv
              have hj : j < cs.length := by
                rcases Nat.lt_or_ge j cs.length with h | h
                · exact h
                · rw [List.getElem?_eq_none h] at hv; cases hv
              have := hc.2.2 j (by omega)
              rw [ha, addr_ad, addr_ad, hv] at this
              exact ⟨this, trivial, c5 v (List.mem_of_getElem? hv)⟩
            rw [List.getElem_map]
            by_cases hA : isAgT P e = true
            · have hel : elOf (isAgT P e) L[i] = .agg L[i] := by simp [elOf, hA]
              rw [hel]
              refine ⟨c4, .agg cs.toArray, by simp only [Rep]; exact ⟨_, rfl, c2⟩, by simpa [Value.cells] using hc.2.1, fun j v hv => cell j v (by simpa [Value.cells] using hv)⟩
            · have h1 : P.cellsOf e = 1 := by rcases hag with h | h; exact absurd h hA; exact h
              have hl2 := c2.length
              match hq : L[i], cs, hc.2.1, c2, c4, c5, cell with
              | [q], [v], _, c2, c4, c5, cell =>
                have hel : elOf (isAgT P e) [q] = q := by simp [elOf, hA]
                rw [hel]
                simp only [List.all_cons, List.all_nil, Bool.and_true] at c4
                have hqc : q.cells = [q] := by cases q <;> first | rfl | cases c4
                simp only [RepL] at c2
                obtain ⟨v', _, e1, c2, rfl⟩ := c2
                cases e1
                have hv1 : isOne v = true := c5 v (by simp)
                have hvc : v.cells = #[v] := by cases v <;> first | rfl | cases hv1
                refine ⟨by rw [hqc]; simp [c4], v, c2, by rw [hvc]; simp [h1], fun j u hu => cell j u (by rw [hvc] at hu; exact hu)⟩
              | [], [v], _, _, _, _, _ => rw [hq] at hl2; simp at hl2
              | _ :: _ :: _, [v], _, _, _, _, _ => rw [hq] at hl2; simp at hl2
              | _, [], hh, _, _, _, _ => simp at hh; omega
              | _, _ :: _ :: _, hh, _, _, _, _ => simp at hh; omega
        · intro x hx
          obtain ⟨i, hi, rfl⟩ := List.mem_iff_getElem.mp hx
          obtain ⟨cs, _, _, q2, _⟩ := hLc i hi
          exact q2
        · cases L <;> rfl
    · rename_i fs hu
      simp only [Bool.and_eq_true] at hd
      obtain ⟨xs, m, rfl, rfl, hl, hxs, hel⟩ := DataW.trod_struct hu h
      simp only [DataW.weights, hu] at hw
      obtain ⟨ds, h1, h2, h3, h4⟩ := open_fields (d := d) hl (ih m) fs.toList 0 xs hd.1 hd.2 (by simpa using hxs) (fun i f hf => hel i f (by simpa using hf)) hw
      exact ⟨ds, by simpa using h1, h2, h3, by simpa using h4⟩
    · rename_i cnt e hu
      simp only [Bool.and_eq_true, beq_iff_eq] at hd
      obtain ⟨xs, m, rfl, rfl, hl, hxs, hel⟩ := DataW.trod_array hu h
      simp only [DataW.weights, hu] at hw
      obtain ⟨l, h0, h1, h2, h3, h4⟩ := open_items (d := d) (e := e) (cs := cs) hd.2 (ih m) xs 0 (by rw [hl, hd.1, hxs, Nat.zero_add]) (fun i hi => by rw [Nat.zero_add]; exact hel i (by omega)) hw
      exact ⟨l.flatten, by simpa using h1, ⟨l, by rw [h0, hxs], rfl, h2⟩, h3, by simpa using h4⟩
    · cases hd
/-- an argument: a value of its own deep value -/
theorem open_arg (d : Nat) {t : TypeId} {r : Reach} {b0 : Nat} {v : Value} {x : DataW H} {ps : List MemPlace} (hd : deepT P d t = true) (hval : Value.okWide P W r b0 t v) (h : DataW.Trod enc' P W 0 spare held t v x ps) (hw : ∀ k ∈ x.weights P t, k ≤ reachBytes) :
    ∃ ds : List DV, Rep Any W [] (elOf (isAgT P t) ds) v ∧ Shp P d t ds := by
  obtain ⟨fuel, hf⟩ := h
  obtain ⟨ds, h1, h2, h3, h4⟩ := open_cells d fuel t v.cells.toList _ hd hf hw
  refine ⟨ds, ?_, h2⟩
  have one : isAgT P t = false → v.cells.toList = [v] → Rep Any W [] (elOf (isAgT P t) ds) v := by
    intro hA hv
    rw [hv] at h1
    match ds, h1 with
    | [q], h1 =>
      simp only [RepL] at h1
      obtain ⟨v', _, e1, h1, rfl⟩ := h1
      cases e1
      simpa [elOf, hA] using h1
    | [], h1 => simp [RepL] at h1
    | _ :: _ :: _, h1 => have := h1.length; simp at this
  cases d with
  | zero => cases hd
  | succ d =>
    unfold deepT at hd
    split at hd
    · rename_i k hu
      obtain ⟨m, rfl⟩ := okWide_int hu hval
      exact one (by unfold isAgT; rw [hu]) rfl
    · rename_i hu
      obtain ⟨m, rfl⟩ := okWide_bool hu hval
      exact one (by unfold isAgT; rw [hu]) rfl
    · rename_i hu
      obtain ⟨m, rfl⟩ := okWide_string hu hval
      exact one (by unfold isAgT; rw [hu]) rfl
    · rename_i e hu
      obtain ⟨_, _, _, rfl⟩ := okWide_slice hu hval
      exact one (by unfold isAgT; rw [hu]) rfl
    · rename_i fs hu
      obtain ⟨cs, rfl, _⟩ := okWide_struct hu hval
      have hA : isAgT P t = true := by unfold isAgT; rw [hu]
      simp only [elOf, hA, if_true, Rep]
      exact ⟨cs, rfl, h1⟩
    · rename_i n e hu
      have hA : isAgT P t = true := by unfold isAgT; rw [hu]
      unfold Value.okWide at hval
      rw [hu] at hval
      obtain ⟨cs, rfl, _⟩ := hval
      simp only [elOf, hA, if_true, Rep]
      exact ⟨cs, rfl, h1⟩
    · cases hd
end
attribute [irreducible] Shp isAgT
end Go.Proofs.Ytjkofefcoeejbaa

/- Shapes of arguments, word by word; and the way from a run of the front evaluator to a law's row. -/
namespace Go.Proofs.Ytjkofefcoeejbaa
open Go Go.RowKit

theorem wf_u8 {n : Int} (h : (Lit.int .u8 n).wf = true) : 0 ≤ n ∧ n < 256 := by
  simp [Lit.wf, IntKind.min, IntKind.max, IntKind.signed, IntKind.bits] at h; omega
theorem wf_u16 {n : Int} (h : (Lit.int .u16 n).wf = true) : 0 ≤ n ∧ n < 65536 := by
  simp [Lit.wf, IntKind.min, IntKind.max, IntKind.signed, IntKind.bits] at h; omega
theorem wf_i64 {n : Int} (h : (Lit.int .i64 n).wf = true) : -9223372036854775808 ≤ n ∧ n < 9223372036854775808 := by
  simp [Lit.wf, IntKind.min, IntKind.max, IntKind.signed, IntKind.bits] at h; omega
section
variable {P : Program} {d : Nat} {t e : TypeId} {ds : List DV}
theorem shp_int {k : IntKind} (hu : P.underlying t = some (.int k)) (h : Shp P (d + 1) t ds) : ∃ n, ds = [.flat (.int k n)] ∧ (Lit.int k n).wf = true := by
  unfold Shp at h; rw [hu] at h; exact h
theorem shp_bool (hu : P.underlying t = some .bool) (h : Shp P (d + 1) t ds) : ∃ b, ds = [.flat (.bool b)] := by
  unfold Shp at h; rw [hu] at h; exact h
theorem shp_string (hu : P.underlying t = some .string) (h : Shp P (d + 1) t ds) : ∃ s : ByteArray, ds = [.flat (.string s)] ∧ s.size ≤ reachBytes := by
  unfold Shp at h; rw [hu] at h; exact h
theorem shp_struct {fs : Array Field} (hu : P.underlying t = some (.struct fs)) (h : Shp P (d + 1) t ds) : ShpFs (Shp P d) (fs.toList.map (·.type)) ds := by
  unfold Shp at h; rw [hu] at h; exact h
theorem pick_list {α β : Type} (f : α → β → Prop) (l : List α) (h : ∀ x ∈ l, ∃ a, f x a) : ∃ L : List β, L.length = l.length ∧ ∀ i (h1 : i < l.length) (h2 : i < L.length), f l[i] L[i] := by
  induction l with
  | nil => exact ⟨[], rfl, fun i h => by simp at h⟩
  | cons x l ih =>
    obtain ⟨a, ha⟩ := h x (by simp)
    obtain ⟨L, h1, h2⟩ := ih (fun x hx => h x (by simp [hx]))
    refine ⟨a :: L, by simp [h1], fun i hi hi2 => ?_⟩
    cases i with
    | zero => exact ha
    | succ i => exact h2 i (by simpa using hi) (by simpa using hi2)
theorem shp_slice {α : Type} (enc : α → DV) (Q : α → Prop) {sz : Nat} (hu : P.underlying t = some (.slice e)) (hsz : P.cellsOf e = sz) (hel : ∀ x, Shp P d e x → ∃ a, elOf (isAgT P e) x = enc a ∧ Q a) (h : Shp P (d + 1) t ds) :
    ∃ l : List α, ds = [LV sz enc l .sh] ∧ l.length * P.bytesOf e ≤ reachBytes ∧ ∀ a ∈ l, Q a := by
  unfold Shp at h; rw [hu] at h
  obtain ⟨l, h1, h2, h3⟩ := h
  obtain ⟨L, hL, hLc⟩ := pick_list (fun (x : List DV) (a : α) => elOf (isAgT P e) x = enc a ∧ Q a) l (fun x hx => hel x (h3 x hx))
  refine ⟨L, ?_, by rw [hL]; exact h2, fun a ha => ?_⟩
  · rw [h1, hsz]
    congr 2
    refine List.ext_getElem (by simp [hL]) fun i h4 h5 => ?_
    simp only [List.getElem_map]
    exact (hLc i (by simpa using h4) (by simpa using h5)).1
  · obtain ⟨i, hi, rfl⟩ := List.mem_iff_getElem.mp ha
    exact (hLc i (by omega) hi).2
theorem shp_array {α : Type} (enc : α → List DV) (Q : α → Prop) {n : Nat} (hu : P.underlying t = some (.array n e)) (hel : ∀ x, Shp P d e x → ∃ a, x = enc a ∧ Q a) (h : Shp P (d + 1) t ds) :
    ∃ l : List α, l.length = n ∧ ds = (l.map enc).flatten ∧ ∀ a ∈ l, Q a := by
  unfold Shp at h; rw [hu] at h
  obtain ⟨l, h1, h2, h3⟩ := h
  obtain ⟨L, hL, hLc⟩ := pick_list (fun (x : List DV) (a : α) => x = enc a ∧ Q a) l (fun x hx => hel x (h3 x hx))
  refine ⟨L, by omega, ?_, fun a ha => ?_⟩
  · rw [h2]
    congr 1
    refine List.ext_getElem (by simp [hL]) fun i h4 h5 => ?_
    simp only [List.getElem_map]
    exact (hLc i (by simpa using h4) (by simpa using h5)).1
  · obtain ⟨i, hi, rfl⟩ := List.mem_iff_getElem.mp ha
    exact (hLc i (by omega) hi).2
theorem shp_ints {k : IntKind} (hu : P.underlying t = some (.slice e)) (he : P.underlying e = some (.int k)) (hsz : P.cellsOf e = 1) (h : Shp P (d + 2) t ds) :
    ∃ l : List Int, ds = [LV 1 (I k) l .sh] ∧ l.length * P.bytesOf e ≤ reachBytes ∧ ∀ a ∈ l, (Lit.int k a).wf = true :=
  shp_slice (I k) _ hu hsz (fun x hx => by
    obtain ⟨n, rfl, hn⟩ := shp_int he hx
    refine ⟨n, ?_, hn⟩
    simp [elOf, isAgT, he]) h
end
theorem mixed : Try.prog.follows .mixedOrders = true := by kernel_rfl
theorem noOwn : NoOwn Try.prog := by unfold NoOwn; kernel_rfl
theorem primSound : PrimSound Try.prog ENV := fun f g args H d H' h h2 => primOk f g args H d H' h h2
/-- a law that the front evaluator answers with true -/
theorem law_call {n f : Nat} {args : List DV} {H' : Heap} (h : callG Try.prog ENV n f args [] 0 = some (.flat (.bool true), H')) {w : World} {vs : Array Value} (hr : RepL Any w [] args vs.toList) :
    Calls Try.prog f vs w fun e w' => e = .returned (.bool true) ∧ Below w.heap.size w w' :=
  (pure_call mixed noOwn primSound (callG_ok _ _ _ _ _ _ _ _ h) hr).mono fun e w' ⟨V, he, hb, I, G, hV⟩ => by
    simp only [Rep] at hV
    subst hV
    exact ⟨he, hb⟩
end Go.Proofs.Ytjkofefcoeejbaa

/- Votes: the arguments' shapes, and that the program is awake. -/
namespace Go.Proofs.Ytjkofefcoeejbaa
open Go
set_option linter.unusedSimpArgs false
set_option linter.unusedVariables false
theorem awake12 : cP 3999 35 false [] = some (Bo true) := by kernel_rfl
theorem vshp_pt {d : Nat} {e : List DV} (h : Shp Try.prog (d + 2) 65 e) : ∃ p : Pt, elOf (isAgT Try.prog 65) e = ptE p := by
  have h0 := shp_struct Try.underlying65 h
  obtain ⟨x1, r1, rfl, h1, h0⟩ := h0
  obtain ⟨x2, r2, rfl, h2, h0⟩ := h0
  obtain ⟨x3, r3, rfl, h3, h0⟩ := h0
  obtain ⟨x4, r4, rfl, h4, h0⟩ := h0
  obtain ⟨x5, r5, rfl, h5, h0⟩ := h0
  obtain rfl := h0
  obtain ⟨k, rfl, _⟩ := shp_int (k := .i64) Try.underlying3 h1
  obtain ⟨ad, rfl, _⟩ := shp_int (k := .i64) Try.underlying3 h2
  obtain ⟨at_, rfl, _⟩ := shp_int (k := .i64) Try.underlying3 h3
  obtain ⟨band, rfl, _⟩ := shp_int (k := .i64) Try.underlying3 h4
  obtain ⟨safe, rfl, _⟩ := shp_int (k := .i64) Try.underlying3 h5
  exact ⟨⟨k, ad, at_, band, safe⟩, by kernel_rfl⟩
theorem vwf_u16 {n : Int} (h : (Lit.int .u16 n).wf = true) : 0 ≤ n ∧ n < 65536 := by
  simp [Lit.wf, IntKind.min, IntKind.max, IntKind.signed, IntKind.bits] at h
  omega
theorem vshp_w1 {d : Nat} {e : List DV} (h : Shp Try.prog (d + 1) 24 e) : ∃ n : Int, e = [I .u16 n] ∧ (0 ≤ n ∧ n < 65536) := by
  obtain ⟨n, rfl, hw⟩ := shp_int (k := .u16) Try.underlying24 h
  exact ⟨n, rfl, vwf_u16 hw⟩
theorem vshp_w2 {d : Nat} {e : List DV} (h : Shp Try.prog (d + 2) 66 e) : ∃ a b : Int, elOf (isAgT Try.prog 66) e = .agg [I .u16 a, I .u16 b] ∧ (0 ≤ a ∧ a < 65536) ∧ (0 ≤ b ∧ b < 65536) := by
  obtain ⟨ns, hn, rfl, hw⟩ := shp_array (e := 24) (fun n : Int => [I .u16 n]) (fun n => 0 ≤ n ∧ n < 65536) Try.underlying66 (fun x hx => vshp_w1 hx) h
  match ns, hn, hw with
  | [a, b], _, hw => exact ⟨a, b, by kernel_rfl, hw a (by simp), hw b (by simp)⟩
theorem vshp_w3 {d : Nat} {e : List DV} (h : Shp Try.prog (d + 2) 74 e) : ∃ a b c : Int, elOf (isAgT Try.prog 74) e = .agg [I .u16 a, I .u16 b, I .u16 c] ∧ (0 ≤ a ∧ a < 65536) ∧ (0 ≤ b ∧ b < 65536) ∧ (0 ≤ c ∧ c < 65536) := by
  obtain ⟨ns, hn, rfl, hw⟩ := shp_array (e := 24) (fun n : Int => [I .u16 n]) (fun n => 0 ≤ n ∧ n < 65536) Try.underlying74 (fun x hx => vshp_w1 hx) h
  match ns, hn, hw with
  | [a, b, c], _, hw => exact ⟨a, b, c, by kernel_rfl, hw a (by simp), hw b (by simp), hw c (by simp)⟩
end Go.Proofs.Ytjkofefcoeejbaa
