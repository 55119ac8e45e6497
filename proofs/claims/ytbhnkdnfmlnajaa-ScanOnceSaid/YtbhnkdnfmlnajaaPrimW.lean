/- Words and bits by their contracts of the old kind: that they answer so. -/
import Derived.Test.YtbhnkdnfmlnajaaPrimL
import Derived.Test.YtbhnkdnfmlnajaaWord
namespace Go.Proofs.Ytbhnkdnfmlnajaa
open Go Go.RowKit
set_option linter.unusedSimpArgs false
set_option linter.unusedVariables false
theorem repE_mk {α : Type} {enc : α → Value} {e' : α → DV} (he : ∀ a, e' a = .flat (enc a)) (h1 : ∀ a, (enc a).cells = #[enc a] ∧ isOne (enc a) = true) {I : Nat → Nat → Prop} {w : World} {b : Nat} : ∀ (l : List α) (o : Nat), (∀ j (h : j < l.length), w.cell? ⟨b, o + j, none⟩ = some (enc l[j]) ∧ I b (o + j)) → RepE I w 1 (l.map e') b o
  | [], o, _ => by simp [RepE]
  | a :: l, o, h => by
    simp only [List.map_cons, RepE]
    refine ⟨⟨by rw [he]; simp [DV.cells, DV.leaf, (h1 a).2], enc a, by rw [he]; simp only [Rep], by rw [(h1 a).1]; rfl, ?_⟩, repE_mk he h1 l (o + 1) fun j hj => ?_⟩
    · rw [(h1 a).1]
      intro j v hj
      cases j with
      | zero =>
        simp at hj
        subst hj
        obtain ⟨h2, h3⟩ := h 0 (by simp)
        exact ⟨h2, h3, (h1 _).2⟩
      | succ j => simp at hj
    · have := h (j + 1) (by simpa using hj)
      rw [show o + (j + 1) = o + 1 + j by omega] at this
      exact this
/-- a row of the call's own, handed out as a list -/
theorem own_rep {α : Type} {enc : α → Value} {e' : α → DV} (he : ∀ a, e' a = .flat (enc a)) (h1 : ∀ a, (enc a).cells = #[enc a] ∧ isOne (enc a) = true) {B : Nat → Nat → Prop} {G : Gh} {w w' : World} {H : Heap} (hB : ∀ b j, w.heap.size ≤ b → B b j) (hH : HR B G w H) {e : TypeId} {V : Value} {l : List α} (ho : Own enc e w' w.heap.size V l) : Rep (ImmB B G) w' G (mkl 1 (l.map e') .sh) V := by
  obtain ⟨⟨_, h2⟩, h3⟩ := ho
  rcases h2 with ⟨rfl, h2⟩ | ⟨g, cap, cur, rfl, hg, hc, h4, _, _, h5⟩
  · have : l = [] := List.eq_nil_of_length_eq_zero h2
    subst this
    simp only [List.map_nil, mkl, Rep, TagOk]
    exact ⟨none, 0, rfl, Nat.le_refl _, by simp, .inl trivial, trivial⟩
  · have hE : RepE (ImmB B G) w' 1 (l.map e') g 0 := by
      refine repE_mk he h1 l 0 fun j hj => ⟨?_, hB _ _ hg, fun k hk => ?_, fun k s c n hk => ?_⟩
      · rw [cell_toList hc, Nat.zero_add]
        have h6 : (l.map enc)[j]? = some (enc l[j]) := by simp [hj]
        rw [← h5] at h6
        rw [List.getElem?_take_of_lt (by omega)] at h6
        exact h6
      · have := hH.lt (.inl hk); omega
      · have := hH.lt (.inr ⟨_, _, _, hk⟩); omega
    cases l with
    | nil =>
      simp only [List.map_nil, mkl, Rep, TagOk]
      exact ⟨_, cap, rfl, h4, by simp, .inl trivial, trivial⟩
    | cons a l =>
      simp only [List.map_cons, mkl, Rep, TagOk]
      refine ⟨_, cap, by simp, by simpa using h4, by simpa using h3, .inr ⟨g, 0, rfl, by simpa using hE⟩, trivial⟩
theorem dB_some (x : DV) (a : UInt8) (h : dB x = some a) : x = .flat (encB a) := by
  unfold dB at h
  split at h
  · split at h
    · rename_i hn
      cases h
      rw [encB_low _ hn.1 hn.2]
    · cases h
  · cases h
theorem dW_some (x : DV) (a : UInt16) (h : dW x = some a) : x = .flat (encW a) := by
  unfold dW at h
  split at h
  · split at h
    · rename_i hn
      cases h
      rw [encW_low _ hn.1 hn.2]
      rfl
    · cases h
  · cases h
theorem dT_some (x : DV) (a : Bool) (h : dT x = some a) : x = .flat (encT a) := by
  unfold dT at h
  split at h
  · cases h; rfl
  · cases h
theorem primLL_ok {α β : Type} {d : DV → Option α} {ea : α → Value} {eb : β → Value} {e' : β → DV} {g : List α → List β} {f : FuncId} {t : TypeId} (hd : ∀ x a, d x = some a → x = .flat (ea a)) (h1 : ∀ a, (ea a).cells = #[ea a]) (he : ∀ a, e' a = .flat (eb a)) (h2 : ∀ a, (eb a).cells = #[eb a] ∧ isOne (eb a) = true)
    (hf : ∀ (v : Value) (l : List α) (w : World), RdV ea w v l → l.length ≤ 100000 → Calls Try.prog f #[v] w fun e w' => ∃ v', e = .returned v' ∧ Own eb t w' w.heap.size v' (g l) ∧ Below w.heap.size w w')
    {args : List DV} {r : DV} {H H' : Heap} (h : primLL d e' g args H = some (r, H')) : H' = H ∧ ∀ fl, CallOk Try.prog f args H fl r H := by
  unfold primLL at h
  split at h
  · rename_i sz xs t' H0
    obtain ⟨l, hl, h⟩ := Option.bind_eq_some_iff.1 h
    split at h
    · rename_i hlen
      simp only [Option.some.injEq, Prod.mk.injEq] at h
      obtain ⟨rfl, rfl⟩ := h
      refine ⟨rfl, fun fl B G w vs hB hH hr hfl => ⟨?_, fun _ _ => rfl, Nat.le_refl _⟩⟩
      simp only [RepL] at hr
      obtain ⟨V, _, e1, hV, rfl⟩ := hr
      have hv : vs = #[V] := by apply Array.ext'; simpa using e1
      subst hv
      exact (hf V l w (list_rd hd h1 hV hl) hlen).mono fun e w' ⟨v', h3, h4, h5⟩ => ⟨v', G, h3, Keep.below G h5, hH.below h5, own_rep he h2 hB hH h4⟩
    · cases h
  · cases h
theorem primTL_ok {β : Type} {eb : β → Value} {e' : β → DV} {f : FuncId} {t : TypeId} {c : Bool} {l2 : List β} {args : List DV} {H : Heap} (he : ∀ a, e' a = .flat (eb a)) (h2 : ∀ a, (eb a).cells = #[eb a] ∧ isOne (eb a) = true)
    (hf : ∀ (B : Nat → Nat → Prop) (G : Gh) (w : World) (vs : Array Value), RepL (ImmB B G) w G args vs.toList → Calls Try.prog f vs w fun e w' => ∃ v', e = .returned (.tuple #[v', .bool c]) ∧ Own eb t w' w.heap.size v' l2 ∧ Below w.heap.size w w') (fl : Nat) : CallOk Try.prog f args H fl (.tup [mkl 1 (l2.map e') .sh, .flat (.bool c)]) H := by
  intro B G w vs hB hH hr hfl
  refine ⟨(hf B G w vs hr).mono fun e w' ⟨v', h3, h4, h5⟩ => ⟨_, G, h3, Keep.below G h5, hH.below h5, ?_⟩, fun _ _ => rfl, Nat.le_refl _⟩
  simp only [Rep, RepL]
  exact ⟨_, rfl, _, _, rfl, own_rep he h2 hB hH h4, _, _, rfl, rfl, rfl⟩
theorem own_nil {α : Type} (enc : α → Value) (e : TypeId) (w : World) (b : Nat) : Own enc e w b (.slice none 0 0) [] := ⟨⟨rfl, .inl ⟨rfl, rfl⟩⟩, by simp⟩
theorem primWords_ok {f : FuncId} (hno : ∀ (v : Value) (l : List UInt8) (w : World), RdV encB w v l → l.length % 2 = 1 → Calls Try.prog f #[v] w fun e w' => e = .returned (.tuple #[.slice none 0 0, .bool false]) ∧ w = w')
    (hyes : ∀ (v : Value) (l : List UInt8) (w : World), RdV encB w v l → l.length % 2 = 0 → l.length ≤ 100000 → Calls Try.prog f #[v] w fun e w' => ∃ v', e = .returned (.tuple #[v', .bool true]) ∧ Own encW 75 w' w.heap.size v' (wWords l) ∧ Below w.heap.size w w')
    {args : List DV} {r : DV} {H H' : Heap} (h : primWords args H = some (r, H')) : H' = H ∧ ∀ fl, CallOk Try.prog f args H fl r H := by
  unfold primWords at h
  split at h
  · rename_i sz xs t' H0
    obtain ⟨l, hl, h⟩ := Option.bind_eq_some_iff.1 h
    split at h
    · rename_i hlen
      simp only [Option.some.injEq, Prod.mk.injEq] at h
      obtain ⟨rfl, rfl⟩ := h
      refine ⟨rfl, fun fl => primTL_ok (t := 75) (eb := encW) (fun a => rfl) (fun a => ⟨rfl, rfl⟩) (fun B G w vs hr => ?_) fl⟩
      simp only [RepL] at hr
      obtain ⟨V, _, e1, hV, rfl⟩ := hr
      have hv : vs = #[V] := by apply Array.ext'; simpa using e1
      subst hv
      have hR := list_rd dB_some (fun a => rfl) hV hl
      rcases (by omega : l.length % 2 = 1 ∨ l.length % 2 = 0) with hn | hn
      · rw [wordsTell_no hn]
        exact (hno V l w hR hn).mono fun e w' ⟨h3, h4⟩ => ⟨_, h3, own_nil _ _ _ _, by rw [← h4]; exact Below.refl _ _⟩
      · rw [wordsTell_yes hn]
        exact hyes V l w hR hn hlen
    · cases h
  · cases h
theorem primBits_ok {args : List DV} {r : DV} {H H' : Heap} (h : primBits args H = some (r, H')) : H' = H ∧ ∀ fl, CallOk Try.prog 169 args H fl r H := by
  unfold primBits at h
  split at h
  · rename_i H0 sz xs t' n
    obtain ⟨l, hl, h⟩ := Option.bind_eq_some_iff.1 h
    split at h
    · rename_i hlen
      obtain ⟨hlen, hn0, hn1⟩ := hlen
      simp only [Option.some.injEq, Prod.mk.injEq] at h
      obtain ⟨rfl, rfl⟩ := h
      refine ⟨rfl, fun fl => primTL_ok (t := 4) (eb := encT) (fun a => rfl) (fun a => ⟨rfl, rfl⟩) (fun B G w vs hr => ?_) fl⟩
      simp only [RepL] at hr
      obtain ⟨V, _, e1, hV, V2, _, rfl, hV2, rfl⟩ := hr
      simp only [Rep] at hV2
      subst hV2
      have hv : vs = #[V, .int .i64 n] := by apply Array.ext'; simpa using e1
      subst hv
      have hR := list_rd dB_some (fun a => rfl) hV hl
      by_cases h0 : 0 ≤ n ∧ bitsFit l n.toNat
      · obtain ⟨m, rfl⟩ := Int.eq_ofNat_of_zero_le h0.1
        have hf : bitsFit l m := by simpa using h0.2
        have hm : m ≤ 800000 := by have := hf.1; omega
        rw [bitsTell_nat, wBits_yes hf]
        exact word_Bits_yes V l m w hR hf hm
      · have hn : n < 0 ∨ ¬ bitsFit l n.toNat := by
          rcases (by omega : n < 0 ∨ 0 ≤ n) with h | h
          · exact .inl h
          · exact .inr fun h2 => h0 ⟨h, h2⟩
        have e : bitsTell l n = (false, []) := by
          rcases (by omega : n < 0 ∨ 0 ≤ n) with h | h
          · exact bitsTell_neg h
          · obtain ⟨m, rfl⟩ := Int.eq_ofNat_of_zero_le h
            rw [bitsTell_nat]
            exact wBits_no fun h2 => h0 ⟨h, by simpa using h2⟩
        rw [e]
        exact (word_Bits_no V l n w hR hn hn1 hn0).mono fun e w' ⟨h3, h4⟩ => ⟨_, h3, own_nil _ _ _ _, by rw [← h4]; exact Below.refl _ _⟩
    · cases h
  · cases h
theorem primW_ok (f : FuncId) (g : Prim) (args : List DV) (H : Heap) (d : DV) (H' : Heap) (hf : PRIMW f = some g) (h : g args H = some (d, H')) : (∃ fn, Try.prog.funcs[f]? = some fn ∧ fn.body.isSome = true) ∧ (∀ fl, CallOk Try.prog f args H fl d H') ∧ ∀ k : Nat, H[k]? = some .hole → H'[k]? = some .hole := by
  unfold PRIMW at hf
  by_cases c1 : f = 166
  · subst c1
    simp only [BEq.rfl, cond_true, Option.some.injEq] at hf
    subst hf
    obtain ⟨rfl, h⟩ := primLL_ok dW_some (fun a => rfl) (fun a => rfl) (fun a => ⟨rfl, rfl⟩) (fun v l w h1 h2 => word_Bytes v l w h1 h2) h
    exact ⟨⟨_, Try.func166, rfl⟩, h, fun _ h => h⟩
  have d1 : (f == 166) = false := by simpa using c1
  simp only [d1, cond_false] at hf
  by_cases c2 : f = 168
  · subst c2
    simp only [BEq.rfl, cond_true, Option.some.injEq] at hf
    subst hf
    obtain ⟨rfl, h⟩ := primLL_ok dT_some (fun a => rfl) (fun a => rfl) (fun a => ⟨rfl, rfl⟩) (fun v l w h1 h2 => word_Pack v l w h1 h2) h
    exact ⟨⟨_, Try.func168, rfl⟩, h, fun _ h => h⟩
  have d2 : (f == 168) = false := by simpa using c2
  simp only [d2, cond_false] at hf
  by_cases c3 : f = 171
  · subst c3
    simp only [BEq.rfl, cond_true, Option.some.injEq] at hf
    subst hf
    obtain ⟨rfl, h⟩ := primWords_ok (fun v l w h1 h2 => word_Words_no v l w h1 h2) (fun v l w h1 h2 h3 => word_Words_yes v l w h1 h2 h3) h
    exact ⟨⟨_, Try.func171, rfl⟩, h, fun _ h => h⟩
  have d3 : (f == 171) = false := by simpa using c3
  simp only [d3, cond_false] at hf
  by_cases c4 : f = 169
  · subst c4
    simp only [BEq.rfl, cond_true, Option.some.injEq] at hf
    subst hf
    obtain ⟨rfl, h⟩ := primBits_ok h
    exact ⟨⟨_, Try.func169, rfl⟩, h, fun _ h => h⟩
  have d4 : (f == 169) = false := by simpa using c4
  simp only [d4, cond_false] at hf
  cases hf
end Go.Proofs.Ytbhnkdnfmlnajaa
