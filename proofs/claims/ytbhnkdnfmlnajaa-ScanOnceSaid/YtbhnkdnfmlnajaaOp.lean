/- Opening any argument of a law: what reads as data of a type stands for a deep value of the type's shape. -/
import Derived.Test.YtbhnkdnfmlnajaaPg
import Derived.SizedLaws
import Derived.ChangeSlices
import Derived.OpenShut
import Derived.ChangeArms
namespace Go.Proofs.Ytbhnkdnfmlnajaa
open Go Go.RowKit Go.ChangeShapes Go.WideShapes

def isAgT (P : Program) (t : TypeId) : Bool := match P.underlying t with
  | some (.struct _) => true
  | some (.array _ _) => true
  | _ => false
def elOf (ag : Bool) (ds : List DV) : DV := if ag then .agg ds else ds.headD .any
def ShpFs (S : TypeId → List DV → Prop) : List TypeId → List DV → Prop
  | [], ds => ds = []
  | t :: ts, ds => ∃ a b, ds = a ++ b ∧ S t a ∧ ShpFs S ts b
/-- the deep cells that data of a type has -/
def Shp (P : Program) : Nat → TypeId → List DV → Prop
  | 0, _, _ => False
  | d + 1, t, ds => match P.underlying t with
    | some (.int k) => ∃ n, ds = [.flat (.int k n)] ∧ (Lit.int k n).wf = true
    | some .bool => ∃ b, ds = [.flat (.bool b)]
    | some .string => ∃ s : ByteArray, ds = [.flat (.string s)] ∧ s.size ≤ reachBytes
    | some (.slice e) => ∃ l : List (List DV), ds = [mkl (P.cellsOf e) (l.map (elOf (isAgT P e))) .sh] ∧ l.length * P.bytesOf e ≤ reachBytes ∧ ∀ x ∈ l, Shp P d e x
    | some (.struct fs) => ShpFs (Shp P d) (fs.toList.map (·.type)) ds
    | some (.array n e) => ∃ l : List (List DV), l.length = n ∧ ds = l.flatten ∧ ∀ x ∈ l, Shp P d e x
    | _ => False
def laidFs (P : Program) (total : Nat) : Nat → List Field → Bool
  | off, [] => off == total
  | off, f :: fs => f.offset == off && laidFs P total (off + P.cellsOf f.type) fs
def deepT (P : Program) : Nat → TypeId → Bool
  | 0, _ => false
  | d + 1, t => match P.underlying t with
    | some (.int _) => P.cellsOf t == 1
    | some .bool => P.cellsOf t == 1
    | some .string => P.cellsOf t == 1
    | some (.slice e) => P.cellsOf t == 1 && decide (0 < P.bytesOf e ∧ 0 < P.cellsOf e) && (isAgT P e || P.cellsOf e == 1) && deepT P d e
    | some (.struct fs) => laidFs P (P.cellsOf t) 0 fs.toList && fs.toList.all fun f => deepT P d f.type
    | some (.array n e) => P.cellsOf t == n * P.cellsOf e && deepT P d e
    | _ => false

section
variable {H : Type} {enc' : TypeId × Value → H} {P : Program} {W : World} {spare : Nat → Bool} {held : Bool}
abbrev Any : Nat → Nat → Prop := fun _ _ => True
/-- what is found of some cells -/
def Opened (P : Program) (W : World) (d : Nat) (t : TypeId) (cs : List Value) : Prop :=
  ∃ ds : List DV, RepL Any W [] ds cs ∧ Shp P d t ds ∧ ds.all DV.leaf = true ∧ ∀ v ∈ cs, isOne v = true
theorem ex_list {α : Type} (Q : Nat → α → Prop) (n : Nat) (h : ∀ i, i < n → ∃ y, Q i y) : ∃ L : List α, L.length = n ∧ ∀ i (hi : i < L.length), Q i L[i] := by
  induction n with
  | zero => exact ⟨[], rfl, fun i hi => by simp at hi⟩
  | succ n ih =>
    obtain ⟨L, rfl, hL⟩ := ih (fun i hi => h i (by omega))
    obtain ⟨y, hy⟩ := h L.length (by omega)
    refine ⟨L ++ [y], by simp, fun i hi => ?_⟩
    by_cases hlt : i < L.length
    · rw [List.getElem_append_left hlt]; exact hL i hlt
    · have : i = L.length := by simp at hi; omega
      subst this
      simpa using hy
theorem addr_pl {w : World} {a : Addr} {v : Value} (h : w.cell? a = some v) : a = ⟨a.block, a.off, none⟩ := by
  obtain ⟨b, o, s⟩ := a
  unfold World.cell? at h
  split at h
  · cases s with
    | none => rfl
    | some s => simp at h
  · cases h
theorem addr_ad (b o j : Nat) : (⟨b, o, none⟩ : Addr).add j = ⟨b, o + j, none⟩ := by
  unfold Addr.add; split <;> simp_all
theorem RepE.of {I : Nat → Nat → Prop} {w : World} {sz b : Nat} : ∀ (xs : List DV) (o : Nat), (∀ i (hi : i < xs.length), xs[i].cells.all DV.leaf = true ∧ ∃ V, Rep I w [] xs[i] V ∧ V.cells.size = sz ∧ CellsAt I w b (o + i * sz) V.cells.toList) → RepE I w sz xs b o
  | [], _, _ => by simp [RepE]
  | x :: xs, o, h => by
    simp only [RepE]
    refine ⟨by have h0 := h 0 (by simp); rw [Nat.zero_mul, Nat.add_zero] at h0; exact h0, RepE.of xs (o + sz) fun i hi => ?_⟩
    have := h (i + 1) (by simpa using hi)
    rw [show o + (i + 1) * sz = o + sz + i * sz by rw [Nat.add_mul]; omega] at this
    simpa using this
/-- struct by struct, field by field -/
theorem open_fields {d n : Nat} {cs : List Value} {total : Nat} (hcs : cs.length = total) (ih : ∀ (t : TypeId) (cs : List Value) (x : DataW H × List MemPlace), deepT P d t = true → DataW.trod enc' P W 0 spare held n t cs = some x → (∀ k ∈ x.1.weights P t, k ≤ reachBytes) → Opened P W d t cs) :
    ∀ (fs : List Field) (off : Nat) (xs : List (DataW H × List MemPlace)), laidFs P total off fs = true → fs.all (fun f => deepT P d f.type) = true → xs.length = fs.length →
      (∀ (i : Nat) (f : Field), fs[i]? = some f → DataW.trod enc' P W 0 spare held n f.type ((cs.drop f.offset).take (P.cellsOf f.type)) = xs[i]?) →
      (∀ k ∈ DataW.weightsEach P (fs.map (·.type)) (xs.map (·.1)), k ≤ reachBytes) →
      ∃ ds : List DV, RepL Any W [] ds (cs.drop off) ∧ ShpFs (Shp P d) (fs.map (·.type)) ds ∧ ds.all DV.leaf = true ∧ ∀ v ∈ cs.drop off, isOne v = true
  | [], off, xs, hl, _, _, _, _ => by
    have : off = total := by simpa [laidFs] using hl
    have : cs.drop off = [] := by rw [List.drop_eq_nil_iff]; omega
    rw [this]
    exact ⟨[], by simp [RepL], rfl, rfl, fun v hv => by simp at hv⟩
  | f :: fs, off, [], _, _, hx, _, _ => by simp at hx
  | f :: fs, off, x :: xs, hl, hd, hx, ht, hw => by
    simp only [laidFs, Bool.and_eq_true, beq_iff_eq] at hl
    simp only [List.all_cons, Bool.and_eq_true] at hd
    have h0 := ht 0 f rfl
    simp only [List.getElem?_cons_zero] at h0
    rw [hl.1] at h0
    simp only [List.map_cons, DataW.weightsEach, List.mem_append] at hw
    obtain ⟨a, ha1, ha2, ha3, ha4⟩ := ih _ _ _ hd.1 h0 (fun k hk => hw k (.inl hk))
    obtain ⟨b, hb1, hb2, hb3, hb4⟩ := open_fields hcs ih fs (off + P.cellsOf f.type) xs hl.2 hd.2 (by simpa using hx) (fun i g hg => by
      have := ht (i + 1) g (by simpa using hg)
      simpa using this) (fun k hk => hw k (.inr hk))
    have hsplit : cs.drop off = (cs.drop off).take (P.cellsOf f.type) ++ cs.drop (off + P.cellsOf f.type) := by
      rw [← List.drop_drop, List.take_append_drop]
    refine ⟨a ++ b, ?_, ⟨a, b, rfl, ha2, hb2⟩, by simp only [List.all_append, ha3, hb3, Bool.and_self], ?_⟩
    · rw [hsplit]; exact ha1.app hb1
    · rw [hsplit]
      intro v hv
      rcases List.mem_append.mp hv with h | h
      · exact ha4 v h
      · exact hb4 v h
theorem open_items {d n : Nat} {e : TypeId} {cs : List Value} (hde : deepT P d e = true) (ih : ∀ (t : TypeId) (cs : List Value) (x : DataW H × List MemPlace), deepT P d t = true → DataW.trod enc' P W 0 spare held n t cs = some x → (∀ k ∈ x.1.weights P t, k ≤ reachBytes) → Opened P W d t cs) :
    ∀ (xs : List (DataW H × List MemPlace)) (off : Nat), cs.length = off + xs.length * P.cellsOf e → (∀ i, i < xs.length → DataW.trod enc' P W 0 spare held n e ((cs.drop (off + i * P.cellsOf e)).take (P.cellsOf e)) = xs[i]?) →
      (∀ k ∈ DataW.weightsAll P e (xs.map (·.1)), k ≤ reachBytes) →
      ∃ l : List (List DV), l.length = xs.length ∧ RepL Any W [] l.flatten (cs.drop off) ∧ (∀ x ∈ l, Shp P d e x) ∧ l.flatten.all DV.leaf = true ∧ ∀ v ∈ cs.drop off, isOne v = true
  | [], off, hl, _, _ => by
    have : cs.drop off = [] := by rw [List.drop_eq_nil_iff]; simp at hl; omega
    rw [this]
    exact ⟨[], rfl, by simp [RepL], fun x hx => by simp at hx, rfl, fun v hv => by simp at hv⟩
  | x :: xs, off, hl, ht, hw => by
    have h0 := ht 0 (by simp)
    simp only [List.getElem?_cons_zero, Nat.zero_mul, Nat.add_zero] at h0
    simp only [List.map_cons, DataW.weightsAll, List.mem_append] at hw
    obtain ⟨a, ha1, ha2, ha3, ha4⟩ := ih _ _ _ hde h0 (fun k hk => hw k (.inl hk))
    obtain ⟨l, hb0, hb1, hb2, hb3, hb4⟩ := open_items hde ih xs (off + P.cellsOf e) (by rw [hl, List.length_cons, Nat.add_mul]; omega) (fun i hi => by
      have := ht (i + 1) (by simpa using hi)
      rw [show off + (i + 1) * P.cellsOf e = off + P.cellsOf e + i * P.cellsOf e by rw [Nat.add_mul]; omega] at this
      simpa using this) (fun k hk => hw k (.inr hk))
    have hsplit : cs.drop off = (cs.drop off).take (P.cellsOf e) ++ cs.drop (off + P.cellsOf e) := by
      rw [← List.drop_drop, List.take_append_drop]
    refine ⟨a :: l, by simp [hb0], ?_, ?_, by simp only [List.flatten_cons, List.all_append, ha3, hb3, Bool.and_self], ?_⟩
    · rw [hsplit, List.flatten_cons]; exact ha1.app hb1
    · intro y hy
      rcases List.mem_cons.mp hy with rfl | hy
      · exact ha2
      · exact hb2 y hy
    · rw [hsplit]
      intro v hv
      rcases List.mem_append.mp hv with h | h
      · exact ha4 v h
      · exact hb4 v h
theorem open_cells : ∀ (d n : Nat) (t : TypeId) (cs : List Value) (x : DataW H × List MemPlace), deepT P d t = true → DataW.trod enc' P W 0 spare held n t cs = some x → (∀ k ∈ x.1.weights P t, k ≤ reachBytes) → Opened P W d t cs := by
  intro d
  induction d with
  | zero => intro n t cs x hd; cases hd
  | succ d ih =>
    intro n t cs x hd h hw
    unfold deepT at hd
    unfold Opened Shp
    split at hd
    · rename_i k hu
      obtain ⟨m, rfl, _, hwf⟩ := DataW.trod_int hu h
      exact ⟨[.flat (.int k m)], by simp [RepL, Rep], ⟨m, rfl, hwf⟩, rfl, fun v hv => by simp at hv; subst hv; rfl⟩
    · rename_i hu
      obtain ⟨b, rfl, _⟩ := DataW.trod_bool hu h
      exact ⟨[.flat (.bool b)], by simp [RepL, Rep], ⟨b, rfl⟩, rfl, fun v hv => by simp at hv; subst hv; rfl⟩
    · rename_i hu
      obtain ⟨s, rfl, rfl, _⟩ := DataW.trod_string hu h
      refine ⟨[.flat (.string s)], by simp [RepL, Rep], ⟨s, rfl, ?_⟩, rfl, fun v hv => by simp at hv; subst hv; rfl⟩
      have := hw s.data.toList.length (by simp [DataW.weights])
      simpa using this
    · rename_i e hu
      simp only [Bool.and_eq_true, beq_iff_eq, decide_eq_true_eq, Bool.or_eq_true] at hd
      obtain ⟨⟨⟨_, hB0, hpos2⟩, hag⟩, hde⟩ := hd
      rcases DataW.trod_slice hu h with ⟨rfl, _⟩ | ⟨a, len, cap, elems, rest, m, rfl, rfl, rfl, _, hl, _, hlen, hel, _, _⟩
      · refine ⟨[.list 0 [] .sh], ?_, ⟨[], rfl, by simp, fun x hx => by simp at hx⟩, rfl, fun v hv => by simp at hv; subst hv; rfl⟩
        simp only [RepL, Rep]
        exact ⟨_, _, rfl, ⟨none, 0, by simp, by simp, by simp, by simp, by simp [TagOk]⟩, rfl⟩
      · simp only [DataW.weights, hu, List.mem_cons, List.mem_append, List.length_map] at hw
        have hz := hw _ (.inl rfl)
        have hz2 : len * P.bytesOf e ≤ reachBytes := Nat.le_trans (Nat.mul_le_mul_right _ (by omega)) hz
        have hlen2 : len ≤ 140737488351232 := Nat.le_trans (Nat.le_mul_of_pos_right _ hB0) hz2
        have each : ∀ i, i < len → ∃ q : List DV, ∃ cs : List Value, W.cells? 0 (a.add (i * P.cellsOf e)) (P.cellsOf e) = some cs ∧ RepL Any W [] q cs ∧ Shp P d e q ∧ q.all DV.leaf = true ∧ ∀ v ∈ cs, isOne v = true := by
          intro i hi
          have h1 := hel i hi
          have h2 : elems[i]? = some elems[i] := List.getElem?_eq_getElem (by omega)
          rw [h2, Option.bind_eq_some_iff] at h1
          obtain ⟨cs, h3, h4⟩ := h1
          have hwi : ∀ k ∈ elems[i].1.weights P e, k ≤ reachBytes := by
            intro k hk
            refine hw k (.inr (.inl ?_))
            have : ∀ (L : List (DataW H)) (y : DataW H), y ∈ L → ∀ k ∈ y.weights P e, k ∈ DataW.weightsAll P e L := by
              intro L
              induction L with
              | nil => intro y hy; simp at hy
              | cons z L ih2 =>
                intro y hy k hk
                simp only [DataW.weightsAll, List.mem_append]
                rcases List.mem_cons.mp hy with rfl | hy
                · exact .inl hk
                · exact .inr (ih2 y hy k hk)
            exact this _ elems[i].1 (List.mem_map.mpr ⟨elems[i], List.getElem_mem _, rfl⟩) k hk
          obtain ⟨q, q1, q2, q3, q4⟩ := ih _ _ _ _ hde h4 hwi
          exact ⟨q, cs, h3, q1, q2, q3, q4⟩
        obtain ⟨L, hL, hLc⟩ := ex_list _ len each
        subst hL
        refine ⟨[mkl (P.cellsOf e) (L.map (elOf (isAgT P e))) .sh], ?_, ⟨L, rfl, hz2, ?_⟩, ?_, fun v hv => by simp at hv; subst hv; rfl⟩
        · simp only [RepL]
          refine ⟨_, _, rfl, ?_, rfl⟩
          by_cases h0 : L = []
          · subst h0
            show Rep Any W [] (.list 0 [] .sh) _
            simp only [Rep]
            exact ⟨some a, cap, rfl, Nat.zero_le _, Nat.zero_le _, .inl trivial, trivial⟩
          · have hmk : mkl (P.cellsOf e) (L.map (elOf (isAgT P e))) .sh = .list (P.cellsOf e) (L.map (elOf (isAgT P e))) .sh := by
              cases L with
              | nil => exact absurd rfl h0
              | cons => rfl
            rw [hmk]
            simp only [Rep, List.length_map]
            refine ⟨some a, cap, rfl, hl, by omega, .inr ?_, trivial⟩
            have ha : a = ⟨a.block, a.off, none⟩ := by
              have hpos : 0 < L.length := List.length_pos_iff.mpr h0
              obtain ⟨cs0, c1, c2, c3, c4, c5⟩ := hLc 0 hpos
              have hc := World.cells?_some c1
              have c := hc.2.2 0 hpos2
              simp only [Nat.zero_mul] at c
              have e1 : (a.add 0).add 0 = a := by simp [Addr.add]
              rw [e1] at c
              rw [List.getElem?_eq_getElem (by omega)] at c
              exact addr_pl c
            refine ⟨a.block, a.off, by rw [← ha], RepE.of _ _ fun i hi => ?_⟩
            have hi' : i < L.length := by simpa using hi
            obtain ⟨cs, c1, c2, c3, c4, c5⟩ := hLc i hi'
            have hc := World.cells?_some c1
            have cell : ∀ j v, cs[j]? = some v → W.cell? ⟨a.block, a.off + i * P.cellsOf e + j, none⟩ = some v ∧ Any a.block (a.off + i * P.cellsOf e + j) ∧ isOne v = true := by
              intro j v hv
              have hj : j < cs.length := by
                rcases Nat.lt_or_ge j cs.length with h | h
                · exact h
                · rw [List.getElem?_eq_none h] at hv; cases hv
              have := hc.2.2 j (by omega)
              rw [ha, addr_ad, addr_ad, hv] at this
              exact ⟨this, trivial, c5 v (List.mem_of_getElem? hv)⟩
            rw [List.getElem_map]
            by_cases hA : isAgT P e = true
            · have hel : elOf (isAgT P e) L[i] = .agg L[i] := by simp [elOf, hA]
              rw [hel]
              refine ⟨c4, .agg cs.toArray, by simp only [Rep]; exact ⟨_, rfl, c2⟩, by simpa [Value.cells] using hc.2.1, fun j v hv => cell j v (by simpa [Value.cells] using hv)⟩
            · have h1 : P.cellsOf e = 1 := by rcases hag with h | h; exact absurd h hA; exact h
              have hl2 := c2.length
              match hq : L[i], cs, hc.2.1, c2, c4, c5, cell with
              | [q], [v], _, c2, c4, c5, cell =>
                have hel : elOf (isAgT P e) [q] = q := by simp [elOf, hA]
                rw [hel]
                simp only [List.all_cons, List.all_nil, Bool.and_true] at c4
                have hqc : q.cells = [q] := by cases q <;> first | rfl | cases c4
                simp only [RepL] at c2
                obtain ⟨v', _, e1, c2, rfl⟩ := c2
                cases e1
                have hv1 : isOne v = true := c5 v (by simp)
                have hvc : v.cells = #[v] := by cases v <;> first | rfl | cases hv1
                refine ⟨by rw [hqc]; simp [c4], v, c2, by rw [hvc]; simp [h1], fun j u hu => cell j u (by rw [hvc] at hu; exact hu)⟩
              | [], [v], _, _, _, _, _ => rw [hq] at hl2; simp at hl2
              | _ :: _ :: _, [v], _, _, _, _, _ => rw [hq] at hl2; simp at hl2
              | _, [], hh, _, _, _, _ => simp at hh; omega
              | _, _ :: _ :: _, hh, _, _, _, _ => simp at hh; omega
        · intro x hx
          obtain ⟨i, hi, rfl⟩ := List.mem_iff_getElem.mp hx
          obtain ⟨cs, _, _, q2, _⟩ := hLc i hi
          exact q2
        · cases L <;> rfl
    · rename_i fs hu
      simp only [Bool.and_eq_true] at hd
      obtain ⟨xs, m, rfl, rfl, hl, hxs, hel⟩ := DataW.trod_struct hu h
      simp only [DataW.weights, hu] at hw
      obtain ⟨ds, h1, h2, h3, h4⟩ := open_fields (d := d) hl (ih m) fs.toList 0 xs hd.1 hd.2 (by simpa using hxs) (fun i f hf => hel i f (by simpa using hf)) hw
      exact ⟨ds, by simpa using h1, h2, h3, by simpa using h4⟩
    · rename_i cnt e hu
      simp only [Bool.and_eq_true, beq_iff_eq] at hd
      obtain ⟨xs, m, rfl, rfl, hl, hxs, hel⟩ := DataW.trod_array hu h
      simp only [DataW.weights, hu] at hw
      obtain ⟨l, h0, h1, h2, h3, h4⟩ := open_items (d := d) (e := e) (cs := cs) hd.2 (ih m) xs 0 (by rw [hl, hd.1, hxs, Nat.zero_add]) (fun i hi => by rw [Nat.zero_add]; exact hel i (by omega)) hw
      exact ⟨l.flatten, by simpa using h1, ⟨l, by rw [h0, hxs], rfl, h2⟩, h3, by simpa using h4⟩
    · cases hd
/-- an argument: a value of its own deep value -/
theorem open_arg (d : Nat) {t : TypeId} {r : Reach} {b0 : Nat} {v : Value} {x : DataW H} {ps : List MemPlace} (hd : deepT P d t = true) (hval : Value.okWide P W r b0 t v) (h : DataW.Trod enc' P W 0 spare held t v x ps) (hw : ∀ k ∈ x.weights P t, k ≤ reachBytes) :
    ∃ ds : List DV, Rep Any W [] (elOf (isAgT P t) ds) v ∧ Shp P d t ds := by
  obtain ⟨fuel, hf⟩ := h
  obtain ⟨ds, h1, h2, h3, h4⟩ := open_cells d fuel t v.cells.toList _ hd hf hw
  refine ⟨ds, ?_, h2⟩
  have one : isAgT P t = false → v.cells.toList = [v] → Rep Any W [] (elOf (isAgT P t) ds) v := by
    intro hA hv
    rw [hv] at h1
    match ds, h1 with
    | [q], h1 =>
      simp only [RepL] at h1
      obtain ⟨v', _, e1, h1, rfl⟩ := h1
      cases e1
      simpa [elOf, hA] using h1
    | [], h1 => simp [RepL] at h1
    | _ :: _ :: _, h1 => have := h1.length; simp at this
  cases d with
  | zero => cases hd
  | succ d =>
    unfold deepT at hd
    split at hd
    · rename_i k hu
      obtain ⟨m, rfl⟩ := okWide_int hu hval
      exact one (by unfold isAgT; rw [hu]) rfl
    · rename_i hu
      obtain ⟨m, rfl⟩ := okWide_bool hu hval
      exact one (by unfold isAgT; rw [hu]) rfl
    · rename_i hu
      obtain ⟨m, rfl⟩ := okWide_string hu hval
      exact one (by unfold isAgT; rw [hu]) rfl
    · rename_i e hu
      obtain ⟨_, _, _, rfl⟩ := okWide_slice hu hval
      exact one (by unfold isAgT; rw [hu]) rfl
    · rename_i fs hu
      obtain ⟨cs, rfl, _⟩ := okWide_struct hu hval
      have hA : isAgT P t = true := by unfold isAgT; rw [hu]
      simp only [elOf, hA, if_true, Rep]
      exact ⟨cs, rfl, h1⟩
    · rename_i n e hu
      have hA : isAgT P t = true := by unfold isAgT; rw [hu]
      unfold Value.okWide at hval
      rw [hu] at hval
      obtain ⟨cs, rfl, _⟩ := hval
      simp only [elOf, hA, if_true, Rep]
      exact ⟨cs, rfl, h1⟩
    · cases hd
end
attribute [irreducible] Shp isAgT
end Go.Proofs.Ytbhnkdnfmlnajaa
