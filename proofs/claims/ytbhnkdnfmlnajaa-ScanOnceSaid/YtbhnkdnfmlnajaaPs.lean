/- Deep values: each operation's step is what the machine does (third part: fields, elements, lengths, parts of lists). -/
import Derived.Test.YtbhnkdnfmlnajaaPq
namespace Go.Proofs.Ytbhnkdnfmlnajaa
open Go Go.RowKit

variable {P : Program} {B : Nat → Nat → Prop} {G : Gh} {w : World} {H Hr : Heap} {o : Oper} {a : Act} {slots : List DV} {d : DV} {e : Eff}

/-- elements in cells: what they hold is kept by I, the cells themselves by J -/
def RepX (I J : Nat → Nat → Prop) (w : World) (sz : Nat) : List DV → Nat → Nat → Prop
  | [], _, _ => True
  | x :: xs, b, o => (x.cells.all DV.leaf = true ∧ ∃ V, Rep I w [] x V ∧ V.cells.size = sz ∧ CellsAt J w b o V.cells.toList) ∧ RepX I J w sz xs b (o + sz)
theorem repX_of {I : Nat → Nat → Prop} {sz : Nat} : ∀ {xs : List DV} {b o' : Nat}, RepE I w sz xs b o' → RepX I I w sz xs b o'
  | [], _, _, _ => by simp [RepX]
  | x :: xs, b, o', h => by
    simp only [RepE] at h
    simp only [RepX]
    exact ⟨h.1, repX_of h.2⟩
theorem repX_to {I : Nat → Nat → Prop} {sz : Nat} : ∀ {xs : List DV} {b o' : Nat}, RepX I I w sz xs b o' → RepE I w sz xs b o'
  | [], _, _, _ => by simp [RepE]
  | x :: xs, b, o', h => by
    simp only [RepX] at h
    simp only [RepE]
    exact ⟨h.1, repX_to h.2⟩
theorem CellsAt.any {I : Nat → Nat → Prop} {b o' : Nat} {vs : List Value} (h : CellsAt I w b o' vs) : CellsAt (fun _ _ => True) w b o' vs := fun j v hj => ⟨(h j v hj).1, trivial, (h j v hj).2.2⟩
theorem RepX.any {I J : Nat → Nat → Prop} {sz : Nat} : ∀ {xs : List DV} {b o' : Nat}, RepX I J w sz xs b o' → RepX I (fun _ _ => True) w sz xs b o'
  | [], _, _, _ => by simp [RepX]
  | x :: xs, b, o', h => by
    simp only [RepX] at h ⊢
    obtain ⟨⟨h0, V, h1, h2, h3⟩, h4⟩ := h
    exact ⟨⟨h0, V, h1, h2, h3.any⟩, RepX.any h4⟩
theorem RepX.get {I J : Nat → Nat → Prop} {sz : Nat} : ∀ {xs : List DV} {b o' : Nat}, RepX I J w sz xs b o' → ∀ (i : Nat) (x : DV), xs[i]? = some x → x.cells.all DV.leaf = true ∧ ∃ V, Rep I w [] x V ∧ V.cells.size = sz ∧ CellsAt J w b (o' + i * sz) V.cells.toList
  | [], _, _, _, i, x, hx => by simp at hx
  | y :: xs, b, o', h, i, x, hx => by
    simp only [RepX] at h
    cases i with
    | zero => simp at hx; subst hx; simpa using h.1
    | succ i =>
      have := RepX.get h.2 i x (by simpa using hx)
      rw [show o' + (i + 1) * sz = o' + sz + i * sz by rw [Nat.add_mul]; omega]
      exact this
theorem RepX.of {I J : Nat → Nat → Prop} {sz : Nat} : ∀ {xs : List DV} {b o' : Nat}, (∀ (i : Nat) (x : DV), xs[i]? = some x → x.cells.all DV.leaf = true ∧ ∃ V, Rep I w [] x V ∧ V.cells.size = sz ∧ CellsAt J w b (o' + i * sz) V.cells.toList) → RepX I J w sz xs b o'
  | [], _, _, _ => by simp [RepX]
  | y :: xs, b, o', h => by
    simp only [RepX]
    refine ⟨by simpa using h 0 y rfl, RepX.of fun i x hx => ?_⟩
    have := h (i + 1) x (by simpa using hx)
    rw [show o' + sz + i * sz = o' + (i + 1) * sz by rw [Nat.add_mul]; omega]
    exact this
theorem RepX.part {I J : Nat → Nat → Prop} {sz : Nat} {xs : List DV} {b o' : Nat} (h : RepX I J w sz xs b o') (l k : Nat) : RepX I J w sz ((xs.take k).drop l) b (o' + l * sz) := by
  refine RepX.of fun i x hx => ?_
  rw [List.getElem?_drop, List.getElem?_take] at hx
  split at hx
  · have := h.get (l + i) x hx
    rw [show o' + l * sz + i * sz = o' + (l + i) * sz by rw [Nat.add_mul]; omega]
    exact this
  · cases hx
theorem CellsAt.move {I J : Nat → Nat → Prop} {w' : World} {b o' b' o2 n : Nat} {vs : List Value} (h : CellsAt I w b o' vs) (hn : vs.length ≤ n) (hm : ∀ j, j < n → w'.cell? ⟨b', o2 + j, none⟩ = w.cell? ⟨b, o' + j, none⟩ ∧ J b' (o2 + j)) : CellsAt J w' b' o2 vs := fun j v hj => by
  have hlt := (List.getElem?_eq_some_iff.1 hj).1
  obtain ⟨h1, h2⟩ := hm j (by omega)
  exact ⟨h1.trans (h j v hj).1, h2, (h j v hj).2.2⟩
/-- elements that are copied -/
theorem RepX.move {I I' J J' : Nat → Nat → Prop} {w' : World} {sz b o' b' o2 : Nat} {xs : List DV} (h : RepX I J w sz xs b o') (hs : Stay I I' w w')
    (hm : ∀ j, j < xs.length * sz → w'.cell? ⟨b', o2 + j, none⟩ = w.cell? ⟨b, o' + j, none⟩ ∧ J' b' (o2 + j)) : RepX I' J' w' sz xs b' o2 := by
  refine RepX.of fun i x hx => ?_
  obtain ⟨h0, V, h1, h2, h3⟩ := h.get i x hx
  have hi := (List.getElem?_eq_some_iff.1 hx).1
  refine ⟨h0, V, Rep.stay hs (Evol.nil []) x V h1, h2, h3.move (n := sz) (by simp [h2]) fun j hj => ?_⟩
  have : i * sz + j < xs.length * sz := by
    have := Nat.mul_le_mul_right sz (show i + 1 ≤ xs.length from hi)
    rw [Nat.add_mul] at this; omega
  have := hm (i * sz + j) this
  rwa [← Nat.add_assoc, ← Nat.add_assoc] at this
theorem RepX.app {I J : Nat → Nat → Prop} {sz b o' : Nat} {xs ys : List DV} (h : RepX I J w sz xs b o') (k : RepX I J w sz ys b (o' + xs.length * sz)) : RepX I J w sz (xs ++ ys) b o' := by
  refine RepX.of fun i x hx => ?_
  rcases Nat.lt_or_ge i xs.length with hi | hi
  · rw [List.getElem?_append_left hi] at hx; exact h.get i x hx
  · rw [List.getElem?_append_right hi] at hx
    have := k.get _ x hx
    rwa [Nat.add_assoc, ← Nat.add_mul, Nat.add_sub_cancel' hi] at this
/-- the cells of elements -/
theorem RepX.vals {I J : Nat → Nat → Prop} {sz : Nat} : ∀ {xs : List DV} {b o' : Nat}, RepX I J w sz xs b o' → ∃ us : List Value, us.length = xs.length * sz ∧ CellsAt J w b o' us ∧ RepL I w [] ((xs.map DV.cells).flatten) us
  | [], _, _, _ => ⟨[], by simp, fun j v hj => by simp at hj, by simp [RepL]⟩
  | x :: xs, b, o', h => by
    simp only [RepX] at h
    obtain ⟨⟨h0, V, h1, h2, h3⟩, h4⟩ := h
    obtain ⟨us, k1, k2, k3⟩ := RepX.vals h4
    obtain ⟨r1, _⟩ := rep_cells h0 h1
    refine ⟨V.cells.toList ++ us, by simp [h2, k1, Nat.add_mul]; omega, fun j v hj => ?_, by simpa using r1.app k3⟩
    rcases Nat.lt_or_ge j V.cells.toList.length with hj' | hj'
    · rw [List.getElem?_append_left hj'] at hj; exact h3 j v hj
    · rw [List.getElem?_append_right hj'] at hj
      have := k2 _ v hj
      simp only [Array.length_toList, h2] at this hj'
      rwa [Nat.add_assoc, Nat.add_sub_cancel' hj'] at this
theorem repX_val {G : Gh} {I : Nat → Nat → Prop} {sz : Nat} {xs : List DV} {t : Tag} {V : Value} (h : Rep I w G (.list sz xs t) V) :
    ∃ A c, V = .slice A xs.length c ∧ xs.length ≤ c ∧ xs.length ≤ 140737488355328 ∧ (xs = [] ∨ ∃ b o, A = some ⟨b, o, none⟩ ∧ RepX I I w sz xs b o) ∧ TagOk G sz xs.length A c t := by
  simp only [Rep] at h
  obtain ⟨A, c, e, h1, h2, h3, h4⟩ := h
  exact ⟨A, c, e, h1, h2, h3.imp id fun ⟨b, o, e, h⟩ => ⟨b, o, e, repX_of h⟩, h4⟩
theorem repX_mk {G : Gh} {I : Nat → Nat → Prop} {sz : Nat} {xs : List DV} {t : Tag} {A : Option Addr} {c : Nat} (h1 : xs.length ≤ c) (h2 : xs.length ≤ 140737488355328) (h3 : xs = [] ∨ ∃ b o, A = some ⟨b, o, none⟩ ∧ RepX I I w sz xs b o)
    (h4 : TagOk G sz xs.length A c t) : Rep I w G (.list sz xs t) (.slice A xs.length c) := by
  simp only [Rep]
  exact ⟨A, c, rfl, h1, h2, h3.imp id fun ⟨b, o, e, h⟩ => ⟨b, o, e, repX_to h⟩, h4⟩
theorem rep_mkl {G : Gh} {I : Nat → Nat → Prop} {sz : Nat} {xs : List DV} {t : Tag} {V : Value} (ht : ∀ k, t ≠ .own k) (h : Rep I w G (.list sz xs t) V) : Rep I w G (mkl sz xs t) V := by
  unfold mkl
  split
  · simp only [Rep] at h ⊢
    obtain ⟨A, c, e, h1, h2, h3, h4⟩ := h
    refine ⟨A, c, e, h1, h2, .inl trivial, ?_⟩
    cases t with
    | own k => exact absurd rfl (ht k)
    | _ => exact h4
  · exact h

theorem int_val {I : Nat → Nat → Prop} {x : DV} {n : Int} {V : Value} (h : intD x = some n) (k : Rep I w G x V) : ∃ kd, V = .int kd n := by
  unfold intD at h
  split at h
  · cases h
    simp only [Rep] at k
    exact ⟨_, k⟩
  · cases h
theorem op_fieldAddr {s : TypeId} {x : Operand} {f : Nat} {fs : Array Field} {fd : Field} {i : TypeInfo} (ho : o.op = .fieldAddr s x f) (hu : P.underlying s = some (.struct fs)) (hf : fs[f]? = some fd) (hi : P.info? fd.type = some i)
    (h : qv (fieldD fd.offset i.size (evalD slots x)) = some (d, e)) (hH : HR B G w Hr) (hs : SR (ImmB B G) w G slots a) : OpOk P B G w Hr o a d e := by
  obtain ⟨hp, rfl⟩ := qv_some h
  have hx := hs.eval x
  unfold fieldD at hp
  split at hp
  · cases hp
  · rename_i hz
    split at hp
    · rename_i k off hk
      cases hp
      rw [hk] at hx
      simp only [Rep] at hx
      obtain ⟨b, hG, hx⟩ := hx
      refine OpOk.still hH (V := .pointer (some ⟨b, off + fd.offset, none⟩)) ?_ (by simp only [Rep]; exact ⟨b, hG, rfl⟩) rfl
      simp [execOp, ho, hx, Instr.fieldAt, run_underlying hu, hf, Instr.sureAddr, fieldPlace, size_run hi, hz, addr_at]
    · rename_i y off hk
      cases hp
      rw [hk] at hx
      simp only [Rep] at hx
      obtain ⟨h0, b, o', E, hx, h1, h2⟩ := hx
      refine OpOk.still hH (V := .pointer (some ⟨b, o' + (off + fd.offset), none⟩)) ?_ (by simp only [Rep]; exact ⟨h0, b, o', E, rfl, h1, h2⟩) rfl
      simp [execOp, ho, hx, Instr.fieldAt, run_underlying hu, hf, Instr.sureAddr, fieldPlace, size_run hi, hz, addr_at, Nat.add_assoc]
    · cases hp
theorem part_run {I : Nat → Nat → Prop} {t : TypeId} {ag : Bool} {sz off : Nat} {cs : List DV} {vs : Array Value} (ht : aggSz P t = some (ag, sz)) (hr : RepL I w G cs vs.toList) (h : partD ag sz off cs = some d) :
    ∃ V, (part t vs off).run P w = .ok V w ∧ Rep I w G d V := by
  obtain ⟨i, hi, rfl, hag⟩ := aggSz_some ht
  unfold part
  simp only [Sem.run_bind, hag, Result.andThen_ok]
  cases ag with
  | false =>
    simp only [partD, Bool.false_eq_true, if_false] at h ⊢
    obtain ⟨v, hv, hd⟩ := hr.get off d h
    simp only [Array.getElem?_toList] at hv
    exact ⟨v, by simp [hv], hd⟩
  | true =>
    simp only [partD, if_true] at h ⊢
    split at h
    · cases h
      refine ⟨.agg (vs.extract off (off + i.size)), by simp [size_run hi], ?_⟩
      simp only [Rep]
      refine ⟨_, rfl, ?_⟩
      have := (hr.drop off).take i.size
      have e1 : (vs.extract off (off + i.size)).toList = (vs.toList.drop off).take i.size := by
        rw [Array.toList_extract]; simp [List.extract_eq_take_drop]
      rw [e1]; exact this
    · cases h
theorem op_field {t : TypeId} {x : Operand} {f : Nat} {fs : Array Field} {fd : Field} {ag : Bool} {sz : Nat} {cs : List DV} (ho : o.op = .field t x f) (hu : P.underlying t = some (.struct fs)) (hf : fs[f]? = some fd) (ht : aggSz P fd.type = some (ag, sz)) (hc : evalD slots x = .agg cs)
    (h : qv (partD ag sz fd.offset cs) = some (d, e)) (hH : HR B G w Hr) (hs : SR (ImmB B G) w G slots a) : OpOk P B G w Hr o a d e := by
  obtain ⟨hp, rfl⟩ := qv_some h
  have hx := hs.eval x
  rw [hc] at hx
  simp only [Rep] at hx
  obtain ⟨vs, hx, hr⟩ := hx
  obtain ⟨V, hrun, hd⟩ := part_run ht hr hp
  refine OpOk.still hH (V := V) ?_ hd rfl
  simp [execOp, ho, hx, Instr.field, run_underlying hu, hf, asAgg, hrun]
theorem op_index {t : TypeId} {x i : Operand} {len : Nat} {et : TypeId} {ag : Bool} {sz : Nat} {n : Int} {cs : List DV} (ho : o.op = .index t x i) (hu : P.underlying t = some (.array len et)) (ht : aggSz P et = some (ag, sz)) (hn : intD (evalD slots i) = some n) (hc : evalD slots x = .agg cs)
    (h0 : 0 ≤ n ∧ n < len) (h : qv (partD ag sz (n.toNat * sz) cs) = some (d, e)) (hH : HR B G w Hr) (hs : SR (ImmB B G) w G slots a) : OpOk P B G w Hr o a d e := by
  obtain ⟨hp, rfl⟩ := qv_some h
  have hx := hs.eval x
  rw [hc] at hx
  simp only [Rep] at hx
  obtain ⟨vs, hx, hr⟩ := hx
  obtain ⟨kd, hi⟩ := int_val hn (hs.eval i)
  obtain ⟨V, hrun, hd⟩ := part_run ht hr hp
  obtain ⟨inf, hinf, hsz, _⟩ := aggSz_some ht
  refine OpOk.still hH (V := V) ?_ hd rfl
  simp [execOp, ho, hx, hi, Instr.index, asIntOf, run_underlying hu, h0, size_run hinf, hsz, hrun]
theorem op_idxArr {t : TypeId} {x i : Operand} {len : Nat} {et : TypeId} {ie : TypeInfo} (ho : o.op = .indexAddr t x i) (hu : P.underlying t = some (.array len et)) (hie : P.info? et = some ie)
    (h : qv (idxArr len ie.size (evalD slots x) (evalD slots i)) = some (d, e)) (hH : HR B G w Hr) (hs : SR (ImmB B G) w G slots a) : OpOk P B G w Hr o a d e := by
  obtain ⟨hp, rfl⟩ := qv_some h
  have hx := hs.eval x
  unfold idxArr at hp
  split at hp
  · rename_i n hn
    obtain ⟨kd, hi⟩ := int_val hn (hs.eval i)
    split at hp
    · rename_i h0
      split at hp
      · rename_i k off hk
        cases hp
        rw [hk] at hx
        simp only [Rep] at hx
        obtain ⟨b, hG, hx⟩ := hx
        refine OpOk.still hH (V := .pointer (some ⟨b, off + n.toNat * ie.size, none⟩)) ?_ (by simp only [Rep]; exact ⟨b, hG, rfl⟩) rfl
        simp [execOp, ho, hx, hi, Instr.indexAt, asIntOf, run_underlying hu, Instr.sureAddr, h0, size_run hie, addr_at]
      · rename_i y off hk
        cases hp
        rw [hk] at hx
        simp only [Rep] at hx
        obtain ⟨hl, b, o', E, hx, h1, h2⟩ := hx
        refine OpOk.still hH (V := .pointer (some ⟨b, o' + (off + n.toNat * ie.size), none⟩)) ?_ (by simp only [Rep]; exact ⟨hl, b, o', E, rfl, h1, h2⟩) rfl
        simp [execOp, ho, hx, hi, Instr.indexAt, asIntOf, run_underlying hu, Instr.sureAddr, h0, size_run hie, addr_at, Nat.add_assoc]
      · cases hp
    · cases hp
  · cases hp
theorem op_idxSl {t : TypeId} {x i : Operand} {et : TypeId} {ie : TypeInfo} (ho : o.op = .indexAddr t x i) (hu : P.underlying t = some (.slice et)) (hie : P.info? et = some ie)
    (h : qv (idxSl ie.size (evalD slots x) (evalD slots i)) = some (d, e)) (hH : HR B G w Hr) (hs : SR (ImmB B G) w G slots a) : OpOk P B G w Hr o a d e := by
  obtain ⟨hp, rfl⟩ := qv_some h
  have hx := hs.eval x
  unfold idxSl at hp
  split at hp
  · rename_i n hn
    obtain ⟨kd, hi⟩ := int_val hn (hs.eval i)
    split at hp
    · rename_i h0
      split at hp
      · rename_i s xs tg hk
        split at hp
        · rename_i hsz
          cases hxs : xs[n.toNat]? with
          | none => simp [hxs] at hp
          | some y =>
            simp [hxs] at hp
            subst hp
            rw [hk] at hx
            obtain ⟨A, c, hx, _, _, hE, _⟩ := repX_val hx
            have hlt := (List.getElem?_eq_some_iff.1 hxs).1
            have hne : xs ≠ [] := fun e => by subst e; simp at hlt
            obtain ⟨b, o', rfl, hE2⟩ := hE.resolve_left hne
            obtain ⟨hl, V, h1, h2, h3⟩ := hE2.get _ y hxs
            refine OpOk.still hH (V := .pointer (some ⟨b, o' + n.toNat * ie.size, none⟩)) ?_ (by simp only [Rep]; exact ⟨hl, b, o' + n.toNat * s, V, by rw [hsz]; rfl, h1, h3⟩) rfl
            have hlt' : n < (xs.length : Int) := by omega
            simp [execOp, ho, hx, hi, Instr.indexAt, asIntOf, run_underlying hu, h0, hlt', size_run hie, addr_at]
        · cases hp
      · rename_i ag s k off len c hk
        split at hp
        · rename_i hsz
          cases hp
          rw [hk] at hx
          simp only [Rep] at hx
          obtain ⟨b, hG, hx⟩ := hx
          refine OpOk.still hH (V := .pointer (some ⟨b, off + n.toNat * ie.size, none⟩)) ?_ (by simp only [Rep]; exact ⟨b, hG, rfl⟩) rfl
          simp [execOp, ho, hx, hi, Instr.indexAt, asIntOf, run_underlying hu, h0, hsz.2, size_run hie, addr_at]
        · cases hp
      · cases hp
    · cases hp
  · cases hp
theorem sliceBound_run {x : Value} {kd : IntKind} {n : Int} {y : Nat} {code : BoundsCode} (hx : x = .int kd n) (h0 : 0 ≤ n) (h1 : n ≤ y) : (Instr.sliceBound x y code).run P w = .ok n.toNat w := by
  subst hx
  simp [Instr.sliceBound, asIntOf, h0, h1]
theorem bounds_run {isL isSl : Bool} {len cap rc l k m : Nat} {lo hi mx : Option Operand} {lo' hi' mx' : Option Int} (hlo : optD (lo.map (evalD slots)) = some lo') (hhi : optD (hi.map (evalD slots)) = some hi') (hmx : optD (mx.map (evalD slots)) = some mx')
    (h : boundsD isL len cap lo' hi' mx' = some (l, k, m)) (hs : SR (ImmB B G) w G slots a) (hc : cap ≤ rc) (hl : len ≤ rc) :
    (Instr.sliceBounds isSl len rc (lo.map a.eval) (hi.map a.eval) (mx.map a.eval)).run P w = .ok (l, k, if mx.isSome then m else rc) w ∧ l ≤ k ∧ k ≤ len ∧ k ≤ m ∧ m ≤ cap ∧ (mx.isSome = mx'.isSome) ∧ (mx' = none → m = cap) := by
  have one : ∀ {x : Option Operand} {x' : Option Int}, optD (x.map (evalD slots)) = some x' → (x = none ∧ x' = none) ∨ ∃ y n kd, x = some y ∧ x' = some n ∧ a.eval y = .int kd n := by
    intro x x' h
    cases x with
    | none => simp [optD] at h; exact .inl ⟨rfl, h.symm⟩
    | some y =>
      simp only [Option.map_some, optD] at h
      cases hn : intD (evalD slots y) with
      | none => simp [hn] at h
      | some n =>
        simp [hn] at h
        obtain ⟨kd, hk⟩ := int_val hn (hs.eval y)
        exact .inr ⟨y, n, kd, rfl, h.symm, hk⟩
  unfold boundsD at h
  simp only [] at h
  split at h
  · rename_i hc1
    obtain ⟨c1, c2, c3, c4, c5, c6, c7, c8⟩ := hc1
    injection h with h
    injection h with h1 h
    injection h with h2 h3
    rcases one hmx with ⟨rfl, rfl⟩ | ⟨ym, nm, km, rfl, rfl, em⟩
    · simp only [Option.getD_none] at c3 c6 h3
      have hm : m = cap := by omega
      rcases one hhi with ⟨rfl, rfl⟩ | ⟨yh, nh, kh, rfl, rfl, eh⟩ <;> rcases one hlo with ⟨rfl, rfl⟩ | ⟨yl, nl, kl, rfl, rfl, el⟩ <;> simp only [Option.getD_some, Option.getD_none] at c1 c2 c3 c4 h1 h2
      · refine ⟨?_, by omega, by omega, by omega, by omega, rfl, fun _ => hm⟩
        simp [Instr.sliceBounds]; omega
      · refine ⟨?_, by omega, by omega, by omega, by omega, rfl, fun _ => hm⟩
        simp [Instr.sliceBounds, sliceBound_run el c1 c2]; omega
      · refine ⟨?_, by omega, by omega, by omega, by omega, rfl, fun _ => hm⟩
        simp [Instr.sliceBounds, sliceBound_run eh (by omega) (show nh ≤ (rc : Int) by omega)]; omega
      · refine ⟨?_, by omega, by omega, by omega, by omega, rfl, fun _ => hm⟩
        have hle : nl ≤ ((nh.toNat : Nat) : Int) := by omega
        simp [Instr.sliceBounds, sliceBound_run eh (by omega) (show nh ≤ (rc : Int) by omega), sliceBound_run el c1 hle]; omega
    · simp only [Option.getD_some] at c3 c5 c6 c8 h3
      rcases one hhi with ⟨rfl, rfl⟩ | ⟨yh, nh, kh, rfl, rfl, eh⟩
      · simp at c8
      · rcases one hlo with ⟨rfl, rfl⟩ | ⟨yl, nl, kl, rfl, rfl, el⟩ <;> simp only [Option.getD_some, Option.getD_none] at c1 c2 c3 c4 h1 h2
        · refine ⟨?_, by omega, by omega, by omega, by omega, rfl, fun h => by cases h⟩
          have hle : nh ≤ ((nm.toNat : Nat) : Int) := by omega
          simp [Instr.sliceBounds, sliceBound_run em (by omega) (show nm ≤ (rc : Int) by omega), sliceBound_run eh (by omega) hle]; omega
        · refine ⟨?_, by omega, by omega, by omega, by omega, rfl, fun h => by cases h⟩
          have hle : nh ≤ ((nm.toNat : Nat) : Int) := by omega
          have hle' : nl ≤ ((nh.toNat : Nat) : Int) := by omega
          simp [Instr.sliceBounds, sliceBound_run em (by omega) (show nm ≤ (rc : Int) by omega), sliceBound_run eh (by omega) hle, sliceBound_run el c1 hle']; omega
  · cases h
end Go.Proofs.Ytbhnkdnfmlnajaa
