/- Deep values: each operation's step is what the machine does (sixth part: copy, what is built and made). -/
import Derived.Test.YtbhnkdnfmlnajaaPu
namespace Go.Proofs.Ytbhnkdnfmlnajaa
open Go Go.RowKit

variable {P : Program} {B : Nat → Nat → Prop} {G : Gh} {w : World} {H Hr : Heap} {o : Oper} {a : Act} {slots : List DV} {d : DV} {e : Eff}

theorem op_copy {c : Call} {x y : Operand} {t t' et : TypeId} {ag : Bool} {sz fl : Nat} (ho : o.op = .call c) (hc : c.callee = .builtin .copy) (hx : c.args.toList = [x, y]) (ht : c.argTypes.toList = [t, t']) (hu : P.underlying t = some (.slice et))
    (hsz : aggSz P et = some (ag, sz)) (h : copyD ag sz (evalD slots x) (evalD slots y) H fl = some (d, e)) (hH : HR B G w Hr) (hs : SR (ImmB B G) w G slots a) (hag : Agree e H Hr) :
    OpOk P B G w Hr o a d e ∧ (∀ k, k < fl → (e.heap H)[k]? = H[k]?) := by
  have hrun : (execOp a.eval o).run P w = ((Builtin.copy_ #[t, t'] o.type #[a.eval x, a.eval y]).run P w).andThen fun v w' => .ok (.value v) w' := by
    rw [built_run ho hc, args_eq hx, arr_eq ht]
    simp [builtin]
  have hvx := hs.eval x
  have hvy := hs.eval y
  obtain ⟨i, hi, hisz, _⟩ := aggSz_some hsz
  unfold copyD at h
  split at h
  · rename_i a' s k off n c' ys hk hsrc
    split at h
    · rename_i hcond
      obtain ⟨rfl, rfl, hfk⟩ := hcond
      split at h
      · rename_i e' cs hkH
        simp only [] at h
        split at h
        · rename_i hc2
          obtain ⟨q1, q2⟩ := hc2
          cases h
          have hag : Hr = H := hag
          subst hag
          rw [hk] at hvx
          simp only [Rep] at hvx
          obtain ⟨b, hG, ex⟩ := hvx
          obtain ⟨A2, c2, ey, yE⟩ := src_rep hsrc hvy hH
          obtain ⟨C, h1, h2, h3⟩ := hH.cells hkH hG
          obtain ⟨m, hm⟩ : ∃ m, min ys.length n = m := ⟨_, rfl⟩
          rw [hm] at q1 q2 ⊢
          have hml : m ≤ ys.length := by omega
          have hnews : ∃ us : List Value, us.length = m * s ∧ (∀ v ∈ us, isOne v = true) ∧ RepL (ImmB B G) w G (((ys.take m).map DV.cells).flatten) us ∧ (Builtin.firstCells s m (.slice A2 ys.length c2)).run P w = .ok us.toArray w := by
            rcases yE with rfl | ⟨b2, o2, rfl, yX⟩
            · have : m = 0 := by simpa using hml
              subst this
              refine ⟨[], by simp, by simp, by simp [RepL], ?_⟩
              cases A2 <;> simp [Builtin.firstCells, loadCells, loadCellsFrom]
            · have := yX.part 0 m
              simp only [List.drop_zero, Nat.zero_mul, Nat.add_zero] at this
              obtain ⟨us, u1, u2, u3⟩ := this.vals
              have hl : (ys.take m).length = m := by simp; omega
              rw [hl] at u1
              refine ⟨us, u1, fun v hv => ?_, RepL.nil' u3, ?_⟩
              · obtain ⟨j, hj⟩ := List.mem_iff_getElem?.1 hv
                exact (u2 j v hj).2.2
              · exact run_firstCells_some (P := P) w s m ⟨b2, o2, none⟩ ys.length c2 us u1 (fun j v hj => by rw [addr_at]; exact (u2 j v hj).1)
          obtain ⟨us, u1, u2, u3, u4⟩ := hnews
          have hst := run_storeCells_at (P := P) b off e' us 0 C w h1 (by have := h2.length; simp at this ⊢; omega) (all_one u2)
          rw [Nat.add_zero] at hst
          obtain ⟨C', hC'⟩ : ∃ C' : Array Value, (C.toList.take off ++ us ++ C.toList.drop (off + us.length)).toArray = C' := ⟨_, rfl⟩
          rw [hC'] at hst
          obtain ⟨hK, hH'⟩ := step_set hH hG (but_setRow w b C') (setRow_heap w b C _ e' (0, 0) h1) (cs' := splice off (((ys.take m).map DV.cells).flatten) cs) (by
            rw [← hC']; exact repL_splice h2 u3 off) (by
            rw [← hC']; exact one_splice h3 u2 off)
          refine ⟨OpOk.val (V := .int .i64 m) ?_ hK hH' (by simp [Rep]), fun j hj => ?_⟩
          · rw [hrun, ex, ey]
            have hmm : Nat.min ys.length n = m := hm
            simp [Builtin.copy_, run_underlying hu, size_run hi, hisz, Builtin.lenOf, hmm, u4, hst, goInt]
          · simp only [Eff.heap]; exact List.getElem?_set_ne (by omega)
        · cases h
      · cases h
    · cases h
  · cases h
theorem foldl_set (off : Nat) : ∀ (vs : List Value) (i : Nat) (C : Array Value), off + i + vs.length ≤ C.size →
    ((vs.zipIdx i).foldl (fun cs p => cs.setIfInBounds (off + p.2) p.1) C).toList = C.toList.take (off + i) ++ vs ++ C.toList.drop (off + i + vs.length)
  | [], i, C, _ => by simp
  | v :: rest, i, C, h => by
    rw [List.zipIdx_cons, List.foldl_cons, foldl_set off rest (i + 1) _ (by simp at h ⊢; omega)]
    have e := list_seg_step C.toList (off + i) v rest (by simp at h ⊢; omega)
    simpa [Array.toList_setIfInBounds, Nat.add_assoc] using e
theorem fill_ok {I : Nat → Nat → Prop} (place : Nat → Option (Nat × Nat)) (ρ : Operand → DV) (ev : Operand → Value) (hev : ∀ x, Rep I w G (ρ x) (ev x)) : ∀ (parts : List (Nat × Operand)) (cs : List DV) (C : Array Value) (r : List DV),
    RepL I w G cs C.toList → (∀ v ∈ C.toList, isOne v = true) → fillD place cs (parts.map fun p => (p.1, ρ p.2)) = some r →
    ∃ C', Instr.fill place C (parts.map fun p => (p.1, ev p.2)) = some C' ∧ RepL I w G r C'.toList ∧ ∀ v ∈ C'.toList, isOne v = true
  | [], cs, C, r, h1, h2, h => by
    simp only [List.map_nil, fillD] at h
    cases h
    exact ⟨C, rfl, h1, h2⟩
  | (i, x) :: parts, cs, C, r, h1, h2, h => by
    simp only [List.map_cons, fillD] at h
    split at h
    · cases h
    · rename_i off size hp
      split at h
      · cases h
      · rename_i hc
        have hc1 : (ρ x).cells.length = size := by
          rcases Nat.lt_trichotomy (ρ x).cells.length size with h' | h' | h'
          · exact absurd (.inl (by omega)) hc
          · exact h'
          · exact absurd (.inl (by omega)) hc
        have hc2 : off + (ρ x).cells.length ≤ cs.length := by
          rcases Nat.lt_or_ge cs.length (off + (ρ x).cells.length) with h' | h'
          · exact absurd (.inr (.inl h')) hc
          · exact h'
        have hc3 : (ρ x).cells.all DV.leaf = true := by
          cases hb : (ρ x).cells.all DV.leaf with
          | true => rfl
          | false => exact absurd (.inr (.inr hb)) hc
        obtain ⟨k1, k2⟩ := rep_cells hc3 (hev x)
        have hl := k1.length
        have hl2 := h1.length
        simp only [Array.length_toList] at hl hl2
        obtain ⟨C2, hC2⟩ : ∃ C2 : Array Value, (ev x).cells.zipIdx.foldl (fun cs p => cs.setIfInBounds (off + p.2) p.1) C = C2 := ⟨_, rfl⟩
        have hC2' : C2.toList = C.toList.take off ++ (ev x).cells.toList ++ C.toList.drop (off + (ev x).cells.toList.length) := by
          rw [← hC2, ← Array.foldl_toList, Array.toList_zipIdx]
          have := foldl_set off (ev x).cells.toList 0 C (by simp; omega)
          rw [Nat.add_zero] at this
          exact this
        obtain ⟨C', q1, q2, q3⟩ := fill_ok place ρ ev hev parts (splice off (ρ x).cells cs) C2 r (by rw [hC2']; exact repL_splice h1 k1 off) (by rw [hC2']; exact one_splice h2 k2 off) h
        refine ⟨C', ?_, q2, q3⟩
        simp only [List.map_cons, Instr.fill, hp]
        rw [if_neg (by simp; omega)]
        have : (fun (cs : Array Value) (x : Value × Nat) => match x with | (c, j) => cs.setIfInBounds (off + j) c) = fun cs p => cs.setIfInBounds (off + p.2) p.1 := rfl
        rw [this, hC2]
        exact q1
theorem parts_eq (parts : Array (Nat × Operand)) : (parts.map fun (i, x) => (i, a.eval x)).toList = parts.toList.map fun p => (p.1, a.eval p.2) := by
  rw [Array.toList_map]
theorem mapM_run {α β : Type} (f : α → Sem β) (g : α → Option β) (hf : ∀ x y, g x = some y → (f x).run P w = .ok y w) : ∀ (l : List α) (r : List β), mapO g l = some r → (l.mapM f).run P w = .ok r w
  | [], r, h => by
    simp only [mapO] at h
    cases h
    simp
  | x :: l, r, h => by
    simp only [mapO] at h
    split at h
    · rename_i y hy
      split at h
      · rename_i r' hr
        cases h
        rw [List.mapM_cons]
        simp [hf x y hy, mapM_run f g hf l r' hr]
      · cases h
    · cases h
theorem zero_leaf {z : Value} (h : (ofVal1 z).cells.all DV.leaf = true) : ∀ v ∈ z.cells.toList, isOne v = true := by
  have hr : Rep (fun _ _ => True) default [] (ofVal1 z) z := rep_ofVal1 z
  exact (rep_cells h hr).2
theorem op_buildS {t : TypeId} {parts : Array (Nat × Operand)} {fs : Array Field} {z : DV} {pl : List (Nat × Nat)} (ho : o.op = .build t parts) (hu : P.underlying t = some (.struct fs)) (hz : zeroD P t = some z) (hpl : placesD P fs.toList = some pl)
    (h : qv (buildS z pl (parts.toList.map fun p => (p.1, evalD slots p.2))) = some (d, e)) (hl : z.cells.all DV.leaf = true) (hH : HR B G w Hr) (hs : SR (ImmB B G) w G slots a) : OpOk P B G w Hr o a d e := by
  obtain ⟨hp, rfl⟩ := qv_some h
  unfold buildS at hp
  cases hf : fillD (pl[·]?) z.cells (parts.toList.map fun p => (p.1, evalD slots p.2)) with
  | none => simp [hf] at hp
  | some r =>
    simp [hf] at hp
    subst hp
    obtain ⟨zv, rfl, hzv⟩ := zeroD_some hz
    have hzr : Rep (ImmB B G) w G (ofVal1 zv) zv := rep_ofVal1 zv
    obtain ⟨k1, k2⟩ := rep_cells hl hzr
    obtain ⟨C', q1, q2, _⟩ := fill_ok (pl[·]?) (evalD slots) a.eval hs.eval parts.toList _ _ r k1 k2 hf
    refine OpOk.still hH (V := .agg C') ?_ (by simp only [Rep]; exact ⟨_, rfl, q2⟩) rfl
    unfold placesD at hpl
    have hm := mapM_run (P := P) (w := w) (fun f : Field => do pure (f.offset, ← sizeOf f.type)) (fun f => (P.info? f.type).map fun i => (f.offset, i.size)) (fun f y hy => by
      cases hi : P.info? f.type with
      | none => simp [hi] at hy
      | some i =>
        simp [hi] at hy
        subst hy
        simp [size_run hi]) fs.toList pl hpl
    have hm' : (fs.mapM (fun f : Field => do pure (f.offset, ← sizeOf f.type)) : Sem (Array (Nat × Nat))).run P w = .ok pl.toArray w := by
      rw [Array.mapM_eq_mapM_toList]
      simp only [Sem.run_map, hm, Result.andThen_ok]
    have hpl' : (fun i : Nat => pl.toArray[i]?) = (fun i : Nat => pl[i]?) := by funext i; simp
    simp only [execOp, ho, Instr.build, Sem.run_bind, hzv, Result.andThen_ok, run_underlying hu, hm', hpl', parts_eq, q1, Sem.run_pure]
theorem op_buildA {t : TypeId} {parts : Array (Nat × Operand)} {n : Nat} {et : TypeId} {i : TypeInfo} {z : DV} (ho : o.op = .build t parts) (hu : P.underlying t = some (.array n et)) (hz : zeroD P t = some z) (hi : P.info? et = some i)
    (h : qv (buildA z i.size (parts.toList.map fun p => (p.1, evalD slots p.2))) = some (d, e)) (hl : z.cells.all DV.leaf = true) (hH : HR B G w Hr) (hs : SR (ImmB B G) w G slots a) : OpOk P B G w Hr o a d e := by
  obtain ⟨hp, rfl⟩ := qv_some h
  unfold buildA at hp
  cases hf : fillD (fun j => some (j * i.size, i.size)) z.cells (parts.toList.map fun p => (p.1, evalD slots p.2)) with
  | none => simp [hf] at hp
  | some r =>
    simp [hf] at hp
    subst hp
    obtain ⟨zv, rfl, hzv⟩ := zeroD_some hz
    have hzr : Rep (ImmB B G) w G (ofVal1 zv) zv := rep_ofVal1 zv
    obtain ⟨k1, k2⟩ := rep_cells hl hzr
    obtain ⟨C', q1, q2, _⟩ := fill_ok _ (evalD slots) a.eval hs.eval parts.toList _ _ r k1 k2 hf
    refine OpOk.still hH (V := .agg C') ?_ (by simp only [Rep]; exact ⟨_, rfl, q2⟩) rfl
    simp only [execOp, ho, Instr.build, Sem.run_bind, hzv, Result.andThen_ok, run_underlying hu, size_run hi, parts_eq, q1, Sem.run_pure]
theorem rep_flat {α : Type} (l : List α) : ∀ (n i : Nat), i < n * l.length → (List.replicate n l).flatten[i]? = l[i % l.length]?
  | 0, i, h => by simp at h
  | n + 1, i, h => by
    rw [List.replicate_succ, List.flatten_cons]
    rcases Nat.lt_or_ge i l.length with hi | hi
    · rw [List.getElem?_append_left hi, Nat.mod_eq_of_lt hi]
    · rw [List.getElem?_append_right hi, rep_flat l n _ (by rw [Nat.add_mul] at h; omega), Nat.mod_eq_sub_mod hi]
theorem zeros_eq {z : Array Value} {n sz : Nat} (hz : z.size = sz) (h0 : 0 < sz) : ((Array.range (n * sz)).map (z[· % z.size]!)).toList = (List.replicate n z.toList).flatten := by
  refine List.ext_getElem? fun i => ?_
  simp only [Array.toList_map, Array.toList_range, List.getElem?_map]
  rcases Nat.lt_or_ge i (n * sz) with hi | hi
  · rw [rep_flat _ _ _ (by simpa [hz] using hi), List.getElem?_range hi]
    have : i % z.size < z.size := Nat.mod_lt _ (by omega)
    simp [this]
  · rw [List.getElem?_eq_none (by simpa using hi), List.getElem?_eq_none (by simpa [hz] using hi)]
    rfl
theorem repL_rep {I : Nat → Nat → Prop} {cs : List DV} {vs : List Value} (h : RepL I w G cs vs) : ∀ n, RepL I w G (List.replicate n cs).flatten (List.replicate n vs).flatten
  | 0 => by simp [RepL]
  | n + 1 => by
    rw [List.replicate_succ, List.replicate_succ, List.flatten_cons, List.flatten_cons]
    exact h.app (repL_rep h n)
theorem one_rep {vs : List Value} (h : ∀ v ∈ vs, isOne v = true) (n : Nat) : ∀ v ∈ (List.replicate n vs).flatten, isOne v = true := by
  intro v hv
  simp only [List.mem_flatten, List.mem_replicate] at hv
  obtain ⟨l, ⟨_, rfl⟩, hv⟩ := hv
  exact h v hv
theorem op_buildL {t : TypeId} {len : Nat} {parts : Array (Nat × Operand)} {et : TypeId} {ag : Bool} {sz : Nat} {z : DV} (ho : o.op = .buildSlice t len parts) (hu : P.underlying t = some (.slice et)) (ht : aggSz P et = some (ag, sz)) (hz : zeroD P et = some z)
    (h : qv (buildL ag sz len z (parts.toList.map fun p => (p.1, evalD slots p.2))) = some (d, e)) (hB : ∀ b j, w.heap.size ≤ b → B b j) (hH : HR B G w Hr) (hs : SR (ImmB B G) w G slots a) : OpOk P B G w Hr o a d e := by
  obtain ⟨hp, rfl⟩ := qv_some h
  unfold buildL at hp
  split at hp
  · cases hp
  · rename_i h24
    split at hp
    · rename_i hc
      obtain ⟨hzl, hok, hl⟩ := hc
      obtain ⟨h0, h1, h2⟩ := chunkOk_some hok
      split at hp
      · rename_i cs hf
        cases hm : mapO plainEl (chunk ag sz len cs) with
        | none => simp [hm] at hp
        | some xs =>
          simp [hm] at hp
          subst hp
          obtain ⟨zv, rfl, hzv⟩ := zeroD_some hz
          obtain ⟨i, hi, hisz, _⟩ := aggSz_some ht
          have hzs := zero_size hzl
          have hzr : Rep (ImmB B G) w G (ofVal1 zv) zv := rep_ofVal1 zv
          obtain ⟨k1, k2⟩ := rep_cells hl hzr
          obtain ⟨C0, hC0⟩ : ∃ C0 : Array Value, (Array.range (len * sz)).map ((zv.cells)[· % zv.cells.size]!) = C0 := ⟨_, rfl⟩
          have hC0l : C0.toList = (List.replicate len zv.cells.toList).flatten := by rw [← hC0]; exact zeros_eq hzs h0
          obtain ⟨C', q1, q2, q3⟩ := fill_ok (fun i => some (i * sz, sz)) (evalD slots) a.eval hs.eval parts.toList _ C0 cs (by rw [hC0l]; exact repL_rep k1 len) (by rw [hC0l]; exact one_rep k2 len) hf
          have hlen : cs.length = len * sz := by
            have fl : ∀ (ps : List (Nat × DV)) (cs r : List DV), fillD (fun i => some (i * sz, sz)) cs ps = some r → r.length = cs.length := by
              intro ps
              induction ps with
              | nil => intro cs r h; simp only [fillD] at h; cases h; rfl
              | cons p ps ih =>
                intro cs r h
                obtain ⟨i, x⟩ := p
                simp only [fillD] at h
                split at h
                · cases h
                · rename_i hc
                  have := ih _ _ h
                  rw [this]
                  unfold splice
                  simp only [List.length_append, List.length_take, List.length_drop]
                  omega
            rw [fl _ _ _ hf]
            simp [hzl]
          have hmo := more_alloc w (.cells C' et)
          obtain ⟨hK, hH'⟩ := step_new hH hmo
          have hrun : (execOp a.eval o).run P w = .ok (.value (.slice (some ⟨w.heap.size, 0, none⟩) len len)) (w.alloc (.cells C' et)) := by
            simp only [execOp, ho, Instr.buildSlice, Sem.run_bind, run_underlying hu, Result.andThen_ok, size_run hi, hisz]
            rw [if_neg (by omega)]
            by_cases hz0 : len * sz = 0
            · have hC00 : (Array.range (len * sz)).map ((#[] : Array Value)[· % (#[] : Array Value).size]!) = C0 := by
                rw [← hC0, hz0]; simp
              simp only [hz0, if_true] at hC00 ⊢
              simp only [Sem.run_bind, Sem.run_pure, Result.andThen_ok, hC00, parts_eq, q1, newRow]
              rfl
            · simp only [hz0, if_false]
              simp only [Sem.run_bind, Sem.run_pure, Result.andThen_ok, hzv, hC0, parts_eq, q1, newRow]
              rfl
          obtain ⟨r1, r2⟩ := chunk_rep (I := ImmB B G) (J := ImmB B G) (w := w.alloc (.cells C' et)) (b := w.heap.size) h0 h1 len cs C'.toList 0 xs hlen (q2.keep hK) (fun j v hj => by
            refine ⟨cells_at hmo.new j v hj, ⟨hB _ _ (Nat.le_refl _), fun k hk => ?_, fun k s c n hk => ?_⟩, q3 v (List.mem_of_getElem? hj)⟩
            · have := hH.lt (.inl hk : liveAt G k w.heap.size); omega
            · have := hH.lt (.inr ⟨_, _, _, hk⟩ : liveAt G k w.heap.size); omega) hm
          refine OpOk.val hrun hK hH' (rep_mkl (by simp) ?_)
          have := repX_mk (G := G) (xs := xs) (t := .ti) (A := some ⟨w.heap.size, 0, none⟩) (c := len) (by omega) (by omega) (.inr ⟨_, _, rfl, r1⟩) (by simp only [TagOk]; exact r2.symm)
          rw [r2] at this
          exact this
      · cases hp
    · cases hp
theorem op_make {t : TypeId} {x y : Operand} {et : TypeId} {ag : Bool} {sz nid : Nat} {i : TypeInfo} {z : DV} (ho : o.op = .makeSlice t x y) (hu : P.underlying t = some (.slice et)) (ht : aggSz P et = some (ag, sz)) (hi : P.info? et = some i) (hz : zeroD P et = some z)
    (h : makeD ag sz i.bytes et z (evalD slots x) (evalD slots y) nid = some (d, e)) (hB : ∀ b j, w.heap.size ≤ b → B b j) (hH : HR B G w Hr) (hs : SR (ImmB B G) w G slots a) (hag : Agree e H Hr) : OpOk P B G w Hr o a d e := by
  unfold makeD at h
  split at h
  · rename_i l c hl hc
    split at h
    · rename_i hcond
      obtain ⟨rfl, c0, c1, c2, hzl, h0, hzlf⟩ := hcond
      cases h
      have hag : Hr[nid]? = some .hole := hag
      obtain ⟨kd, ex⟩ := int_val hl (hs.eval x)
      obtain ⟨kd', ey⟩ := int_val hc (hs.eval y)
      obtain ⟨zv, rfl, hzv⟩ := zeroD_some hz
      have hzs := zero_size hzl
      have hzr : Rep (ImmB B G) w G (ofVal1 zv) zv := rep_ofVal1 zv
      obtain ⟨k1, k2⟩ := rep_cells hzlf hzr
      have hisz : i.size = sz := by
        obtain ⟨i', hi', h1, _⟩ := aggSz_some ht
        rw [hi] at hi'; cases hi'; exact h1
      obtain ⟨n, rfl⟩ : ∃ n : Nat, l = n := ⟨l.toNat, by omega⟩
      obtain ⟨C0, hC0⟩ : ∃ C0 : Array Value, (Array.range (n * sz)).map ((zv.cells)[· % zv.cells.size]!) = C0 := ⟨_, rfl⟩
      have hC0l : C0.toList = (List.replicate n zv.cells.toList).flatten := by rw [← hC0]; exact zeros_eq hzs h0
      have hlt : nid < Hr.length := (List.getElem?_eq_some_iff.1 hag).1
      have hg := List.getElem?_eq_getElem (show nid < G.length by rw [← hH.len]; exact hlt)
      have hG : G[nid]? = some GK.hole := by
        have := hH.blk _ _ _ hag hg
        cases hB : G[nid]'(by rw [← hH.len]; exact hlt) <;> rw [hB] at this <;> simp only [BlkRep] at this
        rw [hg, hB]
      obtain ⟨hK, hH'⟩ := step_fill hH hG hB (more_alloc w (.cells C0 et)) (cs := (List.replicate n (ofVal1 zv).cells).flatten) (by rw [hC0l]; exact repL_rep k1 n) (by rw [hC0l]; exact one_rep k2 n)
      refine OpOk.val (V := .slice (some ⟨w.heap.size, 0, none⟩) n n) ?_ hK (by simpa [Eff.heap] using hH') ?_
      · have hw : IntKind.i64.wrap (n : Int) = n := IntWalk.i64_in _ (by omega)
        have hb1 : ¬ ((i.bytes : Int) * (n : Int) > 2 ^ 48) := by rw [Int.mul_comm]; omega
        simp only [execOp, ho, Instr.makeSlice, Sem.run_bind, run_underlying hu, Result.andThen_ok, ex, ey, asInt, asIntOf, Sem.run_pure, run_typeInfo w hi, hw]
        have hcond : ((decide ((n : Int) < 0) || decide ((i.bytes : Int) * (n : Int) > 2 ^ 48)) || decide ((n : Int) < 0) || decide ((n : Int) > (n : Int))) = false := by
          simp; omega
        simp only [hcond, Bool.false_eq_true, if_false]
        simp only [Sem.run_bind, run_askRoom, Result.andThen_ok, size_run hi, Int.toNat_natCast, hisz]
        by_cases hz0 : n * sz = 0
        · have hC00 : (Array.range (n * sz)).map ((#[] : Array Value)[· % (#[] : Array Value).size]!) = C0 := by
            rw [← hC0, hz0]; simp
          simp only [hz0, if_true] at hC00 ⊢
          simp only [Sem.run_bind, Sem.run_pure, Result.andThen_ok, hC00, newRow]
          rfl
        · simp only [hz0, if_false]
          simp only [Sem.run_bind, Sem.run_pure, Result.andThen_ok, hzv, hC0, newRow]
          rfl
      · simp only [Rep, Int.toNat_natCast]
        exact ⟨_, List.getElem?_set_self (by rw [← hH.len]; exact hlt), rfl⟩
    · cases h
  · cases h
end Go.Proofs.Ytbhnkdnfmlnajaa
