/- Texts of mine, laid together: Pv, Pw, Px, Py, Pz, Pd, Pe, Pf, Pg. -/
import Derived.Test.YtbhnkdnfmlnajaaKT1
/- Deep values: each operation's step is what the machine does (sixth part: copy, what is built and made). -/
namespace Go.Proofs.Ytbhnkdnfmlnajaa
open Go Go.RowKit

variable {P : Program} {B : Nat → Nat → Prop} {G : Gh} {w : World} {H Hr : Heap} {o : Oper} {a : Act} {slots : List DV} {d : DV} {e : Eff}

theorem op_copy {c : Call} {x y : Operand} {t t' et : TypeId} {ag : Bool} {sz fl : Nat} (ho : o.op = .call c) (hc : c.callee = .builtin .copy) (hx : c.args.toList = [x, y]) (ht : c.argTypes.toList = [t, t']) (hu : P.underlying t = some (.slice et))
    (hsz : aggSz P et = some (ag, sz)) (h : copyD ag sz (evalD slots x) (evalD slots y) H fl = some (d, e)) (hH : HR B G w Hr) (hs : SR (ImmB B G) w G slots a) (hag : Agree e H Hr) :
    OpOk P B G w Hr o a d e ∧ (∀ k, k < fl → (e.heap H)[k]? = H[k]?) := by
  have hrun : (execOp a.eval o).run P w = ((Builtin.copy_ #[t, t'] o.type #[a.eval x, a.eval y]).run P w).andThen fun v w' => .ok (.value v) w' := by
    rw [built_run ho hc, args_eq hx, arr_eq ht]
    simp [builtin]
  have hvx := hs.eval x
  have hvy := hs.eval y
  obtain ⟨i, hi, hisz, _⟩ := aggSz_some hsz
  unfold copyD at h
  split at h
  · rename_i a' s k off n c' ys hk hsrc
    split at h
    · rename_i hcond
      obtain ⟨rfl, rfl, hfk⟩ := hcond
      split at h
      · rename_i e' cs hkH
        simp only [] at h
        split at h
        · rename_i hc2
          obtain ⟨q1, q2⟩ := hc2
          cases h
          have hag : Hr = H := hag
          subst hag
          rw [hk] at hvx
          simp only [Rep] at hvx
          obtain ⟨b, hG, ex⟩ := hvx
          obtain ⟨A2, c2, ey, yE⟩ := src_rep hsrc hvy hH
          obtain ⟨C, h1, h2, h3⟩ := hH.cells hkH hG
          obtain ⟨m, hm⟩ : ∃ m, min ys.length n = m := ⟨_, rfl⟩
          rw [hm] at q1 q2 ⊢
          have hml : m ≤ ys.length := by omega
          have hnews : ∃ us : List Value, us.length = m * s ∧ (∀ v ∈ us, isOne v = true) ∧ RepL (ImmB B G) w G (((ys.take m).map DV.cells).flatten) us ∧ (Builtin.firstCells s m (.slice A2 ys.length c2)).run P w = .ok us.toArray w := by
            rcases yE with rfl | ⟨b2, o2, rfl, yX⟩
            · have : m = 0 := by simpa using hml
              subst this
              refine ⟨[], by simp, by simp, by simp [RepL], ?_⟩
              cases A2 <;> simp [Builtin.firstCells, loadCells, loadCellsFrom]
            · have := yX.part 0 m
              simp only [List.drop_zero, Nat.zero_mul, Nat.add_zero] at this
              obtain ⟨us, u1, u2, u3⟩ := this.vals
              have hl : (ys.take m).length = m := by simp; omega
              rw [hl] at u1
              refine ⟨us, u1, fun v hv => ?_, RepL.nil' u3, ?_⟩
              · obtain ⟨j, hj⟩ := List.mem_iff_getElem?.1 hv
                exact (u2 j v hj).2.2
              · exact run_firstCells_some (P := P) w s m ⟨b2, o2, none⟩ ys.length c2 us u1 (fun j v hj => by rw [addr_at]; exact (u2 j v hj).1)
          obtain ⟨us, u1, u2, u3, u4⟩ := hnews
          have hst := run_storeCells_at (P := P) b off e' us 0 C w h1 (by have := h2.length; simp at this ⊢; omega) (all_one u2)
          rw [Nat.add_zero] at hst
          obtain ⟨C', hC'⟩ : ∃ C' : Array Value, (C.toList.take off ++ us ++ C.toList.drop (off + us.length)).toArray = C' := ⟨_, rfl⟩
          rw [hC'] at hst
          obtain ⟨hK, hH'⟩ := step_set hH hG (but_setRow w b C') (setRow_heap w b C _ e' (0, 0) h1) (cs' := splice off (((ys.take m).map DV.cells).flatten) cs) (by
            rw [← hC']; exact repL_splice h2 u3 off) (by
            rw [← hC']; exact one_splice h3 u2 off)
          refine ⟨OpOk.val (V := .int .i64 m) ?_ hK hH' (by simp [Rep]), fun j hj => ?_⟩
          · rw [hrun, ex, ey]
            have hmm : Nat.min ys.length n = m := hm
            simp [Builtin.copy_, run_underlying hu, size_run hi, hisz, Builtin.lenOf, hmm, u4, hst, goInt]
          · simp only [Eff.heap]; exact List.getElem?_set_ne (by omega)
        · cases h
      · cases h
    · cases h
  · cases h
theorem foldl_set (off : Nat) : ∀ (vs : List Value) (i : Nat) (C : Array Value), off + i + vs.length ≤ C.size →
    ((vs.zipIdx i).foldl (fun cs p => cs.setIfInBounds (off + p.2) p.1) C).toList = C.toList.take (off + i) ++ vs ++ C.toList.drop (off + i + vs.length)
  | [], i, C, _ => by simp
  | v :: rest, i, C, h => by
    rw [List.zipIdx_cons, List.foldl_cons, foldl_set off rest (i + 1) _ (by simp at h ⊢; omega)]
    have e := list_seg_step C.toList (off + i) v rest (by simp at h ⊢; omega)
    simpa [Array.toList_setIfInBounds, Nat.add_assoc] using e
theorem fill_ok {I : Nat → Nat → Prop} (place : Nat → Option (Nat × Nat)) (ρ : Operand → DV) (ev : Operand → Value) (hev : ∀ x, Rep I w G (ρ x) (ev x)) : ∀ (parts : List (Nat × Operand)) (cs : List DV) (C : Array Value) (r : List DV),
    RepL I w G cs C.toList → (∀ v ∈ C.toList, isOne v = true) → fillD place cs (parts.map fun p => (p.1, ρ p.2)) = some r →
    ∃ C', Instr.fill place C (parts.map fun p => (p.1, ev p.2)) = some C' ∧ RepL I w G r C'.toList ∧ ∀ v ∈ C'.toList, isOne v = true
  | [], cs, C, r, h1, h2, h => by
    simp only [List.map_nil, fillD] at h
    cases h
    exact ⟨C, rfl, h1, h2⟩
  | (i, x) :: parts, cs, C, r, h1, h2, h => by
    simp only [List.map_cons, fillD] at h
    split at h
    · cases h
    · rename_i off size hp
      split at h
      · cases h
      · rename_i hc
        have hc1 : (ρ x).cells.length = size := by
          rcases Nat.lt_trichotomy (ρ x).cells.length size with h' | h' | h'
          · exact absurd (.inl (by omega)) hc
          · exact h'
          · exact absurd (.inl (by omega)) hc
        have hc2 : off + (ρ x).cells.length ≤ cs.length := by
          rcases Nat.lt_or_ge cs.length (off + (ρ x).cells.length) with h' | h'
          · exact absurd (.inr (.inl h')) hc
          · exact h'
        have hc3 : (ρ x).cells.all DV.leaf = true := by
          cases hb : (ρ x).cells.all DV.leaf with
          | true => rfl
          | false => exact absurd (.inr (.inr hb)) hc
        obtain ⟨k1, k2⟩ := rep_cells hc3 (hev x)
        have hl := k1.length
        have hl2 := h1.length
        simp only [Array.length_toList] at hl hl2
        obtain ⟨C2, hC2⟩ : ∃ C2 : Array Value, (ev x).cells.zipIdx.foldl (fun cs p => cs.setIfInBounds (off + p.2) p.1) C = C2 := ⟨_, rfl⟩
        have hC2' : C2.toList = C.toList.take off ++ (ev x).cells.toList ++ C.toList.drop (off + (ev x).cells.toList.length) := by
          rw [← hC2, ← Array.foldl_toList, Array.toList_zipIdx]
          have := foldl_set off (ev x).cells.toList 0 C (by simp; omega)
          rw [Nat.add_zero] at this
          exact this
        obtain ⟨C', q1, q2, q3⟩ := fill_ok place ρ ev hev parts (splice off (ρ x).cells cs) C2 r (by rw [hC2']; exact repL_splice h1 k1 off) (by rw [hC2']; exact one_splice h2 k2 off) h
        refine ⟨C', ?_, q2, q3⟩
        simp only [List.map_cons, Instr.fill, hp]
        rw [if_neg (by simp; omega)]
        have : (fun (cs : Array Value) (x : Value × Nat) => match x with | (c, j) => cs.setIfInBounds (off + j) c) = fun cs p => cs.setIfInBounds (off + p.2) p.1 := rfl
        rw [this, hC2]
        exact q1
theorem parts_eq (parts : Array (Nat × Operand)) : (parts.map fun (i, x) => (i, a.eval x)).toList = parts.toList.map fun p => (p.1, a.eval p.2) := by
  rw [Array.toList_map]
theorem mapM_run {α β : Type} (f : α → Sem β) (g : α → Option β) (hf : ∀ x y, g x = some y → (f x).run P w = .ok y w) : ∀ (l : List α) (r : List β), mapO g l = some r → (l.mapM f).run P w = .ok r w
  | [], r, h => by
    simp only [mapO] at h
    cases h
    simp
  | x :: l, r, h => by
    simp only [mapO] at h
    split at h
    · rename_i y hy
      split at h
      · rename_i r' hr
        cases h
        rw [List.mapM_cons]
        simp [hf x y hy, mapM_run f g hf l r' hr]
      · cases h
    · cases h
theorem zero_leaf {z : Value} (h : (ofVal1 z).cells.all DV.leaf = true) : ∀ v ∈ z.cells.toList, isOne v = true := by
  have hr : Rep (fun _ _ => True) default [] (ofVal1 z) z := rep_ofVal1 z
  exact (rep_cells h hr).2
theorem op_buildS {t : TypeId} {parts : Array (Nat × Operand)} {fs : Array Field} {z : DV} {pl : List (Nat × Nat)} (ho : o.op = .build t parts) (hu : P.underlying t = some (.struct fs)) (hz : zeroD P t = some z) (hpl : placesD P fs.toList = some pl)
    (h : qv (buildS z pl (parts.toList.map fun p => (p.1, evalD slots p.2))) = some (d, e)) (hl : z.cells.all DV.leaf = true) (hH : HR B G w Hr) (hs : SR (ImmB B G) w G slots a) : OpOk P B G w Hr o a d e := by
  obtain ⟨hp, rfl⟩ := qv_some h
  unfold buildS at hp
  cases hf : fillD (pl[·]?) z.cells (parts.toList.map fun p => (p.1, evalD slots p.2)) with
  | none => simp [hf] at hp
  | some r =>
    simp [hf] at hp
    subst hp
    obtain ⟨zv, rfl, hzv⟩ := zeroD_some hz
    have hzr : Rep (ImmB B G) w G (ofVal1 zv) zv := rep_ofVal1 zv
    obtain ⟨k1, k2⟩ := rep_cells hl hzr
    obtain ⟨C', q1, q2, _⟩ := fill_ok (pl[·]?) (evalD slots) a.eval hs.eval parts.toList _ _ r k1 k2 hf
    refine OpOk.still hH (V := .agg C') ?_ (by simp only [Rep]; exact ⟨_, rfl, q2⟩) rfl
    unfold placesD at hpl
    have hm := mapM_run (P := P) (w := w) (fun f : Field => do pure (f.offset, ← sizeOf f.type)) (fun f => (P.info? f.type).map fun i => (f.offset, i.size)) (fun f y hy => by
      cases hi : P.info? f.type with
      | none => simp [hi] at hy
      | some i =>
        simp [hi] at hy
        subst hy
        simp [size_run hi]) fs.toList pl hpl
    have hm' : (fs.mapM (fun f : Field => do pure (f.offset, ← sizeOf f.type)) : Sem (Array (Nat × Nat))).run P w = .ok pl.toArray w := by
      rw [Array.mapM_eq_mapM_toList]
      simp only [Sem.run_map, hm, Result.andThen_ok]
    have hpl' : (fun i : Nat => pl.toArray[i]?) = (fun i : Nat => pl[i]?) := by funext i; simp
    simp only [execOp, ho, Instr.build, Sem.run_bind, hzv, Result.andThen_ok, run_underlying hu, hm', hpl', parts_eq, q1, Sem.run_pure]
theorem op_buildA {t : TypeId} {parts : Array (Nat × Operand)} {n : Nat} {et : TypeId} {i : TypeInfo} {z : DV} (ho : o.op = .build t parts) (hu : P.underlying t = some (.array n et)) (hz : zeroD P t = some z) (hi : P.info? et = some i)
    (h : qv (buildA z i.size (parts.toList.map fun p => (p.1, evalD slots p.2))) = some (d, e)) (hl : z.cells.all DV.leaf = true) (hH : HR B G w Hr) (hs : SR (ImmB B G) w G slots a) : OpOk P B G w Hr o a d e := by
  obtain ⟨hp, rfl⟩ := qv_some h
  unfold buildA at hp
  cases hf : fillD (fun j => some (j * i.size, i.size)) z.cells (parts.toList.map fun p => (p.1, evalD slots p.2)) with
  | none => simp [hf] at hp
  | some r =>
    simp [hf] at hp
    subst hp
    obtain ⟨zv, rfl, hzv⟩ := zeroD_some hz
    have hzr : Rep (ImmB B G) w G (ofVal1 zv) zv := rep_ofVal1 zv
    obtain ⟨k1, k2⟩ := rep_cells hl hzr
    obtain ⟨C', q1, q2, _⟩ := fill_ok _ (evalD slots) a.eval hs.eval parts.toList _ _ r k1 k2 hf
    refine OpOk.still hH (V := .agg C') ?_ (by simp only [Rep]; exact ⟨_, rfl, q2⟩) rfl
    simp only [execOp, ho, Instr.build, Sem.run_bind, hzv, Result.andThen_ok, run_underlying hu, size_run hi, parts_eq, q1, Sem.run_pure]
theorem rep_flat {α : Type} (l : List α) : ∀ (n i : Nat), i < n * l.length → (List.replicate n l).flatten[i]? = l[i % l.length]?
  | 0, i, h => by simp at h
  | n + 1, i, h => by
    rw [List.replicate_succ, List.flatten_cons]
    rcases Nat.lt_or_ge i l.length with hi | hi
    · rw [List.getElem?_append_left hi, Nat.mod_eq_of_lt hi]
    · rw [List.getElem?_append_right hi, rep_flat l n _ (by rw [Nat.add_mul] at h; omega), Nat.mod_eq_sub_mod hi]
theorem zeros_eq {z : Array Value} {n sz : Nat} (hz : z.size = sz) (h0 : 0 < sz) : ((Array.range (n * sz)).map (z[· % z.size]!)).toList = (List.replicate n z.toList).flatten := by
  refine List.ext_getElem? fun i => ?_
  simp only [Array.toList_map, Array.toList_range, List.getElem?_map]
  rcases Nat.lt_or_ge i (n * sz) with hi | hi
  · rw [rep_flat _ _ _ (by simpa [hz] using hi), List.getElem?_range hi]
    have : i % z.size < z.size := Nat.mod_lt _ (by omega)
    simp [this]
  · rw [List.getElem?_eq_none (by simpa using hi), List.getElem?_eq_none (by simpa [hz] using hi)]
    rfl
theorem repL_rep {I : Nat → Nat → Prop} {cs : List DV} {vs : List Value} (h : RepL I w G cs vs) : ∀ n, RepL I w G (List.replicate n cs).flatten (List.replicate n vs).flatten
  | 0 => by simp [RepL]
  | n + 1 => by
    rw [List.replicate_succ, List.replicate_succ, List.flatten_cons, List.flatten_cons]
    exact h.app (repL_rep h n)
theorem one_rep {vs : List Value} (h : ∀ v ∈ vs, isOne v = true) (n : Nat) : ∀ v ∈ (List.replicate n vs).flatten, isOne v = true := by
  intro v hv
  simp only [List.mem_flatten, List.mem_replicate] at hv
  obtain ⟨l, ⟨_, rfl⟩, hv⟩ := hv
  exact h v hv
theorem op_buildL {t : TypeId} {len : Nat} {parts : Array (Nat × Operand)} {et : TypeId} {ag : Bool} {sz : Nat} {z : DV} (ho : o.op = .buildSlice t len parts) (hu : P.underlying t = some (.slice et)) (ht : aggSz P et = some (ag, sz)) (hz : zeroD P et = some z)
    (h : qv (buildL ag sz len z (parts.toList.map fun p => (p.1, evalD slots p.2))) = some (d, e)) (hB : ∀ b j, w.heap.size ≤ b → B b j) (hH : HR B G w Hr) (hs : SR (ImmB B G) w G slots a) : OpOk P B G w Hr o a d e := by
  obtain ⟨hp, rfl⟩ := qv_some h
  unfold buildL at hp
  split at hp
  · cases hp
  · rename_i h24
    split at hp
    · rename_i hc
      obtain ⟨hzl, hok, hl⟩ := hc
      obtain ⟨h0, h1, h2⟩ := chunkOk_some hok
      split at hp
      · rename_i cs hf
        cases hm : mapO plainEl (chunk ag sz len cs) with
        | none => simp [hm] at hp
        | some xs =>
          simp [hm] at hp
          subst hp
          obtain ⟨zv, rfl, hzv⟩ := zeroD_some hz
          obtain ⟨i, hi, hisz, _⟩ := aggSz_some ht
          have hzs := zero_size hzl
          have hzr : Rep (ImmB B G) w G (ofVal1 zv) zv := rep_ofVal1 zv
          obtain ⟨k1, k2⟩ := rep_cells hl hzr
          obtain ⟨C0, hC0⟩ : ∃ C0 : Array Value, (Array.range (len * sz)).map ((zv.cells)[· % zv.cells.size]!) = C0 := ⟨_, rfl⟩
          have hC0l : C0.toList = (List.replicate len zv.cells.toList).flatten := by rw [← hC0]; exact zeros_eq hzs h0
          obtain ⟨C', q1, q2, q3⟩ := fill_ok (fun i => some (i * sz, sz)) (evalD slots) a.eval hs.eval parts.toList _ C0 cs (by rw [hC0l]; exact repL_rep k1 len) (by rw [hC0l]; exact one_rep k2 len) hf
          have hlen : cs.length = len * sz := by
            have fl : ∀ (ps : List (Nat × DV)) (cs r : List DV), fillD (fun i => some (i * sz, sz)) cs ps = some r → r.length = cs.length := by
              intro ps
              induction ps with
              | nil => intro cs r h; simp only [fillD] at h; cases h; rfl
              | cons p ps ih =>
                intro cs r h
                obtain ⟨i, x⟩ := p
                simp only [fillD] at h
                split at h
                · cases h
                · rename_i hc
                  have := ih _ _ h
                  rw [this]
                  unfold splice
                  simp only [List.length_append, List.length_take, List.length_drop]
                  omega
            rw [fl _ _ _ hf]
            simp [hzl]
          have hmo := more_alloc w (.cells C' et)
          obtain ⟨hK, hH'⟩ := step_new hH hmo
          have hrun : (execOp a.eval o).run P w = .ok (.value (.slice (some ⟨w.heap.size, 0, none⟩) len len)) (w.alloc (.cells C' et)) := by
            simp only [execOp, ho, Instr.buildSlice, Sem.run_bind, run_underlying hu, Result.andThen_ok, size_run hi, hisz]
            rw [if_neg (by omega)]
            by_cases hz0 : len * sz = 0
            · have hC00 : (Array.range (len * sz)).map ((#[] : Array Value)[· % (#[] : Array Value).size]!) = C0 := by
                rw [← hC0, hz0]; simp
              simp only [hz0, if_true] at hC00 ⊢
              simp only [Sem.run_bind, Sem.run_pure, Result.andThen_ok, hC00, parts_eq, q1, newRow]
              rfl
            · simp only [hz0, if_false]
              simp only [Sem.run_bind, Sem.run_pure, Result.andThen_ok, hzv, hC0, parts_eq, q1, newRow]
              rfl
          obtain ⟨r1, r2⟩ := chunk_rep (I := ImmB B G) (J := ImmB B G) (w := w.alloc (.cells C' et)) (b := w.heap.size) h0 h1 len cs C'.toList 0 xs hlen (q2.keep hK) (fun j v hj => by
            refine ⟨cells_at hmo.new j v hj, ⟨hB _ _ (Nat.le_refl _), fun k hk => ?_, fun k s c n hk => ?_⟩, q3 v (List.mem_of_getElem? hj)⟩
            · have := hH.lt (.inl hk : liveAt G k w.heap.size); omega
            · have := hH.lt (.inr ⟨_, _, _, hk⟩ : liveAt G k w.heap.size); omega) hm
          refine OpOk.val hrun hK hH' (rep_mkl (by simp) ?_)
          have := repX_mk (G := G) (xs := xs) (t := .ti) (A := some ⟨w.heap.size, 0, none⟩) (c := len) (by omega) (by omega) (.inr ⟨_, _, rfl, r1⟩) (by simp only [TagOk]; exact r2.symm)
          rw [r2] at this
          exact this
      · cases hp
    · cases hp
theorem op_make {t : TypeId} {x y : Operand} {et : TypeId} {ag : Bool} {sz nid : Nat} {i : TypeInfo} {z : DV} (ho : o.op = .makeSlice t x y) (hu : P.underlying t = some (.slice et)) (ht : aggSz P et = some (ag, sz)) (hi : P.info? et = some i) (hz : zeroD P et = some z)
    (h : makeD ag sz i.bytes et z (evalD slots x) (evalD slots y) nid = some (d, e)) (hB : ∀ b j, w.heap.size ≤ b → B b j) (hH : HR B G w Hr) (hs : SR (ImmB B G) w G slots a) (hag : Agree e H Hr) : OpOk P B G w Hr o a d e := by
  unfold makeD at h
  split at h
  · rename_i l c hl hc
    split at h
    · rename_i hcond
      obtain ⟨rfl, c0, c1, c2, hzl, h0, hzlf⟩ := hcond
      cases h
      have hag : Hr[nid]? = some .hole := hag
      obtain ⟨kd, ex⟩ := int_val hl (hs.eval x)
      obtain ⟨kd', ey⟩ := int_val hc (hs.eval y)
      obtain ⟨zv, rfl, hzv⟩ := zeroD_some hz
      have hzs := zero_size hzl
      have hzr : Rep (ImmB B G) w G (ofVal1 zv) zv := rep_ofVal1 zv
      obtain ⟨k1, k2⟩ := rep_cells hzlf hzr
      have hisz : i.size = sz := by
        obtain ⟨i', hi', h1, _⟩ := aggSz_some ht
        rw [hi] at hi'; cases hi'; exact h1
      obtain ⟨n, rfl⟩ : ∃ n : Nat, l = n := ⟨l.toNat, by omega⟩
      obtain ⟨C0, hC0⟩ : ∃ C0 : Array Value, (Array.range (n * sz)).map ((zv.cells)[· % zv.cells.size]!) = C0 := ⟨_, rfl⟩
      have hC0l : C0.toList = (List.replicate n zv.cells.toList).flatten := by rw [← hC0]; exact zeros_eq hzs h0
      have hlt : nid < Hr.length := (List.getElem?_eq_some_iff.1 hag).1
      have hg := List.getElem?_eq_getElem (show nid < G.length by rw [← hH.len]; exact hlt)
      have hG : G[nid]? = some GK.hole := by
        have := hH.blk _ _ _ hag hg
        cases hB : G[nid]'(by rw [← hH.len]; exact hlt) <;> rw [hB] at this <;> simp only [BlkRep] at this
        rw [hg, hB]
      obtain ⟨hK, hH'⟩ := step_fill hH hG hB (more_alloc w (.cells C0 et)) (cs := (List.replicate n (ofVal1 zv).cells).flatten) (by rw [hC0l]; exact repL_rep k1 n) (by rw [hC0l]; exact one_rep k2 n)
      refine OpOk.val (V := .slice (some ⟨w.heap.size, 0, none⟩) n n) ?_ hK (by simpa [Eff.heap] using hH') ?_
      · have hw : IntKind.i64.wrap (n : Int) = n := IntWalk.i64_in _ (by omega)
        have hb1 : ¬ ((i.bytes : Int) * (n : Int) > 2 ^ 48) := by rw [Int.mul_comm]; omega
        simp only [execOp, ho, Instr.makeSlice, Sem.run_bind, run_underlying hu, Result.andThen_ok, ex, ey, asInt, asIntOf, Sem.run_pure, run_typeInfo w hi, hw]
        have hcond : ((decide ((n : Int) < 0) || decide ((i.bytes : Int) * (n : Int) > 2 ^ 48)) || decide ((n : Int) < 0) || decide ((n : Int) > (n : Int))) = false := by
          simp; omega
        simp only [hcond, Bool.false_eq_true, if_false]
        simp only [Sem.run_bind, run_askRoom, Result.andThen_ok, size_run hi, Int.toNat_natCast, hisz]
        by_cases hz0 : n * sz = 0
        · have hC00 : (Array.range (n * sz)).map ((#[] : Array Value)[· % (#[] : Array Value).size]!) = C0 := by
            rw [← hC0, hz0]; simp
          simp only [hz0, if_true] at hC00 ⊢
          simp only [Sem.run_bind, Sem.run_pure, Result.andThen_ok, hC00, newRow]
          rfl
        · simp only [hz0, if_false]
          simp only [Sem.run_bind, Sem.run_pure, Result.andThen_ok, hzv, hC0, newRow]
          rfl
      · simp only [Rep, Int.toNat_natCast]
        exact ⟨_, List.getElem?_set_self (by rw [← hH.len]; exact hlt), rfl⟩
    · cases h
  · cases h
end Go.Proofs.Ytbhnkdnfmlnajaa

/- Deep values: calls. -/
namespace Go.Proofs.Ytbhnkdnfmlnajaa
open Go Go.RowKit

variable {P : Program} {B : Nat → Nat → Prop} {G : Gh} {w : World} {H Hr : Heap} {o : Oper} {a : Act} {slots : List DV} {d : DV} {e : Eff}

/-- what is to be shown of a call -/
def CallOk (P : Program) (f : FuncId) (args : List DV) (H : Heap) (fl : Nat) (r : DV) (H' : Heap) : Prop :=
  ∀ (B : Nat → Nat → Prop) (G : Gh) (w : World) (vs : Array Value), (∀ b j, w.heap.size ≤ b → B b j) → HR B G w H → RepL (ImmB B G) w G args vs.toList → fl ≤ H.length →
    (Calls P f vs w fun e w' => ∃ V G', e = .returned V ∧ Keep G w G' w' ∧ HR B G' w' H' ∧ Rep (ImmB B G') w' G' r V) ∧ (∀ k, k < fl → H'[k]? = H[k]?) ∧ H.length ≤ H'.length
def CFSound (P : Program) (cf : CF) : Prop := ∀ f args H fl r H', cf f args H fl = some (r, H') → CallOk P f args H fl r H' ∧ (∃ fn, P.funcs[f]? = some fn ∧ fn.body.isSome = true) ∧ ∀ k : Nat, H[k]? = some .hole → H'[k]? = some .hole
section
variable {I I' : Nat → Nat → Prop}
theorem Rep.mono {d : DV} {V : Value} (hI : ∀ b j, b < w.heap.size → I b j → I' b j) (h : Rep I w G d V) : Rep I' w G d V :=
  Rep.stay (fun b j _ hi hc => ⟨hc, hI b j (cell_lt hc) hi⟩) (Evol.refl G) d V h
theorem RepX.mono {J J' : Nat → Nat → Prop} {sz b o' : Nat} {xs : List DV} (hI : ∀ b j, b < w.heap.size → I b j → I' b j) (hJ : ∀ j, J b j → J' b j) (h : RepX I J w sz xs b o') : RepX I' J' w sz xs b o' :=
  RepX.of fun i x hx => by
    obtain ⟨h0, V, h1, h2, h3⟩ := h.get i x hx
    exact ⟨h0, V, h1.mono hI, h2, fun j v hj => ⟨(h3 j v hj).1, hJ _ (h3 j v hj).2.1, (h3 j v hj).2.2⟩⟩
theorem outLeaf_rep {ti : Bool} {d d' : DV} {V : Value} (h : outLeaf ti H d = some d') (k : Rep (ImmB B G) w G d V) (hH : (∃ x : Nat, H[x]? ≠ none) → HR B G w H) (hI : ∀ b j, b < w.heap.size → ImmB B G b j → I' b j)
    (hl : ∀ ag sz k off n c b, d = .row ag sz k off n c → G[k]? = some (GK.cel b) → ∀ j, I' b j) : Rep I' w [] d' V ∧ d'.leaf = true := by
  unfold outLeaf at h
  split at h
  · split at h
    · rename_i v hv
      cases h
      exact ⟨by simpa only [Rep] using k, hv⟩
    · cases h
  · rename_i sz xs t
    cases h
    obtain ⟨A, c, rfl, h1, h2, h3, h4⟩ := repX_val k
    have hE : xs = [] ∨ ∃ b o, A = some ⟨b, o, none⟩ ∧ RepX I' I' w sz xs b o := by
      refine h3.imp id fun ⟨b, o', e, h⟩ => ⟨b, o', e, RepX.of fun i x hx => ?_⟩
      obtain ⟨q0, W, q1, q2, q3⟩ := h.get i x hx
      exact ⟨q0, W, q1.mono hI, q2, fun j v hj => ⟨(q3 j v hj).1, hI _ _ (cell_lt (q3 j v hj).1) (q3 j v hj).2.1, (q3 j v hj).2.2⟩⟩
    refine ⟨repX_mk h1 h2 hE ?_, rfl⟩
    unfold shTag
    split
    · split
      · exact h4
      · trivial
    · trivial
  · rename_i ag sz kk off n c
    split at h
    · rename_i hc
      cases hr : rowCells H kk off (n * sz) with
      | none => simp [hr] at h
      | some cs =>
        simp only [hr, Option.bind_some] at h
        cases hx : mapO plainEl (chunk ag sz n cs) with
        | none => simp [hx] at h
        | some xs =>
          simp [hx] at h
          subst h
          simp only [Rep] at k
          obtain ⟨b, hG, rfl⟩ := k
          have hH' := hH ⟨kk, by obtain ⟨e, all, hk, _⟩ := rowCells_some hr; rw [hk]; simp⟩
          obtain ⟨_, _, hn⟩ := chunkOk_some hc.1
          obtain ⟨r1, r2⟩ := row_rep (J := I') hH' hG hc.1 hr hx (hl _ _ _ _ _ _ b rfl hG)
          refine ⟨rep_mkl (by intro j; split <;> simp) ?_, by unfold mkl; split <;> rfl⟩
          have := repX_mk (G := []) (xs := xs) (t := if (ti && n == c) = true then .ti else .sh) (A := some ⟨b, off, none⟩) (c := c) (by rw [r2]; exact hc.2) (by rw [r2]; exact hn) (.inr ⟨b, off, rfl, r1.mono hI (fun _ h => h)⟩) (by
            split
            · rename_i ht
              simp only [Bool.and_eq_true, beq_iff_eq] at ht
              simp only [TagOk]; rw [r2]; exact ht.2.symm
            · trivial)
          rw [r2] at this
          simpa using this
    · cases h
  · cases h
theorem mapO_rep {f : DV → Option DV} {G' : Gh} {cs cs' : List DV} {vs : List Value} (h : mapO f cs = some cs') (hr : RepL I w G cs vs) (hf : ∀ d d' V, d ∈ cs → f d = some d' → Rep I w G d V → Rep I' w G' d' V) : RepL I' w G' cs' vs := by
  obtain ⟨h1, h2⟩ := mapO_some h
  refine RepL.of (by rw [hr.length, h1]) fun i d' v hd hv => ?_
  have hlt : i < cs.length := by rw [← h1]; exact (List.getElem?_eq_some_iff.1 hd).1
  obtain ⟨y, hy, hfy⟩ := h2 i _ (List.getElem?_eq_getElem hlt)
  rw [hd] at hy; cases hy
  obtain ⟨v', hv', hrv⟩ := hr.get i _ (List.getElem?_eq_getElem hlt)
  rw [hv'] at hv; cases hv
  exact hf _ _ _ (List.getElem_mem hlt) hfy hrv
theorem outEl_rep {ti : Bool} {d d' : DV} {V : Value} (h : outEl ti H d = some d') (k : Rep (ImmB B G) w G d V) (hH : (∃ x : Nat, H[x]? ≠ none) → HR B G w H) (hI : ∀ b j, b < w.heap.size → ImmB B G b j → I' b j)
    (hl : ∀ k b : Nat, H[k]? ≠ none → G[k]? = some (GK.cel b) → ∀ j, I' b j) : Rep I' w [] d' V := by
  have leaf : ∀ d d' V, outLeaf ti H d = some d' → Rep (ImmB B G) w G d V → Rep I' w [] d' V := by
    intro d d' V h k
    by_cases hrow : ∃ ag sz kk off n c, d = .row ag sz kk off n c ∧ H[kk]? = none
    · obtain ⟨ag, sz, kk, off, n, c, rfl, hn⟩ := hrow
      unfold outLeaf at h
      simp only [rowCells, hn] at h
      split at h <;> simp at h
    · exact (outLeaf_rep h k hH hI fun ag sz kk off n c b e hG => hl kk b (fun hn => hrow ⟨ag, sz, kk, off, n, c, e, hn⟩) hG).1
  unfold outEl at h
  split at h
  · rename_i cs
    cases hm : mapO (outLeaf ti H) cs with
    | none => simp [hm] at h
    | some cs' =>
      simp [hm] at h
      subst h
      simp only [Rep] at k ⊢
      obtain ⟨vs, e, k⟩ := k
      exact ⟨vs, e, mapO_rep hm k fun d d' V _ h k => leaf d d' V h k⟩
  · cases h
    simpa only [Rep] using k
  · exact leaf _ _ _ h k
theorem outD_rep {ti : Bool} {d d' : DV} {V : Value} (h : outD ti H d = some d') (k : Rep (ImmB B G) w G d V) (hH : (∃ x : Nat, H[x]? ≠ none) → HR B G w H) (hI : ∀ b j, b < w.heap.size → ImmB B G b j → I' b j)
    (hl : ∀ k b : Nat, H[k]? ≠ none → G[k]? = some (GK.cel b) → ∀ j, I' b j) : Rep I' w [] d' V := by
  unfold outD at h
  split at h
  · rename_i cs
    cases hm : mapO (outEl ti H) cs with
    | none => simp [hm] at h
    | some cs' =>
      simp [hm] at h
      subst h
      simp only [Rep] at k ⊢
      obtain ⟨vs, e, k⟩ := k
      exact ⟨vs, e, mapO_rep hm k fun d d' V _ h k => outEl_rep h k hH hI hl⟩
  · exact outEl_rep h k hH hI hl
end
mutual
theorem Rep.inSc {I : Nat → Nat → Prop} : ∀ (d : DV) (V : Value), Rep I w G d V → inSc G.length d = true
  | .any, _, _ => by simp [Go.Proofs.Ytbhnkdnfmlnajaa.inSc]
  | .flat v, V, _ => by simp [Go.Proofs.Ytbhnkdnfmlnajaa.inSc]
  | .agg cs, V, k => by
    simp only [Rep] at k
    obtain ⟨vs, _, k⟩ := k
    simp only [Go.Proofs.Ytbhnkdnfmlnajaa.inSc]
    exact RepL.inSc cs _ k
  | .tup cs, V, k => by
    simp only [Rep] at k
    obtain ⟨vs, _, k⟩ := k
    simp only [Go.Proofs.Ytbhnkdnfmlnajaa.inSc]
    exact RepL.inSc cs _ k
  | .list sz xs t, V, k => by
    simp only [Rep] at k
    obtain ⟨A, c, _, _, _, _, k⟩ := k
    cases t with
    | own k' =>
      simp only [TagOk] at k
      obtain ⟨b, s, cap, hw, hG, _⟩ := k
      simp only [Go.Proofs.Ytbhnkdnfmlnajaa.inSc, decide_eq_true_eq]
      exact (List.getElem?_eq_some_iff.1 hG).1
    | _ => simp [Go.Proofs.Ytbhnkdnfmlnajaa.inSc]
  | .ptr k off, V, r => by
    simp only [Rep] at r
    obtain ⟨b, hG, _⟩ := r
    simp only [Go.Proofs.Ytbhnkdnfmlnajaa.inSc, decide_eq_true_eq]
    exact (List.getElem?_eq_some_iff.1 hG).1
  | .row _ _ k off n c, V, r => by
    simp only [Rep] at r
    obtain ⟨b, hG, _⟩ := r
    simp only [Go.Proofs.Ytbhnkdnfmlnajaa.inSc, decide_eq_true_eq]
    exact (List.getElem?_eq_some_iff.1 hG).1
  | .elem x off, V, _ => by simp [Go.Proofs.Ytbhnkdnfmlnajaa.inSc]
  | .clo fn first cap, V, k => by
    simp only [Rep] at k
    obtain ⟨f, c, _, k1, k2⟩ := k
    simp only [Go.Proofs.Ytbhnkdnfmlnajaa.inSc, Bool.and_eq_true]
    exact ⟨RepL.inSc first _ k1, RepL.inSc cap _ k2⟩
  | .iface t d, V, k => by
    simp only [Rep] at k
    obtain ⟨v, _, k⟩ := k
    simp only [Go.Proofs.Ytbhnkdnfmlnajaa.inSc]
    exact Rep.inSc d v k
theorem RepL.inSc {I : Nat → Nat → Prop} : ∀ (ds : List DV) (vs : List Value), RepL I w G ds vs → inScL G.length ds = true
  | [], _, _ => by simp [inScL]
  | d :: ds, vs, k => by
    simp only [RepL] at k
    obtain ⟨v, r, _, k1, k2⟩ := k
    simp only [inScL, Bool.and_eq_true]
    exact ⟨Rep.inSc d v k1, RepL.inSc ds r k2⟩
end
mutual
/-- a value that names old blocks alone, with the old ghost -/
theorem Rep.shrink {I I' : Nat → Nat → Prop} {n0 : Nat} {G' : Gh} (hG : ∀ k, k < n0 → G'[k]? = G[k]?) (hst : Stay I I' w w) : ∀ (d : DV) (V : Value), inSc n0 d = true → Rep I w G d V → Rep I' w G' d V
  | .any, _, _, _ => by simp [Rep]
  | .flat v, V, _, k => by simpa only [Rep] using k
  | .agg cs, V, hs, k => by
    simp only [Go.Proofs.Ytbhnkdnfmlnajaa.inSc] at hs
    simp only [Rep] at k ⊢
    obtain ⟨vs, e, k⟩ := k
    exact ⟨vs, e, RepL.shrink hG hst cs _ hs k⟩
  | .tup cs, V, hs, k => by
    simp only [Go.Proofs.Ytbhnkdnfmlnajaa.inSc] at hs
    simp only [Rep] at k ⊢
    obtain ⟨vs, e, k⟩ := k
    exact ⟨vs, e, RepL.shrink hG hst cs _ hs k⟩
  | .list sz xs t, V, hs, k => by
    simp only [Rep] at k ⊢
    obtain ⟨A, c, e, k1, k2, k3, k4⟩ := k
    refine ⟨A, c, e, k1, k2, k3.imp id fun ⟨b, o, e, k⟩ => ⟨b, o, e, RepE.stay hst sz xs b o k⟩, ?_⟩
    cases t with
    | own k' =>
      simp only [Go.Proofs.Ytbhnkdnfmlnajaa.inSc, decide_eq_true_eq] at hs
      simp only [TagOk] at k4 ⊢
      rw [hG k' hs]; exact k4
    | _ => exact k4
  | .ptr k off, V, hs, r => by
    simp only [Go.Proofs.Ytbhnkdnfmlnajaa.inSc, decide_eq_true_eq] at hs
    simp only [Rep] at r ⊢
    rw [hG k hs]; exact r
  | .row _ _ k off n c, V, hs, r => by
    simp only [Go.Proofs.Ytbhnkdnfmlnajaa.inSc, decide_eq_true_eq] at hs
    simp only [Rep] at r ⊢
    rw [hG k hs]; exact r
  | .elem x off, V, _, k => by
    simp only [Rep] at k ⊢
    obtain ⟨k0, b, o, E, e, k1, k2⟩ := k
    exact ⟨k0, b, o, E, e, Rep.stay hst (Evol.nil []) x E k1, k2.stay hst⟩
  | .clo fn first cap, V, hs, k => by
    simp only [Go.Proofs.Ytbhnkdnfmlnajaa.inSc, Bool.and_eq_true] at hs
    simp only [Rep] at k ⊢
    obtain ⟨f, c, e, k1, k2⟩ := k
    exact ⟨f, c, e, RepL.shrink hG hst first _ hs.1 k1, RepL.shrink hG hst cap _ hs.2 k2⟩
  | .iface t d, V, hs, k => by
    simp only [Go.Proofs.Ytbhnkdnfmlnajaa.inSc] at hs
    simp only [Rep] at k ⊢
    obtain ⟨v, e, k⟩ := k
    exact ⟨v, e, Rep.shrink hG hst d v hs k⟩
theorem RepL.shrink {I I' : Nat → Nat → Prop} {n0 : Nat} {G' : Gh} (hG : ∀ k, k < n0 → G'[k]? = G[k]?) (hst : Stay I I' w w) : ∀ (ds : List DV) (vs : List Value), inScL n0 ds = true → RepL I w G ds vs → RepL I' w G' ds vs
  | [], vs, _, k => by simpa only [RepL] using k
  | d :: ds, vs, hs, k => by
    simp only [inScL, Bool.and_eq_true] at hs
    simp only [RepL] at k ⊢
    obtain ⟨v, r, e, k1, k2⟩ := k
    exact ⟨v, r, e, Rep.shrink hG hst d v hs.1 k1, RepL.shrink hG hst ds r hs.2 k2⟩
end
theorem take_get {n0 k : Nat} {g : GK} (h : (G.take n0)[k]? = some g) : k < n0 ∧ G[k]? = some g := by
  rw [List.getElem?_take] at h
  split at h
  · rename_i hk; exact ⟨hk, h⟩
  · cases h
theorem take_live {n0 k b : Nat} (h : liveAt (G.take n0) k b) : k < n0 ∧ liveAt G k b := by
  rcases h with h | ⟨s, c, n, h⟩
  · exact ⟨(take_get h).1, .inl (take_get h).2⟩
  · exact ⟨(take_get h).1, .inr ⟨s, c, n, (take_get h).2⟩⟩
/-- what cells may be read when blocks are forgotten -/
theorem imm_take {n0 b j : Nat} (h : ImmB B G b j) : ImmB B (G.take n0) b j :=
  ⟨h.1, fun k hk => h.2.1 k (take_get hk).2, fun k s c n hk => h.2.2 k s c n (take_get hk).2⟩
theorem stay_take (n0 : Nat) : Stay (ImmB B G) (ImmB B (G.take n0)) w w := fun _ _ _ hi hc => ⟨hc, imm_take hi⟩
theorem oldLeaf_rep {n0 : Nat} {d d' : DV} {V : Value} (h : oldLeaf n0 H d = some d') (k : Rep (ImmB B G) w G d V) (hH : HR B G w H) : Rep (ImmB B (G.take n0)) w (G.take n0) d' V := by
  unfold oldLeaf at h
  split at h
  · rename_i hc
    cases h
    simp only [Bool.and_eq_true] at hc
    exact Rep.shrink (fun i hi => List.getElem?_take_of_lt hi) (stay_take n0) _ _ hc.2 k
  · split at h
    · rename_i sz xs t _
      cases h
      simp only [Rep] at k ⊢
      obtain ⟨A, c, e, k1, k2, k3, k4⟩ := k
      exact ⟨A, c, e, k1, k2, k3.imp id fun ⟨b, o, e, k⟩ => ⟨b, o, e, RepE.stay (stay_take n0) sz xs b o k⟩, trivial⟩
    · rename_i ag sz kk off n c _
      split at h
      · rename_i hk
        refine Rep.nil (outLeaf_rep h k (fun _ => hH) (fun b j _ hi => imm_take hi) fun ag' sz' k' off' n' c' b e hG j => ?_).1
        injection e with _ _ e _ _ _
        subst e
        refine ⟨hH.bb kk b (.inl hG) j, fun i hi => ?_, fun i s c n hi => ?_⟩
        · have h1 := take_get hi
          have := hH.dist kk i b (.inl hG) (.inl h1.2)
          omega
        · have h1 := take_get hi
          have := hH.dist kk i b (.inl hG) (.inr ⟨s, c, n, h1.2⟩)
          omega
      · cases h
    · cases h
theorem oldD_rep {n0 : Nat} {d d' : DV} {V : Value} (h : oldD n0 H d = some d') (k : Rep (ImmB B G) w G d V) (hH : HR B G w H) : Rep (ImmB B (G.take n0)) w (G.take n0) d' V := by
  have el : ∀ d d' V, oldEl n0 H d = some d' → Rep (ImmB B G) w G d V → Rep (ImmB B (G.take n0)) w (G.take n0) d' V := by
    intro d d' V h k
    unfold oldEl at h
    split at h
    · rename_i cs
      cases hm : mapO (oldLeaf n0 H) cs with
      | none => simp [hm] at h
      | some cs' =>
        simp [hm] at h
        subst h
        simp only [Rep] at k ⊢
        obtain ⟨vs, e, k⟩ := k
        exact ⟨vs, e, mapO_rep hm k fun d d' V _ h k => oldLeaf_rep h k hH⟩
    · cases h
      simpa only [Rep] using k
    · exact oldLeaf_rep h k hH
  unfold oldD at h
  split at h
  · rename_i cs
    cases hm : mapO (oldEl n0 H) cs with
    | none => simp [hm] at h
    | some cs' =>
      simp [hm] at h
      subst h
      simp only [Rep] at k ⊢
      obtain ⟨vs, e, k⟩ := k
      exact ⟨vs, e, mapO_rep hm k fun d d' V _ h k => el d d' V h k⟩
  · exact el _ _ _ h k
theorem dist_take (n0 : Nat) (h : Dist G) : Dist (G.take n0) := fun k k' b h1 h2 => h k k' b (take_live h1).2 (take_live h2).2
/-- the heap without what was made -/
theorem cut_rep {n0 : Nat} {H2 : Heap} (h : cutH n0 H = some H2) (hH : HR B G w H) : HR B (G.take n0) w H2 := by
  unfold cutH at h
  obtain ⟨h1, h2⟩ := mapO_some h
  refine ⟨by rw [h1]; simp [hH.len], dist_take n0 hH.dist, fun k x g hx hg => ?_, fun k b hl => hH.bb k b (take_live hl).2⟩
  obtain ⟨hk, hg⟩ := take_get hg
  have hlt : k < H.length := by rw [hH.len]; exact (List.getElem?_eq_some_iff.1 hg).1
  have hb := List.getElem?_eq_getElem hlt
  obtain ⟨y, hy, hf⟩ := h2 k _ (by rw [List.getElem?_take_of_lt hk]; exact hb)
  rw [hx] at hy; cases hy
  have hB := hH.blk _ _ _ hb hg
  generalize H[k] = blk at hf hB
  unfold oldBlk at hf
  split at hf
  · rename_i e cs
    cases hm : mapO (oldLeaf n0 H) cs with
    | none => simp [hm] at hf
    | some cs' =>
      simp [hm] at hf
      subst hf
      cases g <;> simp only [BlkRep] at hB ⊢
      obtain ⟨C, q1, q2, q3⟩ := hB
      exact ⟨C, q1, mapO_rep hm q2 fun d d' V _ h k => oldLeaf_rep h k hH, q3⟩
  · rename_i hne
    cases hf
    cases x <;> cases g <;> simp only [BlkRep] at hB ⊢
    · exact absurd rfl (hne _ _)
    · exact hB
theorem keep_take {G' : Gh} {w' : World} (h : Keep G w G' w') : Keep G w (G'.take G.length) w' := by
  refine ⟨h.os, h.tape, h.output, h.size, h.blk, h.own, fun k g hg => ?_, fun k b hb hg => h.fresh k b hb (take_get hg).2, fun k b s c n hb hg => h.freshO k b s c n hb (take_get hg).2⟩
  obtain ⟨g', hg', he⟩ := h.evol k g hg
  exact ⟨g', by rw [List.getElem?_take_of_lt (List.getElem?_eq_some_iff.1 hg).1]; exact hg', he⟩
end Go.Proofs.Ytbhnkdnfmlnajaa

/- Deep values: calls, and any operation. -/
namespace Go.Proofs.Ytbhnkdnfmlnajaa
open Go Go.RowKit

variable {P : Program} {B : Nat → Nat → Prop} {G : Gh} {w : World} {H Hr : Heap} {o : Oper} {a : Act} {slots : List DV} {d : DV} {e : Eff}

/-- an operation that enters a function -/
theorem OpOk.enter {f : FuncId} {vs : Array Value} (hrun : (execOp a.eval o).run P w = .ok (.enter f vs) w)
    (hc : Calls P f vs w fun en w' => ∃ V G', en = .returned V ∧ Keep G w G' w' ∧ HR B G' w' (e.heap Hr) ∧ Rep (ImmB B G') w' G' d V) : OpOk P B G w Hr o a d e := by
  intro K Q h
  unfold Oper.wp
  rw [hrun, Oper.upon_enter]
  refine hc.mono fun en w' ⟨V, G', he, hK, hH, hd⟩ => ?_
  subst he
  exact h V w' G' hK hH hd
theorem keep_of_nil {G1 : Gh} {w1 : World} (h : Keep [] w G1 w1) : Keep G w G w1 := by
  have old : ∀ b, b < w.heap.size → w1.heap[b]? = w.heap[b]? := fun b hb => h.blk b hb (fun k hk => by rcases hk with hk | ⟨_, _, _, hk⟩ <;> simp at hk)
  exact ⟨h.os, h.tape, h.output, h.size, fun b hb _ => old b hb, fun k b sz cap hw hg hb j _ => cell_of_blk (old b hb) j, Evol.refl G, fun _ _ _ h => h, fun _ _ _ cap hw _ h => ⟨cap, hw, h, Nat.le_refl _⟩⟩
theorem hr_of_nil {G1 : Gh} {w1 : World} (h : Keep [] w G1 w1) (hH : HR B G w H) : HR B G w1 H := by
  have hK := keep_of_nil (G := G) h
  have old : ∀ b, b < w.heap.size → w1.heap[b]? = w.heap[b]? := fun b hb => h.blk b hb (fun k hk => by rcases hk with hk | ⟨_, _, _, hk⟩ <;> simp at hk)
  refine ⟨hH.len, hH.dist, fun k x g hx hg => blk_keep hK (hH.blk k x g hx hg) fun b hb => old b (hH.lt (k := k) ?_), hH.bb⟩
  rcases hb with rfl | ⟨s, c, n, rfl⟩
  · exact .inl hg
  · exact .inr ⟨s, c, n, hg⟩
theorem hr_nil (B : Nat → Nat → Prop) (w : World) : HR B [] w [] := ⟨rfl, fun k k' b h _ => by rcases h with h | ⟨_, _, _, h⟩ <;> simp at h, fun k b g h _ => by simp at h, fun k b h => by rcases h with h | ⟨_, _, _, h⟩ <;> simp at h⟩
theorem take_eq {G1 : Gh} {w1 : World} {H1 : Heap} (hH : HR B G w H) (hH1 : HR B G1 w1 H1) (hE : Evol G G1) (hF : ∀ k, k < H.length → H1[k]? = H[k]?) : G1.take G.length = G := by
  refine List.ext_getElem? fun k => ?_
  rcases Nat.lt_or_ge k G.length with hk | hk
  · rw [List.getElem?_take_of_lt hk]
    have hg := List.getElem?_eq_getElem hk
    obtain ⟨g', hg', he⟩ := hE k _ hg
    have hkH : k < H.length := by rw [hH.len]; exact hk
    have hb := List.getElem?_eq_getElem hkH
    have h1 := hH.blk _ _ _ hb hg
    have hb1 := hF k hkH
    rw [hb] at hb1
    have h2 := hH1.blk _ _ _ hb1 hg'
    rw [hg', hg]
    congr 1
    generalize H[k] = x at h1 h2
    generalize G[k] = g at h1 he
    cases x <;> cases g <;> simp only [BlkRep] at h1
    · cases g' <;> simp only [BlkRep] at h2
      rfl
    · exact he
    · obtain ⟨b', cap', hw', rfl, q1, q2⟩ := he
      simp only [BlkRep] at h2
      obtain ⟨_, r1, _⟩ := h2
      obtain ⟨_, r2, _⟩ := h1
      have : hw' = _ := r1.trans r2.symm
      obtain ⟨rfl, rfl⟩ := q2 this
      rw [this]
  · rw [List.getElem?_eq_none (by simp; omega), List.getElem?_eq_none hk]
theorem hr_ro {G1 : Gh} {w1 : World} {H1 : Heap} (hH : HR B G w H) (hH1 : HR B G1 w1 H1) (hE : Evol G G1) (hF : ∀ k, k < H.length → H1[k]? = H[k]?) : HR B G w1 H := by
  have ht := take_eq hH hH1 hE hF
  have hg : ∀ (k : Nat) (g : GK), G[k]? = some g → G1[k]? = some g := by
    intro k g h
    rw [← ht] at h
    exact (take_get h).2
  have hI : Stay (ImmB B G1) (ImmB B G) w1 w1 := by
    have := stay_take (B := B) (G := G1) (w := w1) G.length
    rw [ht] at this; exact this
  refine ⟨hH.len, hH.dist, fun k x g hx hgk => ?_, hH.bb⟩
  have hk : k < H.length := (List.getElem?_eq_some_iff.1 hx).1
  have h1 := hH1.blk k x g (by rw [hF k hk]; exact hx) (hg k g hgk)
  have h0 := hH.blk k x g hx hgk
  cases x <;> cases g <;> simp only [BlkRep] at h0 h1 ⊢
  · obtain ⟨C, q1, q2, q3⟩ := h1
    obtain ⟨C0, _, r2, _⟩ := h0
    refine ⟨C, q1, RepL.shrink (n0 := G.length) (fun i hi => ?_) hI _ _ (RepL.inSc _ _ r2) q2, q3⟩
    rw [hg i _ (List.getElem?_eq_getElem hi)]
    exact List.getElem?_eq_getElem hi
  · exact h1
/-- a function is called, in whichever way -/
theorem op_call {cf : CF} {m : CM} {f : FuncId} {args : List DV} {vs : Array Value} {fl : Nat} (hcf : CFSound P cf) (hrun : (execOp a.eval o).run P w = .ok (.enter f vs) w) (hr : RepL (ImmB B G) w G args vs.toList)
    (h : callD cf m fl f args H = some (d, e)) (hB : ∀ b j, w.heap.size ≤ b → B b j) (hH : HR B G w Hr) (hag : Agree e H Hr) (hfl : e.wr → fl ≤ H.length) :
    OpOk P B G w Hr o a d e ∧ (∀ k, k < fl → (e.heap H)[k]? = H[k]?) ∧ H.length ≤ (e.heap H).length := by
  unfold callD at h
  cases m with
  | pure ti =>
    cases hm : mapO argEl args with
    | none => simp [hm] at h
    | some bs =>
      simp only [hm, Option.bind_some] at h
      cases hc : cf f bs [] 0 with
      | none => simp [hc] at h
      | some r =>
        obtain ⟨r, H1⟩ := r
        simp only [hc, Option.bind_some] at h
        obtain ⟨hp, rfl⟩ := qv_some h
        refine ⟨OpOk.enter hrun ?_, fun _ _ => rfl, Nat.le_refl _⟩
        obtain ⟨B', hB'⟩ : ∃ B' : Nat → Nat → Prop, ∀ b j, B' b j ↔ (ImmB B G b j ∨ w.heap.size ≤ b) := ⟨_, fun _ _ => Iff.rfl⟩
        have hb1 : ∀ b j, ImmB B G b j → ImmB B' [] b j := fun b j hi => ⟨(hB' b j).2 (.inl hi), fun k hk => by simp at hk, fun k s c n hk => by simp at hk⟩
        have hargs : RepL (ImmB B' []) w [] bs vs.toList := mapO_rep hm hr fun d d' V _ hd hV =>
          outEl_rep (B := B) (G := G) hd hV (fun ⟨x, hx⟩ => by simp at hx) (fun b j _ hi => hb1 b j hi) (fun k b hk => by simp at hk)
        obtain ⟨hcall, _⟩ := (hcf _ _ _ _ _ _ hc).1 B' [] w vs (fun b j hb => (hB' b j).2 (.inr hb)) (hr_nil B' w) hargs (Nat.zero_le _)
        refine hcall.mono fun en w1 ⟨V, G1, he, hK, hH1, hd⟩ => ⟨V, G, he, keep_of_nil hK, hr_of_nil hK hH, ?_⟩
        have back : ∀ b j, B' b j → ImmB B G b j := by
          intro b j hb
          rcases (hB' b j).1 hb with hi | hi
          · exact hi
          · refine ⟨hB b j hi, fun k hk => ?_, fun k s c n hk => ?_⟩
            · have := hH.lt (.inl hk : liveAt G k b); omega
            · have := hH.lt (.inr ⟨_, _, _, hk⟩ : liveAt G k b); omega
        exact Rep.nil (outD_rep hp hd (fun _ => hH1) (fun b j _ hi => back b j hi.1) (fun k b _ hk j => back b j (hH1.bb k b (.inl hk) j)))
  | ro =>
    cases hc : cf f args H H.length with
    | none => simp [hc] at h
    | some r =>
      obtain ⟨r, H1⟩ := r
      simp only [hc, Option.bind_some] at h
      unfold ov at h
      cases ho : oldD H.length H1 r with
      | none => simp [ho] at h
      | some d' =>
        simp [ho] at h
        obtain ⟨rfl, rfl⟩ := h
        have hag : Hr = H := hag
        subst hag
        obtain ⟨hcall, hF, _⟩ := (hcf _ _ _ _ _ _ hc).1 B G w vs hB hH hr (Nat.le_refl _)
        refine ⟨OpOk.enter hrun ?_, fun _ _ => rfl, Nat.le_refl _⟩
        refine hcall.mono fun en w1 ⟨V, G1, he, hK, hH1, hd⟩ => ?_
        have ht := take_eq hH hH1 hK.evol hF
        have hk := keep_take hK
        rw [ht] at hk
        refine ⟨V, G, he, hk, hr_ro hH hH1 hK.evol hF, ?_⟩
        have := oldD_rep ho hd hH1
        rw [hH.len, ht] at this
        exact this
  | rw =>
    cases hc : cf f args H fl with
    | none => simp [hc] at h
    | some r =>
      obtain ⟨r, H1⟩ := r
      simp only [hc, Option.bind_some] at h
      cases ho : oldD H.length H1 r with
      | none => simp [ho] at h
      | some d' =>
        simp only [ho, Option.bind_some] at h
        cases hcut : cutH H.length H1 with
        | none => simp [hcut] at h
        | some H2 =>
          simp [hcut] at h
          obtain ⟨rfl, rfl⟩ := h
          have hag : Hr = H := hag
          subst hag
          obtain ⟨hcall, hF, hL⟩ := (hcf _ _ _ _ _ _ hc).1 B G w vs hB hH hr (hfl (.inl rfl))
          have hlen2 : H2.length = Hr.length := by
            have := (mapO_some hcut).1
            rw [this]; simp; omega
          refine ⟨OpOk.enter hrun ?_, ?_, Nat.le_of_eq hlen2.symm⟩
          · refine hcall.mono fun en w1 ⟨V, G1, he, hK, hH1, hd⟩ => ?_
            have h1 := cut_rep hcut hH1
            have h2 := oldD_rep ho hd hH1
            rw [hH.len] at h1 h2
            exact ⟨V, _, he, keep_take hK, h1, h2⟩
          · intro k hk
            show H2[k]? = Hr[k]?
            have hkl : k < Hr.length := Nat.lt_of_lt_of_le hk (hfl (.inl rfl))
            have hb := List.getElem?_eq_getElem hkl
            obtain ⟨y, hy, hfy⟩ := (mapO_some hcut).2 k Hr[k] (by rw [List.getElem?_take_of_lt hkl, hF k hk]; exact hb)
            rw [hy, hb]
            congr 1
            have hg := List.getElem?_eq_getElem (show k < G.length by rw [← hH.len]; exact hkl)
            have hblk := hH.blk _ _ _ hb hg
            generalize Hr[k] = x at hfy hblk
            generalize G[k]'(by rw [← hH.len]; exact hkl) = g at hblk
            unfold oldBlk at hfy
            split at hfy
            · rename_i e' cs
              cases hm : mapO (oldLeaf Hr.length H1) cs with
              | none => simp [hm] at hfy
              | some cs' =>
                simp [hm] at hfy
                subst hfy
                congr 1
                cases g <;> simp only [BlkRep] at hblk
                obtain ⟨C, _, q2, q3⟩ := hblk
                obtain ⟨l1, l2⟩ := mapO_some hm
                refine List.ext_getElem? fun i => ?_
                rcases Nat.lt_or_ge i cs.length with hi | hi
                · have hd := List.getElem?_eq_getElem hi
                  obtain ⟨z, hz, hfz⟩ := l2 i _ hd
                  rw [hz, hd]
                  congr 1
                  obtain ⟨v, hv, hrv⟩ := q2.get i _ hd
                  have hsc := Rep.inSc _ _ hrv
                  have h1 := q3 v (List.mem_of_getElem? hv)
                  generalize cs[i] = dd at hfz hrv hsc
                  unfold oldLeaf at hfz
                  have hlf : dd.leaf = true ∨ dd = .any := by
                    cases dd <;> simp_all [DV.leaf, Rep]
                    all_goals (obtain ⟨_, rfl, _⟩ := hrv; simp [isOne] at h1)
                  rcases hlf with hlf | rfl
                  · rw [hH.len] at hfz
                    rw [if_pos (by simp [hlf, hsc])] at hfz
                    cases hfz; rfl
                  · simp [DV.leaf] at hfz
                · rw [List.getElem?_eq_none (by omega), List.getElem?_eq_none hi]
            · cases hfy; rfl
  | keep =>
    cases hc : cf f args H fl with
    | none => simp [hc] at h
    | some r =>
      obtain ⟨r, H1⟩ := r
      simp [hc] at h
      obtain ⟨rfl, rfl⟩ := h
      have hag : Hr = H := hag
      subst hag
      obtain ⟨hcall, hF, hL⟩ := (hcf _ _ _ _ _ _ hc).1 B G w vs hB hH hr (hfl (.inl rfl))
      exact ⟨OpOk.enter hrun hcall, hF, hL⟩
end Go.Proofs.Ytbhnkdnfmlnajaa

/- Deep values: any operation. -/
namespace Go.Proofs.Ytbhnkdnfmlnajaa
open Go Go.RowKit

variable {P : Program} {B : Nat → Nat → Prop} {G : Gh} {w : World} {H Hr : Heap} {o : Oper} {a : Act} {slots : List DV} {d : DV} {e : Eff}

/-- no function of the program is one of those that the machine itself answers -/
def NoOwn (P : Program) : Prop := (P.funcs.all fun fn => fn.name != "runtime.NumGoroutine") = true
theorem callFunc_run {f : FuncId} {fn : Func} (hP : NoOwn P) (hf : P.funcs[f]? = some fn) (hb : fn.body.isSome = true) (vs : Array Value) : (callFunc f vs).run P w = .ok (.enter f vs) w := by
  have hn : ¬ fn.name = "runtime.NumGoroutine" := by
    have := (Array.all_eq_true_iff_forall_mem.1 hP) fn (Array.mem_of_getElem? hf)
    simpa using this
  have hb' : ¬ fn.body = none := by cases h : fn.body <;> simp_all
  simp [callFunc, hf, hn, hb']
theorem args_rep {l : List Operand} (hs : SR (ImmB B G) w G slots a) : RepL (ImmB B G) w G (l.map (evalD slots)) (l.map a.eval) :=
  RepL.of (by simp) fun i d v hd hv => by
    simp only [List.getElem?_map] at hd hv
    cases hx : l[i]? with
    | none => rw [hx] at hd; cases hd
    | some x =>
      rw [hx] at hd hv
      simp at hd hv
      subst hd; subst hv
      exact hs.eval x
/-- what an operation leaves to be shown -/
def Three (P : Program) (B : Nat → Nat → Prop) (G : Gh) (w : World) (H Hr : Heap) (o : Oper) (a : Act) (d : DV) (e : Eff) (fl : Nat) : Prop :=
  OpOk P B G w Hr o a d e ∧ (∀ k, k < fl → (e.heap H)[k]? = H[k]?) ∧ H.length ≤ (e.heap H).length
theorem three_q {x : Option DV} {fl : Nat} (h : qv x = some (d, e)) (k : OpOk P B G w Hr o a d e) : Three P B G w H Hr o a d e fl := by
  obtain ⟨_, rfl⟩ := qv_some h
  exact ⟨k, fun _ _ => rfl, Nat.le_refl _⟩
theorem three_set {fl : Nat} (k : OpOk P B G w Hr o a d e ∧ ∀ k, k < fl → (e.heap H)[k]? = H[k]?) (hl : H.length ≤ (e.heap H).length) : Three P B G w H Hr o a d e fl := ⟨k.1, k.2, hl⟩
theorem op_value {cf : CF} {md : FuncId → CM} {fl : Nat} {c : Call} {f : Operand} (hP : NoOwn P) (hcf : CFSound P cf) (ho : o.op = .call c) (hc : c.callee = .value f) {g : FuncId} {cap : List DV} (hf : fnOf (evalD slots f) = some (g, cap))
    (h : callD cf (md g) fl g (c.args.toList.map (evalD slots) ++ cap) H = some (d, e)) (hB : ∀ b j, w.heap.size ≤ b → B b j) (hH : HR B G w Hr) (hs : SR (ImmB B G) w G slots a) (hag : Agree e H Hr) (hfl : e.wr → fl ≤ H.length) :
    Three P B G w H Hr o a d e fl := by
  have hfn : ∃ fn, P.funcs[g]? = some fn ∧ fn.body.isSome = true := by
    unfold callD at h
    split at h
    · cases hm : mapO argEl (c.args.toList.map (evalD slots) ++ cap) with
      | none => simp [hm] at h
      | some bs =>
        simp only [hm, Option.bind_some] at h
        cases hc : cf g bs [] 0 with
        | none => simp [hc] at h
        | some r => exact (hcf _ _ _ _ _ _ hc).2.1
    · cases hc : cf g (c.args.toList.map (evalD slots) ++ cap) H H.length with
      | none => simp [hc] at h
      | some r => exact (hcf _ _ _ _ _ _ hc).2.1
    · cases hc : cf g (c.args.toList.map (evalD slots) ++ cap) H fl with
      | none => simp [hc] at h
      | some r => exact (hcf _ _ _ _ _ _ hc).2.1
    · cases hc : cf g (c.args.toList.map (evalD slots) ++ cap) H fl with
      | none => simp [hc] at h
      | some r => exact (hcf _ _ _ _ _ _ hc).2.1
  obtain ⟨fn, hfn, hb⟩ := hfn
  have hv := hs.eval f
  have hcase : ∃ F C : Array Value, a.eval f = .func (.func g) F C ∧ F = #[] ∧ RepL (ImmB B G) w G cap C.toList := by
    unfold fnOf at hf
    split at hf
    · rename_i g' first cap' hk
      split at hf
      · rename_i hz
        cases hf
        rw [hk] at hv
        simp only [Rep] at hv
        refine ⟨first, cap', hv, Array.eq_empty_of_size_eq_zero hz.1, ?_⟩
        have : cap' = #[] := Array.eq_empty_of_size_eq_zero hz.2
        subst this
        simp [RepL]
      · cases hf
    · rename_i g' cap' hk
      cases hf
      rw [hk] at hv
      simp only [Rep] at hv
      obtain ⟨F, C, hv, hF, hC⟩ := hv
      refine ⟨F, C, hv, ?_, hC⟩
      simp only [RepL] at hF
      apply Array.ext'
      simpa using hF
    · cases hf
  obtain ⟨F, C, hv, rfl, hC⟩ := hcase
  refine op_call hcf (vs := c.args.map a.eval ++ C) ?_ ?_ h hB hH hag hfl
  · simp only [execOp, ho, resolve, hc, Deferred.ofValue, hv, Sem.run_bind, Sem.run_pure, Result.andThen_ok, invoke, Array.empty_append]
    exact callFunc_run hP hfn hb _
  · have := (args_rep (l := c.args.toList) hs).app hC
    simpa using this
theorem op_sound {cf : CF} {md : FuncId → CM} {fl nid : Nat} (hP : NoOwn P) (hcf : CFSound P cf) (h : evalO P cf md fl nid o slots H = some (d, e)) (hB : ∀ b j, w.heap.size ≤ b → B b j) (hH : HR B G w Hr) (hs : SR (ImmB B G) w G slots a) (hag : Agree e H Hr) (hfl : e.wr → fl ≤ H.length) (hnid : fl ≤ nid) :
    Three P B G w H Hr o a d e fl := by
  cases hop : o.op with
  | move x =>
    simp only [evalO, hop] at h
    have := op_move (P := P) (.inl hop) h hH hs
    cases h
    exact ⟨this, fun _ _ => rfl, Nat.le_refl _⟩
  | assign x =>
    simp only [evalO, hop] at h
    have := op_move (P := P) (.inr hop) h hH hs
    cases h
    exact ⟨this, fun _ _ => rfl, Nat.le_refl _⟩
  | pick c x y =>
    simp only [evalO, hop] at h
    exact three_q h (op_pick hop h hH hs)
  | alloc et =>
    simp only [evalO, hop] at h
    cases hz : zeroD P et with
    | none => simp [hz] at h
    | some z =>
      simp only [hz, Option.bind_some] at h
      obtain ⟨zv, rfl, hzv⟩ := zeroD_some hz
      have hrun : (execOp a.eval o).run P w = .ok (.value (.pointer (some ⟨w.heap.size, 0, none⟩))) (w.alloc (.cells zv.cells et)) := by
        simp only [execOp, hop, Instr.alloc, Sem.run_bind, hzv, Result.andThen_ok, newVar_run, Sem.run_pure]
      refine ⟨op_box h hrun (rep_ofVal1 zv) hB hH hag, ?_, ?_⟩ <;> (unfold allocD at h; split at h <;> cases h)
      · intro k hk; exact List.getElem?_set_ne (by omega)
      · simp [Eff.heap]
  | box et x =>
    simp only [evalO, hop] at h
    have hrun : (execOp a.eval o).run P w = .ok (.value (.pointer (some ⟨w.heap.size, 0, none⟩))) (w.alloc (.cells (a.eval x).cells et)) := by
      simp only [execOp, hop, Instr.box, Sem.run_bind, newVar_run, Result.andThen_ok, Sem.run_pure]
    refine ⟨op_box h hrun (hs.eval x) hB hH hag, ?_, ?_⟩ <;> (unfold allocD at h; split at h <;> cases h)
    · intro k hk; exact List.getElem?_set_ne (by omega)
    · simp [Eff.heap]
  | build t parts =>
    simp only [evalO, hop] at h
    split at h
    · rename_i fs z hu hz
      split at h
      · rename_i pl hpl
        obtain ⟨hz1, hz2⟩ : zeroD P t = some z ∧ z.cells.all DV.leaf = true := by
          cases hq : zeroD P t with
          | none => simp [hq] at hz
          | some z' => simp [hq, Option.filter] at hz; exact ⟨by rw [hz.2], by rw [← hz.2]; simpa using hz.1⟩
        exact three_q h (op_buildS hop hu hz1 hpl h hz2 hH hs)
      · cases h
    · rename_i n et z hu hz
      split at h
      · rename_i i hi
        obtain ⟨hz1, hz2⟩ : zeroD P t = some z ∧ z.cells.all DV.leaf = true := by
          cases hq : zeroD P t with
          | none => simp [hq] at hz
          | some z' => simp [hq, Option.filter] at hz; exact ⟨by rw [hz.2], by rw [← hz.2]; simpa using hz.1⟩
        exact three_q h (op_buildA hop hu hz1 hi h hz2 hH hs)
      · cases h
    · cases h
  | buildSlice t len parts =>
    simp only [evalO, hop] at h
    split at h
    · rename_i et hu
      split at h
      · rename_i ag sz z ht hz
        exact three_q h (op_buildL hop hu ht hz h hB hH hs)
      · cases h
    · cases h
  | load t x =>
    simp only [evalO, hop] at h
    split at h
    · rename_i ag sz ht
      refine ⟨op_load hop ht h hH hs hag, ?_⟩
      unfold loadD at h
      split at h
      · split at h
        · obtain ⟨_, rfl⟩ := rv_some h
          exact ⟨fun _ _ => rfl, Nat.le_refl _⟩
        · cases h
      · obtain ⟨_, rfl⟩ := qv_some h
        exact ⟨fun _ _ => rfl, Nat.le_refl _⟩
      · cases h
    · cases h
  | store t x y =>
    simp only [evalO, hop] at h
    split at h
    · rename_i ag sz ht
      refine three_set (op_store hop ht h hH hs hag) ?_
      unfold storeD at h
      split at h
      · split at h
        · split at h
          · cases h; simp [Eff.heap]
          · cases h
        · cases h
      · cases h
    · cases h
  | nilCheck x =>
    simp only [evalO, hop] at h
    exact three_q h (op_nil hop h hH hs)
  | binOp op t x y yt =>
    simp only [evalO, hop] at h
    exact three_q h (op_bin hop h hH hs)
  | unOp op t x =>
    simp only [evalO, hop] at h
    exact three_q h (op_un hop h hH hs)
  | convert s t x =>
    simp only [evalO, hop] at h
    exact three_q h (op_conv hop h hH hs)
  | makeInterface t x =>
    simp only [evalO, hop] at h
    split at h
    · cases h
    · rename_i td hn hu
      have := op_iface hop hu (fun m hm => hn m hm) h hH hs
      cases h
      exact ⟨this, fun _ _ => rfl, Nat.le_refl _⟩
    · cases h
  | makeFunc fn first cap =>
    simp only [evalO, hop] at h
    have := op_func (P := P) hop h hH hs
    cases h
    exact ⟨this, fun _ _ => rfl, Nat.le_refl _⟩
  | makeSlice t l c =>
    simp only [evalO, hop] at h
    split at h
    · rename_i et hu
      split at h
      · rename_i ag sz i z ht hi hz
        refine ⟨op_make hop hu ht hi hz h hB hH hs hag, ?_, ?_⟩ <;> (unfold makeD at h; split at h <;> (try cases h); split at h <;> cases h)
        · intro k hk; exact List.getElem?_set_ne (by omega)
        · simp [Eff.heap]
      · cases h
    · cases h
  | slice t x lo hi mx =>
    simp only [evalO, hop] at h
    split at h
    · rename_i et hu
      split at h
      · rename_i sz ht
        refine three_q h ?_
        unfold slX at h
        split at h
        · rename_i l k m hl hk hm
          exact op_sliceSl hop hu ht hl hk hm h hH hs
        · simp [qv] at h
      · cases h
    · rename_i n et hu
      split at h
      · rename_i ag sz ht
        refine three_q h ?_
        unfold saX at h
        split at h
        · rename_i l k m hl hk hm
          exact op_sliceAr hop hu ht hl hk hm h hH hs
        · simp [qv] at h
      · cases h
    · cases h
  | fieldAddr s x f =>
    simp only [evalO, hop] at h
    split at h
    · rename_i fs hu
      split at h
      · rename_i fd hf
        split at h
        · rename_i i hi
          exact three_q h (op_fieldAddr hop hu hf hi h hH hs)
        · cases h
      · cases h
    · cases h
  | field t x f =>
    simp only [evalO, hop] at h
    split at h
    · rename_i fs hu
      split at h
      · rename_i fd hf
        split at h
        · rename_i ag sz ht
          refine three_q h ?_
          unfold fldD at h
          split at h
          · rename_i cs hc
            exact op_field hop hu hf ht hc h hH hs
          · simp [qv] at h
        · cases h
      · cases h
    · cases h
  | indexAddr t x i =>
    simp only [evalO, hop] at h
    split at h
    · rename_i len et hu
      split at h
      · rename_i ie hie
        exact three_q h (op_idxArr hop hu hie h hH hs)
      · cases h
    · rename_i et hu
      split at h
      · rename_i ie hie
        exact three_q h (op_idxSl hop hu hie h hH hs)
      · cases h
    · cases h
  | index t x i =>
    simp only [evalO, hop] at h
    split at h
    · rename_i len et hu
      split at h
      · rename_i ag sz ht
        refine three_q h ?_
        unfold idxV at h
        split at h
        · rename_i n cs hn hc
          split at h
          · rename_i h0
            exact op_index hop hu ht hn hc h0 h hH hs
          · simp [qv] at h
        · simp [qv] at h
      · cases h
    · cases h
  | extract t i =>
    simp only [evalO, hop] at h
    exact three_q h (op_ext hop h hH hs)
  | call c =>
    simp only [evalO, hop] at h
    unfold callOp at h
    split at h
    · rename_i hc
      split at h
      · rename_i x t hx ht
        exact three_q h (op_len hop hc hx ht h hH hs)
      · cases h
    · rename_i hc
      split at h
      · rename_i x t hx ht
        exact three_q h (op_cap hop hc hx ht h hH hs)
      · cases h
    · rename_i hc
      split at h
      · rename_i x y t t' hx ht
        split at h
        · rename_i htt
          subst htt
          split at h
          · rename_i et hu
            split at h
            · rename_i ag sz i z hsz hi hz
              split at h
              · rename_i hzl
                refine three_set (op_append hop hc hx ht hu hsz hi hz hzl h hB hH hs hag hfl) ?_
                unfold appendD at h
                split at h
                · split at h
                  · cases h; exact Nat.le_refl _
                  · split at h
                    · split at h
                      · cases h; simp [Eff.heap]
                      · split at h
                        · split at h
                          · cases h; simp [Eff.heap]
                          · cases h
                        · cases h
                      · cases h
                    · cases h
                · cases h
              · cases h
            · cases h
          · cases h
        · cases h
      · cases h
    · rename_i hc
      split at h
      · rename_i x y t t' hx ht
        split at h
        · rename_i et hu
          split at h
          · rename_i ag sz hsz
            refine three_set (op_copy hop hc hx ht hu hsz h hH hs hag) ?_
            unfold copyD at h
            split at h
            · split at h
              · split at h
                · simp only [] at h
                  split at h
                  · cases h; simp [Eff.heap]
                  · cases h
                · cases h
              · cases h
            · cases h
          · cases h
        · cases h
      · cases h
    · rename_i b _ _ _ _ hc
      exact three_q h (op_built hop hc h hH hs)
    · rename_i f hc
      unfold callV at h
      split at h
      · rename_i g cap hf
        exact op_value hP hcf hop hc hf h hB hH hs hag hfl
      · cases h
    · cases h
  | _ => simp [evalO, hop] at h
end Go.Proofs.Ytbhnkdnfmlnajaa

/- Deep values: regions in the order of the text; holes. -/
namespace Go.Proofs.Ytbhnkdnfmlnajaa
open Go Go.RowKit

variable {P : Program} {B : Nat → Nat → Prop} {G : Gh} {w : World} {H Hr : Heap} {o : Oper} {a : Act} {slots : List DV} {d : DV} {e : Eff}

theorem hole_set {k i : Nat} {x : DBlk} (h : H[k]? = some .hole) (hk : k ≠ i) : (H.set i x)[k]? = some .hole := by rw [List.getElem?_set_ne (Ne.symm hk)]; exact h
theorem hole_push {k : Nat} {x : DBlk} (h : H[k]? = some .hole) : (H ++ [x])[k]? = some .hole := by rw [List.getElem?_append_left (List.getElem?_eq_some_iff.1 h).1]; exact h
/-- only an operation that makes a block fills a hole, and its own one -/
theorem evalO_holes {cf : CF} {md : FuncId → CM} {fl nid : Nat} (hcf : CFSound P cf) (h : evalO P cf md fl nid o slots H = some (d, e)) {k : Nat} (hk : H[k]? = some .hole) (hn : k ≠ nid) : (e.heap H)[k]? = some .hole := by
  have q : ∀ {x : Option DV}, qv x = some (d, e) → (e.heap H)[k]? = some .hole := by
    intro x h
    obtain ⟨_, rfl⟩ := qv_some h
    exact hk
  have al : ∀ {et : TypeId} {x : DV}, allocD et x nid = some (d, e) → (e.heap H)[k]? = some .hole := by
    intro et x h
    unfold allocD at h
    split at h
    · cases h; exact hole_set hk hn
    · cases h
  unfold evalO at h
  simp only [] at h
  split at h
  · cases h; exact hk
  · cases h; exact hk
  · exact q h
  · rename_i et _
    cases hz : zeroD P et with
    | none => simp [hz] at h
    | some z => simp only [hz, Option.bind_some] at h; exact al h
  · exact al h
  · split at h
    · split at h
      · exact q h
      · cases h
    · split at h
      · exact q h
      · cases h
    · cases h
  · split at h
    · split at h
      · exact q h
      · cases h
    · cases h
  · split at h
    · unfold loadD at h
      split at h
      · split at h
        · obtain ⟨_, rfl⟩ := rv_some h; exact hk
        · cases h
      · exact q h
      · cases h
    · cases h
  · split at h
    · unfold storeD at h
      split at h
      · split at h
        · rename_i e' cs hc
          split at h
          · cases h
            refine hole_set hk fun e => ?_
            subst e
            rw [hk] at hc; cases hc
          · cases h
        · cases h
      · cases h
    · cases h
  · exact q h
  · exact q h
  · exact q h
  · exact q h
  · split at h
    · cases h
    · cases h; exact hk
    · cases h
  · cases h; exact hk
  · split at h
    · split at h
      · unfold makeD at h
        split at h
        · split at h
          · cases h; exact hole_set hk hn
          · cases h
        · cases h
      · cases h
    · cases h
  · split at h
    · split at h
      · exact q h
      · cases h
    · split at h
      · exact q h
      · cases h
    · cases h
  · split at h
    · split at h
      · split at h
        · exact q h
        · cases h
      · cases h
    · cases h
  · split at h
    · split at h
      · split at h
        · exact q h
        · cases h
      · cases h
    · cases h
  · split at h
    · split at h
      · exact q h
      · cases h
    · split at h
      · exact q h
      · cases h
    · cases h
  · split at h
    · split at h
      · exact q h
      · cases h
    · cases h
  · exact q h
  · unfold callOp at h
    split at h
    · split at h
      · exact q h
      · cases h
    · split at h
      · exact q h
      · cases h
    · split at h
      · split at h
        · split at h
          · split at h
            · split at h
              · unfold appendD at h
                split at h
                · split at h
                  · cases h; exact hk
                  · split at h
                    · split at h
                      · cases h; exact hole_push hk
                      · split at h
                        · rename_i k' _ _ _ hc
                          split at h
                          · cases h
                            refine hole_set hk fun e => ?_
                            subst e
                            rw [hk] at hc; cases hc
                          · cases h
                        · cases h
                      · cases h
                    · cases h
                · cases h
              · cases h
            · cases h
          · cases h
        · cases h
      · cases h
    · split at h
      · split at h
        · split at h
          · unfold copyD at h
            split at h
            · split at h
              · split at h
                · rename_i e' cs hc
                  simp only [] at h
                  split at h
                  · cases h
                    refine hole_set hk fun e => ?_
                    subst e
                    rw [hk] at hc; cases hc
                  · cases h
                · cases h
              · cases h
            · cases h
          · cases h
        · cases h
      · cases h
    · exact q h
    · unfold callV at h
      split at h
      · rename_i g cap _
        unfold callD at h
        split at h
        · cases hm : mapO argEl _ with
          | none => rw [hm] at h; cases h
          | some bs =>
            rw [hm, Option.bind_some] at h
            cases hc : cf g bs [] 0 with
            | none => rw [hc] at h; cases h
            | some r => rw [hc, Option.bind_some] at h; exact q h
        · cases hc : cf g _ H H.length with
          | none => rw [hc] at h; cases h
          | some r =>
            rw [hc, Option.bind_some] at h
            unfold ov at h
            cases ho : oldD H.length r.2 r.1 with
            | none => rw [ho] at h; cases h
            | some d' => rw [ho] at h; cases h; exact hk
        · cases hc : cf g _ H fl with
          | none => rw [hc] at h; cases h
          | some r =>
            obtain ⟨r, H1⟩ := r
            rw [hc, Option.bind_some] at h
            simp only [] at h
            cases ho : oldD H.length H1 r with
            | none => rw [ho] at h; cases h
            | some d' =>
              rw [ho, Option.bind_some] at h
              cases hcut : cutH H.length H1 with
              | none => rw [hcut] at h; cases h
              | some H2 =>
                rw [hcut] at h
                cases h
                have h1 := (hcf _ _ _ _ _ _ hc).2.2 k hk
                have hlt := (List.getElem?_eq_some_iff.1 hk).1
                obtain ⟨y, hy, hf⟩ := (mapO_some hcut).2 k .hole (by rw [List.getElem?_take_of_lt hlt]; exact h1)
                simp only [oldBlk] at hf
                cases hf
                exact hy
        · cases hc : cf g _ H fl with
          | none => rw [hc] at h; cases h
          | some r =>
            obtain ⟨r, H1⟩ := r
            rw [hc] at h
            cases h
            exact (hcf _ _ _ _ _ _ hc).2.2 k hk
      · cases h
    · cases h
  · cases h
/-- one step of a region: the state ahead of it, what is put, what becomes of the heap -/
structure Stp where
  S : St
  nid : Nat
  d : DV
  e : Eff
def StepOk (X : Ctx) (ops : Array Oper) (o : Oper) (s : Stp) : Prop :=
  (wantD ops o s.S.slots = some true ∧ evalO X.P X.cf X.md X.fl s.nid o s.S.slots s.S.heap = some (s.d, s.e)) ∨ (wantD ops o s.S.slots = some false ∧ s.d = .flat undef ∧ s.e = .q)
def nextId (o : Oper) (nid : Nat) : Nat := if isAl o then nid + 1 else nid
def TraceOk (X : Ctx) (ops : Array Oper) : List Oper → Nat → St → List Stp → St → Prop
  | [], _, S, [], S' => S' = S
  | o :: l, nid, S, s :: tr, S' => s.S = S ∧ s.nid = nid ∧ StepOk X ops o s ∧ TraceOk X ops l (nextId o nid) ⟨putD S.slots o.dst s.d, s.e.heap S.heap⟩ tr S'
  | _, _, _, _, _ => False
theorem trace_of {X : Ctx} {ops : Array Oper} {k : List Nat → St → R} {r : DV × Heap} : ∀ (l : List Oper) (nid : Nat) (cs : List Nat) (S : St), opsK X ops l nid cs S k = some r →
    ∃ tr S', TraceOk X ops l nid S tr S' ∧ k ((tr.map fun s => s.e.cls).reverse ++ cs) S' = some r
  | [], nid, cs, S, h => ⟨[], S, rfl, h⟩
  | o :: l, nid, cs, S, h => by
    simp only [opsK, opK] at h
    cases hw : wantD ops o S.slots with
    | none => rw [hw] at h; cases h
    | some b =>
      rw [hw] at h
      cases b with
      | true =>
        simp only [wantE] at h
        cases hv : evalO X.P X.cf X.md X.fl nid o S.slots S.heap with
        | none => rw [hv] at h; cases h
        | some p =>
          rw [hv, Option.bind_some] at h
          obtain ⟨tr, S', ht, hk⟩ := trace_of l _ _ _ h
          refine ⟨⟨S, nid, p.1, p.2⟩ :: tr, S', ⟨rfl, rfl, .inl ⟨hw, hv⟩, ht⟩, ?_⟩
          simpa using hk
      | false =>
        simp only [wantE, Option.bind_some] at h
        obtain ⟨tr, S', ht, hk⟩ := trace_of l _ _ _ h
        refine ⟨⟨S, nid, .flat undef, .q⟩ :: tr, S', ⟨rfl, rfl, .inr ⟨hw, rfl, rfl⟩, ht⟩, ?_⟩
        simpa [Eff.cls] using hk
theorem want_eq {I : Nat → Nat → Prop} {ops : Array Oper} {b : Bool} (h : wantD ops o slots = some b) (hs : SR I w G slots a) : Region.wanted o (yielded ops a.tmps) = b := by
  unfold wantD at h
  unfold Region.wanted
  split at h
  · rename_i hg
    cases h
    simp [hg]
  · rename_i j want hg
    simp only [hg]
    split at h
    · rename_i t ht
      unfold guardD at h
      have key : ∀ v, slots.getD t .any = .flat v → a.tmps[t]? = some v := by
        intro v hv
        cases hd : slots[t]? with
        | none => simp [List.getD, hd] at hv
        | some x =>
          simp [List.getD, hd] at hv
          subst hv
          obtain ⟨v', hv', hr⟩ := hs.2.get t _ hd
          simp only [Rep] at hr
          subst hr
          simpa using hv'
      split at h
      · rename_i b' hb
        cases h
        have := key _ hb
        simp only [yielded, ht, Option.bind_some, this]
        cases b' <;> cases want <;> rfl
      · rename_i x hb
        cases h
        have := key _ hb
        simp only [yielded, ht, Option.bind_some, this]
        rfl
      · cases h
    · cases h
/-- one operation of a region, done -/
theorem step_sound {X : Ctx} {ops : Array Oper} {s : Stp} {i : Nat} (hP : NoOwn X.P) (hcf : CFSound X.P X.cf) (ho : ops[i]? = some o) (hstep : StepOk X ops o s) (hB : ∀ b j, w.heap.size ≤ b → B b j) (hH : HR B G w Hr) (hs : SR (ImmB B G) w G slots a)
    (hw : wantD ops o slots = wantD ops o s.S.slots) (he : evalO X.P X.cf X.md X.fl s.nid o slots s.S.heap = evalO X.P X.cf X.md X.fl s.nid o s.S.slots s.S.heap) (hag : Agree s.e s.S.heap Hr) (hfl : s.e.wr → X.fl ≤ s.S.heap.length) (hnid : X.fl ≤ s.nid)
    {K : Act → World → Prop} {Q : Exit → Act → World → Prop} (h : ∀ V w' G', Keep G w G' w' → HR B G' w' (s.e.heap Hr) → Rep (ImmB B G') w' G' s.d V → K (a.put o.dst V) w') : wpOp X.P ops Q i K a w := by
  unfold wpOp
  simp only [ho]
  rcases hstep with ⟨h1, h2⟩ | ⟨h1, h2, h3⟩
  · rw [want_eq (hw.trans h1) hs, if_pos rfl]
    exact .inl ((op_sound hP hcf (he.trans h2) hB hH hs hag hfl hnid).1 K Q h)
  · rw [want_eq (hw.trans h1) hs]
    simp only [Bool.false_eq_true, if_false]
    refine h undef w G (Keep.refl G w) ?_ ?_
    · rw [h3]; exact hH
    · rw [h2]; simp [Rep]
theorem al_is {cf : CF} {md : FuncId → CM} {fl nid k : Nat} {b : DBlk} (h : evalO P cf md fl nid o slots H = some (d, .al k b)) : k = nid ∧ isAl o = true := by
  have q : ∀ {x : Option DV}, qv x = some (d, .al k b) → k = nid ∧ isAl o = true := by
    intro x h
    obtain ⟨_, h⟩ := qv_some h
    cases h
  have al : ∀ {et : TypeId} {x : DV}, isAl o = true → allocD et x nid = some (d, .al k b) → k = nid ∧ isAl o = true := by
    intro et x ho h
    unfold allocD at h
    split at h
    · cases h; exact ⟨rfl, ho⟩
    · cases h
  cases hop : o.op with
  | alloc et =>
    simp only [evalO, hop] at h
    cases hz : zeroD P et with
    | none => simp [hz] at h
    | some z => simp only [hz, Option.bind_some] at h; exact al (by simp [isAl, hop]) h
  | box et x =>
    simp only [evalO, hop] at h
    exact al (by simp [isAl, hop]) h
  | makeSlice t l c =>
    simp only [evalO, hop] at h
    split at h
    · split at h
      · unfold makeD at h
        split at h
        · split at h
          · cases h; exact ⟨rfl, by simp [isAl, hop]⟩
          · cases h
        · cases h
      · cases h
    · cases h
  | load t x =>
    simp only [evalO, hop] at h
    split at h
    · unfold loadD at h
      split at h
      · split at h
        · obtain ⟨_, h⟩ := rv_some h; cases h
        · cases h
      · exact q h
      · cases h
    · cases h
  | store t x y =>
    simp only [evalO, hop] at h
    split at h
    · unfold storeD at h
      split at h
      · split at h
        · split at h
          · cases h
          · cases h
        · cases h
      · cases h
    · cases h
  | makeInterface t x =>
    simp only [evalO, hop] at h
    split at h <;> cases h
  | call c =>
    simp only [evalO, hop] at h
    unfold callOp at h
    split at h
    · split at h
      · exact q h
      · cases h
    · split at h
      · exact q h
      · cases h
    · split at h
      · split at h
        · split at h
          · split at h
            · split at h
              · unfold appendD at h
                split at h
                · split at h
                  · cases h
                  · split at h
                    · split at h
                      · cases h
                      · split at h
                        · split at h <;> cases h
                        · cases h
                      · cases h
                    · cases h
                · cases h
              · cases h
            · cases h
          · cases h
        · cases h
      · cases h
    · split at h
      · split at h
        · split at h
          · unfold copyD at h
            split at h
            · split at h
              · split at h
                · simp only [] at h
                  split at h <;> cases h
                · cases h
              · cases h
            · cases h
          · cases h
        · cases h
      · cases h
    · exact q h
    · unfold callV at h
      split at h
      · rename_i g cap _
        unfold callD at h
        split at h
        · cases hm : mapO argEl _ with
          | none => rw [hm] at h; cases h
          | some bs =>
            rw [hm, Option.bind_some] at h
            cases hc : cf g bs [] 0 with
            | none => rw [hc] at h; cases h
            | some r => rw [hc, Option.bind_some] at h; exact q h
        · cases hc : cf g _ H H.length with
          | none => rw [hc] at h; cases h
          | some r =>
            rw [hc, Option.bind_some] at h
            unfold ov at h
            cases ho : oldD H.length r.2 r.1 with
            | none => rw [ho] at h; cases h
            | some d' => rw [ho] at h; cases h
        · cases hc : cf g _ H fl with
          | none => rw [hc] at h; cases h
          | some r =>
            obtain ⟨r, H1⟩ := r
            rw [hc, Option.bind_some] at h
            simp only [] at h
            cases ho : oldD H.length H1 r with
            | none => rw [ho] at h; cases h
            | some d' =>
              rw [ho, Option.bind_some] at h
              cases hcut : cutH H.length H1 with
              | none => rw [hcut] at h; cases h
              | some H2 => rw [hcut] at h; cases h
        · cases hc : cf g _ H fl with
          | none => rw [hc] at h; cases h
          | some r => rw [hc] at h; cases h
      · cases h
    · cases h
  | _ =>
    simp only [evalO, hop] at h
    first
      | exact q h
      | cases h
      | (repeat' split at h) <;> first | exact q h | cases h
/-- what an append turns is no cells -/
def TkOk (H H' : Heap) : Prop := ∀ (k : Nat) (t : TypeId) (cs : List DV), H'[k]? = some (.cells t cs) → H[k]? = some (.cells t cs)
theorem tk_push (H : Heap) (e : TypeId) (s n : Nat) : TkOk H (H ++ [.token e s n]) := by
  intro k t cs h
  rcases Nat.lt_or_ge k H.length with hk | hk
  · rwa [List.getElem?_append_left hk] at h
  · rw [List.getElem?_append_right hk] at h
    cases hj : k - H.length with
    | zero => rw [hj] at h; cases h
    | succ j => rw [hj] at h; simp at h
theorem tk_set (H : Heap) (i : Nat) (e : TypeId) (s n : Nat) : TkOk H (H.set i (.token e s n)) := by
  intro k t cs h
  rw [List.getElem?_set] at h
  split at h
  · split at h
    · cases h
    · cases h
  · exact h
theorem tk_cells {cf : CF} {md : FuncId → CM} {fl nid : Nat} {H' : Heap} (h : evalO P cf md fl nid o slots H = some (d, .tk H')) : TkOk H H' := by
  have q : ∀ {x : Option DV}, qv x = some (d, .tk H') → TkOk H H' := by
    intro x h
    obtain ⟨_, h⟩ := qv_some h
    cases h
  have al : ∀ {et : TypeId} {x : DV}, allocD et x nid = some (d, .tk H') → TkOk H H' := by
    intro et x h
    unfold allocD at h
    split at h <;> cases h
  cases hop : o.op with
  | alloc et =>
    simp only [evalO, hop] at h
    cases hz : zeroD P et with
    | none => simp [hz] at h
    | some z => simp only [hz, Option.bind_some] at h; exact al h
  | box et x =>
    simp only [evalO, hop] at h
    exact al h
  | makeSlice t l c =>
    simp only [evalO, hop] at h
    split at h
    · split at h
      · unfold makeD at h
        split at h
        · split at h
          · cases h
          · cases h
        · cases h
      · cases h
    · cases h
  | load t x =>
    simp only [evalO, hop] at h
    split at h
    · unfold loadD at h
      split at h
      · split at h
        · obtain ⟨_, h⟩ := rv_some h; cases h
        · cases h
      · exact q h
      · cases h
    · cases h
  | store t x y =>
    simp only [evalO, hop] at h
    split at h
    · unfold storeD at h
      split at h
      · split at h
        · split at h
          · cases h
          · cases h
        · cases h
      · cases h
    · cases h
  | makeInterface t x =>
    simp only [evalO, hop] at h
    split at h <;> cases h
  | call c =>
    simp only [evalO, hop] at h
    unfold callOp at h
    split at h
    · split at h
      · exact q h
      · cases h
    · split at h
      · exact q h
      · cases h
    · split at h
      · split at h
        · split at h
          · split at h
            · split at h
              · unfold appendD at h
                split at h
                · split at h
                  · cases h; exact fun k t cs hh => hh
                  · split at h
                    · split at h
                      · cases h; exact tk_push _ _ _ _
                      · split at h
                        · split at h
                          · cases h; exact tk_set _ _ _ _ _
                          · cases h
                        · cases h
                      · cases h
                    · cases h
                · cases h
              · cases h
            · cases h
          · cases h
        · cases h
      · cases h
    · split at h
      · split at h
        · split at h
          · unfold copyD at h
            split at h
            · split at h
              · split at h
                · simp only [] at h
                  split at h <;> cases h
                · cases h
              · cases h
            · cases h
          · cases h
        · cases h
      · cases h
    · exact q h
    · unfold callV at h
      split at h
      · rename_i g cap _
        unfold callD at h
        split at h
        · cases hm : mapO argEl _ with
          | none => rw [hm] at h; cases h
          | some bs =>
            rw [hm, Option.bind_some] at h
            cases hc : cf g bs [] 0 with
            | none => rw [hc] at h; cases h
            | some r => rw [hc, Option.bind_some] at h; exact q h
        · cases hc : cf g _ H H.length with
          | none => rw [hc] at h; cases h
          | some r =>
            rw [hc, Option.bind_some] at h
            unfold ov at h
            cases ho : oldD H.length r.2 r.1 with
            | none => rw [ho] at h; cases h
            | some d' => rw [ho] at h; cases h
        · cases hc : cf g _ H fl with
          | none => rw [hc] at h; cases h
          | some r =>
            obtain ⟨r, H1⟩ := r
            rw [hc, Option.bind_some] at h
            simp only [] at h
            cases ho : oldD H.length H1 r with
            | none => rw [ho] at h; cases h
            | some d' =>
              rw [ho, Option.bind_some] at h
              cases hcut : cutH H.length H1 with
              | none => rw [hcut] at h; cases h
              | some H2 => rw [hcut] at h; cases h
        · cases hc : cf g _ H fl with
          | none => rw [hc] at h; cases h
          | some r => rw [hc] at h; cases h
      · cases h
    · cases h
  | _ =>
    simp only [evalO, hop] at h
    first
      | exact q h
      | cases h
      | (repeat' split at h) <;> first | exact q h | cases h
/-- holes ahead of an operation are there behind it, but its own one -/
theorem step_holes {X : Ctx} {ops : Array Oper} {s : Stp} (hcf : CFSound X.P X.cf) (hstep : StepOk X ops o s) {k : Nat} (hk : s.S.heap[k]? = some .hole) (hn : isAl o = true → k ≠ s.nid) : (s.e.heap s.S.heap)[k]? = some .hole := by
  rcases hstep with ⟨_, h2⟩ | ⟨_, _, h3⟩
  · by_cases hkn : k = s.nid
    · have hna : isAl o = false := by
        cases hb : isAl o with
        | true => exact absurd hkn (hn hb)
        | false => rfl
      cases he : s.e with
      | al k' b =>
        rw [he] at h2
        have := (al_is h2).2
        rw [hna] at this; cases this
      | q => exact hk
      | rd => exact hk
      | ro => exact hk
      | ch H' =>
        rw [he] at h2
        -- reckoned with another number the same comes out: the operation makes no block
        have := evalO_holes (nid := s.nid + 1) hcf (d := s.d) (e := .ch H') (o := o) (slots := s.S.slots) (md := X.md) (fl := X.fl) (by
          rw [← h2]
          unfold isAl at hna
          unfold evalO
          cases hop : o.op <;> simp_all) hk (by omega)
        exact this
      | tk H' =>
        rw [he] at h2
        -- reckoned with another number the same comes out: the operation makes no block
        have := evalO_holes (nid := s.nid + 1) hcf (d := s.d) (e := .tk H') (o := o) (slots := s.S.slots) (md := X.md) (fl := X.fl) (by
          rw [← h2]
          unfold isAl at hna
          unfold evalO
          cases hop : o.op <;> simp_all) hk (by omega)
        exact this
    · exact evalO_holes hcf h2 hk hkn
  · rw [h3]; exact hk
end Go.Proofs.Ytbhnkdnfmlnajaa

/- Deep values: regions, in the order of the text and in any order that the edges allow. -/
namespace Go.Proofs.Ytbhnkdnfmlnajaa
open Go Go.RowKit

abbrev Zip := List (Oper × Stp)
def foldS (L : Nat → Bool) : Zip → Nat → List DV → List DV
  | [], _, acc => acc
  | p :: z, i, acc => foldS L z (i + 1) (if L i then putD acc p.1.dst p.2.d else acc)
def foldH (L : Nat → Bool) : Zip → Nat → Heap → Heap
  | [], _, acc => acc
  | p :: z, i, acc => foldH L z (i + 1) (if L i then p.2.e.heap acc else acc)
theorem putD_len (acc : List DV) (dst : Option Tmp) (d : DV) : (putD acc dst d).length = acc.length := by cases dst <;> simp [putD]
theorem putD_get (acc : List DV) (dst : Option Tmp) (d : DV) (t : Nat) : (putD acc dst d)[t]? = if dst = some t ∧ t < acc.length then some d else acc[t]? := by
  cases dst with
  | none => simp [putD]
  | some u =>
    simp only [putD, Option.some.injEq]
    by_cases h : u = t
    · subst h
      by_cases hl : u < acc.length
      · simp [hl]
      · simp [hl]
    · simp [h]
theorem foldS_len (L : Nat → Bool) : ∀ (z : Zip) (i : Nat) (acc : List DV), (foldS L z i acc).length = acc.length
  | [], _, _ => rfl
  | p :: z, i, acc => by
    simp only [foldS]
    rw [foldS_len L z]
    split
    · exact putD_len _ _ _
    · rfl
theorem foldS_congr {L L' : Nat → Bool} (t : Nat) : ∀ (z : Zip) (i : Nat) (acc acc' : List DV), acc.length = acc'.length → acc[t]? = acc'[t]? → (∀ j p, z[j]? = some p → p.1.dst = some t → L (i + j) = L' (i + j)) → (foldS L z i acc)[t]? = (foldS L' z i acc')[t]?
  | [], _, _, _, _, h, _ => h
  | p :: z, i, acc, acc', hl, h, hL => by
    simp only [foldS]
    refine foldS_congr t z (i + 1) _ _ ?_ ?_ fun j q hq hd => by have := hL (j + 1) q (by simpa using hq) hd; rwa [← Nat.add_assoc, Nat.add_right_comm] at this
    · split <;> split <;> simp [putD_len, hl]
    · by_cases hd : p.1.dst = some t
      · have := hL 0 p rfl hd
        rw [Nat.add_zero] at this
        rw [← this]
        split
        · rw [putD_get, putD_get, hl, h]
        · exact h
      · have e1 : ∀ (b : Bool) (acc : List DV), (if b then putD acc p.1.dst p.2.d else acc)[t]? = acc[t]? := by
          intro b acc
          cases b
          · rfl
          · simp only [if_true]; rw [putD_get, if_neg (by simp [hd])]
        rw [e1, e1, h]
/-- behind the last one that writes a slot -/
theorem foldS_last {L : Nat → Bool} (t : Nat) : ∀ (z : Zip) (i j : Nat) (p : Oper × Stp) (acc : List DV), z[j]? = some p → p.1.dst = some t → L (i + j) = true → (∀ j' q, j < j' → z[j']? = some q → q.1.dst = some t → L (i + j') = false) → t < acc.length → (foldS L z i acc)[t]? = some p.2.d
  | [], _, j, _, _, h, _, _, _, _ => by simp at h
  | q :: z, i, 0, p, acc, h, hd, hL, hl, ht => by
    simp at h
    subst h
    simp only [foldS]
    rw [Nat.add_zero] at hL
    rw [hL, if_pos rfl]
    have := foldS_congr (L := L) (L' := fun _ => false) t z (i + 1) (putD acc q.1.dst q.2.d) (putD acc q.1.dst q.2.d) rfl rfl (fun j x hx hxd => by
      have := hl (j + 1) x (by omega) (by simpa using hx) hxd
      rwa [← Nat.add_assoc, Nat.add_right_comm] at this)
    rw [this]
    have none : ∀ (z : Zip) (i : Nat) (acc : List DV), foldS (fun _ => false) z i acc = acc := by
      intro z
      induction z with
      | nil => intro i acc; rfl
      | cons p z ih => intro i acc; simp only [foldS, Bool.false_eq_true, if_false]; exact ih _ _
    rw [none, putD_get, if_pos ⟨hd, ht⟩]
  | q :: z, i, j + 1, p, acc, h, hd, hL, hl, ht => by
    simp only [foldS]
    refine foldS_last t z (i + 1) j p _ (by simpa using h) hd (by rwa [← Nat.add_assoc, Nat.add_right_comm] at hL) (fun j' x hj hx hxd => by
      have := hl (j' + 1) x (by omega) (by simpa using hx) hxd
      rwa [← Nat.add_assoc, Nat.add_right_comm] at this) ?_
    split
    · rw [putD_len]; exact ht
    · exact ht
def loud : Eff → Bool
  | .ch _ => true
  | .tk _ => true
  | .al .. => true
  | _ => false
theorem quiet_heap {e : Eff} (h : loud e = false) (H : Heap) : e.heap H = H := by cases e <;> simp_all [loud, Eff.heap]
theorem abs_heap {e : Eff} {H' : Heap} (h : e.abs = some H') (H : Heap) : e.heap H = H' := by cases e <;> simp_all [Eff.abs, Eff.heap]
theorem abs_loud {e : Eff} {H' : Heap} (h : e.abs = some H') : loud e = true := by cases e <;> simp_all [Eff.abs, loud]
theorem foldH_congr {L L' : Nat → Bool} : ∀ (z : Zip) (i : Nat) (acc : Heap), (∀ j p, z[j]? = some p → loud p.2.e = true → L (i + j) = L' (i + j)) → foldH L z i acc = foldH L' z i acc
  | [], _, _, _ => rfl
  | p :: z, i, acc, h => by
    simp only [foldH]
    have e1 : (if L i then p.2.e.heap acc else acc) = if L' i then p.2.e.heap acc else acc := by
      cases hl : loud p.2.e with
      | false => rw [quiet_heap hl]; simp
      | true =>
        have := h 0 p rfl hl
        rw [Nat.add_zero] at this
        rw [this]
    rw [e1]
    exact foldH_congr z (i + 1) _ fun j q hq hl => by have := h (j + 1) q (by simpa using hq) hl; rwa [← Nat.add_assoc, Nat.add_right_comm] at this
/-- the numbers of blocks to be made: holes till then, each its own -/
def HolesIn (z : Zip) (acc : Heap) : Prop := ∀ (j : Nat) (p : Oper × Stp) (k : Nat) (b : DBlk), z[j]? = some p → p.2.e = .al k b → acc[k]? = some .hole
def Zok : Zip → Prop
  | [] => True
  | p :: z => (∀ H', p.2.e.abs = some H' → HolesIn z H') ∧ (∀ k b, p.2.e = .al k b → ∀ (j : Nat) (q : Oper × Stp) (k' : Nat) (b' : DBlk), z[j]? = some q → q.2.e = .al k' b' → k' ≠ k) ∧ Zok z
theorem HolesIn.tail {p : Oper × Stp} {z : Zip} {acc : Heap} (h : HolesIn (p :: z) acc) : HolesIn z acc := fun j q k b hq he => h (j + 1) q k b (by simpa using hq) he
theorem HolesIn.step {p : Oper × Stp} {z : Zip} {acc : Heap} (hz : Zok (p :: z)) (h : HolesIn (p :: z) acc) (b : Bool) : HolesIn z (if b then p.2.e.heap acc else acc) := by
  obtain ⟨h1, h2, _⟩ := hz
  cases b with
  | false => exact h.tail
  | true =>
    simp only [if_true]
    cases he : p.2.e with
    | ch H' => exact h1 H' (by rw [he]; rfl)
    | tk H' => exact h1 H' (by rw [he]; rfl)
    | al k x =>
      intro j q k' b' hq hq'
      exact hole_set (h.tail j q k' b' hq hq') (h2 k x he j q k' b' hq hq')
    | q => exact h.tail
    | rd => exact h.tail
    | ro => exact h.tail
/-- what a load may meet -/
def Near (acc acc' : Heap) : Prop := ∀ (k : Nat) (t : TypeId) (cs : List DV), acc'[k]? = some (.cells t cs) → acc[k]? = some (.cells t cs) ∨ acc[k]? = some .hole
set_option linter.unusedSimpArgs false in
/-- L is what there is, L' the text: what of the text alone is there makes no cells -/
theorem foldH_near {L L' : Nat → Bool} : ∀ (z : Zip) (i : Nat) (acc acc' : Heap), Zok z → HolesIn z acc → HolesIn z acc' → Near acc acc' → (∀ j p H', z[j]? = some p → p.2.e = .ch H' → L (i + j) = L' (i + j)) →
    (∀ j p H', z[j]? = some p → p.2.e = .tk H' → L (i + j) = true → L' (i + j) = true) → (∀ j p H', z[j]? = some p → p.2.e = .tk H' → L' (i + j) = true → ∀ (k : Nat) (t : TypeId) (cs : List DV), H'[k]? = some (.cells t cs) → (foldH L' (z.take j) i acc')[k]? = some (.cells t cs)) →
    Near (foldH L z i acc) (foldH L' z i acc')
  | [], _, _, _, _, _, _, h, _, _, _ => h
  | p :: z, i, acc, acc', hz, ha, ha', h, hL, hT, hS => by
    simp only [foldH]
    refine foldH_near z (i + 1) _ _ hz.2.2 (ha.step hz (L i)) (ha'.step hz (L' i)) ?_ (fun j q H' hq he => by have := hL (j + 1) q H' (by simpa using hq) he; rwa [← Nat.add_assoc, Nat.add_right_comm] at this) (fun j q H' hq he => by have := hT (j + 1) q H' (by simpa using hq) he; rwa [← Nat.add_assoc, Nat.add_right_comm] at this) (fun j q H' hq he hl => by
      have := hS (j + 1) q H' (by simpa using hq) he (by rwa [← Nat.add_assoc, Nat.add_right_comm])
      simpa only [List.take_succ_cons, foldH] using this)
    cases he : p.2.e with
    | ch H' =>
      have := hL 0 p H' rfl he
      rw [Nat.add_zero] at this
      rw [← this]
      cases L i
      · exact h
      · exact fun k t cs hx => .inl hx
    | tk H' =>
      have h1 := hT 0 p H' rfl he
      have h2 := hS 0 p H' rfl he
      rw [Nat.add_zero] at h1 h2
      cases hLi : L i <;> cases hLi' : L' i
      · exact h
      · simp only [Bool.false_eq_true, if_false, if_true, Eff.heap]
        intro k t cs hx
        exact h k t cs (by have := h2 hLi' k t cs hx; simpa only [List.take_zero, foldH] using this)
      · rw [h1 hLi] at hLi'; cases hLi'
      · exact fun k t cs hx => .inl hx
    | al k b =>
      have h1 := ha 0 p k b rfl he
      have h2 := ha' 0 p k b rfl he
      have hk1 := (List.getElem?_eq_some_iff.1 h1).1
      have hk2 := (List.getElem?_eq_some_iff.1 h2).1
      intro k' t cs hx
      by_cases hk : k' = k
      · subst hk
        cases hLi : L i <;> cases hLi' : L' i <;> simp only [hLi, hLi', if_true, if_false, Bool.false_eq_true, Eff.heap] at hx ⊢
        · exact h k' t cs hx
        · exact .inr h1
        · rw [h2] at hx; cases hx
        · rw [List.getElem?_set_self hk2] at hx
          rw [List.getElem?_set_self hk1]
          exact .inl hx
      · have e1 : ∀ (c : Bool) (acc : Heap), (if c = true then (Eff.al k b).heap acc else acc)[k']? = acc[k']? := by
          intro c acc
          cases c
          · rfl
          · simp only [if_true, Eff.heap]; exact List.getElem?_set_ne (Ne.symm hk)
        rw [e1] at hx ⊢
        exact h k' t cs hx
    | q => simp only [Eff.heap, ite_self]; exact h
    | rd => simp only [Eff.heap, ite_self]; exact h
    | ro => simp only [Eff.heap, ite_self]; exact h
/-- a fold up to a place -/
theorem foldH_upto {L L' : Nat → Bool} : ∀ (z : Zip) (i j : Nat) (acc : Heap), (∀ j', j' < j → L (i + j') = L' (i + j')) → (∀ j', j ≤ j' → L (i + j') = false) → foldH L z i acc = foldH L' (z.take j) i acc
  | [], _, _, _, _, _ => by simp [foldH]
  | p :: z, i, 0, acc, h1, h2 => by
    rw [List.take_zero]
    simp only [foldH]
    have h0 := h2 0 (Nat.le_refl _)
    rw [Nat.add_zero] at h0
    rw [h0]
    simp only [Bool.false_eq_true, if_false]
    have := foldH_upto (L := L) (L' := L') z (i + 1) 0 acc (fun j' hj => by omega) (fun j' _ => by have := h2 (j' + 1) (by omega); rwa [← Nat.add_assoc, Nat.add_right_comm] at this)
    rw [this, List.take_zero]
    rfl
  | p :: z, i, j + 1, acc, h1, h2 => by
    rw [List.take_succ_cons]
    simp only [foldH]
    have h0 := h1 0 (by omega)
    rw [Nat.add_zero] at h0
    rw [h0]
    exact foldH_upto z (i + 1) j _ (fun j' hj => by have := h1 (j' + 1) (by omega); rwa [← Nat.add_assoc, Nat.add_right_comm] at this) (fun j' hj => by have := h2 (j' + 1) (by omega); rwa [← Nat.add_assoc, Nat.add_right_comm] at this)
/-- a hole stays one while nobody fills it -/
theorem foldH_hole {L : Nat → Bool} {k : Nat} : ∀ (z : Zip) (i : Nat) (acc : Heap), acc[k]? = some .hole → (∀ j p H', z[j]? = some p → p.2.e.abs = some H' → L (i + j) = false) → (∀ (j : Nat) (p : Oper × Stp) (k' : Nat) (b' : DBlk), z[j]? = some p → p.2.e = .al k' b' → k' ≠ k) → (foldH L z i acc)[k]? = some .hole
  | [], _, _, h, _, _ => h
  | p :: z, i, acc, h, hc, ha => by
    simp only [foldH]
    refine foldH_hole z (i + 1) _ ?_ (fun j q H' hq he => by have := hc (j + 1) q H' (by simpa using hq) he; rwa [← Nat.add_assoc, Nat.add_right_comm] at this) (fun j q k' b' hq he => ha (j + 1) q k' b' (by simpa using hq) he)
    split
    · rename_i hL
      cases he : p.2.e with
      | ch H' =>
        have := hc 0 p H' rfl (by rw [he]; rfl)
        rw [Nat.add_zero, hL] at this; cases this
      | tk H' =>
        have := hc 0 p H' rfl (by rw [he]; rfl)
        rw [Nat.add_zero, hL] at this; cases this
      | al k' b' => exact hole_set h (Ne.symm (ha 0 p k' b' rfl he))
      | q => exact h
      | rd => exact h
      | ro => exact h
    · exact h
theorem foldH_alhole {L : Nat → Bool} {k : Nat} {b : DBlk} : ∀ (z : Zip) (i j : Nat) (p : Oper × Stp) (acc : Heap), Zok z → HolesIn z acc → z[j]? = some p → p.2.e = .al k b → L (i + j) = false → (∀ j' q H', j < j' → z[j']? = some q → q.2.e.abs = some H' → L (i + j') = false) → (foldH L z i acc)[k]? = some .hole
  | [], _, _, _, _, _, _, h, _, _, _ => by simp at h
  | q :: z, i, 0, p, acc, hz, ha, h, he, hL, hc => by
    simp at h
    subst h
    simp only [foldH]
    rw [Nat.add_zero] at hL
    rw [hL]
    simp only [Bool.false_eq_true, if_false]
    exact foldH_hole z (i + 1) _ (ha 0 q k b rfl he) (fun j x H' hx hxe => by have := hc (j + 1) x H' (by omega) (by simpa using hx) hxe; rwa [← Nat.add_assoc, Nat.add_right_comm] at this) (hz.2.1 k b he)
  | q :: z, i, j + 1, p, acc, hz, ha, h, he, hL, hc => by
    simp only [foldH]
    exact foldH_alhole z (i + 1) j p _ hz.2.2 (ha.step hz (L i)) (by simpa using h) he (by rwa [← Nat.add_assoc, Nat.add_right_comm] at hL) (fun j' x H' hj hx hxe => by have := hc (j' + 1) x H' (by omega) (by simpa using hx) hxe; rwa [← Nat.add_assoc, Nat.add_right_comm] at this)
theorem foldH_setk {L : Nat → Bool} {k : Nat} {b : DBlk} : ∀ (z : Zip) (i : Nat) (acc : Heap), (∀ j p H', z[j]? = some p → p.2.e.abs = some H' → L (i + j) = false) → (∀ (j : Nat) (p : Oper × Stp) (k' : Nat) (b' : DBlk), z[j]? = some p → p.2.e = .al k' b' → k' ≠ k) → foldH L z i (acc.set k b) = (foldH L z i acc).set k b
  | [], _, _, _, _ => rfl
  | p :: z, i, acc, hc, ha => by
    simp only [foldH]
    have e1 : (if L i then p.2.e.heap (acc.set k b) else acc.set k b) = (if L i then p.2.e.heap acc else acc).set k b := by
      split
      · rename_i hL
        cases he : p.2.e with
        | ch H' =>
          have := hc 0 p H' rfl (by rw [he]; rfl)
          rw [Nat.add_zero, hL] at this; cases this
        | tk H' =>
          have := hc 0 p H' rfl (by rw [he]; rfl)
          rw [Nat.add_zero, hL] at this; cases this
        | al k' b' => exact List.set_comm _ _ (Ne.symm (ha 0 p k' b' rfl he))
        | q => rfl
        | rd => rfl
        | ro => rfl
      · rfl
    rw [e1]
    exact foldH_setk z (i + 1) _ (fun j q H' hq he => by have := hc (j + 1) q H' (by simpa using hq) he; rwa [← Nat.add_assoc, Nat.add_right_comm] at this) (fun j q k' b' hq he => ha (j + 1) q k' b' (by simpa using hq) he)
theorem foldH_addal {L L' : Nat → Bool} {k : Nat} {b : DBlk} : ∀ (z : Zip) (i j : Nat) (p : Oper × Stp) (acc : Heap), Zok z → z[j]? = some p → p.2.e = .al k b → L (i + j) = false → L' (i + j) = true → (∀ j', j' ≠ j → L' (i + j') = L (i + j')) →
    (∀ j' q H', j < j' → z[j']? = some q → q.2.e.abs = some H' → L (i + j') = false) → foldH L' z i acc = (foldH L z i acc).set k b
  | [], _, _, _, _, _, h, _, _, _, _, _ => by simp at h
  | q :: z, i, 0, p, acc, hz, h, he, hL, hL', hs, hc => by
    simp at h
    subst h
    simp only [foldH]
    rw [Nat.add_zero] at hL hL'
    rw [hL, hL', he]
    simp only [Bool.false_eq_true, if_false, if_true, Eff.heap]
    rw [foldH_congr (L := L') (L' := L) z (i + 1) _ (fun j x _ _ => by have := hs (j + 1) (by omega); rwa [← Nat.add_assoc, Nat.add_right_comm] at this)]
    exact foldH_setk z (i + 1) _ (fun j x H' hx hxe => by have := hc (j + 1) x H' (by omega) (by simpa using hx) hxe; rwa [← Nat.add_assoc, Nat.add_right_comm] at this) (hz.2.1 k b he)
  | q :: z, i, j + 1, p, acc, hz, h, he, hL, hL', hs, hc => by
    simp only [foldH]
    have := hs 0 (by omega)
    rw [Nat.add_zero] at this
    rw [this]
    exact foldH_addal z (i + 1) j p _ hz.2.2 (by simpa using h) he (by rwa [← Nat.add_assoc, Nat.add_right_comm] at hL) (by rwa [← Nat.add_assoc, Nat.add_right_comm] at hL')
      (fun j' hj => by have := hs (j' + 1) (by omega); rwa [← Nat.add_assoc, Nat.add_right_comm] at this) (fun j' x H' hj hx hxe => by have := hc (j' + 1) x H' (by omega) (by simpa using hx) hxe; rwa [← Nat.add_assoc, Nat.add_right_comm] at this)
/-- behind the last that is loud -/
theorem foldH_last {L : Nat → Bool} {H' : Heap} : ∀ (z : Zip) (i j : Nat) (p : Oper × Stp) (acc : Heap), z[j]? = some p → p.2.e.abs = some H' → L (i + j) = true → (∀ j' q, j < j' → z[j']? = some q → loud q.2.e = true → L (i + j') = false) → foldH L z i acc = H'
  | [], _, _, _, _, h, _, _, _ => by simp at h
  | q :: z, i, 0, p, acc, h, he, hL, hc => by
    simp at h
    subst h
    simp only [foldH]
    rw [Nat.add_zero] at hL
    rw [hL]
    simp only [if_true, abs_heap he]
    rw [foldH_congr (L := L) (L' := fun _ => false) z (i + 1) _ (fun j x hx hl => by have := hc (j + 1) x (by omega) (by simpa using hx) hl; rwa [← Nat.add_assoc, Nat.add_right_comm] at this)]
    have none : ∀ (z : Zip) (i : Nat) (acc : Heap), foldH (fun _ => false) z i acc = acc := by
      intro z
      induction z with
      | nil => intro i acc; rfl
      | cons p z ih => intro i acc; simp only [foldH, Bool.false_eq_true, if_false]; exact ih _ _
    exact none _ _ _
  | q :: z, i, j + 1, p, acc, h, he, hL, hc => by
    simp only [foldH]
    exact foldH_last z (i + 1) j p _ (by simpa using h) he (by rwa [← Nat.add_assoc, Nat.add_right_comm] at hL) (fun j' x hj hx hl => by have := hc (j' + 1) x (by omega) (by simpa using hx) hl; rwa [← Nat.add_assoc, Nat.add_right_comm] at this)
/-- a trace, index by index -/
theorem trace_at {X : Ctx} {ops : Array Oper} : ∀ {l : List Oper} {nid : Nat} {S S' : St} {tr : List Stp}, TraceOk X ops l nid S tr S' → tr.length = l.length ∧
    (∀ (i : Nat) (o : Oper) (s : Stp), l[i]? = some o → tr[i]? = some s → StepOk X ops o s ∧ nid ≤ s.nid ∧ (∀ (i0 : Nat), s.S.slots = foldS (fun j => decide (j < i0 + i)) (l.zip tr) i0 S.slots ∧ s.S.heap = foldH (fun j => decide (j < i0 + i)) (l.zip tr) i0 S.heap)) ∧
    (∀ i0, S'.slots = foldS (fun _ => true) (l.zip tr) i0 S.slots ∧ S'.heap = foldH (fun _ => true) (l.zip tr) i0 S.heap)
  | [], nid, S, S', [], h => by
    simp only [TraceOk] at h
    subst h
    exact ⟨rfl, fun i o s ho => by simp at ho, fun _ => ⟨rfl, rfl⟩⟩
  | [], _, _, _, _ :: _, h => h.elim
  | _ :: _, _, _, _, [], h => h.elim
  | o :: l, nid, S, S', s :: tr, h => by
    obtain ⟨h1, h2, h3, h4⟩ := h
    obtain ⟨k1, k2, k3⟩ := trace_at h4
    refine ⟨by simp [k1], fun i o' s' ho hs => ?_, fun i0 => ?_⟩
    · cases i with
      | zero =>
        simp at ho hs
        subst ho; subst hs
        refine ⟨h3, Nat.le_of_eq h2.symm, fun i0 => ?_⟩
        have noneS : ∀ (z : Zip) (i : Nat) (acc : List DV), i0 ≤ i → foldS (fun j => decide (j < i0 + 0)) z i acc = acc := by
          intro z
          induction z with
          | nil => intro i acc _; rfl
          | cons p z ih =>
            intro i acc hi
            simp only [foldS]
            rw [if_neg (by simp; omega)]
            exact ih _ _ (by omega)
        have noneH : ∀ (z : Zip) (i : Nat) (acc : Heap), i0 ≤ i → foldH (fun j => decide (j < i0 + 0)) z i acc = acc := by
          intro z
          induction z with
          | nil => intro i acc _; rfl
          | cons p z ih =>
            intro i acc hi
            simp only [foldH]
            rw [if_neg (by simp; omega)]
            exact ih _ _ (by omega)
        rw [noneS _ _ _ (Nat.le_refl _), noneH _ _ _ (Nat.le_refl _), h1]
        exact ⟨rfl, rfl⟩
      | succ i =>
        obtain ⟨q1, q2, q3⟩ := k2 i o' s' (by simpa using ho) (by simpa using hs)
        refine ⟨q1, ?_, fun i0 => ?_⟩
        · have : nid ≤ nextId o nid := by unfold nextId; split <;> omega
          omega
        · have := q3 (i0 + 1)
          simp only [List.zip_cons_cons, foldS, foldH]
          rw [if_pos (by simp), if_pos (by simp)]
          rw [show i0 + 1 + i = i0 + (i + 1) by omega] at this
          exact this
    · have := k3 (i0 + 1)
      simp only [List.zip_cons_cons, foldS, foldH, if_true]
      exact this
def alCount (l : List Oper) : Nat := (l.filter isAl).length
theorem trace_holes {X : Ctx} {ops : Array Oper} (hcf : CFSound X.P X.cf) : ∀ {l : List Oper} {nid : Nat} {S S' : St} {tr : List Stp}, TraceOk X ops l nid S tr S' → (∀ k, nid ≤ k → k < nid + alCount l → S.heap[k]? = some .hole) →
    Zok (l.zip tr) ∧ HolesIn (l.zip tr) S.heap ∧ ∀ (j : Nat) (p : Oper × Stp) (k : Nat) (b : DBlk), (l.zip tr)[j]? = some p → p.2.e = .al k b → nid ≤ k ∧ k < nid + alCount l
  | [], nid, S, S', [], h, _ => ⟨by simp [Zok], fun j p k b hp => by simp at hp, fun j p k b hp => by simp at hp⟩
  | [], _, _, _, _ :: _, h, _ => h.elim
  | _ :: _, _, _, _, [], h, _ => h.elim
  | o :: l, nid, S, S', s :: tr, h, hh => by
    obtain ⟨h1, h2, h3, h4⟩ := h
    have hcount : nextId o nid + alCount l = nid + alCount (o :: l) := by
      unfold nextId alCount
      cases ho : isAl o <;> simp [ho]
      omega
    have hle : nid ≤ nextId o nid := by unfold nextId; split <;> omega
    have hnext : ∀ k, nextId o nid ≤ k → k < nextId o nid + alCount l → (s.e.heap S.heap)[k]? = some .hole := by
      intro k hk1 hk2
      rw [← h1]
      refine step_holes hcf h3 (by rw [h1]; exact hh k (by omega) (by omega)) fun ho => ?_
      unfold nextId at hk1
      rw [if_pos ho] at hk1
      omega
    obtain ⟨k1, k2, k3⟩ := trace_holes hcf h4 hnext
    have hal : ∀ k b, s.e = .al k b → k = nid ∧ isAl o = true := by
      intro k b he
      rcases h3 with ⟨_, h⟩ | ⟨_, _, h⟩
      · rw [he] at h
        obtain ⟨e1, e2⟩ := al_is h
        exact ⟨e1.trans h2, e2⟩
      · rw [he] at h; cases h
    refine ⟨⟨fun H' he j q k b hq hqe => ?_, fun k b he j q k' b' hq hqe => ?_, k1⟩, fun j p k b hp he => ?_, fun j p k b hp he => ?_⟩
    · have := k2 j q k b hq hqe
      simp only [] at he
      rw [abs_heap he] at this
      exact this
    · obtain ⟨e1, e2⟩ := hal k b he
      have := (k3 j q k' b' hq hqe).1
      unfold nextId at this
      rw [if_pos e2] at this
      omega
    · cases j with
      | zero =>
        simp at hp
        subst hp
        obtain ⟨e1, e2⟩ := hal k b he
        refine hh k (by omega) ?_
        unfold alCount
        simp [e2]; omega
      | succ j =>
        obtain ⟨q1, q2⟩ := k3 j p k b (by simpa using hp) he
        exact hh k (by omega) (by omega)
    · cases j with
      | zero =>
        simp at hp
        subst hp
        obtain ⟨e1, e2⟩ := hal k b he
        unfold alCount
        simp [e2]; omega
      | succ j =>
        obtain ⟨q1, q2⟩ := k3 j p k b (by simpa using hp) he
        omega
end Go.Proofs.Ytbhnkdnfmlnajaa

/- Deep values: regions are sound. -/
namespace Go.Proofs.Ytbhnkdnfmlnajaa
open Go Go.RowKit

variable {B : Nat → Nat → Prop} {G : Gh} {w : World} {Hr : Heap} {o : Oper} {a : Act} {slots : List DV}

def Facts (fl : Nat) (H H' : Heap) : Prop := (∀ k, k < fl → H'[k]? = H[k]?) ∧ H.length ≤ H'.length
theorem Facts.refl (fl : Nat) (H : Heap) : Facts fl H H := ⟨fun _ _ => rfl, Nat.le_refl _⟩
theorem Facts.trans {fl : Nat} {H H' H'' : Heap} (h : Facts fl H H') (k : Facts fl H' H'') : Facts fl H H'' := ⟨fun i hi => (k.1 i hi).trans (h.1 i hi), Nat.le_trans h.2 k.2⟩
theorem step_facts {X : Ctx} {ops : Array Oper} {s : Stp} (hP : NoOwn X.P) (hcf : CFSound X.P X.cf) (hstep : StepOk X ops o s) (hB : ∀ b j, w.heap.size ≤ b → B b j) (hH : HR B G w Hr) (hs : SR (ImmB B G) w G slots a)
    (he : evalO X.P X.cf X.md X.fl s.nid o slots s.S.heap = evalO X.P X.cf X.md X.fl s.nid o s.S.slots s.S.heap) (hag : Agree s.e s.S.heap Hr) (hfl : s.e.wr → X.fl ≤ s.S.heap.length) (hnid : X.fl ≤ s.nid) : Facts X.fl s.S.heap (s.e.heap s.S.heap) := by
  rcases hstep with ⟨h1, h2⟩ | ⟨h1, h2, h3⟩
  · exact (op_sound hP hcf (he.trans h2) hB hH hs hag hfl hnid).2
  · rw [h3]; exact Facts.refl _ _
theorem agree_self {X : Ctx} {ops : Array Oper} {s : Stp} (hstep : StepOk X ops o s) (hh : isAl o = true → s.S.heap[s.nid]? = some .hole) : Agree s.e s.S.heap s.S.heap := by
  cases he : s.e with
  | q => trivial
  | rd => exact Agree.refl_rd _
  | ro => rfl
  | ch H => rfl
  | tk H => rfl
  | al k b =>
    rcases hstep with ⟨_, h⟩ | ⟨_, _, h⟩
    · rw [he] at h
      obtain ⟨rfl, h2⟩ := al_is h
      exact hh h2
    · rw [he] at h; cases h
theorem seq_sound {X : Ctx} {ops : Array Oper} (hP : NoOwn X.P) (hcf : CFSound X.P X.cf) {Q : Exit → Act → World → Prop} : ∀ (l : List Oper) (i nid : Nat) (S S' : St) (tr : List Stp), ops.toList.drop i = l → TraceOk X ops l nid S tr S' →
    ∀ (G : Gh) (w : World) (a : Act), (∀ b j, w.heap.size ≤ b → B b j) → HR B G w S.heap → SR (ImmB B G) w G S.slots a → X.fl ≤ S.heap.length → X.fl ≤ nid → (∀ k, nid ≤ k → k < nid + alCount l → S.heap[k]? = some .hole) →
    (∀ a' w' G', Keep G w G' w' → HR B G' w' S'.heap → SR (ImmB B G') w' G' S'.slots a' → Facts X.fl S.heap S'.heap → Q .normal a' w') → wpOps X.P ops Q (List.range' i l.length) a w
  | [], i, nid, S, S', [], hd, h => by
    intro G w a hB hH hs hfl hnid hh hQ
    simp only [TraceOk] at h
    subst h
    simp only [List.length_nil, List.range'_zero, wpOps]
    exact hQ a w G (Keep.refl G w) hH hs (Facts.refl _ _)
  | [], _, _, _, _, _ :: _, _, h => h.elim
  | _ :: _, _, _, _, _, [], _, h => h.elim
  | o :: l, i, nid, S, S', s :: tr, hd, h => by
    intro G w a hB hH hs hfl hnid hh hQ
    obtain ⟨h1, h2, h3, h4⟩ := h
    subst h1
    subst h2
    have ho : ops[i]? = some o := by
      have : (ops.toList.drop i)[0]? = some o := by rw [hd]; rfl
      rw [List.getElem?_drop] at this
      simpa using this
    have hd' : ops.toList.drop (i + 1) = l := by
      rw [← List.drop_drop, hd]; rfl
    have hhole : isAl o = true → s.S.heap[s.nid]? = some .hole := fun h => hh s.nid (Nat.le_refl _) (by unfold alCount; simp [h])
    have hag := agree_self h3 hhole
    have hf := step_facts hP hcf h3 hB hH hs rfl hag (fun _ => hfl) hnid
    rw [List.length_cons, List.range'_succ, wpOps_cons]
    refine step_sound hP hcf ho h3 hB hH hs rfl rfl hag (fun _ => hfl) hnid fun V w' G' hK hH' hr => ?_
    have hcount : nextId o s.nid + alCount l = s.nid + alCount (o :: l) := by
      unfold nextId alCount
      cases ho : isAl o <;> simp [ho]
      omega
    have hle : s.nid ≤ nextId o s.nid := by unfold nextId; split <;> omega
    refine seq_sound hP hcf l (i + 1) (nextId o s.nid) _ S' tr hd' h4 G' w' _ (fun b j hb => hB b j (Nat.le_trans hK.size hb)) hH' ((hs.keep hK).put o.dst hr) (Nat.le_trans hfl hf.2) (Nat.le_trans hnid hle) (fun k hk1 hk2 => ?_) fun a2 w2 G2 hK2 hH2 hs2 hf2 => ?_
    · refine step_holes hcf h3 (hh k (by omega) (by omega)) fun ho => ?_
      unfold nextId at hk1
      rw [if_pos ho] at hk1
      omega
    · exact hQ a2 w2 G2 (Keep.trans hH.dist hK hK2) hH2 hs2 (hf.trans hf2)
/-- holes behind a heap -/
theorem hr_holes {H : Heap} (h : HR B G w H) (n : Nat) : HR B (G ++ List.replicate n GK.hole) w (H ++ List.replicate n DBlk.hole) ∧ Keep G w (G ++ List.replicate n GK.hole) w := by
  have key : ∀ (k : Nat) (g : GK), (G ++ List.replicate n GK.hole)[k]? = some g → g ≠ .hole → G[k]? = some g := by
    intro k g hg hne
    rcases Nat.lt_or_ge k G.length with hk | hk
    · rwa [List.getElem?_append_left hk] at hg
    · rw [List.getElem?_append_right hk, List.getElem?_replicate] at hg
      split at hg
      · cases hg; exact absurd rfl hne
      · cases hg
  have live : ∀ k b, liveAt (G ++ List.replicate n GK.hole) k b → liveAt G k b := by
    rintro k b (hl | ⟨s, c, m, hl⟩)
    · exact .inl (key k _ hl (by simp))
    · exact .inr ⟨s, c, m, key k _ hl (by simp)⟩
  have hK : Keep G w (G ++ List.replicate n GK.hole) w := by
    refine ⟨rfl, rfl, rfl, Nat.le_refl _, fun _ _ _ => rfl, fun _ _ _ _ _ _ _ _ _ => rfl, fun k g hg => ⟨g, ?_, evol_refl g⟩, fun k b _ hg => key k _ hg (by simp), fun k b s c m _ hg => ⟨c, m, key k _ hg (by simp), Nat.le_refl _⟩⟩
    rw [List.getElem?_append_left (List.getElem?_eq_some_iff.1 hg).1]; exact hg
  refine ⟨⟨by simp [h.len], fun k k' b h1 h2 => h.dist k k' b (live k b h1) (live k' b h2), fun k x g hx hg => ?_, fun k b hl => h.bb k b (live k b hl)⟩, hK⟩
  rcases Nat.lt_or_ge k G.length with hk | hk
  · rw [List.getElem?_append_left hk] at hg
    rw [List.getElem?_append_left (by rw [h.len]; exact hk)] at hx
    exact blk_keep hK (h.blk k x g hx hg) fun _ _ => rfl
  · rw [List.getElem?_append_right hk, List.getElem?_replicate] at hg
    rw [List.getElem?_append_right (by rw [h.len]; exact hk), List.getElem?_replicate] at hx
    split at hg
    · cases hg
      split at hx
      · cases hx; simp [BlkRep]
      · cases hx
    · cases hg
theorem holes_eq (l : List Oper) : holes l = List.replicate (alCount l) DBlk.hole := by
  unfold holes alCount
  rw [List.map_const']
/-- a region in the order of the text -/
theorem region_sound {X : Ctx} {ops : Array Oper} {id : Nat} (hP : NoOwn X.P) (hcf : CFSound X.P X.cf) {Q : Exit → Act → World → Prop} {S S' : St} {tr : List Stp} (ht : TraceOk X ops ops.toList S.heap.length ⟨S.slots, S.heap ++ holes ops.toList⟩ tr S')
    (hB : ∀ b j, w.heap.size ≤ b → B b j) (hH : HR B G w S.heap) (hs : SR (ImmB B G) w G S.slots a) (hfl : X.fl ≤ S.heap.length)
    (hQ : ∀ a' w' G', Keep G w G' w' → HR B G' w' S'.heap → SR (ImmB B G') w' G' S'.slots a' → Facts X.fl S.heap S'.heap → Q .normal a' w') : (Code.region id ops false).wp X.P Q a w := by
  refine wp_region ?_
  rw [holes_eq] at ht
  obtain ⟨h1, h2⟩ := hr_holes hH (alCount ops.toList)
  have hf0 : Facts X.fl S.heap (S.heap ++ List.replicate (alCount ops.toList) DBlk.hole) := ⟨fun k hk => List.getElem?_append_left (by omega), by simp⟩
  have := seq_sound (B := B) (Q := Q) hP hcf ops.toList 0 S.heap.length _ S' tr rfl ht _ w a hB h1 (hs.keep h2) (Nat.le_trans hfl hf0.2) hfl (fun k hk1 hk2 => by
    simp only []
    rw [List.getElem?_append_right hk1, List.getElem?_replicate, if_pos (by omega)]) fun a' w' G' hK hH' hs' hf => hQ a' w' G' (Keep.trans hH.dist h2 hK) hH' hs' (hf0.trans hf)
  rw [List.range_eq_range']
  simpa using this
theorem evalD_congr {slots slots' : List DV} (x : Operand) (h : ∀ t, x = .tmp t → slots[t]? = slots'[t]?) : evalD slots x = evalD slots' x := by
  cases x with
  | tmp t => simp [evalD, List.getD, h t rfl]
  | _ => rfl
theorem map_congr {slots slots' : List DV} : ∀ (l : List Operand), (∀ t, Operand.tmp t ∈ l → slots[t]? = slots'[t]?) → l.map (evalD slots) = l.map (evalD slots')
  | [], _ => rfl
  | x :: l, h => by
    rw [List.map_cons, List.map_cons, evalD_congr x (fun t e => h t (by simp [e])), map_congr l (fun t ht => h t (by simp [ht]))]
theorem map2_congr {slots slots' : List DV} : ∀ (l : List (Nat × Operand)), (∀ t, Operand.tmp t ∈ l.map (·.2) → slots[t]? = slots'[t]?) → l.map (fun p => (p.1, evalD slots p.2)) = l.map (fun p => (p.1, evalD slots' p.2))
  | [], _ => rfl
  | x :: l, h => by
    rw [List.map_cons, List.map_cons, evalD_congr x.2 (fun t e => h t (by simp [e])), map2_congr l (fun t ht => h t (by simp at ht ⊢; exact .inr ht))]
/-- an operation looks at its own operands alone -/
theorem evalO_congr {P : Program} {cf : CF} {md : FuncId → CM} {fl nid : Nat} {H : Heap} {slots slots' : List DV} (h : ∀ t, Operand.tmp t ∈ o.op.operands.toList → slots[t]? = slots'[t]?) : evalO P cf md fl nid o slots H = evalO P cf md fl nid o slots' H := by
  have ev : ∀ x, x ∈ o.op.operands.toList → evalD slots x = evalD slots' x := fun x hx => evalD_congr x fun t e => h t (by rw [← e]; exact hx)
  unfold evalO
  cases hop : o.op with
  | build t parts =>
    rw [hop] at h
    simp only [Op.operands] at h
    simp only [map2_congr parts.toList (fun t ht => h t (by simpa using ht))]
  | buildSlice t n parts =>
    rw [hop] at h
    simp only [Op.operands] at h
    simp only [map2_congr parts.toList (fun t ht => h t (by simpa using ht))]
  | makeFunc fn first cap =>
    rw [hop] at h
    simp only [Op.operands, Array.toList_append, List.mem_append] at h
    simp only [map_congr first.toList (fun t ht => h t (.inl ht)), map_congr cap.toList (fun t ht => h t (.inr ht))]
  | call c =>
    rw [hop] at h
    simp only [Op.operands, Call.operands, Array.toList_append, List.mem_append] at h
    have hargs := map_congr c.args.toList (fun t ht => h t (.inr ht))
    simp only []
    unfold callOp
    cases hc : c.callee with
    | value f =>
      rw [hc] at h
      have hf : evalD slots f = evalD slots' f := evalD_congr f fun t e => h t (.inl (by simp [e]))
      simp only [hf, hargs]
    | invoke r m => rfl
    | builtin b =>
      have harg : ∀ x, x ∈ c.args.toList → evalD slots x = evalD slots' x := fun x hx => evalD_congr x fun t e => h t (.inr (by rw [← e]; exact hx))
      have hb := congrArg (fun l => qv (builtD P b c.argTypes o.type l)) hargs
      cases hl : c.args.toList with
      | nil =>
        rw [hl] at hb
        cases b <;> first | exact hb | rfl
      | cons x r =>
        have h1 := harg x (by rw [hl]; simp)
        rw [hl] at hb
        cases r with
        | nil =>
          cases b <;> first
            | exact hb
            | (rcases c.argTypes.toList with _ | ⟨t, _ | ⟨t', r'⟩⟩ <;> first | rfl | simp only [h1])
        | cons y r =>
          have h2 := harg y (by rw [hl]; simp)
          cases r with
          | nil =>
            cases b <;> first
              | exact hb
              | (rcases c.argTypes.toList with _ | ⟨t, _ | ⟨t', _ | ⟨t'', r'⟩⟩⟩ <;> first | rfl | simp only [h1, h2])
          | cons z r => cases b <;> first | exact hb | rfl
  | slice t x lo hi mx =>
    rw [hop] at h
    simp only [Op.operands] at h
    have o1 : ∀ y : Option Operand, (∀ t, Operand.tmp t ∈ y.toArray.toList → slots[t]? = slots'[t]?) → y.map (evalD slots) = y.map (evalD slots') := by
      intro y hy
      cases y with
      | none => rfl
      | some y => simp only [Option.map_some]; rw [evalD_congr y fun t e => hy t (by simp [e])]
    simp only [evalD_congr x fun t e => h t (by simp [e]), o1 lo fun t ht => h t (by simp at ht ⊢; simp [ht]), o1 hi fun t ht => h t (by simp at ht ⊢; simp [ht]), o1 mx fun t ht => h t (by simp at ht ⊢; simp [ht])]
  | _ =>
    simp only [hop, Op.operands] at ev
    first
      | rfl
      | simp only [ev _ (List.mem_cons_self), ev _ (List.mem_cons_of_mem _ (List.mem_cons_self)), ev _ (List.mem_cons_of_mem _ (List.mem_cons_of_mem _ (List.mem_cons_self)))]
      | simp only [ev _ (List.mem_cons_self), ev _ (List.mem_cons_of_mem _ (List.mem_cons_self))]
      | simp only [ev _ (List.mem_cons_self)]
theorem wantD_congr {ops : Array Oper} {slots slots' : List DV} (h : ∀ t, t ∈ namesOf ops o → slots[t]? = slots'[t]?) : wantD ops o slots = wantD ops o slots' := by
  unfold wantD
  cases hg : o.guard with
  | none => rfl
  | some p =>
    obtain ⟨j, want⟩ := p
    simp only []
    cases ht : (ops[j]?).bind (·.dst) with
    | none => rfl
    | some t =>
      simp only []
      have : slots.getD t .any = slots'.getD t .any := by
        simp only [List.getD]
        rw [h t (by simp [namesOf, hg, ht])]
      rw [this]
end Go.Proofs.Ytbhnkdnfmlnajaa

/- Deep values: regions in any order that the edges allow. -/
namespace Go.Proofs.Ytbhnkdnfmlnajaa
open Go Go.RowKit

variable {B : Nat → Nat → Prop} {G : Gh} {w : World} {o : Oper} {a : Act}

theorem trace_facts {X : Ctx} {ops : Array Oper} {fl : Nat} : ∀ {l : List Oper} {nid : Nat} {S S' : St} {tr : List Stp} (m : Nat), TraceOk X ops l nid S tr S' →
    (∀ (j : Nat) (s : Stp), tr[j]? = some s → loud s.e = true → j < m → Facts fl s.S.heap (s.e.heap s.S.heap)) → (∀ s, tr[m]? = some s → Facts fl S.heap s.S.heap) ∧ (l.length ≤ m → Facts fl S.heap S'.heap)
  | [], nid, S, S', [], m, h, _ => by
    simp only [TraceOk] at h
    subst h
    exact ⟨fun s hs => by simp at hs, fun _ => Facts.refl _ _⟩
  | [], _, _, _, _ :: _, _, h, _ => h.elim
  | _ :: _, _, _, _, [], _, h, _ => h.elim
  | o :: l, nid, S, S', s :: tr, m, h, hf => by
    obtain ⟨h1, h2, h3, h4⟩ := h
    cases m with
    | zero =>
      refine ⟨fun s' hs => ?_, fun hl => by simp at hl⟩
      simp at hs
      subst hs
      rw [h1]; exact Facts.refl _ _
    | succ m =>
      have h0 : Facts fl S.heap (s.e.heap S.heap) := by
        cases hl : loud s.e with
        | false => rw [quiet_heap hl]; exact Facts.refl _ _
        | true => rw [← h1]; exact hf 0 s rfl hl (by omega)
      obtain ⟨k1, k2⟩ := trace_facts m h4 (fun j s' hs hl hj => hf (j + 1) s' (by simpa using hs) hl (by omega))
      exact ⟨fun s' hs => h0.trans (k1 s' (by simpa using hs)), fun hl => h0.trans (k2 (by simp at hl; omega))⟩
theorem masks_get : ∀ (l : List Oper) (acc : List Nat) (j : Nat) (o : Oper), l[j]? = some o → ∃ acc' : List Nat, acc'.length = acc.length + j ∧ (masks l acc)[acc.length + j]? = some (maskOf o acc') ∧ ∀ i, i < acc.length + j → (masks l acc)[i]? = acc'[i]?
  | [], acc, j, o, h => by simp at h
  | x :: l, acc, 0, o, h => by
    simp at h
    subst h
    have pre : ∀ (l : List Oper) (acc : List Nat) (i : Nat), i < acc.length → (masks l acc)[i]? = acc[i]? := by
      intro l
      induction l with
      | nil => intro acc i _; rfl
      | cons y l ih =>
        intro acc i hi
        simp only [masks]
        rw [ih _ _ (by simp; omega), List.getElem?_append_left hi]
    refine ⟨acc, by simp, ?_, fun i hi => ?_⟩
    · simp only [masks, Nat.add_zero]
      rw [pre _ _ _ (by simp)]
      simp
    · simp only [masks]
      rw [pre _ _ _ (by simp; omega), List.getElem?_append_left (by omega)]
  | x :: l, acc, j + 1, o, h => by
    obtain ⟨acc', h1, h2, h3⟩ := masks_get l (acc ++ [maskOf x acc]) j o (by simpa using h)
    simp only [List.length_append, List.length_cons, List.length_nil] at h1 h2 h3
    refine ⟨acc', by omega, ?_, fun i hi => ?_⟩
    · simp only [masks]
      rw [show acc.length + (j + 1) = acc.length + (0 + 1) + j by omega]
      exact h2
    · simp only [masks]
      exact h3 i (by omega)
theorem mask_bit (o : Oper) (acc : List Nat) (i : Nat) : (maskOf o acc).testBit i = true → ∃ e, e ∈ o.after ∧ Region.binds .any e = true ∧ (i = e.on ∨ (acc.getD e.on 0).testBit i = true) := by
  have key : ∀ (l : List Edge) (s : Nat), (l.foldl (fun s e => if Region.binds .any e then s ||| (2 ^ e.on ||| acc.getD e.on 0) else s) s).testBit i = true → s.testBit i = true ∨ ∃ e, e ∈ l ∧ Region.binds .any e = true ∧ (i = e.on ∨ (acc.getD e.on 0).testBit i = true) := by
    intro l
    induction l with
    | nil => intro s h; exact .inl h
    | cons e l ih =>
      intro s h
      rw [List.foldl_cons] at h
      rcases ih _ h with h1 | ⟨e', h1, h2, h3⟩
      · split at h1
        · rename_i hb
          rw [Nat.testBit_or, Nat.testBit_or, Bool.or_eq_true, Bool.or_eq_true] at h1
          rcases h1 with h1 | h1 | h1
          · exact .inl h1
          · right
            refine ⟨e, by simp, hb, .inl ?_⟩
            rw [Nat.testBit_two_pow] at h1
            exact (by simpa using h1 : e.on = i).symm
          · exact .inr ⟨e, by simp, hb, .inr h1⟩
        · exact .inl h1
      · exact .inr ⟨e', by simp [h1], h2, h3⟩
  intro h
  rcases key _ _ h with h1 | ⟨e, h1, h2, h3⟩
  · simp at h1
  · exact ⟨e, by simpa using h1, h2, h3⟩
/-- which operations are done is closed under forerunners -/
def Down (ops : Array Oper) (L : Nat → Bool) : Prop := ∀ (j : Nat) (o : Oper), ops[j]? = some o → L j = true → ∀ e ∈ o.after, Region.binds .any e = true → L e.on = true
theorem anc {ops : Array Oper} {L : Nat → Bool} (hD : Down ops L) (hE : ∀ (j : Nat) (o : Oper), ops[j]? = some o → ∀ e ∈ o.after, Region.binds .any e = true → e.on < j) : ∀ (j : Nat) (o : Oper) (i : Nat), ops[j]? = some o → (∀ e ∈ o.after, Region.binds .any e = true → L e.on = true) →
    ((masks ops.toList []).getD j 0).testBit i = true → L i = true := by
  intro j
  induction j using Nat.strongRecOn with
  | _ j ih =>
    intro o i ho hd hb
    obtain ⟨acc, h1, h2, h3⟩ := masks_get ops.toList [] j o (by simpa using ho)
    simp only [List.length_nil, Nat.zero_add] at h1 h2 h3
    simp only [List.getD, h2, Option.getD_some] at hb
    obtain ⟨e, he, hbd, hc⟩ := mask_bit o acc i hb
    have hlt := hE j o ho e he hbd
    rcases hc with rfl | hc
    · exact hd e he hbd
    · have hon : ∃ o', ops[e.on]? = some o' := by
        have : j < ops.size := (Array.getElem?_eq_some_iff.1 ho).1
        exact ⟨ops[e.on], by simp⟩
      obtain ⟨o', ho'⟩ := hon
      refine ih e.on hlt o' i ho' (hD e.on o' ho' (hd e he hbd)) ?_
      simp only [List.getD, h3 e.on hlt]
      exact hc
theorem drawOk_spec {ops : Array Oper} {cs : List Nat} (h : drawOk ops cs = true) :
    (∀ (j : Nat) (o : Oper), ops[j]? = some o → ∀ e ∈ o.after, Region.binds .any e = true → e.on < j) ∧
    (∀ (i j : Nat) (oi oj : Oper), ops[i]? = some oi → ops[j]? = some oj → i < j → clash ops oi oj (cs.getD i 2) (cs.getD j 2) = true → ((masks ops.toList []).getD j 0).testBit i = true) := by
  unfold drawOk at h
  simp only [List.all_eq_true, List.mem_range, Bool.and_eq_true, Bool.or_eq_true, Bool.not_eq_true', decide_eq_true_eq] at h
  refine ⟨fun j o ho e he hb => ?_, fun i j oi oj hi hj hij hc => ?_⟩
  · have hlt : j < ops.size := (Array.getElem?_eq_some_iff.1 ho).1
    have := (h j (by simpa using hlt)).1 e (by simp [List.getD, ho]; exact he)
    rcases this with h1 | h1
    · rw [hb] at h1; cases h1
    · exact h1
  · have hlt : j < ops.size := (Array.getElem?_eq_some_iff.1 hj).1
    have := (h j (by simpa using hlt)).2 i hij
    simp only [List.getD, Array.getElem?_toList, hi, hj, Option.getD_some] at this hc
    rcases this with h1 | h1
    · rw [hc] at h1; cases h1
    · exact h1
theorem zip_get {ops : Array Oper} {tr : List Stp} {j : Nat} {p : Oper × Stp} (h : (ops.toList.zip tr)[j]? = some p) : ops[j]? = some p.1 ∧ tr[j]? = some p.2 := by
  rw [List.getElem?_zip_eq_some] at h
  simpa using h
theorem zip_mk {ops : Array Oper} {tr : List Stp} {j : Nat} {o : Oper} {s : Stp} (h1 : ops[j]? = some o) (h2 : tr[j]? = some s) : (ops.toList.zip tr)[j]? = some (o, s) := by
  rw [List.getElem?_zip_eq_some]
  simpa using ⟨h1, h2⟩
theorem cls_loud {e : Eff} (h : loud e = true) : e.cls = 2 ∨ e.cls = 3 ∨ e.cls = 5 := by cases e <;> simp_all [loud, Eff.cls]
theorem abs_cls {e : Eff} {H' : Heap} (h : e.abs = some H') : e.cls = 2 ∨ e.cls = 5 := by cases e <;> simp_all [Eff.abs, Eff.cls]
theorem ready_all {ops : Array Oper} {listed : Array Bool} (hE : ∀ (j : Nat) (o : Oper), ops[j]? = some o → ∀ e ∈ o.after, Region.binds .any e = true → e.on < j) (hs : listed.size = ops.size) (hr : Region.ready .any ops listed = []) : ∀ j, j < ops.size → listed.getD j false = true := by
  intro j
  induction j using Nat.strongRecOn with
  | _ j ih =>
    intro hj
    cases hl : listed.getD j false with
    | true => rfl
    | false =>
      have hm : j ∈ Region.ready .any ops listed := by
        rw [mem_ready]
        refine ⟨?_, ops[j], by simp, fun e he hb => ?_⟩
        · simp only [Array.getD, hs, hj, dif_pos] at hl ⊢; exact hl
        · have := hE j ops[j] (by simp) e he hb
          exact ih e.on this (by omega)
      rw [hr] at hm; simp at hm
theorem count_set {listed : Array Bool} {i n : Nat} (hs : listed.size = n) (hi : i < n) (hl : listed.getD i true = false) : (List.range n).countP (fun j => !(listed.setIfInBounds i true).getD j true) + 1 = (List.range n).countP (fun j => !listed.getD j true) := by
  have key : ∀ m, m ≤ n → (List.range m).countP (fun j => !(listed.setIfInBounds i true).getD j true) + (if i < m then 1 else 0) = (List.range m).countP (fun j => !listed.getD j true) := by
    intro m
    induction m with
    | zero => intro _; simp
    | succ m ih =>
      intro hm
      have := ih (by omega)
      have e1 : ∀ f : Nat → Bool, (List.range (m + 1)).countP f = (List.range m).countP f + (if f m = true then 1 else 0) := by
        intro f
        rw [List.range_succ, List.countP_append]
        simp [List.countP_cons]
      rw [e1, e1]
      by_cases hmi : m = i
      · subst hmi
        have h1 : (listed.setIfInBounds m true).getD m true = true := by simp [Array.getD, hs, hi]
        rw [h1, hl]
        rw [if_neg (by omega)] at this
        rw [if_neg (by simp), if_pos (by omega), if_pos (by simp)]
        omega
      · have h1 : (listed.setIfInBounds i true).getD m true = listed.getD m true := getD_set_ne true (Ne.symm hmi)
        rw [h1]
        by_cases him : i < m
        · rw [if_pos him] at this
          rw [if_pos (show i < m + 1 by omega)]
          omega
        · rw [if_neg him] at this
          rw [if_neg (show ¬ i < m + 1 by omega)]
          omega
  have := key n (Nat.le_refl _)
  rw [if_pos hi] at this
  exact this
structure JJ (X : Ctx) (ops : Array Oper) (z : Zip) (S0 : St) (B : Nat → Nat → Prop) (G0 : Gh) (w0 : World) (listed : Array Bool) (a : Act) (w : World) (G : Gh) : Prop where
  size : listed.size = ops.size
  down : Down ops (fun j => listed.getD j false)
  hr : HR B G w (foldH (fun j => listed.getD j false) z 0 S0.heap)
  sr : SR (ImmB B G) w G (foldS (fun j => listed.getD j false) z 0 S0.slots) a
  keep : Keep G0 w0 G w
  facts : ∀ (j : Nat) (p : Oper × Stp), z[j]? = some p → listed.getD j false = true → Facts X.fl p.2.S.heap (p.2.e.heap p.2.S.heap)
theorem draw_any {X : Ctx} {ops : Array Oper} (hP : NoOwn X.P) (hcf : CFSound X.P X.cf) {Q : Exit → Act → World → Prop} {S0 S' : St} {tr : List Stp} {nid : Nat} {G0 : Gh} {w0 : World} (ht : TraceOk X ops ops.toList nid S0 tr S') (hok : drawOk ops (tr.map fun s => s.e.cls) = true)
    (hB : ∀ b j, w0.heap.size ≤ b → B b j) (hD0 : Dist G0) (hfl : X.fl ≤ S0.heap.length) (hnid : X.fl ≤ nid) (hh : ∀ k, nid ≤ k → k < nid + alCount ops.toList → S0.heap[k]? = some .hole)
    (hQ : ∀ a' w' G', Keep G0 w0 G' w' → HR B G' w' S'.heap → SR (ImmB B G') w' G' S'.slots a' → Facts X.fl S0.heap S'.heap → Q .normal a' w') :
    ∀ (fuel : Nat) (listed : Array Bool) (a : Act) (w : World) (G : Gh), JJ X ops (ops.toList.zip tr) S0 B G0 w0 listed a w G → (List.range ops.size).countP (fun j => !listed.getD j true) = fuel → wpAny X.P .any ops Q fuel listed a w := by
  obtain ⟨hE1, hE2⟩ := drawOk_spec hok
  obtain ⟨hlen, hat, hend⟩ := trace_at ht
  obtain ⟨hZ, hHI, hids⟩ := trace_holes hcf ht hh
  have done : ∀ (listed : Array Bool) (a : Act) (w : World) (G : Gh), JJ X ops (ops.toList.zip tr) S0 B G0 w0 listed a w G → Region.ready .any ops listed = [] → Q .normal a w := by
    intro listed a w G J hr
    have hall := ready_all hE1 J.size hr
    have hlt : ∀ (j : Nat) (p : Oper × Stp), (ops.toList.zip tr)[j]? = some p → j < ops.size := fun j p hp => (Array.getElem?_eq_some_iff.1 (zip_get hp).1).1
    have hS : foldS (fun j => listed.getD j false) (ops.toList.zip tr) 0 S0.slots = S'.slots := by
      rw [(hend 0).1]
      refine List.ext_getElem? fun t => foldS_congr t _ 0 _ _ rfl rfl fun j p hp _ => ?_
      rw [Nat.zero_add]; exact hall j (hlt j p hp)
    have hH : foldH (fun j => listed.getD j false) (ops.toList.zip tr) 0 S0.heap = S'.heap := by
      rw [(hend 0).2]
      refine foldH_congr _ 0 _ fun j p hp _ => ?_
      rw [Nat.zero_add]; exact hall j (hlt j p hp)
    have h1 := J.hr
    have h2 := J.sr
    rw [hH] at h1
    rw [hS] at h2
    refine hQ a w G J.keep h1 h2 ((trace_facts ops.toList.length ht fun j s hs _ hj => ?_).2 (Nat.le_refl _))
    have hj' : j < ops.size := by simpa using hj
    exact J.facts j (ops[j], s) (zip_mk (by simp) hs) (hall j hj')
  intro fuel
  induction fuel with
  | zero =>
    intro listed a w G J hc
    have hr : Region.ready .any ops listed = [] := by
      cases hr : Region.ready .any ops listed with
      | nil => rfl
      | cons i r =>
        have hm : i ∈ Region.ready .any ops listed := by rw [hr]; simp
        obtain ⟨h1, o, ho, _⟩ := mem_ready.1 hm
        have hi : i < ops.size := (Array.getElem?_eq_some_iff.1 ho).1
        have := List.countP_eq_zero.1 hc i (by simpa using hi)
        simp [h1] at this
    exact ⟨hr, done listed a w G J hr⟩
  | succ fuel ih =>
    intro listed a w G J hc
    refine ⟨done listed a w G J, fun i hm => ?_⟩
    obtain ⟨h1, o, ho, hdep⟩ := mem_ready.1 hm
    have hi : i < ops.size := (Array.getElem?_eq_some_iff.1 ho).1
    have hLi : listed.getD i false = false := by
      simp only [Array.getD, J.size, hi, dif_pos] at h1 ⊢; exact h1
    obtain ⟨s, hs⟩ : ∃ s, tr[i]? = some s := ⟨tr[i]'(by rw [hlen]; simpa using hi), List.getElem?_eq_getElem _⟩
    have hz := zip_mk ho hs
    obtain ⟨hstep, hsn, hSi⟩ := hat i o s (by simpa using ho) hs
    obtain ⟨hSs, hSh⟩ := hSi 0
    simp only [Nat.zero_add] at hSs hSh
    have hcls : ∀ (j : Nat) (p : Oper × Stp), (ops.toList.zip tr)[j]? = some p → (tr.map fun s => s.e.cls).getD j 2 = p.2.e.cls := by
      intro j p hp
      simp [List.getD, (zip_get hp).2]
    have hci := hcls i _ hz
    simp only [] at hci
    have before : ∀ (j : Nat) (p : Oper × Stp), (ops.toList.zip tr)[j]? = some p → j < i → clash ops p.1 o p.2.e.cls s.e.cls = true → listed.getD j false = true := by
      intro j p hp hj hcl
      have := hE2 j i p.1 o (zip_get hp).1 ho hj (by rw [hcls j p hp, hci]; exact hcl)
      exact anc J.down hE1 i o j ho hdep this
    have after : ∀ (j : Nat) (p : Oper × Stp), (ops.toList.zip tr)[j]? = some p → i < j → clash ops o p.1 s.e.cls p.2.e.cls = true → listed.getD j false = false := by
      intro j p hp hj hcl
      have hb := hE2 i j o p.1 ho (zip_get hp).1 hj (by rw [hcls j p hp, hci]; exact hcl)
      cases hl : listed.getD j false with
      | false => rfl
      | true =>
        have := anc J.down hE1 j p.1 i (zip_get hp).1 (J.down j p.1 (zip_get hp).1 hl) hb
        rw [hLi] at this; cases this
    have slot : ∀ t, t ∈ namesOf ops o → (foldS (fun j => listed.getD j false) (ops.toList.zip tr) 0 S0.slots)[t]? = s.S.slots[t]? := by
      intro t htn
      rw [hSs]
      refine foldS_congr t _ 0 _ _ rfl rfl fun j p hp hd => ?_
      rw [Nat.zero_add]
      rcases Nat.lt_trichotomy j i with hj | hj | hj
      · rw [before j p hp hj (by simp [clash, hd, htn])]
        simp [hj]
      · subst hj; rw [hLi]; simp
      · rw [after j p hp hj (by simp [clash, hd, htn])]
        simp; omega
    have hops : ∀ t, Operand.tmp t ∈ o.op.operands.toList → t ∈ namesOf ops o := by
      intro t ht
      simp only [namesOf, List.mem_append, List.mem_filterMap]
      exact .inl (.inr ⟨_, ht, rfl⟩)
    have hev : ∀ H, evalO X.P X.cf X.md X.fl s.nid o (foldS (fun j => listed.getD j false) (ops.toList.zip tr) 0 S0.slots) H = evalO X.P X.cf X.md X.fl s.nid o s.S.slots H := fun H => evalO_congr fun t ht => slot t (hops t ht)
    have hwant : wantD ops o (foldS (fun j => listed.getD j false) (ops.toList.zip tr) 0 S0.slots) = wantD ops o s.S.slots := wantD_congr slot
    have loudEq : (s.e.cls = 2 ∨ s.e.cls = 4 ∨ s.e.cls = 5) → foldH (fun j => listed.getD j false) (ops.toList.zip tr) 0 S0.heap = s.S.heap := by
      intro hc2
      rw [hSh]
      refine foldH_congr _ 0 _ fun j p hp hl => ?_
      rw [Nat.zero_add]
      have hcl := cls_loud hl
      rcases Nat.lt_trichotomy j i with hj | hj | hj
      · rw [before j p hp hj (by rcases hc2 with h | h | h <;> rcases hcl with h' | h' | h' <;> simp [clash, h, h'])]
        simp [hj]
      · subst hj; rw [hLi]; simp
      · rw [after j p hp hj (by rcases hc2 with h | h | h <;> rcases hcl with h' | h' | h' <;> simp [clash, h, h'])]
        simp; omega
    have hag : Agree s.e s.S.heap (foldH (fun j => listed.getD j false) (ops.toList.zip tr) 0 S0.heap) := by
      cases he : s.e with
      | q => trivial
      | rd =>
        rw [hSh]
        refine foldH_near _ 0 _ _ hZ hHI hHI (fun k t cs hx => .inl hx) (fun j p H' hp hpe => ?_) (fun j p H' hp hpe hl => ?_) (fun j p H' hp hpe hl k t cs hx => ?_)
        · rw [Nat.zero_add]
          rcases Nat.lt_trichotomy j i with hj | hj | hj
          · rw [before j p hp hj (by rw [hpe, he]; simp [clash, Eff.cls])]
            simp [hj]
          · subst hj; rw [hLi]; simp
          · rw [after j p hp hj (by rw [hpe, he]; simp [clash, Eff.cls])]
            simp; omega
        · rw [Nat.zero_add] at hl ⊢
          rcases Nat.lt_trichotomy j i with hj | hj | hj
          · simp [hj]
          · subst hj; rw [hLi] at hl; cases hl
          · rw [after j p hp hj (by rw [hpe, he]; simp [clash, Eff.cls])] at hl
            cases hl
        · rw [Nat.zero_add] at hl
          have hji : j < i := by simpa using hl
          obtain ⟨hst, _, hSj⟩ := hat j p.1 p.2 (by simpa using (zip_get hp).1) (zip_get hp).2
          have hc : TkOk p.2.S.heap H' := by
            rcases hst with ⟨_, h2⟩ | ⟨_, _, h3⟩
            · rw [hpe] at h2
              exact tk_cells h2
            · rw [hpe] at h3; cases h3
          have := hc k t cs hx
          rw [(hSj 0).2, foldH_upto (L' := fun j' => decide (j' < i)) _ 0 j _ (fun j' hj' => by simp; omega) (fun j' hj' => by simp; omega)] at this
          exact this
      | ro => exact loudEq (.inr (.inl (by rw [he]; rfl)))
      | ch H' => exact loudEq (.inl (by rw [he]; rfl))
      | tk H' => exact loudEq (.inr (.inr (by rw [he]; rfl)))
      | al k b =>
        refine foldH_alhole _ 0 i _ _ hZ hHI hz he (by rw [Nat.zero_add]; exact hLi) fun j q H' hj hq hqe => ?_
        rw [Nat.zero_add]
        exact after j q hq hj (by have hc3 : s.e.cls = 3 := (by rw [he]; rfl); rcases abs_cls hqe with h | h <;> simp [clash, hc3, h])
    have hBw : ∀ b j, w.heap.size ≤ b → B b j := fun b j hb => hB b j (Nat.le_trans J.keep.size hb)
    have hflS : s.e.wr → X.fl ≤ s.S.heap.length := by
      intro hc2
      refine Nat.le_trans hfl ((trace_facts (fl := X.fl) i ht fun j s' hs' hl hj => ?_).1 s hs).2
      have hjo : j < ops.size := by omega
      have hp := zip_mk (show ops[j]? = some ops[j] by simp) hs'
      refine J.facts j _ hp (before j _ hp hj ?_)
      rcases hc2 with h | h <;> rcases cls_loud hl with h' | h' | h' <;> simp [clash, h, h']
    have hnidS : X.fl ≤ s.nid := Nat.le_trans hnid hsn
    have hfact := step_facts hP hcf hstep hBw J.hr J.sr (hev _) hag hflS hnidS
    refine step_sound hP hcf ho hstep hBw J.hr J.sr hwant (hev _) hag hflS hnidS fun V w' G' hK hH' hr => ?_
    have hset : ∀ j, (listed.setIfInBounds i true).getD j false = if j = i then true else listed.getD j false := by
      intro j
      by_cases hj : j = i
      · subst hj; simp [Array.getD, J.size, hi]
      · rw [if_neg hj, getD_set_ne false (Ne.symm hj)]
    have hfold : foldS (fun j => (listed.setIfInBounds i true).getD j false) (ops.toList.zip tr) 0 S0.slots = putD (foldS (fun j => listed.getD j false) (ops.toList.zip tr) 0 S0.slots) o.dst s.d := by
      refine List.ext_getElem? fun t => ?_
      rw [putD_get]
      by_cases hd : o.dst = some t
      · by_cases hlt : t < (foldS (fun j => listed.getD j false) (ops.toList.zip tr) 0 S0.slots).length
        · rw [if_pos ⟨hd, hlt⟩]
          refine foldS_last t _ 0 i (o, s) _ hz hd (by rw [Nat.zero_add, hset, if_pos rfl]) (fun j q hj hq hqd => ?_) (by rw [foldS_len] at hlt; exact hlt)
          rw [Nat.zero_add, hset, if_neg (by omega)]
          refine after j q hq hj ?_
          have : t ∈ namesOf ops o := by simp [namesOf, hd]
          simp [clash, hqd, this]
        · rw [if_neg (fun h => hlt h.2)]
          rw [List.getElem?_eq_none (by rw [foldS_len]; rw [foldS_len] at hlt; omega), List.getElem?_eq_none (by omega)]
      · rw [if_neg (fun h => hd h.1)]
        refine foldS_congr t _ 0 _ _ rfl rfl fun j p hp hpd => ?_
        rw [Nat.zero_add, hset]
        by_cases hj : j = i
        · subst hj
          rw [hz] at hp; cases hp
          exact absurd hpd hd
        · rw [if_neg hj]
    have hfoldH : foldH (fun j => (listed.setIfInBounds i true).getD j false) (ops.toList.zip tr) 0 S0.heap = s.e.heap (foldH (fun j => listed.getD j false) (ops.toList.zip tr) 0 S0.heap) := by
      cases hl : loud s.e with
      | false =>
        rw [quiet_heap hl]
        refine foldH_congr _ 0 _ fun j p hp hpl => ?_
        rw [Nat.zero_add, hset]
        by_cases hj : j = i
        · subst hj
          rw [hz] at hp; cases hp
          rw [hl] at hpl; cases hpl
        · rw [if_neg hj]
      | true =>
        cases he : s.e with
        | ch H' =>
          refine foldH_last _ 0 i (o, s) _ hz (by show s.e.abs = _; rw [he]; rfl) (by rw [Nat.zero_add, hset, if_pos rfl]) fun j q hj hq hql => ?_
          rw [Nat.zero_add, hset, if_neg (by omega)]
          refine after j q hq hj ?_
          have hc2 : s.e.cls = 2 := by rw [he]; rfl
          rcases cls_loud hql with h' | h' | h' <;> simp [clash, hc2, h']
        | tk H' =>
          refine foldH_last _ 0 i (o, s) _ hz (by show s.e.abs = _; rw [he]; rfl) (by rw [Nat.zero_add, hset, if_pos rfl]) fun j q hj hq hql => ?_
          rw [Nat.zero_add, hset, if_neg (by omega)]
          refine after j q hq hj ?_
          have hc2 : s.e.cls = 5 := by rw [he]; rfl
          rcases cls_loud hql with h' | h' | h' <;> simp [clash, hc2, h']
        | al k b =>
          refine foldH_addal _ 0 i (o, s) _ hZ hz he (by rw [Nat.zero_add]; exact hLi) (by rw [Nat.zero_add, hset, if_pos rfl]) (fun j hj => by rw [Nat.zero_add, hset, if_neg hj]) fun j q H' hj hq hqe => ?_
          rw [Nat.zero_add]
          exact after j q hq hj (by have hc3 : s.e.cls = 3 := (by rw [he]; rfl); rcases abs_cls hqe with h | h <;> simp [clash, hc3, h])
        | q => rw [he] at hl; cases hl
        | rd => rw [he] at hl; cases hl
        | ro => rw [he] at hl; cases hl
    refine ih _ _ w' G' ⟨by simp [J.size], fun j o' ho' hl e he hb => ?_, by rw [hfoldH]; exact hH', by rw [hfold]; exact (J.sr.keep hK).put o.dst hr, Keep.trans hD0 J.keep hK, fun j p hp hl => ?_⟩ ?_
    · simp only [hset] at hl ⊢
      split at hl
      · rename_i hj
        subst hj
        rw [ho] at ho'; cases ho'
        have := hdep e he hb
        split
        · rfl
        · exact this
      · have := J.down j o' ho' hl e he hb
        split
        · rfl
        · exact this
    · rw [hset] at hl
      split at hl
      · rename_i hj
        subst hj
        rw [hz] at hp; cases hp
        exact hfact
      · exact J.facts j p hp hl
    · have := count_set J.size hi h1
      omega
/-- a region in any order -/
theorem draw_sound {X : Ctx} {ops : Array Oper} {id : Nat} (hM : X.P.follows .mixedOrders = true) (hP : NoOwn X.P) (hcf : CFSound X.P X.cf) {Q : Exit → Act → World → Prop} {S S' : St} {tr : List Stp} (ht : TraceOk X ops ops.toList S.heap.length ⟨S.slots, S.heap ++ holes ops.toList⟩ tr S') (hok : drawOk ops (tr.map fun s => s.e.cls) = true)
    (hB : ∀ b j, w.heap.size ≤ b → B b j) (hH : HR B G w S.heap) (hs : SR (ImmB B G) w G S.slots a) (hfl : X.fl ≤ S.heap.length)
    (hQ : ∀ a' w' G', Keep G w G' w' → HR B G' w' S'.heap → SR (ImmB B G') w' G' S'.slots a' → Facts X.fl S.heap S'.heap → Q .normal a' w') : (Code.region id ops true).wp X.P Q a w := by
  refine wp_region_any hM ?_
  rw [holes_eq] at ht
  obtain ⟨h1, h2⟩ := hr_holes (hH.draw (w.drawn + 1)) (alCount ops.toList)
  have hkd := Keep.trans hH.dist (Keep.draw G w (w.drawn + 1)) h2
  have hf0 : Facts X.fl S.heap (S.heap ++ List.replicate (alCount ops.toList) DBlk.hole) := ⟨fun k hk => List.getElem?_append_left (by omega), by simp⟩
  have hnone : ∀ j, (Array.replicate ops.size false).getD j false = false := by intro j; simp [Array.getD]
  have noneS : ∀ (z : Zip) (i : Nat) (acc : List DV), foldS (fun j => (Array.replicate ops.size false).getD j false) z i acc = acc := by
    intro z
    induction z with
    | nil => intro i acc; rfl
    | cons p z ih =>
      intro i acc
      simp only [foldS]
      rw [if_neg (by rw [hnone i]; simp)]
      exact ih _ _
  have noneH : ∀ (z : Zip) (i : Nat) (acc : Heap), foldH (fun j => (Array.replicate ops.size false).getD j false) z i acc = acc := by
    intro z
    induction z with
    | nil => intro i acc; rfl
    | cons p z ih =>
      intro i acc
      simp only [foldH]
      rw [if_neg (by rw [hnone i]; simp)]
      exact ih _ _
  refine draw_any (B := B) (G0 := G ++ List.replicate (alCount ops.toList) GK.hole) (w0 := { w with drawn := w.drawn + 1 }) hP hcf ht hok hB h1.dist (Nat.le_trans hfl hf0.2) hfl (fun k hk1 hk2 => by
    simp only []
    rw [List.getElem?_append_right hk1, List.getElem?_replicate, if_pos (by omega)]) (fun a' w' G' hK hH' hs' hf => hQ a' w' G' (Keep.trans hH.dist hkd hK) hH' hs' (hf0.trans hf)) _ _ _ _ (G ++ List.replicate (alCount ops.toList) GK.hole) ⟨by simp, fun j o _ hl => (by have := hnone j; simp only [] at hl; rw [this] at hl; cases hl), (by rw [noneH]; exact h1), (by rw [noneS]; exact hs.keep hkd), Keep.refl _ _, fun j p _ hl => (by rw [hnone] at hl; cases hl)⟩ ?_
  have : ∀ m, m ≤ ops.size → (List.range m).countP (fun j => !(Array.replicate ops.size false).getD j true) = m := by
    intro m hm
    rw [List.countP_eq_length.2]
    · simp
    · intro j hj
      have : j < ops.size := by have := List.mem_range.1 hj; omega
      simp [Array.getD, this]
  exact this _ (Nat.le_refl _)
end Go.Proofs.Ytbhnkdnfmlnajaa

/- Deep values: code and calls are sound. -/
namespace Go.Proofs.Ytbhnkdnfmlnajaa
open Go Go.RowKit

variable {B : Nat → Nat → Prop} {G : Gh} {w : World} {o : Oper} {a : Act}

def toExit : Ex → Exit
  | .normal => .normal
  | .exit id => .exit id
  | .ret => .ret
theorem trace_keep {X : Ctx} {ops : Array Oper} (hcf : CFSound X.P X.cf) : ∀ {l : List Oper} {nid : Nat} {S S' : St} {tr : List Stp}, TraceOk X ops l nid S tr S' → ∀ j : Nat, j < nid → S.heap[j]? = some .hole → S'.heap[j]? = some .hole
  | [], nid, S, S', [], h, j, _, hj => by
    simp only [TraceOk] at h
    subst h
    exact hj
  | [], _, _, _, _ :: _, h, _, _, _ => h.elim
  | _ :: _, _, _, _, [], h, _, _, _ => h.elim
  | o :: l, nid, S, S', s :: tr, h, j, hlt, hj => by
    obtain ⟨h1, h2, h3, h4⟩ := h
    subst h1
    subst h2
    have hle : s.nid ≤ nextId o s.nid := by unfold nextId; split <;> omega
    exact trace_keep hcf h4 j (by omega) (step_holes hcf h3 hj (fun _ => by omega))
theorem region_trace {X : Ctx} {ops : Array Oper} {S : St} {k : Ex → St → R} {r : DV × Heap} {draw : Bool}
    (h : opsK X ops ops.toList S.heap.length [] ⟨S.slots, addHoles ops.toList S.heap⟩ (fun cs S' => drawK draw ops cs (k .normal S')) = some r) :
    ∃ tr S', TraceOk X ops ops.toList S.heap.length ⟨S.slots, S.heap ++ holes ops.toList⟩ tr S' ∧ k .normal S' = some r ∧ (draw = true → drawOk ops (tr.map fun s => s.e.cls) = true) := by
  have ha : addHoles ops.toList S.heap = S.heap ++ holes ops.toList := by unfold addHoles; split <;> simp_all
  rw [ha] at h
  obtain ⟨tr, S', ht, hk⟩ := trace_of _ _ _ _ h
  simp only [drawK, List.append_nil, List.reverse_reverse] at hk
  refine ⟨tr, S', ht, ?_, fun hd => ?_⟩
  · split at hk
    · cases hk
    · exact hk
  · cases hb : drawOk ops (tr.map fun s => s.e.cls) with
    | true => rfl
    | false => rw [hd, hb] at hk; simp at hk
/-- holes stay, whatever is run -/
theorem exec_holes {X : Ctx} (hcf : CFSound X.P X.cf) (n : Nat) : ∀ (c : Code) (ks : List (List Nat × List Nat)) (S : St) (k : Ex → St → R) (r : DV × Heap), execD X n c ks S k = some r → ∃ x S', k x S' = some r ∧ ∀ j : Nat, S.heap[j]? = some .hole → S'.heap[j]? = some .hole := by
  intro c
  induction c with
  | skip => intro ks S k r h; exact ⟨_, _, h, fun _ h => h⟩
  | region id ops draw =>
    intro ks S k r h
    obtain ⟨tr, S', ht, hk, _⟩ := region_trace h
    refine ⟨_, _, hk, fun j hj => trace_keep hcf ht j (List.getElem?_eq_some_iff.1 hj).1 ?_⟩
    simp only []
    rw [List.getElem?_append_left (List.getElem?_eq_some_iff.1 hj).1]; exact hj
  | seq x y ihx ihy =>
    intro ks S k r h
    simp only [execD] at h
    obtain ⟨e, S1, h1, hh1⟩ := ihx _ _ _ _ h
    cases e with
    | normal =>
      obtain ⟨e, S2, h2, hh2⟩ := ihy _ _ _ _ h1
      exact ⟨e, S2, h2, fun j hj => hh2 j (hh1 j hj)⟩
    | exit id => exact ⟨_, S1, h1, hh1⟩
    | ret => exact ⟨_, S1, h1, hh1⟩
  | cond c x y ihx ihy =>
    intro ks S k r h
    simp only [execD] at h
    unfold condR at h
    split at h
    · exact ihx _ _ _ _ h
    · exact ihy _ _ _ _ h
    · cases h
  | block id b ih =>
    intro ks S k r h
    simp only [execD] at h
    obtain ⟨e, S1, h1, hh1⟩ := ih _ _ _ _ h
    cases e with
    | normal => exact ⟨_, S1, h1, hh1⟩
    | exit i =>
      simp only [] at h1
      split at h1
      · exact ⟨_, S1, h1, hh1⟩
      · exact ⟨_, S1, h1, hh1⟩
    | ret => exact ⟨_, S1, h1, hh1⟩
  | loop b ih =>
    intro ks S k r h
    simp only [execD] at h
    have key : ∀ (keep out : List Nat) (k : Ex → St → R) (m : Nat) (S : St), loopN keep out X.N (execD X n b ks.tail) m S k = some r → ∃ x S', k x S' = some r ∧ ∀ j : Nat, S.heap[j]? = some .hole → S'.heap[j]? = some .hole := by
      intro keep out k m
      induction m with
      | zero => intro S h; cases h
      | succ m ihm =>
        intro S h
        simp only [loopN] at h
        obtain ⟨e, S1, h1, hh1⟩ := ih _ _ _ _ h
        cases e with
        | normal =>
          obtain ⟨e, S2, h2, hh2⟩ := ihm _ h1
          exact ⟨e, S2, h2, fun j hj => hh2 j (hh1 j hj)⟩
        | exit i => exact ⟨_, _, h1, hh1⟩
        | ret => exact ⟨_, _, h1, hh1⟩
    obtain ⟨x, S1, h1, hh1⟩ := key _ _ _ n _ h
    cases x with
    | normal => cases h1
    | exit i => exact ⟨_, _, h1, hh1⟩
    | ret => exact ⟨_, _, h1, hh1⟩
  | scope b ih => intro ks S k r h; exact ih _ _ _ _ h
  | exit id => intro ks S k r h; exact ⟨_, _, h, fun _ h => h⟩
  | ret => intro ks S k r h; exact ⟨_, _, h, fun _ h => h⟩
  | _ => intro ks S k r h; cases h
theorem forget_rep {I : Nat → Nat → Prop} {slots : List DV} {N : Nat} (keep : List Nat) (hN : slots.length = N) (h : SR I w G slots a) : SR I w G (forget keep N slots) a := by
  refine ⟨h.1, RepL.of (by simp [forget, h.2.length, hN]) fun i d v hd hv => ?_⟩
  unfold forget at hd
  rw [List.getElem?_map] at hd
  have hi : i < N := by
    have := (List.getElem?_eq_some_iff.1 hv).1
    rw [h.2.length, hN] at this; exact this
  rw [List.getElem?_range hi] at hd
  simp at hd
  subst hd
  split
  · have hs := List.getElem?_eq_getElem (show i < slots.length by omega)
    obtain ⟨v', hv', hr⟩ := h.2.get i _ hs
    rw [hv'] at hv; cases hv
    simpa [List.getD, hs] using hr
  · simp [Rep]
theorem forget_len (keep : List Nat) (N : Nat) (slots : List DV) : (forget keep N slots).length = N := by simp [forget]
def After (fl : Nat) (B : Nat → Nat → Prop) (G : Gh) (w : World) (S : St) (k : Ex → St → R) (r : DV × Heap) (Q : Exit → Act → World → Prop) : Prop :=
  ∀ x S' a' w' G', k x S' = some r → Keep G w G' w' → HR B G' w' S'.heap → SR (ImmB B G') w' G' S'.slots a' → Facts fl S.heap S'.heap → S'.slots.length = S.slots.length → Q (toExit x) a' w'
theorem exec_sound {X : Ctx} (hM : X.P.follows .mixedOrders = true) (hP : NoOwn X.P) (hcf : CFSound X.P X.cf) (n : Nat) : ∀ (c : Code) (ks : List (List Nat × List Nat)) (S : St) (k : Ex → St → R) (r : DV × Heap), execD X n c ks S k = some r →
    ∀ (G : Gh) (w : World) (a : Act), (∀ b j, w.heap.size ≤ b → B b j) → HR B G w S.heap → SR (ImmB B G) w G S.slots a → X.fl ≤ S.heap.length → S.slots.length = X.N → ∀ Q, After X.fl B G w S k r Q → c.wp X.P Q a w := by
  intro c
  induction c with
  | skip =>
    intro ks S k r h G w a hB hH hs hfl hN Q hQ
    exact wp_skip (hQ .normal S a w G h (Keep.refl G w) hH hs (Facts.refl _ _) rfl)
  | region id ops draw =>
    intro ks S k r h G w a hB hH hs hfl hN Q hQ
    obtain ⟨tr, S', ht, hk, hd⟩ := region_trace h
    have hlen : S'.slots.length = S.slots.length := by
      have := ((trace_at ht).2.2 0).1
      rw [this, foldS_len]
    cases draw with
    | false => exact region_sound hP hcf ht hB hH hs hfl fun a' w' G' hK hH' hs' hf => hQ .normal S' a' w' G' hk hK hH' hs' hf hlen
    | true => exact draw_sound hM hP hcf ht (hd rfl) hB hH hs hfl fun a' w' G' hK hH' hs' hf => hQ .normal S' a' w' G' hk hK hH' hs' hf hlen
  | seq x y ihx ihy =>
    intro ks S k r h G w a hB hH hs hfl hN Q hQ
    simp only [execD] at h
    refine wp_seq (ihx _ _ _ _ h G w a hB hH hs hfl hN _ fun e S1 a1 w1 G1 hk hK hH1 hs1 hf1 hl1 => ?_)
    cases e with
    | normal =>
      exact ihy _ _ _ _ hk G1 w1 a1 (fun b j hb => hB b j (Nat.le_trans hK.size hb)) hH1 hs1 (Nat.le_trans hfl hf1.2) (hl1.trans hN) Q fun e2 S2 a2 w2 G2 hk2 hK2 hH2 hs2 hf2 hl2 => hQ e2 S2 a2 w2 G2 hk2 (Keep.trans hH.dist hK hK2) hH2 hs2 (hf1.trans hf2) (hl2.trans hl1)
    | exit id => exact hQ (.exit id) S1 a1 w1 G1 hk hK hH1 hs1 hf1 hl1
    | ret => exact hQ .ret S1 a1 w1 G1 hk hK hH1 hs1 hf1 hl1
  | cond c x y ihx ihy =>
    intro ks S k r h G w a hB hH hs hfl hN Q hQ
    simp only [execD] at h
    unfold condR at h
    split at h
    · rename_i ht
      have hc := hs.eval c
      rw [ht] at hc
      simp only [Rep] at hc
      exact wp_cond (t := true) hc (ihx _ _ _ _ h G w a hB hH hs hfl hN Q hQ)
    · rename_i ht
      have hc := hs.eval c
      rw [ht] at hc
      simp only [Rep] at hc
      exact wp_cond (t := false) hc (ihy _ _ _ _ h G w a hB hH hs hfl hN Q hQ)
    · cases h
  | block id b ih =>
    intro ks S k r h G w a hB hH hs hfl hN Q hQ
    simp only [execD] at h
    refine wp_block (ih _ _ _ _ h G w a hB hH hs hfl hN _ fun e S1 a1 w1 G1 hk hK hH1 hs1 hf1 hl1 => ?_)
    cases e with
    | normal => exact hQ .normal S1 a1 w1 G1 hk hK hH1 hs1 hf1 hl1
    | exit i =>
      simp only [toExit, Exit.inBlock]
      simp only [] at hk
      split at hk
      · rename_i hi
        rw [if_pos hi]
        exact hQ .normal S1 a1 w1 G1 hk hK hH1 hs1 hf1 hl1
      · rename_i hi
        rw [if_neg hi]
        exact hQ (.exit i) S1 a1 w1 G1 hk hK hH1 hs1 hf1 hl1
    | ret => exact hQ .ret S1 a1 w1 G1 hk hK hH1 hs1 hf1 hl1
  | loop b ih =>
    intro ks S k r h G w a hB hH hs hfl hN Q hQ
    simp only [execD] at h
    have key : ∀ (keep out : List Nat) (k : Ex → St → R) (m : Nat) (S : St), loopN keep out X.N (execD X n b ks.tail) m S k = some r → ∀ (G : Gh) (w : World) (a : Act), (∀ b j, w.heap.size ≤ b → B b j) → HR B G w S.heap → SR (ImmB B G) w G S.slots a → X.fl ≤ S.heap.length → S.slots.length = X.N → After X.fl B G w S k r Q → Code.rounds X.P b Q m a w := by
      intro keep out k m
      induction m with
      | zero => intro S h; cases h
      | succ m ihm =>
        intro S h G w a hB hH hs hfl hN hQ
        simp only [loopN] at h
        rw [rounds_succ]
        refine ih _ S _ _ h G w a hB hH hs hfl hN _ fun e S1 a1 w1 G1 hk hK hH1 hs1 hf1 hl1 => ?_
        cases e with
        | normal =>
          exact ihm ⟨_, _⟩ hk G1 w1 a1 (fun b j hb => hB b j (Nat.le_trans hK.size hb)) hH1 (forget_rep _ (hl1.trans hN) hs1) (Nat.le_trans hfl hf1.2) (forget_len _ _ _) fun e2 S2 a2 w2 G2 hk2 hK2 hH2 hs2 hf2 hl2 => hQ e2 S2 a2 w2 G2 hk2 (Keep.trans hH.dist hK hK2) hH2 hs2 (hf1.trans hf2) (hl2.trans ((forget_len _ _ _).trans hN.symm))
        | exit id => exact hQ (.exit id) ⟨_, _⟩ a1 w1 G1 hk hK hH1 (forget_rep _ (hl1.trans hN) hs1) hf1 ((forget_len _ _ _).trans hN.symm)
        | ret => exact hQ .ret ⟨_, _⟩ a1 w1 G1 hk hK hH1 (forget_rep _ (hl1.trans hN) hs1) hf1 ((forget_len _ _ _).trans hN.symm)
    refine wp_loop_rounds n (key _ _ _ n ⟨_, _⟩ h G w a hB hH (forget_rep _ hN hs) hfl (forget_len _ _ _) fun e2 S2 a2 w2 G2 hk2 hK2 hH2 hs2 hf2 hl2 => ?_)
    have hl3 : S2.slots.length = X.N := hl2.trans (forget_len _ _ _)
    cases e2 with
    | normal => cases hk2
    | exit i => exact hQ (.exit i) ⟨_, _⟩ a2 w2 G2 hk2 hK2 hH2 (forget_rep _ hl3 hs2) hf2 ((forget_len _ _ _).trans hN.symm)
    | ret => exact hQ .ret ⟨_, _⟩ a2 w2 G2 hk2 hK2 hH2 (forget_rep _ hl3 hs2) hf2 ((forget_len _ _ _).trans hN.symm)
  | scope b ih =>
    intro ks S k r h G w a hB hH hs hfl hN Q hQ
    refine wp_scope_straight (ih _ _ _ _ h G w a hB hH hs hfl hN _ fun e S1 a1 w1 G1 hk hK hH1 hs1 hf1 hl1 => ?_)
    have := hQ e S1 a1 w1 G1 hk hK hH1 hs1 hf1 hl1
    cases e <;> exact this
  | exit id =>
    intro ks S k r h G w a hB hH hs hfl hN Q hQ
    exact wp_exit (hQ (.exit id) S a w G h (Keep.refl G w) hH hs (Facts.refl _ _) rfl)
  | ret =>
    intro ks S k r h G w a hB hH hs hfl hN Q hQ
    exact wp_ret (hQ .ret S a w G h (Keep.refl G w) hH hs (Facts.refl _ _) rfl)
  | _ => intro ks S k r h; cases h
def resSem (tmps : Array Value) : ResultVar → Sem Value
  | .tmp t => pure (tmps.getD t undef)
  | .cell x t => do loadVar t (← asAddr (tmps.getD x undef))
theorem resOne_run {P : Program} {S : St} (hH : HR B G w S.heap) (hs : SR (ImmB B G) w G S.slots a) {v : ResultVar} {d : DV} (h : resOne P S v = some d) :
    ∃ V, (resSem a.tmps v).run P w = .ok V w ∧ Rep (ImmB B G) w G d V := by
  cases v with
  | tmp t =>
    simp only [resOne] at h
    cases h
    have := hs.2.getD t undef
    exact ⟨a.tmps.getD t undef, rfl, by simpa using this⟩
  | cell x t =>
    simp only [resOne] at h
    split at h
    · rename_i ag sz ht
      unfold cellR at h
      split at h
      · rename_i k off hk
        split at h
        · rename_i e cs hc
          have hx := hs.2.getD x undef
          rw [hk] at hx
          simp only [Rep] at hx
          obtain ⟨b, hG, hx⟩ := hx
          obtain ⟨C, h1, h2, _⟩ := hH.cells hc hG
          obtain ⟨V, hrun, hd⟩ := loadVar_run ht h2 (fun j v hj => cells_at h1 j v hj) h
          rw [Nat.zero_add] at hrun
          refine ⟨V, ?_, hd⟩
          have hx' : a.tmps.getD x undef = .pointer (some ⟨b, off, none⟩) := by simpa using hx
          simp only [resSem, hx', Sem.run_bind, asAddr, Sem.run_pure, Result.andThen_ok, hrun]
        · cases h
      · cases h
    · cases h
theorem resL_run {P : Program} {S : St} (hH : HR B G w S.heap) (hs : SR (ImmB B G) w G S.slots a) : ∀ {rs : List ResultVar} {ds : List DV}, seqO (rs.map (resOne P S)) = some ds →
    ∃ vs, (rs.mapM (resSem a.tmps)).run P w = .ok vs w ∧ RepL (ImmB B G) w G ds vs
  | [], ds, h => by
    simp only [List.map_nil, seqO] at h
    cases h
    exact ⟨[], by simp, by simp [RepL]⟩
  | v :: rs, ds, h => by
    simp only [List.map_cons, seqO] at h
    cases hd : resOne P S v with
    | none => rw [hd] at h; cases h
    | some d =>
      rw [hd, Option.bind_some] at h
      cases hds : seqO (rs.map (resOne P S)) with
      | none => rw [hds] at h; cases h
      | some ds' =>
        rw [hds] at h
        cases h
        obtain ⟨V, h1, h2⟩ := resOne_run hH hs hd
        obtain ⟨vs, h3, h4⟩ := resL_run hH hs hds
        refine ⟨V :: vs, ?_, ?_⟩
        · rw [List.mapM_cons]
          simp only [Sem.run_bind, h1, h3, Result.andThen_ok, Sem.run_pure]
        · simp only [RepL]
          exact ⟨V, vs, rfl, h2, h4⟩
theorem res_run {P : Program} {S : St} {fn : Func} {d : DV} (hH : HR B G w S.heap) (hs : SR (ImmB B G) w G S.slots a) (h : resD P fn.results.toList S = some d) : ∃ V, (results fn a.tmps).run P w = .ok V w ∧ Rep (ImmB B G) w G d V := by
  unfold resD at h
  cases hm : seqO (fn.results.toList.map (resOne P S)) with
  | none => simp [hm] at h
  | some ds =>
    simp only [hm, Option.map_some, Option.some.injEq] at h
    obtain ⟨vs, h1, h2⟩ := resL_run hH hs hm
    have hrun : (results fn a.tmps).run P w = .ok (if h : vs.toArray.size = 1 then vs.toArray[0] else .tuple vs.toArray) w := by
      unfold results
      rw [Array.mapM_eq_mapM_toList]
      simp only [Sem.run_bind, Sem.run_map]
      have key : ∀ f : ResultVar → Sem Value, (∀ v, f v = resSem a.tmps v) → (fn.results.toList.mapM f).run P w = .ok vs w := by
        intro f hf
        rw [show f = resSem a.tmps from funext hf]; exact h1
      rw [key _ (fun v => by cases v <;> rfl)]
      rfl
    refine ⟨_, hrun, ?_⟩
    subst h
    have hl := h2.length
    unfold tupD
    split
    · rename_i d
      simp only [RepL] at h2
      obtain ⟨v, r, rfl, hd, rfl⟩ := h2
      simpa using hd
    · rename_i hne
      rw [dif_neg]
      · simp only [Rep]
        exact ⟨_, rfl, h2⟩
      · intro h1
        simp at h1
        rw [hl] at h1
        cases ds with
        | nil => simp at h1
        | cons x ds =>
          have : ds = [] := List.eq_nil_of_length_eq_zero (by simpa using h1)
          subst this
          exact hne x rfl
/-- the functions that are known besides -/
def PrimSound (P : Program) (E : Env) : Prop := ∀ f g args H d H', E.prim f = some g → g args H = some (d, H') → (∃ fn, P.funcs[f]? = some fn ∧ fn.body.isSome = true) ∧ (∀ fl, CallOk P f args H fl d H') ∧ ∀ k : Nat, H[k]? = some .hole → H'[k]? = some .hole
theorem call_sound {P : Program} {E : Env} (hM : P.follows .mixedOrders = true) (hP : NoOwn P) (hE : PrimSound P E) : ∀ n, CFSound P (callN P E n) := by
  intro n
  induction n with
  | zero => intro f args H fl r H' h; cases h
  | succ n ih =>
    intro f args H fl r H' h
    simp only [callN] at h
    split at h
    · rename_i g hg
      obtain ⟨h1, h2, h3⟩ := hE f g args H r H' hg h
      exact ⟨h2 fl, h1, h3⟩
    · split at h
      · rename_i fn hf
        split at h
        · rename_i c hb
          split at h
          · cases h
          rename_i hnt
          refine ⟨?_, ⟨fn, hf, by rw [hb]; rfl⟩, ?_⟩
          · intro B G w vs hB hH hr hfl
            have hs : SR (ImmB B G) w G (args ++ List.replicate (fn.ntmps - args.length) (.flat undef)) { tmps := vs ++ Array.replicate (fn.ntmps - vs.size) undef, defers := [] } := by
              refine ⟨rfl, ?_⟩
              have hl := hr.length
              simp only [Array.length_toList] at hl
              rw [Array.toList_append, Array.toList_replicate, hl]
              refine hr.app (RepL.of (by simp) fun i d v hd hv => ?_)
              rw [List.getElem?_replicate] at hd hv
              split at hd
              · rename_i hi
                rw [if_pos hi] at hv
                cases hd; cases hv
                simp [Rep]
              · cases hd
            have hcalls : Calls P f vs w fun e w' => (∃ V G', e = .returned V ∧ Keep G w G' w' ∧ HR B G' w' H' ∧ Rep (ImmB B G') w' G' r V) ∧ Facts fl H H' := by
              refine calls_of_wp hf hb ?_
              refine exec_sound (X := ⟨P, callN P E n, E.md, fl, fn.ntmps⟩) hM hP ih n c _ _ _ _ h G w _ hB hH hs hfl (by simp; omega) _ fun x S' a' w' G' hk hK hH' hs' hf' _ => ?_
              have fin : ∀ {d : DV}, resD P fn.results.toList S' = some d → d = r → S'.heap = H' → a'.defers = [] ∧ ∃ v, (results fn a'.tmps).run P w' = .ok v w' ∧ ((∃ V G', Ending.returned v = .returned V ∧ Keep G w G' w' ∧ HR B G' w' H' ∧ Rep (ImmB B G') w' G' r V) ∧ Facts fl H H') := by
                intro d hd e1 e2
                subst e1
                subst e2
                obtain ⟨V, h1, h2⟩ := res_run hH' hs' hd
                exact ⟨hs'.1, V, h1, ⟨V, G', rfl, hK, hH', h2⟩, hf'⟩
              cases x with
              | normal =>
                simp only [] at hk
                cases hd : resD P fn.results.toList S' with
                | none => simp [hd] at hk
                | some d =>
                  simp [hd] at hk
                  exact fin hd hk.1 hk.2
              | exit id => cases hk
              | ret =>
                simp only [] at hk
                cases hd : resD P fn.results.toList S' with
                | none => simp [hd] at hk
                | some d =>
                  simp [hd] at hk
                  exact fin hd hk.1 hk.2
            refine ⟨hcalls.mono fun e w' h => h.1, ?_⟩
            obtain ⟨e, w', fr, h, _⟩ := hcalls []
            exact h.2
          · obtain ⟨x, S', hk, hh⟩ := exec_holes (X := ⟨P, callN P E n, E.md, fl, fn.ntmps⟩) ih n c _ _ _ _ h
            intro j hj
            have := hh j hj
            cases x with
            | exit id => cases hk
            | normal =>
              simp only [] at hk
              cases hd : resD P fn.results.toList S' with
              | none => simp [hd] at hk
              | some d => simp [hd] at hk; rw [← hk.2]; exact this
            | ret =>
              simp only [] at hk
              cases hd : resD P fn.results.toList S' with
              | none => simp [hd] at hk
              | some d => simp [hd] at hk; rw [← hk.2]; exact this
        · cases h
      · cases h
/-- a pure call, as the rows want it -/
theorem pure_call {P : Program} {E : Env} (hM : P.follows .mixedOrders = true) (hP : NoOwn P) (hE : PrimSound P E) {n : Nat} {f : FuncId} {args : List DV} {r : DV} {H' : Heap} (h : callN P E n f args [] 0 = some (r, H'))
    {w : World} {vs : Array Value} (hr : RepL (fun _ _ => True) w [] args vs.toList) : Calls P f vs w fun e w' => ∃ V, e = .returned V ∧ Below w.heap.size w w' ∧ ∃ (I : Nat → Nat → Prop) (G : Gh), Rep I w' G r V := by
  have hmono : RepL (ImmB (fun _ _ => True) []) w [] args vs.toList := RepL.stay (fun b j v _ hc => ⟨hc, trivial, fun k hk => by simp at hk, fun k s c n hk => by simp at hk⟩) (Evol.refl []) _ _ hr
  refine ((call_sound hM hP hE n _ _ _ _ _ _ h).1 (fun _ _ => True) [] w vs (fun _ _ _ => trivial) (hr_nil _ w) hmono (Nat.zero_le _)).1.mono fun e w' ⟨V, G', he, hK, _, hd⟩ => ?_
  refine ⟨V, he, ⟨hK.os, hK.tape, hK.output, hK.size, fun b hb => hK.blk b hb fun k hk => ?_⟩, _, G', hd⟩
  rcases hk with hk | ⟨_, _, _, hk⟩ <;> simp at hk
end Go.Proofs.Ytbhnkdnfmlnajaa
