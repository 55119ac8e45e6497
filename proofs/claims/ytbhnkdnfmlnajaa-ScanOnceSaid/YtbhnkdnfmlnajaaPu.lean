/- Deep values: each operation's step is what the machine does (fifth part: append, copy, what is built and made). -/
import Derived.Test.YtbhnkdnfmlnajaaPt
namespace Go.Proofs.Ytbhnkdnfmlnajaa
open Go Go.RowKit

variable {P : Program} {B : Nat → Nat → Prop} {G : Gh} {w : World} {H Hr : Heap} {o : Oper} {a : Act} {slots : List DV} {d : DV} {e : Eff}

theorem plainLeaf_some {d d' : DV} (h : plainLeaf d = some d') : d'.leaf = true ∧ ∀ {I : Nat → Nat → Prop} {w : World} {G : Gh} {V : Value}, Rep I w G d V → Rep I w [] d' V := by
  unfold plainLeaf at h
  split at h
  · split at h
    · rename_i v hv
      cases h
      exact ⟨hv, fun k => by simpa only [Rep] using k⟩
    · cases h
  · cases h
    refine ⟨rfl, fun k => ?_⟩
    simp only [Rep] at k ⊢
    obtain ⟨A, c, e, h1, h2, h3, h4⟩ := k
    exact ⟨A, c, e, h1, h2, h3, h4⟩
  · cases h
    refine ⟨rfl, fun k => ?_⟩
    simp only [Rep] at k ⊢
    obtain ⟨A, c, e, h1, h2, h3, h4⟩ := k
    exact ⟨A, c, e, h1, h2, h3, trivial⟩
  · cases h
theorem plainL_some {cs cs' : List DV} (h : mapO plainLeaf cs = some cs') : cs'.all DV.leaf = true ∧ cs'.length = cs.length ∧ ∀ {I : Nat → Nat → Prop} {w : World} {G : Gh} {vs : List Value}, RepL I w G cs vs → RepL I w [] cs' vs := by
  obtain ⟨h1, h2⟩ := mapO_some h
  have back : ∀ (i : Nat) (d' : DV), cs'[i]? = some d' → ∃ d, cs[i]? = some d ∧ plainLeaf d = some d' := by
    intro i d' hd
    have hlt : i < cs.length := by rw [← h1]; exact (List.getElem?_eq_some_iff.1 hd).1
    obtain ⟨y, hy, hf⟩ := h2 i _ (List.getElem?_eq_getElem hlt)
    rw [hd] at hy; cases hy
    exact ⟨_, List.getElem?_eq_getElem hlt, hf⟩
  refine ⟨?_, h1, fun {I w G vs} k => RepL.of (by rw [k.length, h1]) fun i d' v hd hv => ?_⟩
  · rw [List.all_eq_true]
    intro d' hd
    obtain ⟨i, hi⟩ := List.mem_iff_getElem?.1 hd
    obtain ⟨d, _, hf⟩ := back i d' hi
    exact (plainLeaf_some hf).1
  · obtain ⟨d, hd', hf⟩ := back i d' hd
    obtain ⟨v', hv', hr⟩ := k.get i d hd'
    rw [hv'] at hv; cases hv
    exact (plainLeaf_some hf).2 hr
theorem chunkOk_some {ag : Bool} {sz n : Nat} (h : chunkOk ag sz n = true) : 0 < sz ∧ (ag = false → sz = 1) ∧ n ≤ 140737488355328 := by
  unfold chunkOk at h
  simp only [Bool.and_eq_true, decide_eq_true_eq, Bool.or_eq_true, beq_iff_eq] at h
  refine ⟨h.1.1, fun e => ?_, h.2⟩
  subst e
  simpa using h.1.2
/-- cells in rows, as elements -/
theorem chunk_rep {I J : Nat → Nat → Prop} {ag : Bool} {sz b : Nat} (h0 : 0 < sz) (h1 : ag = false → sz = 1) : ∀ (n : Nat) (cs : List DV) (vs : List Value) (off : Nat) (xs : List DV), cs.length = n * sz → RepL I w G cs vs →
    CellsAt J w b off vs → mapO plainEl (chunk ag sz n cs) = some xs → RepX I J w sz xs b off ∧ xs.length = n
  | 0, cs, vs, off, xs, _, _, _, h => by
    simp only [chunk, mapO] at h
    cases h
    simp [RepX]
  | n + 1, cs, vs, off, xs, hl, hr, hc, h => by
    rw [Nat.add_mul, Nat.one_mul] at hl
    simp only [chunk, mapO] at h
    split at h
    · rename_i y hy
      split at h
      · rename_i ys hys
        cases h
        have hlv := hr.length
        obtain ⟨k1, k2⟩ := chunk_rep h0 h1 n (cs.drop sz) (vs.drop sz) (off + sz) ys (by simp; omega) (hr.drop sz) (fun j v hj => by
          rw [List.getElem?_drop] at hj
          have := hc _ v hj
          rwa [← Nat.add_assoc] at this) hys
        refine ⟨?_, by simp [k2]⟩
        simp only [RepX]
        refine ⟨?_, k1⟩
        cases ag with
        | true =>
          simp only [if_true, plainEl] at hy
          cases hm : mapO plainLeaf (cs.take sz) with
          | none => simp [hm] at hy
          | some zs =>
            simp [hm] at hy
            subst hy
            obtain ⟨q1, q2, q3⟩ := plainL_some hm
            refine ⟨q1, .agg (vs.take sz).toArray, ?_, ?_, fun j v hj => ?_⟩
            · simp only [Rep]; exact ⟨_, rfl, q3 (hr.take sz)⟩
            · simp [Value.cells]; omega
            · simp only [Value.cells, List.getElem?_take] at hj
              split at hj
              · exact hc j v hj
              · cases hj
        | false =>
          have hsz := h1 rfl
          subst hsz
          simp only [Bool.false_eq_true, if_false] at hy
          cases cs with
          | nil => simp at hl
          | cons d cs =>
            simp only [List.headD_cons] at hy
            simp only [RepL] at hr
            obtain ⟨v, r, rfl, hd, _⟩ := hr
            have key : plainLeaf d = some y := by
              unfold plainEl at hy
              split at hy
              · have := (hc 0 v rfl).2.2
                simp only [Rep] at hd
                obtain ⟨_, rfl, _⟩ := hd
                simp [isOne] at this
              · exact hy
            obtain ⟨q1, q2⟩ := plainLeaf_some key
            have hone := (hc 0 v rfl).2.2
            refine ⟨?_, v, q2 hd, by rw [isOne_cells hone]; rfl, fun j u hj => ?_⟩
            · have : y.cells = [y] := by cases y <;> simp_all [DV.cells, DV.leaf]
              simp [this, q1]
            · rw [isOne_cells hone] at hj
              have hj0 : j = 0 := by
                have := (List.getElem?_eq_some_iff.1 hj).1
                simpa using this
              subst hj0
              simp at hj
              subst hj
              exact hc 0 v rfl
      · cases h
    · cases h
theorem rowCells_some {k off len : Nat} {cs : List DV} (h : rowCells H k off len = some cs) : ∃ e all, H[k]? = some (.cells e all) ∧ off + len ≤ all.length ∧ cs = (all.drop off).take len := by
  unfold rowCells at h
  split at h
  · rename_i e all hk
    split at h
    · rename_i hle
      cases h
      exact ⟨e, all, hk, hle, rfl⟩
    · cases h
  · cases h
/-- a row, as elements -/
theorem row_rep {J : Nat → Nat → Prop} {ag : Bool} {sz k off n b : Nat} {cs xs : List DV} (hH : HR B G w H) (hG : G[k]? = some (GK.cel b)) (hok : chunkOk ag sz n = true) (hc : rowCells H k off (n * sz) = some cs) (hx : mapO plainEl (chunk ag sz n cs) = some xs)
    (hJ : ∀ j, J b j) : RepX (ImmB B G) J w sz xs b off ∧ xs.length = n := by
  obtain ⟨h0, h1, h2⟩ := chunkOk_some hok
  obtain ⟨e, all, hk, hle, rfl⟩ := rowCells_some hc
  obtain ⟨C, q1, q2, q3⟩ := hH.cells hk hG
  refine chunk_rep h0 h1 n _ ((C.toList.drop off).take (n * sz)) off xs (by simp; omega) ((q2.drop off).take _) (fun j v hj => ?_) hx
  rw [List.getElem?_take] at hj
  split at hj
  · rw [List.getElem?_drop] at hj
    refine ⟨?_, hJ _, q3 v (List.mem_of_getElem? hj)⟩
    have := cells_at q1 _ v hj
    rwa [Nat.zero_add] at this
  · cases hj
/-- what append or copy reads -/
theorem src_rep {ag : Bool} {sz : Nat} {y : DV} {ys : List DV} {V : Value} (h : srcD ag sz y H = some ys) (hy : Rep (ImmB B G) w G y V) (hH : HR B G w H) :
    ∃ A c, V = .slice A ys.length c ∧ (ys = [] ∨ ∃ b o', A = some ⟨b, o', none⟩ ∧ RepX (ImmB B G) (fun _ _ => True) w sz ys b o') := by
  unfold srcD at h
  split at h
  · rename_i s zs tg
    split at h
    · rename_i hc
      cases h
      obtain ⟨A, c, rfl, _, _, hE, _⟩ := repX_val hy
      refine ⟨A, c, rfl, ?_⟩
      rcases hE with rfl | ⟨b, o', rfl, hE⟩
      · exact .inl rfl
      · by_cases hz : ys = []
        · exact .inl hz
        · have : s = sz := by
            cases ys with
            | nil => exact absurd rfl hz
            | cons x xs => simpa using hc
          subst this
          exact .inr ⟨b, o', rfl, hE.any⟩
    · cases h
  · rename_i a' s k off n c
    split at h
    · rename_i hc
      obtain ⟨rfl, rfl, hok⟩ := hc
      cases hr : rowCells H k off (n * s) with
      | none => simp [hr] at h
      | some cs =>
        simp only [hr, Option.bind_some] at h
        simp only [Rep] at hy
        obtain ⟨b, hG, rfl⟩ := hy
        obtain ⟨h1, h2⟩ := row_rep (J := fun _ _ => True) hH hG hok hr h (fun _ => trivial)
        exact ⟨_, c, by rw [h2], .inr ⟨b, off, rfl, h1⟩⟩
    · cases h
  · cases h
theorem cell_toList {w : World} {b : Nat} {C : Array Value} {e : TypeId} {f : Nat × Nat} (h : w.heap[b]? = some (.cells C e f)) (j : Nat) : w.cell? ⟨b, j, none⟩ = C.toList[j]? := by
  simp [World.cell?, h]
theorem HR.imm {B : Nat → Nat → Prop} {G : Gh} {w : World} {H : Heap} (h : HR B G w H) {k b sz cap hw j : Nat} (hG : G[k]? = some (GK.own b sz cap hw)) (hj : j < hw * sz) : ImmB B G b j := by
  refine ⟨h.bb k b (.inr ⟨_, _, _, hG⟩) j, fun k' hk => ?_, fun k' sz' cap' hw' hk => ?_⟩
  · have := h.dist k k' b (.inr ⟨_, _, _, hG⟩) (.inl hk)
    subst this
    rw [hG] at hk; cases hk
  · have := h.dist k k' b (.inr ⟨_, _, _, hG⟩) (.inr ⟨_, _, _, hk⟩)
    subst this
    rw [hG] at hk; cases hk
    exact hj
theorem zero_size {z : Value} {n : Nat} (h : (ofVal1 z).cells.length = n) : z.cells.size = n := by
  have key : ∀ v : Value, (leafOf v).cells.length = 1 := by
    intro v
    unfold leafOf
    split <;> rfl
  unfold ofVal1 at h
  split at h
  · simpa [DV.cells, Value.cells] using h
  · rename_i v hne
    rw [key] at h
    rw [← h]
    cases z with
    | agg cs => exact absurd rfl (hne cs)
    | _ => rfl
theorem zeroD_info {t : TypeId} {d : DV} {i : TypeInfo} (h : zeroD P t = some d) (hi : P.info? t = some i) : ∃ z, d = ofVal1 z ∧ i.zero = some z := by
  unfold zeroD at h
  simp only [hi, Option.bind_some] at h
  cases hz : i.zero with
  | none => simp [hz] at h
  | some z => simp [hz] at h; exact ⟨z, h.symm, rfl⟩
/-- append's run where a new row is made -/
theorem grow_run {t ty et : TypeId} {i : TypeInfo} {z : Value} {sz : Nat} {A : Option Addr} {n c m c2 b2 o2 : Nat} {olds news : List Value} (ht : P.underlying t = some (.slice et)) (hi : P.info? et = some i) (hz : i.zero = some z) (hsz : i.size = sz) (hzs : z.cells.size = sz)
    (hA : (A = none ∧ n = 0 ∧ c = 0) ∨ ∃ ad, A = some ad ∧ ∀ (j : Nat) (v : Value), olds[j]? = some v → w.cell? (ad.add j) = some v) (hlo : olds.length = n * sz) (hn : CellsAt (fun _ _ => True) w b2 o2 news) (hln : news.length = m * sz)
    (hg : c < n + m) (h63 : n + m ≤ 140737488355328) (hb : (n + m) * i.bytes ≤ 140737488355328) :
    ∃ cap C w', (Builtin.append_ #[t, t] ty #[.slice A n c, .slice (some ⟨b2, o2, none⟩) m c2]).run P w = .ok (.slice (some ⟨w.heap.size, 0, none⟩) (n + m) cap) w' ∧ More (.cells C et (0, 0)) w w' ∧
      n + m ≤ cap ∧ C.size = cap * sz ∧ C.toList.take ((n + m) * sz) = olds ++ news := by
  subst hsz
  have hlen : (olds ++ news).length = (n + m) * i.size := by rw [List.length_append, hlo, hln, Nat.add_mul]
  have hnews : ∀ j v, news[j]? = some v → w.cell? ((⟨b2, o2, none⟩ : Addr).add j) = some v := fun j v hj => by rw [addr_at]; exact (hn j v hj).1
  rcases hA with ⟨rfl, rfl, rfl⟩ | ⟨ad, rfl, hc⟩
  · have ho : olds = [] := List.eq_nil_of_length_eq_zero (by simpa using hlo)
    subst ho
    rw [Nat.zero_add] at hg h63 hb
    have hr := run_append_nil (P := P) w t ty et i z ht hi hz ⟨b2, o2, none⟩ m c2 news hln hnews (by omega) (by omega) (by omega)
    have hge := grownCap_ge w m 0 et
    simp only [Nat.zero_add]
    refine ⟨_, _, _, hr, ⟨rfl, rfl, rfl, rfl⟩, by omega, ?_, ?_⟩
    · simp only [Array.size_append, List.size_toArray, size_zeroCells, hzs, hln, ← Nat.add_mul]
      congr 1; omega
    · simp only [Array.toList_append, List.nil_append]
      rw [← hln]; exact List.take_left
  · have hr := run_append_grow (P := P) w t ty et i z ht hi hz ad n c olds hlo hc ⟨b2, o2, none⟩ m c2 news hln hnews hg (by omega) (growslice_fits hg hb)
    have hge := grownCap_ge w (n + m) c et
    refine ⟨_, _, _, hr, ⟨rfl, rfl, rfl, rfl⟩, hge, ?_, ?_⟩
    · simp only [Array.size_append, List.size_toArray, size_zeroCells, hzs, hlo, hln, ← Nat.add_mul]
      congr 1; omega
    · simp only [Array.toList_append, List.append_assoc]
      rw [← List.append_assoc, ← hlen]
      exact List.take_left
/-- two readings, one behind the other, in one row -/
theorem join_rep {G' : Gh} {w' : World} {I : Nat → Nat → Prop} {sz b' : Nat} {C : Array Value} {et : TypeId} {f : Nat × Nat} {xs ys : List DV} {olds news : List Value} (hst : Stay I (ImmB B G') w w')
    (hb : w'.heap[b']? = some (.cells C et f)) (hpre : C.toList.take ((xs.length + ys.length) * sz) = olds ++ news) (hI : ∀ j, j < (xs.length + ys.length) * sz → ImmB B G' b' j)
    (hx : xs = [] ∨ ∃ b o', RepX I (fun _ _ => True) w sz xs b o' ∧ CellsAt (fun _ _ => True) w b o' olds) (hlo : olds.length = xs.length * sz) {b2 o2 : Nat} (hy : RepX I (fun _ _ => True) w sz ys b2 o2) (hn : CellsAt (fun _ _ => True) w b2 o2 news) (hln : news.length = ys.length * sz) :
    RepX (ImmB B G') (ImmB B G') w' sz (xs ++ ys) b' 0 := by
  have hcell : ∀ j v, j < (xs.length + ys.length) * sz → (olds ++ news)[j]? = some v → w'.cell? ⟨b', j, none⟩ = some v := by
    intro j v hj hv
    rw [cell_toList hb, ← hv, ← hpre, List.getElem?_take_of_lt hj]
  rw [Nat.add_mul] at hcell hI
  refine RepX.app ?_ ?_
  · rcases hx with rfl | ⟨b, o', hx, hc⟩
    · simp [RepX]
    · refine hx.move hst fun j hj => ⟨?_, by rw [Nat.zero_add]; exact hI j (by omega)⟩
      rw [Nat.zero_add]
      have hv := List.getElem?_eq_getElem (show j < olds.length by omega)
      rw [(hc j _ hv).1]
      exact hcell j _ (by omega) (by rw [List.getElem?_append_left (by omega)]; exact hv)
  · refine hy.move hst fun j hj => ⟨?_, by rw [Nat.zero_add]; exact hI _ (by omega)⟩
    rw [Nat.zero_add]
    have hv := List.getElem?_eq_getElem (show j < news.length by omega)
    rw [(hn j _ hv).1]
    exact hcell _ _ (by omega) (by rw [List.getElem?_append_right (by omega), hlo, Nat.add_sub_cancel_left]; exact hv)
theorem empty_append_run {t ty et : TypeId} {i : TypeInfo} {A A2 : Option Addr} {n c c2 : Nat} (ht : P.underlying t = some (.slice et)) (hi : P.info? et = some i) (hc : n ≤ c) :
    (Builtin.append_ #[t, t] ty #[.slice A n c, .slice A2 0 c2]).run P w = .ok (.slice A n c) w := by
  cases A <;> cases A2 <;> simp [Builtin.append_, run_underlying ht, sizeOf, typeInfo, hi, Builtin.lenOf, hc, Builtin.firstCells, loadCells, loadCellsFrom, storeCells]
theorem op_append {c : Call} {x y : Operand} {t et : TypeId} {ag : Bool} {sz fl : Nat} {i : TypeInfo} {z : DV} (ho : o.op = .call c) (hc : c.callee = .builtin .append) (hx : c.args.toList = [x, y]) (ht : c.argTypes.toList = [t, t]) (hu : P.underlying t = some (.slice et))
    (hsz : aggSz P et = some (ag, sz)) (hi : P.info? et = some i) (hz : zeroD P et = some z) (hzs : z.cells.length = sz)
    (h : appendD et ag sz i.bytes (evalD slots x) (evalD slots y) H fl = some (d, e)) (hB : ∀ b j, w.heap.size ≤ b → B b j) (hH : HR B G w Hr) (hs : SR (ImmB B G) w G slots a) (hag : Agree e H Hr) (hfl : e.wr → fl ≤ H.length) :
    OpOk P B G w Hr o a d e ∧ (∀ k, k < fl → (e.heap H)[k]? = H[k]?) := by
  have hrun : (execOp a.eval o).run P w = ((Builtin.append_ #[t, t] o.type #[a.eval x, a.eval y]).run P w).andThen fun v w' => .ok (.value v) w' := by
    rw [built_run ho hc, args_eq hx, arr_eq ht]
    simp [builtin]
  have hvx := hs.eval x
  have hvy := hs.eval y
  obtain ⟨zv, rfl, hzv⟩ := zeroD_info hz hi
  have hzsz := zero_size hzs
  have hisz : i.size = sz := by
    obtain ⟨i', hi', h1, _⟩ := aggSz_some hsz
    rw [hi] at hi'; cases hi'; exact h1
  unfold appendD at h
  split at h
  · rename_i s xs tg ys hk hsrc
    rw [hk] at hvx
    obtain ⟨A, cx, ex, x1, x2, xE, xT⟩ := repX_val hvx
    split at h
    · cases h
      have hag : Hr = H := hag
      subst hag
      obtain ⟨A2, c2, ey, _⟩ := src_rep hsrc hvy hH
      refine ⟨OpOk.still hH (V := a.eval x) ?_ (hs.eval x) rfl, fun k _ => rfl⟩
      rw [hrun, ey, ex, List.length_nil, empty_append_run hu hi x1]
      rfl
    · rename_i hne
      split at h
      · rename_i hcond
        obtain ⟨q1, q2, q3, q4⟩ := hcond
        obtain ⟨h0, _, _⟩ := chunkOk_some q2
        have hagH : Hr = H := by
          split at h
          · cases h; exact hag
          · split at h
            · split at h
              · cases h; exact hag
              · cases h
            · cases h
          · cases h
        subst hagH
        obtain ⟨A2, c2, ey, yE⟩ := src_rep hsrc hvy hH
        obtain ⟨b2, o2, rfl, yX⟩ := yE.resolve_left (fun e => hne e)
        obtain ⟨news, n1, n2, _⟩ := yX.vals
        have hm : 0 < ys.length := by
          rcases Nat.eq_zero_or_pos ys.length with h' | h'
          · exact absurd (List.eq_nil_of_length_eq_zero h') (fun e => hne e)
          · exact h'
        have xss : xs = [] ∨ s = sz := by
          cases xs with
          | nil => exact .inl rfl
          | cons x xs => simp at q1; exact .inr q1
        have hold : ∃ olds : List Value, olds.length = xs.length * sz ∧ (xs = [] ∨ ∃ b o', A = some ⟨b, o', none⟩ ∧ RepX (ImmB B G) (ImmB B G) w sz xs b o' ∧ CellsAt (fun _ _ => True) w b o' olds) := by
          rcases xE with rfl | ⟨b, o', rfl, xE⟩
          · exact ⟨[], by simp, .inl rfl⟩
          · rcases xss with rfl | rfl
            · exact ⟨[], by simp, .inl rfl⟩
            · obtain ⟨us, u1, u2, _⟩ := xE.vals
              exact ⟨us, u1, .inr ⟨b, o', rfl, xE, u2.any⟩⟩
        obtain ⟨olds, l1, hold⟩ := hold
        have hxs : xs = [] ∨ ∃ b o', RepX (ImmB B G) (fun _ _ => True) w sz xs b o' ∧ CellsAt (fun _ _ => True) w b o' olds := hold.imp id fun ⟨b, o', _, h1, h2⟩ => ⟨b, o', h1.any, h2⟩
        split at h
        · cases h
          simp only [TagOk] at xT
          subst xT
          have hA : (A = none ∧ xs.length = 0 ∧ xs.length = 0) ∨ ∃ ad, A = some ad ∧ ∀ (j : Nat) (v : Value), olds[j]? = some v → w.cell? (ad.add j) = some v := by
            rcases hold with rfl | ⟨b, o', h1, _, h2⟩
            · cases A with
              | none => exact .inl ⟨rfl, rfl, rfl⟩
              | some ad =>
                have ho : olds = [] := List.eq_nil_of_length_eq_zero (by simpa using l1)
                subst ho
                exact .inr ⟨ad, rfl, fun j v hj => by simp at hj⟩
            · exact .inr ⟨_, h1, fun j v hj => by rw [addr_at]; exact (h2 j v hj).1⟩
          obtain ⟨cap, C, w', hr, hmo, g1, g2, g3⟩ := grow_run (ty := o.type) (c2 := c2) hu hi hzv hisz hzsz hA l1 n2 n1 (by omega) q4 q3
          obtain ⟨hK, hH'⟩ := step_token hH hB hmo g1 h0 q4 g2
          have hself : (G ++ [GK.own w.heap.size sz cap (xs.length + ys.length)])[Hr.length]? = some (GK.own w.heap.size sz cap (xs.length + ys.length)) := by rw [hH.len]; simp
          refine ⟨OpOk.val (V := .slice (some ⟨w.heap.size, 0, none⟩) (xs.length + ys.length) cap) ?_ hK hH' ?_, fun k hk => List.getElem?_append_left (by have := hfl (.inr rfl); omega)⟩
          · rw [hrun, ex, ey, hr]; rfl
          · have := repX_mk (xs := xs ++ ys) (t := .own Hr.length) (c := cap) (by simpa using g1) (by simpa using q4) (.inr ⟨_, _, rfl, join_rep hK.stay hmo.new g3 (fun j hj => hH'.imm hself hj) hxs l1 yX n2 n1⟩) (by
              simp only [TagOk]
              exact ⟨_, _, _, _, hself, by simp, fun _ => ⟨rfl, rfl, rfl⟩⟩)
            rw [List.length_append] at this
            exact this
        · rename_i k
          split at h
          · rename_i e' s' n hkH
            split at h
            · rename_i hc2
              obtain ⟨rfl, rfl, rfl, hfk⟩ := hc2
              cases h
              simp only [TagOk] at xT
              obtain ⟨b, s2, cap, hw, hG, t1, t2⟩ := xT
              have hblk := hH.blk _ _ _ hkH hG
              simp only [BlkRep] at hblk
              obtain ⟨rfl, rfl, k1, k2, k3, C, k4, k5⟩ := hblk
              obtain ⟨rfl, rfl, _⟩ := t2 rfl
              refine ⟨?_, fun j hj => List.getElem?_set_ne (by omega)⟩
              have hlt : k < G.length := (List.getElem?_eq_some_iff.1 hG).1
              have hA' : ∀ {cap'' : Nat}, RepX (ImmB B G) (ImmB B G) w s2 xs b 0 ∨ xs = [] := by
                intro _
                rcases hold with rfl | ⟨b', o', h1, h2, _⟩
                · exact .inr rfl
                · injection h1 with h1; injection h1 with h1 h3; subst h1; subst h3; exact .inl h2
              by_cases hroom : xs.length + ys.length ≤ cx
              · have hcl : ∀ v ∈ news, v.oneCell' = true := by
                  refine all_one fun v hv => ?_
                  obtain ⟨j, hj⟩ := List.mem_iff_getElem?.1 hv
                  exact (n2 j v hj).2.2
                have hfit : xs.length * i.size + news.length ≤ C.size := by rw [n1, k5, hisz, ← Nat.add_mul]; exact Nat.mul_le_mul_right _ hroom
                have hr := run_append_room (P := P) w t o.type e' i hu hi b xs.length cx C k4 ⟨b2, o2, none⟩ ys.length c2 news (by rw [hisz]; exact n1) (fun j u hj => by rw [addr_at]; exact (n2 j u hj).1) hcl hroom hfit
                rw [hisz] at hr hfit
                obtain ⟨C', hC'⟩ : ∃ C' : Array Value, (C.toList.take (xs.length * s2) ++ news ++ C.toList.drop (xs.length * s2 + news.length)).toArray = C' := ⟨_, rfl⟩
                rw [hC'] at hr
                have hCs : C'.size = cx * s2 := by
                  rw [← hC', ← k5]
                  simp only [List.size_toArray, List.length_append, List.length_take, List.length_drop, Array.length_toList]
                  omega
                have hnew := setRow_heap w b C C' e' (0, 0) k4
                have hlow : ∀ j, j < xs.length * s2 → (w.setRow b C').cell? ⟨b, j, none⟩ = w.cell? ⟨b, j, none⟩ := by
                  intro j hj
                  rw [cell_toList hnew, cell_toList k4, ← hC']
                  simp only [List.append_assoc]
                  rw [List.getElem?_append_left (by simp; omega), List.getElem?_take_of_lt hj]
                obtain ⟨hK, hH'⟩ := step_grow (e := e') (C' := C') (n' := xs.length + ys.length) (b' := b) (cap' := cx) hH hG hB (by omega) hroom h0 q4 hnew hCs (.inl ⟨rfl, but_setRow w b C', hlow⟩)
                have hself : (G.set k (GK.own b s2 cx (xs.length + ys.length)))[k]? = some (GK.own b s2 cx (xs.length + ys.length)) := List.getElem?_set_self hlt
                refine OpOk.val (V := .slice (some ⟨b, 0, none⟩) (xs.length + ys.length) cx) ?_ hK hH' ?_
                · rw [hrun, ex, ey, hr]; rfl
                · have hpre : C'.toList.take ((xs.length + ys.length) * s2) = C.toList.take (xs.length * s2) ++ news := by
                    rw [← hC', Nat.add_mul, ← n1]
                    simp only []
                    have : (C.toList.take (xs.length * s2) ++ news).length = xs.length * s2 + news.length := by simp; omega
                    rw [← this]
                    exact List.take_left
                  have hc0 : CellsAt (fun _ _ => True) w b 0 (C.toList.take (xs.length * s2)) := by
                    rcases hold with hx0 | ⟨b', o', h1, h2, h3⟩
                    · intro j v hj; rw [hx0] at hj; simp at hj
                    · injection h1 with h1; injection h1 with h1 h4; subst h1; subst h4
                      have : olds = C.toList.take (xs.length * s2) := by
                        refine List.ext_getElem? fun j => ?_
                        rcases Nat.lt_or_ge j (xs.length * s2) with hj | hj
                        · have hv := List.getElem?_eq_getElem (show j < olds.length by omega)
                          rw [List.getElem?_take_of_lt hj, hv, ← (h3 j _ hv).1, Nat.zero_add, cell_toList k4]
                        · rw [List.getElem?_eq_none (by omega), List.getElem?_eq_none (by simp; omega)]
                      rw [← this]; exact h3
                  have hx2 : xs = [] ∨ ∃ b o', RepX (ImmB B G) (fun _ _ => True) w s2 xs b o' ∧ CellsAt (fun _ _ => True) w b o' (C.toList.take (xs.length * s2)) := by
                    rcases hA' (cap'' := 0) with h1 | h1
                    · exact .inr ⟨b, 0, h1.any, hc0⟩
                    · exact .inl h1
                  have := repX_mk (xs := xs ++ ys) (t := .own k) (c := cx) (by simpa using hroom) (by simpa using q4) (.inr ⟨_, _, rfl, join_rep hK.stay hnew hpre (fun j hj => hH'.imm hself hj) hx2 (by simp; omega) yX n2 n1⟩) (by
                    simp only [TagOk]
                    exact ⟨_, _, _, _, hself, by simp, fun _ => ⟨rfl, rfl, rfl⟩⟩)
                  rw [List.length_append] at this
                  exact this
              · have hA : (some (⟨b, 0, none⟩ : Addr) = none ∧ xs.length = 0 ∧ cx = 0) ∨ ∃ ad, some (⟨b, 0, none⟩ : Addr) = some ad ∧ ∀ (j : Nat) (v : Value), olds[j]? = some v → w.cell? (ad.add j) = some v := by
                  right
                  rcases hold with hx0 | ⟨b', o', h1, _, h2⟩
                  · have : olds = [] := List.eq_nil_of_length_eq_zero (by rw [l1, hx0]; simp)
                    subst this
                    exact ⟨_, rfl, fun j v hj => by simp at hj⟩
                  · exact ⟨_, h1, fun j v hj => by rw [addr_at]; exact (h2 j v hj).1⟩
                obtain ⟨cap, C2, w', hr, hmo, g1, g2, g3⟩ := grow_run (ty := o.type) (c2 := c2) hu hi hzv hisz hzsz hA l1 n2 n1 (by omega) q4 q3
                obtain ⟨hK, hH'⟩ := step_grow (e := e') (C' := C2) (n' := xs.length + ys.length) hH hG hB (by omega) g1 h0 q4 hmo.new g2 (.inr ⟨rfl, hmo⟩)
                have hself : (G.set k (GK.own w.heap.size s2 cap (xs.length + ys.length)))[k]? = some (GK.own w.heap.size s2 cap (xs.length + ys.length)) := List.getElem?_set_self hlt
                refine OpOk.val (V := .slice (some ⟨w.heap.size, 0, none⟩) (xs.length + ys.length) cap) ?_ hK hH' ?_
                · rw [hrun, ex, ey, hr]; rfl
                · have := repX_mk (xs := xs ++ ys) (t := .own k) (c := cap) (by simpa using g1) (by simpa using q4) (.inr ⟨_, _, rfl, join_rep hK.stay hmo.new g3 (fun j hj => hH'.imm hself hj) hxs l1 yX n2 n1⟩) (by
                    simp only [TagOk]
                    exact ⟨_, _, _, _, hself, by simp, fun _ => ⟨rfl, rfl, rfl⟩⟩)
                  rw [List.length_append] at this
                  exact this
            · cases h
          · cases h
        · cases h
      · cases h
  · cases h
end Go.Proofs.Ytbhnkdnfmlnajaa
