/- Texts of mine, laid together: Pq, Ps, Pt, Pu, Pv, Pw, Px, Py. -/
import Derived.Test.YtcpgmbpndpcmdaaKN1
import Derived.Laws.BytesString
import Derived.Laws.IdiomStrings
namespace Go.Proofs.Ytcpgmbpndpcmdaa
open Go Go.RowKit
variable {P : Program} {B : Nat → Nat → Prop} {G : Gh} {w : World} {H Hr : Heap} {o : Oper} {a : Act} {slots : List DV} {d : DV} {e : Eff}
theorem op_move {x : Operand} (ho : o.op = .move x ∨ o.op = .assign x) (h : some (evalD slots x, Eff.q) = some (d, e)) (hH : HR B G w Hr) (hs : SR (ImmB B G) w G slots a) : OpOk P B G w Hr o a d e := by
  cases h
  refine OpOk.still hH (V := a.eval x) ?_ (hs.eval x) rfl
  rcases ho with ho | ho <;> simp [execOp, ho]
theorem op_pick {c x y : Operand} (ho : o.op = .pick c x y) (h : qv (pickD (evalD slots c) (evalD slots x) (evalD slots y)) = some (d, e)) (hH : HR B G w Hr) (hs : SR (ImmB B G) w G slots a) : OpOk P B G w Hr o a d e := by
  obtain ⟨hp, rfl⟩ := qv_some h; replace h := hp; clear hp
  unfold pickD at h
  split at h
  · rename_i t ht
    cases h
    have hc := hs.eval c
    rw [ht] at hc
    simp only [Rep] at hc
    cases t with
    | true =>
      refine OpOk.still hH (V := a.eval x) ?_ (hs.eval x) rfl
      simp [execOp, ho, hc, asBool]
    | false =>
      refine OpOk.still hH (V := a.eval y) ?_ (hs.eval y) rfl
      simp [execOp, ho, hc, asBool]
  · cases h
theorem op_load {t : TypeId} {x : Operand} {ag : Bool} {sz : Nat} (ho : o.op = .load t x) (ht : aggSz P t = some (ag, sz)) (h : loadD ag sz (evalD slots x) H = some (d, e))
    (hH : HR B G w Hr) (hs : SR (ImmB B G) w G slots a) (hag : Agree e H Hr) : OpOk P B G w Hr o a d e := by
  have hx := hs.eval x
  unfold loadD at h
  split at h
  · rename_i k off hk
    rw [hk] at hx
    simp only [Rep] at hx
    obtain ⟨b, hG, hx⟩ := hx
    split at h
    · rename_i e' cs hc
      obtain ⟨hp, rfl⟩ := rv_some h; replace h := hp; clear hp
      have hc' : Hr[k]? = some (.cells e' cs) := by
        rcases hag k _ _ hc with h' | h'
        · exact h'
        · have := hH.blk _ _ _ h' hG
          simp [BlkRep] at this
      obtain ⟨C, h1, h2, h3⟩ := hH.cells hc' hG
      obtain ⟨V, hrun, hd⟩ := loadVar_run ht h2 (fun j v hj => cells_at h1 j v hj) h
      refine OpOk.still hH (V := V) ?_ hd rfl
      rw [Nat.zero_add] at hrun
      simp [execOp, ho, hx, Instr.loadAt, Instr.sureAddr, hrun]
    · cases h
  · rename_i y off hy
    rw [hy] at hx
    simp only [Rep] at hx
    obtain ⟨hl, b, oo, E, hx, h1, h2⟩ := hx
    obtain ⟨hp, rfl⟩ := qv_some h
    obtain ⟨h3, h4⟩ := rep_cells hl h1
    obtain ⟨V, hrun, hd⟩ := loadVar_run ht h3 (fun j v hj => (h2 j v hj).1) hp
    refine OpOk.still hH (V := V) ?_ (Rep.nil hd) rfl
    simp [execOp, ho, hx, Instr.loadAt, Instr.sureAddr, hrun]
  · cases h
theorem all_one {vs : List Value} (h : ∀ v ∈ vs, isOne v = true) : ∀ v ∈ vs, v.oneCell' = true := fun v hv => by rw [← isOne_eq]; exact h v hv
theorem repL_splice {I : Nat → Nat → Prop} {cs ds : List DV} {us vs : List Value} (h : RepL I w G cs us) (k : RepL I w G ds vs) (o : Nat) :
    RepL I w G (splice o ds cs) (us.take o ++ vs ++ us.drop (o + vs.length)) := by
  unfold splice
  rw [k.length]
  exact ((h.take o).app k).app (h.drop _)
theorem one_splice {us vs : List Value} (h : ∀ v ∈ us, isOne v = true) (k : ∀ v ∈ vs, isOne v = true) (o : Nat) : ∀ v ∈ us.take o ++ vs ++ us.drop (o + vs.length), isOne v = true := by
  intro v hv
  simp only [List.mem_append] at hv
  rcases hv with (hv | hv) | hv
  · exact h v (List.mem_of_mem_take hv)
  · exact k v hv
  · exact h v (List.mem_of_mem_drop hv)
theorem op_store {t : TypeId} {x y : Operand} {ag : Bool} {sz fl : Nat} (ho : o.op = .store t x y) (ht : aggSz P t = some (ag, sz)) (h : storeD sz (evalD slots x) (evalD slots y) H fl = some (d, e))
    (hH : HR B G w Hr) (hs : SR (ImmB B G) w G slots a) (hag : Agree e H Hr) : OpOk P B G w Hr o a d e ∧ (∀ k, k < fl → (e.heap H)[k]? = H[k]?) := by
  have hx := hs.eval x
  have hy := hs.eval y
  unfold storeD at h
  split at h
  · rename_i k off hk
    rw [hk] at hx
    simp only [Rep] at hx
    obtain ⟨b, hG, hx⟩ := hx
    split at h
    · rename_i e' cs hc
      split at h
      · rename_i hcond
        obtain ⟨q1, q2, q3, q4⟩ := hcond
        cases h
        have hag : Hr = H := hag
        subst hag
        obtain ⟨C, h1, h2, h3⟩ := hH.cells hc hG
        obtain ⟨k1, k2⟩ := rep_cells q4 hy
        obtain ⟨i, hi, hsz, _⟩ := aggSz_some ht
        have hlen : (a.eval y).cells.size = sz := by
          have := k1.length
          simp at this
          rw [this, q2]
        have hrun := run_storeCells_at (P := P) b off e' (a.eval y).cells.toList 0 C w h1 (by have := h2.length; simp at this ⊢; omega) (all_one k2)
        rw [Nat.add_zero] at hrun
        obtain ⟨C', hC'⟩ : ∃ C' : Array Value, (C.toList.take off ++ (a.eval y).cells.toList ++ C.toList.drop (off + (a.eval y).cells.toList.length)).toArray = C' := ⟨_, rfl⟩
        rw [hC'] at hrun
        obtain ⟨hK, hH'⟩ := step_set hH hG (but_setRow w b C') (setRow_heap w b C _ e' (0, 0) h1) (cs' := splice off (evalD slots y).cells cs) (by
          rw [← hC']; exact repL_splice h2 k1 off) (by
          rw [← hC']; exact one_splice h3 k2 off)
        refine ⟨OpOk.skip ?_ hK hH', fun i hi => ?_⟩
        · simp only [execOp, ho, hx, Instr.storeAt, Instr.sureAddr, storeVar, Sem.run_bind, Sem.run_pure, Result.andThen_ok, size_run hi]
          simp [hlen, hsz, hrun]
        · simp only [Eff.heap]; exact List.getElem?_set_ne (by omega)
      · cases h
    · cases h
  · cases h
theorem newVar_run (v : Value) (t : TypeId) (w : World) : (newVar t v).run P w = .ok ⟨w.heap.size, 0, none⟩ (w.alloc (.cells v.cells t)) := by
  simp [newVar, newRow]
theorem more_alloc (w : World) (ob : Obj) : More ob w (w.alloc ob) := ⟨rfl, rfl, rfl, rfl⟩
theorem op_box {et : TypeId} {x : DV} {V : Value} {nid : Nat} (h : allocD et x nid = some (d, e)) (hrun : (execOp a.eval o).run P w = .ok (.value (.pointer (some ⟨w.heap.size, 0, none⟩))) (w.alloc (.cells V.cells et)))
    (hx : Rep (ImmB B G) w G x V) (hB : ∀ b j, w.heap.size ≤ b → B b j) (hH : HR B G w Hr) (hag : Agree e H Hr) : OpOk P B G w Hr o a d e := by
  unfold allocD at h
  split at h
  · rename_i hl
    cases h
    have hag : Hr[nid]? = some .hole := hag
    obtain ⟨k1, k2⟩ := rep_cells hl hx
    have hlt : nid < Hr.length := (List.getElem?_eq_some_iff.1 hag).1
    have hg := List.getElem?_eq_getElem (show nid < G.length by rw [← hH.len]; exact hlt)
    have hG : G[nid]? = some GK.hole := by
      have := hH.blk _ _ _ hag hg
      cases hB : G[nid]'(by rw [← hH.len]; exact hlt) <;> rw [hB] at this <;> simp only [BlkRep] at this
      rw [hg, hB]
    obtain ⟨hK, hH'⟩ := step_fill hH hG hB (more_alloc w (.cells V.cells et)) k1 k2
    refine OpOk.val hrun hK hH' ?_
    simp only [Rep]
    exact ⟨_, List.getElem?_set_self (by rw [← hH.len]; exact hlt), rfl⟩
  · cases h
theorem op_nil {x : Operand} (ho : o.op = .nilCheck x) (h : qv (nilD (evalD slots x)) = some (d, e)) (hH : HR B G w Hr) (hs : SR (ImmB B G) w G slots a) : OpOk P B G w Hr o a d e := by
  obtain ⟨hp, rfl⟩ := qv_some h; replace h := hp; clear hp
  have hx := hs.eval x
  unfold nilD at h
  split at h
  · rename_i k off hk
    cases h
    rw [hk] at hx
    refine OpOk.still hH (V := a.eval x) ?_ hx rfl
    simp only [Rep] at hx
    obtain ⟨b, _, hx⟩ := hx
    simp [execOp, ho, hx]
  · rename_i y off hk
    cases h
    rw [hk] at hx
    refine OpOk.still hH (V := a.eval x) ?_ hx rfl
    simp only [Rep] at hx
    obtain ⟨_, b, o', E, hx, _⟩ := hx
    simp [execOp, ho, hx]
  · rename_i f y z hk
    cases h
    rw [hk] at hx
    refine OpOk.still hH (V := a.eval x) ?_ hx rfl
    simp only [Rep] at hx
    obtain ⟨f', c', hx, _⟩ := hx
    simp [execOp, ho, hx]
  · rename_i f y z hk
    cases h
    rw [hk] at hx
    refine OpOk.still hH (V := a.eval x) ?_ hx rfl
    simp only [Rep] at hx
    simp [execOp, ho, hx]
  · cases h
theorem op_pure {s : Sem Value} (hs : pureV P s = some d) (hrun : ∀ v, s.run P w = .ok v w → (execOp a.eval o).run P w = .ok (.value v) w) (hH : HR B G w Hr) : OpOk P B G w Hr o a d .q := by
  obtain ⟨v, rfl, h⟩ := pureV_run hs
  exact OpOk.still hH (hrun v (h w)) (rep_ofVal v) rfl
theorem eqIn_ptr {t et : TypeId} (hu : P.underlying t = some (.pointer et)) (n : Nat) (b : Addr) : (Op.equalIn (n + 1) t (.pointer (some b)) (.pointer none)).run P w = .ok false w := by
  simp [Op.equalIn, run_underlying hu]
theorem eqIn_iface {t t' : TypeId} {ms : Array (String × TypeId)} (hu : P.underlying t = some (.interface ms)) (n : Nat) (v : Value) : (Op.equalIn (n + 1) t (.iface t' v) .nilIface).run P w = .ok false w := by
  simp [Op.equalIn, run_underlying hu]
theorem eqIn_func {t : TypeId} {x y : Array TypeId} {b : Bool} (hu : P.underlying t = some (.func x y b)) (n : Nat) (f : Fn) (c c' : Array Value) : (Op.equalIn (n + 1) t (.func f c c') .nilFunc).run P w = .ok false w := by
  simp [Op.equalIn, run_underlying hu]
theorem eqIn_slice {t et : TypeId} (hu : P.underlying t = some (.slice et)) (n : Nat) (b : Addr) (l c : Nat) : (Op.equalIn (n + 1) t (.slice (some b) l c) (.slice none 0 0)).run P w = .ok false w := by
  simp [Op.equalIn, run_underlying hu]
theorem bytes_at {I : Nat → Nat → Prop} {sz b : Nat} : ∀ (xs : List DV) (o : Nat) (l : List UInt8), mapO byteOf xs = some l → RepE I w sz xs b o → l.length = xs.length ∧ (xs ≠ [] → sz = 1) ∧ ∀ j (hj : j < l.length), w.cell? ⟨b, o + j, none⟩ = some (.int .u8 (l[j].toNat : Int))
  | [], o, l, h, _ => by cases h; exact ⟨rfl, fun h => absurd rfl h, fun j hj => by simp at hj⟩
  | x :: xs, o, l, h, k => by
    simp only [mapO] at h
    cases hx : byteOf x with
    | none => simp [hx] at h
    | some y =>
      cases hr : mapO byteOf xs with
      | none => simp [hx, hr] at h
      | some r =>
        simp [hx, hr] at h
        subst h
        simp only [RepE] at k
        obtain ⟨hk0, V, k1, k2, k3⟩ := k.1
        have k4 := k.2
        clear k hk0
        unfold byteOf at hx
        split at hx
        · rename_i n
          split at hx
          · rename_i hn
            cases hx
            simp only [Rep] at k1
            subst k1
            have hsz : sz = 1 := by rw [← k2]; rfl
            subst hsz
            obtain ⟨e1, _, e3⟩ := bytes_at xs (o + 1) r hr k4
            refine ⟨by simp [e1], fun _ => rfl, fun j hj => ?_⟩
            cases j with
            | zero =>
              have := (k3 0 (.int .u8 n) rfl).1
              rw [this]
              have : ((UInt8.ofNat n.toNat).toNat : Int) = n := by rw [UInt8.toNat_ofNat']; omega
              simp only [List.getElem_cons_zero, this]
            | succ j =>
              have := e3 j (by simpa using hj)
              rw [show o + (j + 1) = o + 1 + j by omega, this]
              rfl
          · cases hx
        · cases hx
theorem equal_nil {t : TypeId} {d : DV} {V v : Value} {I : Nat → Nat → Prop} (h : nilEq P t d v = true) (k : Rep I w G d V) :
    (∀ x y, (eqGuard .eql t x y V v).run P w = .ok () w ∧ (eqGuard .neq t x y V v).run P w = .ok () w) ∧ (binOp .eql t V v).run P w = .ok (.bool false) w ∧ (binOp .neq t V v).run P w = .ok (.bool true) w := by
  have key : (Op.equalIn (9999 + 1) t V v).run P w = .ok false w → (binOp .eql t V v = do pure (.bool (← Op.equalIn (9999 + 1) t V v))) → (binOp .neq t V v = do pure (.bool (!(← Op.equalIn (9999 + 1) t V v)))) → (binOp .eql t V v).run P w = .ok (.bool false) w ∧ (binOp .neq t V v).run P w = .ok (.bool true) w := by
    intro h1 h2 h3
    rw [h2, h3]
    simp [h1]
  unfold nilEq at h
  split at h
  · rename_i hu
    simp only [Rep] at k
    obtain ⟨b, _, rfl⟩ := k
    exact ⟨fun x y => ⟨rfl, rfl⟩, key (eqIn_ptr hu _ _) rfl rfl⟩
  · rename_i hu
    simp only [Rep] at k
    obtain ⟨_, b, _, _, rfl, _⟩ := k
    exact ⟨fun x y => ⟨rfl, rfl⟩, key (eqIn_ptr hu _ _) rfl rfl⟩
  · rename_i hu
    simp only [Rep] at k
    obtain ⟨v, rfl, _⟩ := k
    exact ⟨fun x y => ⟨rfl, rfl⟩, key (eqIn_iface hu _ _) rfl rfl⟩
  · rename_i hu
    simp only [Rep] at k
    obtain ⟨_, _, rfl, _⟩ := k
    exact ⟨fun x y => ⟨rfl, rfl⟩, key (eqIn_func hu _ _ _ _) rfl rfl⟩
  · rename_i hu
    simp only [Rep] at k
    obtain ⟨A, c, rfl, _, _, k, _⟩ := k
    rcases k with k | ⟨b, o, rfl, _⟩
    · cases k
    · exact ⟨fun x y => ⟨rfl, rfl⟩, key (eqIn_slice hu _ _ _ _) rfl rfl⟩
  · cases h
theorem op_bin {op : BinOp} {t yt : TypeId} {x y : Operand} (ho : o.op = .binOp op t x y yt) (h : qv (binD P op t x y (evalD slots x) (evalD slots y)) = some (d, e)) (hH : HR B G w Hr) (hs : SR (ImmB B G) w G slots a) : OpOk P B G w Hr o a d e := by
  obtain ⟨hp, rfl⟩ := qv_some h; replace h := hp; clear hp
  have hx := hs.eval x
  have hy := hs.eval y
  have eq : ∀ op', op = op' → eqD P op' t x y (evalD slots x) (evalD slots y) = some d → OpOk P B G w Hr o a d .q := by
    intro op' e h
    subst e
    unfold eqD at h
    split at h
    · rename_i va vb h1 h2
      have e1 := rep_toVal h1 hx
      have e2 := rep_toVal h2 hy
      refine op_pure h (fun v hv => ?_) hH
      simp only [execOp, ho, Sem.run_bind, e1, e2] at hv ⊢
      rw [hv]; rfl
    · rename_i vb h1 h2
      have e2 := rep_toVal h2 hy
      split at h
      · rename_i hn
        obtain ⟨hg, h3, h4⟩ := equal_nil (w := w) hn hx
        unfold eqRes at h
        split at h
        · cases h
          refine OpOk.still hH (V := .bool false) ?_ (by simp [Rep]) rfl
          simp only [execOp, ho, Sem.run_bind, e2, (hg x y).1, Result.andThen_ok, h3]; rfl
        · cases h
          refine OpOk.still hH (V := .bool true) ?_ (by simp [Rep]) rfl
          simp only [execOp, ho, Sem.run_bind, e2, (hg x y).2, Result.andThen_ok, h4]; rfl
        · cases h
      · cases h
    · split at h
      · rename_i vb _ _
        have e2 : a.eval (.const vb) = vb := rfl
        split at h
        · rename_i hn
          obtain ⟨hg, h3, h4⟩ := equal_nil (w := w) hn hx
          unfold eqRes at h
          split at h
          · cases h
            refine OpOk.still hH (V := .bool false) ?_ (by simp [Rep]) rfl
            simp only [execOp, ho, Sem.run_bind, e2, (hg x _).1, Result.andThen_ok, h3]; rfl
          · cases h
            refine OpOk.still hH (V := .bool true) ?_ (by simp [Rep]) rfl
            simp only [execOp, ho, Sem.run_bind, e2, (hg x _).2, Result.andThen_ok, h4]; rfl
          · cases h
        · cases h
      · cases h
    · cases h
  have ar : op ≠ .eql → op ≠ .neq → arD P op t (evalD slots x) (evalD slots y) = some d → OpOk P B G w Hr o a d .q := by
    intro h1 h2 h
    unfold arD at h
    split at h
    · rename_i va vb h3 h4
      have e1 := rep_toVal h3 hx
      have e2 := rep_toVal h4 hy
      refine op_pure h (fun v hv => ?_) hH
      have hg : eqGuard op t x y va vb = pure () := by
        unfold eqGuard
        cases op <;> first | exact absurd rfl h1 | exact absurd rfl h2 | rfl
      simp only [execOp, ho, Sem.run_bind, e1, e2, hg, Sem.run_pure, Result.andThen_ok, hv]
    · cases h
  clear hx hy
  revert h eq ar
  cases op <;> intro h eq ar <;> first | exact eq _ rfl h | exact ar (by simp) (by simp) h
theorem op_un {op : UnOp} {t : TypeId} {x : Operand} (ho : o.op = .unOp op t x) (h : qv (unD P op (evalD slots x)) = some (d, e)) (hH : HR B G w Hr) (hs : SR (ImmB B G) w G slots a) : OpOk P B G w Hr o a d e := by
  obtain ⟨hp, rfl⟩ := qv_some h; replace h := hp; clear hp
  unfold unD at h
  cases hv : toVal (evalD slots x) with
  | none => simp [hv] at h
  | some va =>
    simp only [hv, Option.bind_some] at h
    have e1 := rep_toVal hv (hs.eval x)
    refine op_pure h (fun v hv => ?_) hH
    simp only [execOp, ho, Sem.run_bind, e1, hv]; rfl
theorem repE_bytes {I : Nat → Nat → Prop} {b : Nat} : ∀ (l : List UInt8) (o : Nat), (∀ j (h : j < l.length), w.cell? ⟨b, o + j, none⟩ = some (.int .u8 (l[j].toNat : Int)) ∧ I b (o + j)) → RepE I w 1 (l.map fun c => DV.flat (.int .u8 (c.toNat : Int))) b o
  | [], o, _ => by simp [RepE]
  | a :: l, o, h => by
    simp only [List.map_cons, RepE]
    refine ⟨⟨by simp [DV.cells, DV.leaf, isOne], .int .u8 (a.toNat : Int), by simp only [Rep], rfl, ?_⟩, repE_bytes l (o + 1) fun j hj => ?_⟩
    · intro j v hj
      cases j with
      | zero =>
        simp [Value.cells] at hj
        subst hj
        obtain ⟨h2, h3⟩ := h 0 (by simp)
        exact ⟨h2, h3, rfl⟩
      | succ j => simp [Value.cells] at hj
    · have := h (j + 1) (by simpa using hj)
      rw [show o + (j + 1) = o + 1 + j by omega] at this
      exact this
theorem op_conv {s t : TypeId} {x : Operand} (ho : o.op = .convert s t x) (h : qv (convD P s t (evalD slots x)) = some (d, e)) (hB : ∀ b j, w.heap.size ≤ b → B b j) (hH : HR B G w Hr) (hs : SR (ImmB B G) w G slots a) : OpOk P B G w Hr o a d e := by
  obtain ⟨hp, rfl⟩ := qv_some h; replace h := hp; clear hp
  unfold convD at h
  split at h
  · rename_i sz xs tg hxs
    unfold strD at h
    split at h
    · rename_i et hu1 hu2
      split at h
      · rename_i hu3
        cases hm : mapO byteOf xs with
        | none => simp [hm] at h
        | some l =>
          simp [hm] at h
          subst h
          have hx := hs.eval x
          rw [hxs] at hx
          simp only [Rep] at hx
          obtain ⟨A, c, hV, h1, h2, h3, _⟩ := hx
          refine OpOk.still hH (V := .string ⟨l.toArray⟩) ?_ (by simp [Rep]) rfl
          have key : (convert s t (a.eval x)).run P w = .ok (.string ⟨l.toArray⟩) w := by
            rw [hV]
            rcases h3 with rfl | ⟨b, o, rfl, h3⟩
            · cases hm
              cases A with
              | none =>
                rw [run_convert_bytes_string w s t et none _ c hu1 hu3 hu2]
                simp [Conv.bytesToString]
                rfl
              | some ad => exact run_convert_bytes_back w s t et ad c [] hu1 hu3 hu2 fun j hj => by simp at hj
            · obtain ⟨e1, _, e3⟩ := bytes_at xs o l hm h3
              rw [← e1]
              refine run_convert_bytes_back w s t et ⟨b, o, none⟩ c l hu1 hu3 hu2 fun j hj => ?_
              have : (⟨b, o, none⟩ : Addr).add j = ⟨b, o + j, none⟩ := by unfold Addr.add; split <;> simp_all
              rw [this, e3 j hj]
          simp only [execOp, ho, Sem.run_bind, key]; rfl
      · cases h
    · cases h
  · rename_i sx hxs
    have hx := hs.eval x
    rw [hxs] at hx
    simp only [Rep] at hx
    split at h
    · rename_i r hr
      cases h
      unfold bytD at hr
      split at hr
      · rename_i et hu1 hu2
        split at hr
        · rename_i hu3
          split at hr
          · rename_i hsz
            cases hr
            have key := run_bytes_of_string w s t et sx hu1 hu2 hu3
            generalize hC : bytesRow sx (grownCap w sx.size 0 et) = C at key
            have hmo : More (.cells C et (C.size, C.size + 1)) w (w.drew.alloc (.cells C et (C.size, C.size + 1))) := ⟨rfl, rfl, rfl, rfl⟩
            obtain ⟨hK, hH'⟩ := step_new hH hmo
            have hcap : sx.size ≤ grownCap w sx.size 0 et := grownCap_ge w sx.size 0 et
            have hE : RepE (ImmB B G) (w.drew.alloc (.cells C et (C.size, C.size + 1))) 1 (sx.data.toList.map fun c => DV.flat (.int .u8 (c.toNat : Int))) w.heap.size 0 := by
              refine repE_bytes _ 0 fun j hj => ⟨?_, hB _ _ (Nat.le_refl _), fun k hk => ?_, fun k s c n hk => ?_⟩
              · refine cells_at hmo.new j _ ?_
                rw [← hC]
                unfold bytesRow
                have hj' : j < sx.data.size := by simpa using hj
                simp only [Array.toList_append, Array.toList_map]
                rw [List.getElem?_append_left (by simpa using hj')]
                rw [List.getElem?_map, Array.getElem?_toList, Array.getElem?_eq_getElem hj']
                rfl
              · have := hH.lt (.inl hk : liveAt G k w.heap.size); omega
              · have := hH.lt (.inr ⟨_, _, _, hk⟩ : liveAt G k w.heap.size); omega
            have hlen : sx.data.toList.length = sx.size := Array.length_toList
            refine OpOk.val (V := .slice (some ⟨w.heap.size, 0, none⟩) sx.size (grownCap w sx.size 0 et)) ?_ hK hH' ?_
            · simp only [execOp, ho, Sem.run_bind, hx, key]; rfl
            · cases hl : sx.data.toList with
              | nil =>
                rw [hl] at hlen
                simp only [List.map_nil, mkl, Rep, TagOk]
                exact ⟨_, _, by rw [← hlen]; rfl, Nat.zero_le _, by simp, .inl trivial, trivial⟩
              | cons c l =>
                rw [hl] at hlen hE
                simp only [List.map_cons, mkl, Rep, TagOk]
                refine ⟨some ⟨w.heap.size, 0, none⟩, grownCap w sx.size 0 et, by rw [← hlen]; simp, by simp at hlen ⊢; omega, by simp at hlen ⊢; omega, .inr ⟨w.heap.size, 0, rfl, by simpa using hE⟩, trivial⟩
          · cases hr
        · cases hr
      · cases hr
    · refine op_pure h (fun v hv => ?_) hH
      simp only [execOp, ho, Sem.run_bind, hx, hv]; rfl
  cases hv : toVal (evalD slots x) with
  | none => simp [hv] at h
  | some va =>
    simp only [hv, Option.bind_some] at h
    have e1 := rep_toVal hv (hs.eval x)
    refine op_pure h (fun v hv => ?_) hH
    simp only [execOp, ho, Sem.run_bind, e1, hv]; rfl
theorem op_ext {t : Operand} {i : Nat} (ho : o.op = .extract t i) (h : qv (extD i (evalD slots t)) = some (d, e)) (hH : HR B G w Hr) (hs : SR (ImmB B G) w G slots a) : OpOk P B G w Hr o a d e := by
  obtain ⟨hp, rfl⟩ := qv_some h; replace h := hp; clear hp
  have hx := hs.eval t
  unfold extD at h
  split at h
  · rename_i cs hc
    rw [hc] at hx
    simp only [Rep] at hx
    obtain ⟨vs, hx, hr⟩ := hx
    obtain ⟨v, hv, hd⟩ := hr.get i d h
    refine OpOk.still hH (V := v) ?_ hd rfl
    simp only [Array.getElem?_toList] at hv
    simp [execOp, ho, hx, Instr.extract, hv]
  · cases h
theorem op_func {fn : Fn} {first cap : Array Operand} (ho : o.op = .makeFunc fn first cap) (h : some (DV.clo fn (first.toList.map (evalD slots)) (cap.toList.map (evalD slots)), Eff.q) = some (d, e)) (hH : HR B G w Hr) (hs : SR (ImmB B G) w G slots a) : OpOk P B G w Hr o a d e := by
  cases h
  have key : ∀ l : Array Operand, RepL (ImmB B G) w G (l.toList.map (evalD slots)) (l.map a.eval).toList := by
    intro l
    refine RepL.of (by simp) fun i d v hd hv => ?_
    simp only [Array.toList_map, List.getElem?_map] at hv hd
    cases hx : l.toList[i]? with
    | none => rw [hx] at hd; cases hd
    | some x =>
      rw [hx] at hd hv
      simp at hd hv
      subst hd; subst hv
      exact hs.eval x
  refine OpOk.still hH (V := .func fn (first.map a.eval) (cap.map a.eval)) ?_ ?_ rfl
  · simp [execOp, ho, Instr.makeFunc]
  · simp only [Rep]
    exact ⟨_, _, rfl, key first, key cap⟩
theorem op_iface {t : TypeId} {x : Operand} {td : TypeDesc} (ho : o.op = .makeInterface t x) (hu : P.underlying t = some td) (hn : ∀ m, td ≠ .interface m) (h : some (DV.iface t (evalD slots x), Eff.q) = some (d, e)) (hH : HR B G w Hr) (hs : SR (ImmB B G) w G slots a) : OpOk P B G w Hr o a d e := by
  cases h
  refine OpOk.still hH (V := .iface t (a.eval x)) ?_ ?_ rfl
  · simp only [execOp, ho, Instr.makeInterface, Sem.run_bind, run_underlying hu, Result.andThen_ok]
    cases td <;> first | rfl | exact absurd rfl (hn _)
  · simp only [Rep]
    exact ⟨_, rfl, hs.eval x⟩
end Go.Proofs.Ytcpgmbpndpcmdaa
namespace Go.Proofs.Ytcpgmbpndpcmdaa
open Go Go.RowKit
variable {P : Program} {B : Nat → Nat → Prop} {G : Gh} {w : World} {H Hr : Heap} {o : Oper} {a : Act} {slots : List DV} {d : DV} {e : Eff}
def RepX (I J : Nat → Nat → Prop) (w : World) (sz : Nat) : List DV → Nat → Nat → Prop
  | [], _, _ => True
  | x :: xs, b, o => (x.cells.all DV.leaf = true ∧ ∃ V, Rep I w [] x V ∧ V.cells.size = sz ∧ CellsAt J w b o V.cells.toList) ∧ RepX I J w sz xs b (o + sz)
theorem repX_of {I : Nat → Nat → Prop} {sz : Nat} : ∀ {xs : List DV} {b o' : Nat}, RepE I w sz xs b o' → RepX I I w sz xs b o'
  | [], _, _, _ => by simp [RepX]
  | x :: xs, b, o', h => by
    simp only [RepE] at h
    simp only [RepX]
    exact ⟨h.1, repX_of h.2⟩
theorem repX_to {I : Nat → Nat → Prop} {sz : Nat} : ∀ {xs : List DV} {b o' : Nat}, RepX I I w sz xs b o' → RepE I w sz xs b o'
  | [], _, _, _ => by simp [RepE]
  | x :: xs, b, o', h => by
    simp only [RepX] at h
    simp only [RepE]
    exact ⟨h.1, repX_to h.2⟩
theorem CellsAt.any {I : Nat → Nat → Prop} {b o' : Nat} {vs : List Value} (h : CellsAt I w b o' vs) : CellsAt (fun _ _ => True) w b o' vs := fun j v hj => ⟨(h j v hj).1, trivial, (h j v hj).2.2⟩
theorem RepX.any {I J : Nat → Nat → Prop} {sz : Nat} : ∀ {xs : List DV} {b o' : Nat}, RepX I J w sz xs b o' → RepX I (fun _ _ => True) w sz xs b o'
  | [], _, _, _ => by simp [RepX]
  | x :: xs, b, o', h => by
    simp only [RepX] at h ⊢
    obtain ⟨⟨h0, V, h1, h2, h3⟩, h4⟩ := h
    exact ⟨⟨h0, V, h1, h2, h3.any⟩, RepX.any h4⟩
theorem RepX.get {I J : Nat → Nat → Prop} {sz : Nat} : ∀ {xs : List DV} {b o' : Nat}, RepX I J w sz xs b o' → ∀ (i : Nat) (x : DV), xs[i]? = some x → x.cells.all DV.leaf = true ∧ ∃ V, Rep I w [] x V ∧ V.cells.size = sz ∧ CellsAt J w b (o' + i * sz) V.cells.toList
  | [], _, _, _, i, x, hx => by simp at hx
  | y :: xs, b, o', h, i, x, hx => by
    simp only [RepX] at h
    cases i with
    | zero => simp at hx; subst hx; simpa using h.1
    | succ i =>
      have := RepX.get h.2 i x (by simpa using hx)
      rw [show o' + (i + 1) * sz = o' + sz + i * sz by rw [Nat.add_mul]; omega]
      exact this
theorem RepX.of {I J : Nat → Nat → Prop} {sz : Nat} : ∀ {xs : List DV} {b o' : Nat}, (∀ (i : Nat) (x : DV), xs[i]? = some x → x.cells.all DV.leaf = true ∧ ∃ V, Rep I w [] x V ∧ V.cells.size = sz ∧ CellsAt J w b (o' + i * sz) V.cells.toList) → RepX I J w sz xs b o'
  | [], _, _, _ => by simp [RepX]
  | y :: xs, b, o', h => by
    simp only [RepX]
    refine ⟨by simpa using h 0 y rfl, RepX.of fun i x hx => ?_⟩
    have := h (i + 1) x (by simpa using hx)
    rw [show o' + sz + i * sz = o' + (i + 1) * sz by rw [Nat.add_mul]; omega]
    exact this
theorem RepX.part {I J : Nat → Nat → Prop} {sz : Nat} {xs : List DV} {b o' : Nat} (h : RepX I J w sz xs b o') (l k : Nat) : RepX I J w sz ((xs.take k).drop l) b (o' + l * sz) := by
  refine RepX.of fun i x hx => ?_
  rw [List.getElem?_drop, List.getElem?_take] at hx
  split at hx
  · have := h.get (l + i) x hx
    rw [show o' + l * sz + i * sz = o' + (l + i) * sz by rw [Nat.add_mul]; omega]
    exact this
  · cases hx
theorem CellsAt.move {I J : Nat → Nat → Prop} {w' : World} {b o' b' o2 n : Nat} {vs : List Value} (h : CellsAt I w b o' vs) (hn : vs.length ≤ n) (hm : ∀ j, j < n → w'.cell? ⟨b', o2 + j, none⟩ = w.cell? ⟨b, o' + j, none⟩ ∧ J b' (o2 + j)) : CellsAt J w' b' o2 vs := fun j v hj => by
  have hlt := (List.getElem?_eq_some_iff.1 hj).1
  obtain ⟨h1, h2⟩ := hm j (by omega)
  exact ⟨h1.trans (h j v hj).1, h2, (h j v hj).2.2⟩
theorem RepX.move {I I' J J' : Nat → Nat → Prop} {w' : World} {sz b o' b' o2 : Nat} {xs : List DV} (h : RepX I J w sz xs b o') (hs : Stay I I' w w')
    (hm : ∀ j, j < xs.length * sz → w'.cell? ⟨b', o2 + j, none⟩ = w.cell? ⟨b, o' + j, none⟩ ∧ J' b' (o2 + j)) : RepX I' J' w' sz xs b' o2 := by
  refine RepX.of fun i x hx => ?_
  obtain ⟨h0, V, h1, h2, h3⟩ := h.get i x hx
  have hi := (List.getElem?_eq_some_iff.1 hx).1
  refine ⟨h0, V, Rep.stay hs (Evol.nil []) x V h1, h2, h3.move (n := sz) (by simp [h2]) fun j hj => ?_⟩
  have : i * sz + j < xs.length * sz := by
    have := Nat.mul_le_mul_right sz (show i + 1 ≤ xs.length from hi)
    rw [Nat.add_mul] at this; omega
  have := hm (i * sz + j) this
  rwa [← Nat.add_assoc, ← Nat.add_assoc] at this
theorem RepX.app {I J : Nat → Nat → Prop} {sz b o' : Nat} {xs ys : List DV} (h : RepX I J w sz xs b o') (k : RepX I J w sz ys b (o' + xs.length * sz)) : RepX I J w sz (xs ++ ys) b o' := by
  refine RepX.of fun i x hx => ?_
  rcases Nat.lt_or_ge i xs.length with hi | hi
  · rw [List.getElem?_append_left hi] at hx; exact h.get i x hx
  · rw [List.getElem?_append_right hi] at hx
    have := k.get _ x hx
    rwa [Nat.add_assoc, ← Nat.add_mul, Nat.add_sub_cancel' hi] at this
theorem RepX.vals {I J : Nat → Nat → Prop} {sz : Nat} : ∀ {xs : List DV} {b o' : Nat}, RepX I J w sz xs b o' → ∃ us : List Value, us.length = xs.length * sz ∧ CellsAt J w b o' us ∧ RepL I w [] ((xs.map DV.cells).flatten) us
  | [], _, _, _ => ⟨[], by simp, fun j v hj => by simp at hj, by simp [RepL]⟩
  | x :: xs, b, o', h => by
    simp only [RepX] at h
    obtain ⟨⟨h0, V, h1, h2, h3⟩, h4⟩ := h
    obtain ⟨us, k1, k2, k3⟩ := RepX.vals h4
    obtain ⟨r1, _⟩ := rep_cells h0 h1
    refine ⟨V.cells.toList ++ us, by simp [h2, k1, Nat.add_mul]; omega, fun j v hj => ?_, by simpa using r1.app k3⟩
    rcases Nat.lt_or_ge j V.cells.toList.length with hj' | hj'
    · rw [List.getElem?_append_left hj'] at hj; exact h3 j v hj
    · rw [List.getElem?_append_right hj'] at hj
      have := k2 _ v hj
      simp only [Array.length_toList, h2] at this hj'
      rwa [Nat.add_assoc, Nat.add_sub_cancel' hj'] at this
theorem repX_val {G : Gh} {I : Nat → Nat → Prop} {sz : Nat} {xs : List DV} {t : Tag} {V : Value} (h : Rep I w G (.list sz xs t) V) :
    ∃ A c, V = .slice A xs.length c ∧ xs.length ≤ c ∧ xs.length ≤ 140737488355328 ∧ (xs = [] ∨ ∃ b o, A = some ⟨b, o, none⟩ ∧ RepX I I w sz xs b o) ∧ TagOk G sz xs.length A c t := by
  simp only [Rep] at h
  obtain ⟨A, c, e, h1, h2, h3, h4⟩ := h
  exact ⟨A, c, e, h1, h2, h3.imp id fun ⟨b, o, e, h⟩ => ⟨b, o, e, repX_of h⟩, h4⟩
theorem repX_mk {G : Gh} {I : Nat → Nat → Prop} {sz : Nat} {xs : List DV} {t : Tag} {A : Option Addr} {c : Nat} (h1 : xs.length ≤ c) (h2 : xs.length ≤ 140737488355328) (h3 : xs = [] ∨ ∃ b o, A = some ⟨b, o, none⟩ ∧ RepX I I w sz xs b o)
    (h4 : TagOk G sz xs.length A c t) : Rep I w G (.list sz xs t) (.slice A xs.length c) := by
  simp only [Rep]
  exact ⟨A, c, rfl, h1, h2, h3.imp id fun ⟨b, o, e, h⟩ => ⟨b, o, e, repX_to h⟩, h4⟩
theorem rep_mkl {G : Gh} {I : Nat → Nat → Prop} {sz : Nat} {xs : List DV} {t : Tag} {V : Value} (ht : ∀ k, t ≠ .own k) (h : Rep I w G (.list sz xs t) V) : Rep I w G (mkl sz xs t) V := by
  unfold mkl
  split
  · simp only [Rep] at h ⊢
    obtain ⟨A, c, e, h1, h2, h3, h4⟩ := h
    refine ⟨A, c, e, h1, h2, .inl trivial, ?_⟩
    cases t with
    | own k => exact absurd rfl (ht k)
    | _ => exact h4
  · exact h
theorem int_val {I : Nat → Nat → Prop} {x : DV} {n : Int} {V : Value} (h : intD x = some n) (k : Rep I w G x V) : ∃ kd, V = .int kd n := by
  unfold intD at h
  split at h
  · cases h
    simp only [Rep] at k
    exact ⟨_, k⟩
  · cases h
theorem op_fieldAddr {s : TypeId} {x : Operand} {f : Nat} {fs : Array Field} {fd : Field} {i : TypeInfo} (ho : o.op = .fieldAddr s x f) (hu : P.underlying s = some (.struct fs)) (hf : fs[f]? = some fd) (hi : P.info? fd.type = some i)
    (h : qv (fieldD fd.offset i.size (evalD slots x)) = some (d, e)) (hH : HR B G w Hr) (hs : SR (ImmB B G) w G slots a) : OpOk P B G w Hr o a d e := by
  obtain ⟨hp, rfl⟩ := qv_some h
  have hx := hs.eval x
  unfold fieldD at hp
  split at hp
  · cases hp
  · rename_i hz
    split at hp
    · rename_i k off hk
      cases hp
      rw [hk] at hx
      simp only [Rep] at hx
      obtain ⟨b, hG, hx⟩ := hx
      refine OpOk.still hH (V := .pointer (some ⟨b, off + fd.offset, none⟩)) ?_ (by simp only [Rep]; exact ⟨b, hG, rfl⟩) rfl
      simp [execOp, ho, hx, Instr.fieldAt, run_underlying hu, hf, Instr.sureAddr, fieldPlace, size_run hi, hz, addr_at]
    · rename_i y off hk
      cases hp
      rw [hk] at hx
      simp only [Rep] at hx
      obtain ⟨h0, b, o', E, hx, h1, h2⟩ := hx
      refine OpOk.still hH (V := .pointer (some ⟨b, o' + (off + fd.offset), none⟩)) ?_ (by simp only [Rep]; exact ⟨h0, b, o', E, rfl, h1, h2⟩) rfl
      simp [execOp, ho, hx, Instr.fieldAt, run_underlying hu, hf, Instr.sureAddr, fieldPlace, size_run hi, hz, addr_at, Nat.add_assoc]
    · cases hp
theorem part_run {I : Nat → Nat → Prop} {t : TypeId} {ag : Bool} {sz off : Nat} {cs : List DV} {vs : Array Value} (ht : aggSz P t = some (ag, sz)) (hr : RepL I w G cs vs.toList) (h : partD ag sz off cs = some d) :
    ∃ V, (part t vs off).run P w = .ok V w ∧ Rep I w G d V := by
  obtain ⟨i, hi, rfl, hag⟩ := aggSz_some ht
  unfold part
  simp only [Sem.run_bind, hag, Result.andThen_ok]
  cases ag with
  | false =>
    simp only [partD, Bool.false_eq_true, if_false] at h ⊢
    obtain ⟨v, hv, hd⟩ := hr.get off d h
    simp only [Array.getElem?_toList] at hv
    exact ⟨v, by simp [hv], hd⟩
  | true =>
    simp only [partD, if_true] at h ⊢
    split at h
    · cases h
      refine ⟨.agg (vs.extract off (off + i.size)), by simp [size_run hi], ?_⟩
      simp only [Rep]
      refine ⟨_, rfl, ?_⟩
      have := (hr.drop off).take i.size
      have e1 : (vs.extract off (off + i.size)).toList = (vs.toList.drop off).take i.size := by
        rw [Array.toList_extract]; simp [List.extract_eq_take_drop]
      rw [e1]; exact this
    · cases h
theorem op_field {t : TypeId} {x : Operand} {f : Nat} {fs : Array Field} {fd : Field} {ag : Bool} {sz : Nat} {cs : List DV} (ho : o.op = .field t x f) (hu : P.underlying t = some (.struct fs)) (hf : fs[f]? = some fd) (ht : aggSz P fd.type = some (ag, sz)) (hc : evalD slots x = .agg cs)
    (h : qv (partD ag sz fd.offset cs) = some (d, e)) (hH : HR B G w Hr) (hs : SR (ImmB B G) w G slots a) : OpOk P B G w Hr o a d e := by
  obtain ⟨hp, rfl⟩ := qv_some h
  have hx := hs.eval x
  rw [hc] at hx
  simp only [Rep] at hx
  obtain ⟨vs, hx, hr⟩ := hx
  obtain ⟨V, hrun, hd⟩ := part_run ht hr hp
  refine OpOk.still hH (V := V) ?_ hd rfl
  simp [execOp, ho, hx, Instr.field, run_underlying hu, hf, asAgg, hrun]
theorem op_index {t : TypeId} {x i : Operand} {len : Nat} {et : TypeId} {ag : Bool} {sz : Nat} {n : Int} {cs : List DV} (ho : o.op = .index t x i) (hu : P.underlying t = some (.array len et)) (ht : aggSz P et = some (ag, sz)) (hn : intD (evalD slots i) = some n) (hc : evalD slots x = .agg cs)
    (h0 : 0 ≤ n ∧ n < len) (h : qv (partD ag sz (n.toNat * sz) cs) = some (d, e)) (hH : HR B G w Hr) (hs : SR (ImmB B G) w G slots a) : OpOk P B G w Hr o a d e := by
  obtain ⟨hp, rfl⟩ := qv_some h
  have hx := hs.eval x
  rw [hc] at hx
  simp only [Rep] at hx
  obtain ⟨vs, hx, hr⟩ := hx
  obtain ⟨kd, hi⟩ := int_val hn (hs.eval i)
  obtain ⟨V, hrun, hd⟩ := part_run ht hr hp
  obtain ⟨inf, hinf, hsz, _⟩ := aggSz_some ht
  refine OpOk.still hH (V := V) ?_ hd rfl
  simp [execOp, ho, hx, hi, Instr.index, asIntOf, run_underlying hu, h0, size_run hinf, hsz, hrun]
theorem op_idxArr {t : TypeId} {x i : Operand} {len : Nat} {et : TypeId} {ie : TypeInfo} (ho : o.op = .indexAddr t x i) (hu : P.underlying t = some (.array len et)) (hie : P.info? et = some ie)
    (h : qv (idxArr len ie.size (evalD slots x) (evalD slots i)) = some (d, e)) (hH : HR B G w Hr) (hs : SR (ImmB B G) w G slots a) : OpOk P B G w Hr o a d e := by
  obtain ⟨hp, rfl⟩ := qv_some h
  have hx := hs.eval x
  unfold idxArr at hp
  split at hp
  · rename_i n hn
    obtain ⟨kd, hi⟩ := int_val hn (hs.eval i)
    split at hp
    · rename_i h0
      split at hp
      · rename_i k off hk
        cases hp
        rw [hk] at hx
        simp only [Rep] at hx
        obtain ⟨b, hG, hx⟩ := hx
        refine OpOk.still hH (V := .pointer (some ⟨b, off + n.toNat * ie.size, none⟩)) ?_ (by simp only [Rep]; exact ⟨b, hG, rfl⟩) rfl
        simp [execOp, ho, hx, hi, Instr.indexAt, asIntOf, run_underlying hu, Instr.sureAddr, h0, size_run hie, addr_at]
      · rename_i y off hk
        cases hp
        rw [hk] at hx
        simp only [Rep] at hx
        obtain ⟨hl, b, o', E, hx, h1, h2⟩ := hx
        refine OpOk.still hH (V := .pointer (some ⟨b, o' + (off + n.toNat * ie.size), none⟩)) ?_ (by simp only [Rep]; exact ⟨hl, b, o', E, rfl, h1, h2⟩) rfl
        simp [execOp, ho, hx, hi, Instr.indexAt, asIntOf, run_underlying hu, Instr.sureAddr, h0, size_run hie, addr_at, Nat.add_assoc]
      · cases hp
    · cases hp
  · cases hp
theorem op_idxSl {t : TypeId} {x i : Operand} {et : TypeId} {ie : TypeInfo} (ho : o.op = .indexAddr t x i) (hu : P.underlying t = some (.slice et)) (hie : P.info? et = some ie)
    (h : qv (idxSl ie.size (evalD slots x) (evalD slots i)) = some (d, e)) (hH : HR B G w Hr) (hs : SR (ImmB B G) w G slots a) : OpOk P B G w Hr o a d e := by
  obtain ⟨hp, rfl⟩ := qv_some h
  have hx := hs.eval x
  unfold idxSl at hp
  split at hp
  · rename_i n hn
    obtain ⟨kd, hi⟩ := int_val hn (hs.eval i)
    split at hp
    · rename_i h0
      split at hp
      · rename_i s xs tg hk
        split at hp
        · rename_i hsz
          cases hxs : xs[n.toNat]? with
          | none => simp [hxs] at hp
          | some y =>
            simp [hxs] at hp
            subst hp
            rw [hk] at hx
            obtain ⟨A, c, hx, _, _, hE, _⟩ := repX_val hx
            have hlt := (List.getElem?_eq_some_iff.1 hxs).1
            have hne : xs ≠ [] := fun e => by subst e; simp at hlt
            obtain ⟨b, o', rfl, hE2⟩ := hE.resolve_left hne
            obtain ⟨hl, V, h1, h2, h3⟩ := hE2.get _ y hxs
            refine OpOk.still hH (V := .pointer (some ⟨b, o' + n.toNat * ie.size, none⟩)) ?_ (by simp only [Rep]; exact ⟨hl, b, o' + n.toNat * s, V, by rw [hsz]; rfl, h1, h3⟩) rfl
            have hlt' : n < (xs.length : Int) := by omega
            simp [execOp, ho, hx, hi, Instr.indexAt, asIntOf, run_underlying hu, h0, hlt', size_run hie, addr_at]
        · cases hp
      · rename_i ag s k off len c hk
        split at hp
        · rename_i hsz
          cases hp
          rw [hk] at hx
          simp only [Rep] at hx
          obtain ⟨b, hG, hx⟩ := hx
          refine OpOk.still hH (V := .pointer (some ⟨b, off + n.toNat * ie.size, none⟩)) ?_ (by simp only [Rep]; exact ⟨b, hG, rfl⟩) rfl
          simp [execOp, ho, hx, hi, Instr.indexAt, asIntOf, run_underlying hu, h0, hsz.2, size_run hie, addr_at]
        · cases hp
      · cases hp
    · cases hp
  · cases hp
theorem sliceBound_run {x : Value} {kd : IntKind} {n : Int} {y : Nat} {code : BoundsCode} (hx : x = .int kd n) (h0 : 0 ≤ n) (h1 : n ≤ y) : (Instr.sliceBound x y code).run P w = .ok n.toNat w := by
  subst hx
  simp [Instr.sliceBound, asIntOf, h0, h1]
theorem bounds_run {isL isSl : Bool} {len cap rc l k m : Nat} {lo hi mx : Option Operand} {lo' hi' mx' : Option Int} (hlo : optD (lo.map (evalD slots)) = some lo') (hhi : optD (hi.map (evalD slots)) = some hi') (hmx : optD (mx.map (evalD slots)) = some mx')
    (h : boundsD isL len cap lo' hi' mx' = some (l, k, m)) (hs : SR (ImmB B G) w G slots a) (hc : cap ≤ rc) (hl : len ≤ rc) :
    (Instr.sliceBounds isSl len rc (lo.map a.eval) (hi.map a.eval) (mx.map a.eval)).run P w = .ok (l, k, if mx.isSome then m else rc) w ∧ l ≤ k ∧ k ≤ len ∧ k ≤ m ∧ m ≤ cap ∧ (mx.isSome = mx'.isSome) ∧ (mx' = none → m = cap) := by
  have one : ∀ {x : Option Operand} {x' : Option Int}, optD (x.map (evalD slots)) = some x' → (x = none ∧ x' = none) ∨ ∃ y n kd, x = some y ∧ x' = some n ∧ a.eval y = .int kd n := by
    intro x x' h
    cases x with
    | none => simp [optD] at h; exact .inl ⟨rfl, h.symm⟩
    | some y =>
      simp only [Option.map_some, optD] at h
      cases hn : intD (evalD slots y) with
      | none => simp [hn] at h
      | some n =>
        simp [hn] at h
        obtain ⟨kd, hk⟩ := int_val hn (hs.eval y)
        exact .inr ⟨y, n, kd, rfl, h.symm, hk⟩
  unfold boundsD at h
  simp only [] at h
  split at h
  · rename_i hc1
    obtain ⟨c1, c2, c3, c4, c5, c6, c7, c8⟩ := hc1
    injection h with h
    injection h with h1 h
    injection h with h2 h3
    rcases one hmx with ⟨rfl, rfl⟩ | ⟨ym, nm, km, rfl, rfl, em⟩
    · simp only [Option.getD_none] at c3 c6 h3
      have hm : m = cap := by omega
      rcases one hhi with ⟨rfl, rfl⟩ | ⟨yh, nh, kh, rfl, rfl, eh⟩ <;> rcases one hlo with ⟨rfl, rfl⟩ | ⟨yl, nl, kl, rfl, rfl, el⟩ <;> simp only [Option.getD_some, Option.getD_none] at c1 c2 c3 c4 h1 h2
      · refine ⟨?_, by omega, by omega, by omega, by omega, rfl, fun _ => hm⟩
        simp [Instr.sliceBounds]; omega
      · refine ⟨?_, by omega, by omega, by omega, by omega, rfl, fun _ => hm⟩
        simp [Instr.sliceBounds, sliceBound_run el c1 c2]; omega
      · refine ⟨?_, by omega, by omega, by omega, by omega, rfl, fun _ => hm⟩
        simp [Instr.sliceBounds, sliceBound_run eh (by omega) (show nh ≤ (rc : Int) by omega)]; omega
      · refine ⟨?_, by omega, by omega, by omega, by omega, rfl, fun _ => hm⟩
        have hle : nl ≤ ((nh.toNat : Nat) : Int) := by omega
        simp [Instr.sliceBounds, sliceBound_run eh (by omega) (show nh ≤ (rc : Int) by omega), sliceBound_run el c1 hle]; omega
    · simp only [Option.getD_some] at c3 c5 c6 c8 h3
      rcases one hhi with ⟨rfl, rfl⟩ | ⟨yh, nh, kh, rfl, rfl, eh⟩
      · simp at c8
      · rcases one hlo with ⟨rfl, rfl⟩ | ⟨yl, nl, kl, rfl, rfl, el⟩ <;> simp only [Option.getD_some, Option.getD_none] at c1 c2 c3 c4 h1 h2
        · refine ⟨?_, by omega, by omega, by omega, by omega, rfl, fun h => by cases h⟩
          have hle : nh ≤ ((nm.toNat : Nat) : Int) := by omega
          simp [Instr.sliceBounds, sliceBound_run em (by omega) (show nm ≤ (rc : Int) by omega), sliceBound_run eh (by omega) hle]; omega
        · refine ⟨?_, by omega, by omega, by omega, by omega, rfl, fun h => by cases h⟩
          have hle : nh ≤ ((nm.toNat : Nat) : Int) := by omega
          have hle' : nl ≤ ((nh.toNat : Nat) : Int) := by omega
          simp [Instr.sliceBounds, sliceBound_run em (by omega) (show nm ≤ (rc : Int) by omega), sliceBound_run eh (by omega) hle, sliceBound_run el c1 hle']; omega
  · cases h
end Go.Proofs.Ytcpgmbpndpcmdaa
namespace Go.Proofs.Ytcpgmbpndpcmdaa
open Go Go.RowKit
variable {P : Program} {B : Nat → Nat → Prop} {G : Gh} {w : World} {H Hr : Heap} {o : Oper} {a : Act} {slots : List DV} {d : DV} {e : Eff}
theorem op_sliceSl {t : TypeId} {x : Operand} {lo hi mx : Option Operand} {l' h' m' : Option Int} {et : TypeId} {ag : Bool} {sz : Nat} (ho : o.op = .slice t x lo hi mx) (hu : P.underlying t = some (.slice et)) (ht : aggSz P et = some (ag, sz))
    (hlo : optD (lo.map (evalD slots)) = some l') (hhi : optD (hi.map (evalD slots)) = some h') (hmx : optD (mx.map (evalD slots)) = some m')
    (h : qv (sliceSl sz (evalD slots x) l' h' m') = some (d, e)) (hH : HR B G w Hr) (hs : SR (ImmB B G) w G slots a) : OpOk P B G w Hr o a d e := by
  obtain ⟨hp, rfl⟩ := qv_some h
  have hx := hs.eval x
  obtain ⟨ie, hie, hsz, _⟩ := aggSz_some ht
  unfold sliceSl at hp
  split at hp
  · rename_i s xs tg hk
    split at hp
    · rename_i hts
      unfold sliceL at hp
      split at hp
      · rename_i l k m hb
        cases hp
        rw [hk] at hx
        obtain ⟨A, c, hx, h1, h2, hE, hT⟩ := repX_val hx
        obtain ⟨hrun, b1, b2, b3, b4, b5, b6⟩ := bounds_run (P := P) (w := w) (isSl := true) hlo hhi hmx hb hs h1 h1
        obtain ⟨M, hM⟩ : ∃ M, (if mx.isSome = true then m else c) = M := ⟨_, rfl⟩
        rw [hM] at hrun
        have hMk : k ≤ M := by rw [← hM]; split <;> omega
        have hlen : ((xs.take k).drop l).length = k - l := by simp; omega
        refine OpOk.still hH (V := .slice (if M = l then A else A.map (·.add (l * ie.size))) (k - l) (M - l)) ?_ ?_ rfl
        · simp [execOp, ho, hx, Instr.sliceAt, run_underlying hu, Instr.slice, hrun, size_run hie]
        · refine rep_mkl (by intro j; split <;> (try split) <;> simp) ?_
          rw [← hlen]
          refine repX_mk (by omega) (by omega) ?_ ?_
          · by_cases hn : (xs.take k).drop l = []
            · exact .inl hn
            · right
              have hkl : l < k := by
                rcases Nat.lt_or_ge l k with h' | h'
                · exact h'
                · exact absurd (List.eq_nil_of_length_eq_zero (by omega)) hn
              have hne : xs ≠ [] := fun e => by subst e; simp at b2; omega
              obtain ⟨b, o', rfl, hE'⟩ := hE.resolve_left hne
              have hss : s = sz := by
                cases xs with
                | nil => exact absurd rfl hne
                | cons x xs => simpa using hts
              refine ⟨b, o' + l * sz, ?_, ?_⟩
              · rw [if_neg (by omega)]
                simp [addr_at, hsz]
              · rw [← hss]; exact hE'.part l k
          · rw [hlen]
            by_cases hc : m'.isSome = true ∧ m = k
            · rw [if_pos hc]
              have hm : mx.isSome = true := b5.trans hc.1
              rw [if_pos hm] at hM
              simp only [TagOk]
              omega
            · rw [if_neg hc]
              by_cases hc2 : m'.isNone = true ∧ k = xs.length ∧ tg = Tag.ti
              · rw [if_pos hc2]
                obtain ⟨c1, c2, rfl⟩ := hc2
                have hm : ¬ mx.isSome = true := by rw [b5]; cases m' <;> simp_all
                rw [if_neg hm] at hM
                simp only [TagOk] at hT ⊢
                omega
              · rw [if_neg hc2]
                trivial
      · cases hp
    · cases hp
  · rename_i ag' s k' off n c hk
    split at hp
    · cases hp
    · rename_i hss
      split at hp
      · rename_i l k m hb
        cases hp
        rw [hk] at hx
        simp only [Rep] at hx
        obtain ⟨b, hG, hx⟩ := hx
        have hnc : n ≤ c := by omega
        have hss' : s = sz := by omega
        obtain ⟨hrun, b1, b2, b3, b4, b5, b6⟩ := bounds_run (P := P) (w := w) (isSl := true) hlo hhi hmx hb hs (Nat.le_refl c) hnc
        have hM : (if mx.isSome = true then m else c) = m := by
          split
          · rfl
          · rename_i hn
            exact (b6 (by rw [b5] at hn; cases m' <;> simp_all)).symm
        rw [hM] at hrun
        refine OpOk.still hH (V := .slice (some ⟨b, if m = l then off else off + l * s, none⟩) (k - l) (m - l)) ?_ (by simp only [Rep]; exact ⟨b, hG, rfl⟩) rfl
        simp only [execOp, ho, hx, Instr.sliceAt, run_underlying hu, Instr.slice, hrun, size_run hie, Sem.run_bind, Result.andThen_ok, Sem.run_pure, hss', hsz]
        split <;> simp [addr_at]
      · cases hp
  · cases hp
theorem RepE.ofCells {I : Nat → Nat → Prop} {w : World} {b : Nat} : ∀ {l : List DV} {o : Nat}, (∀ (j : Nat) (d : DV), l[j]? = some d → d.leaf = true ∧ ∃ v, Rep I w [] d v ∧ isOne v = true ∧ w.cell? ⟨b, o + j, none⟩ = some v ∧ I b (o + j)) → RepE I w 1 l b o
  | [], o, _ => by simp [RepE]
  | d :: l, o, h => by
    simp only [RepE]
    obtain ⟨h0, v, h1, h2, h3, h4⟩ := h 0 d rfl
    have hc : v.cells = #[v] := by cases v <;> first | rfl | cases h2
    have hd : d.cells = [d] := by cases d <;> first | rfl | cases h0
    refine ⟨⟨by rw [hd]; simp [h0], v, h1, by rw [hc]; rfl, ?_⟩, RepE.ofCells fun j d' hj => ?_⟩
    · rw [hc]
      intro j u hj
      cases j with
      | zero =>
        simp at hj
        subst hj
        exact ⟨h3, h4, h2⟩
      | succ j => simp at hj
    · have := h (j + 1) d' (by simpa using hj)
      rw [show o + (j + 1) = o + 1 + j by omega] at this
      exact this
theorem op_sliceAr {t : TypeId} {x : Operand} {lo hi mx : Option Operand} {l' h' m' : Option Int} {n : Nat} {et : TypeId} {ag : Bool} {sz : Nat} (ho : o.op = .slice t x lo hi mx) (hu : P.underlying t = some (.array n et)) (ht : aggSz P et = some (ag, sz))
    (hlo : optD (lo.map (evalD slots)) = some l') (hhi : optD (hi.map (evalD slots)) = some h') (hmx : optD (mx.map (evalD slots)) = some m')
    (h : qv (sliceAr ag n sz (evalD slots x) l' h' m') = some (d, e)) (hH : HR B G w Hr) (hs : SR (ImmB B G) w G slots a) : OpOk P B G w Hr o a d e := by
  obtain ⟨hp, rfl⟩ := qv_some h
  have hx := hs.eval x
  obtain ⟨ie, hie, hsz, _⟩ := aggSz_some ht
  unfold sliceAr at hp
  split at hp
  · rename_i k' off hk
    split at hp
    · rename_i l k m hb
      cases hp
      rw [hk] at hx
      simp only [Rep] at hx
      obtain ⟨b, hG, hx⟩ := hx
      obtain ⟨hrun, b1, b2, b3, b4, b5, b6⟩ := bounds_run (P := P) (w := w) (isSl := false) hlo hhi hmx hb hs (Nat.le_refl n) (Nat.le_refl n)
      have hM : (if mx.isSome = true then m else n) = m := by
        split
        · rfl
        · rename_i hn
          exact (b6 (by rw [b5] at hn; cases m' <;> simp_all)).symm
      rw [hM] at hrun
      refine OpOk.still hH (V := .slice (some ⟨b, if m = l then off else off + l * sz, none⟩) (k - l) (m - l)) ?_ (by simp only [Rep]; exact ⟨b, hG, rfl⟩) rfl
      simp only [execOp, ho, hx, Instr.sliceAt, run_underlying hu, Instr.sureAddr, hrun, size_run hie, Sem.run_bind, Result.andThen_ok, Sem.run_pure, hsz]
      split <;> simp [addr_at]
    · cases hp
  · rename_i y off hk
    split at hp
    · rename_i hc
      obtain ⟨rfl, rfl, rfl, rfl, rfl, hle, hn⟩ := hc
      cases hp
      rw [hk] at hx
      simp only [Rep] at hx
      obtain ⟨h0, b, o', E, hx, hE, hC⟩ := hx
      obtain ⟨q1, q2⟩ := rep_cells h0 hE
      have hb : boundsD false n n none none none = some (0, n, n) := by
        unfold boundsD
        simp
      obtain ⟨hrun, _⟩ := bounds_run (P := P) (w := w) (isSl := false) hlo hhi hmx hb hs (Nat.le_refl n) (Nat.le_refl n)
      have hM : (if mx.isSome = true then n else n) = n := by split <;> rfl
      rw [hM] at hrun
      have hlist : RepE (ImmB B G) w 1 ((y.cells.drop off).take n) b (o' + off) := by
        refine RepE.ofCells (fun j d hd => ?_)
        rw [List.getElem?_take] at hd
        split at hd
        · rw [List.getElem?_drop] at hd
          obtain ⟨v, hv, hr⟩ := q1.get (off + j) d hd
          have hone := q2 v (List.mem_of_getElem? hv)
          have hcell := hC (off + j) _ hv
          rw [show o' + (off + j) = o' + off + j by omega] at hcell
          exact ⟨List.all_eq_true.1 h0 d (List.mem_of_getElem? hd), _, hr, hone, hcell.1, hcell.2.1⟩
        · cases hd
      refine OpOk.still hH (V := .slice (some ⟨b, o' + off, none⟩) n n) ?_ ?_ rfl
      · simp only [execOp, ho, hx, Instr.sliceAt, run_underlying hu, Instr.sureAddr, hrun, size_run hie, Sem.run_bind, Result.andThen_ok, Sem.run_pure, hsz]
        split <;> simp [addr_at]
      · have hlen : ((y.cells.drop off).take n).length = n := by simp; omega
        generalize (y.cells.drop off).take n = l at hlist hlen
        subst hlen
        cases l with
        | nil => simp [mkl, Rep, TagOk]
        | cons u l =>
          simp only [mkl, Rep, TagOk]
          exact ⟨_, _, rfl, Nat.le_refl _, hn, .inr ⟨b, _, rfl, hlist⟩, trivial⟩
    · cases hp
  · cases hp
theorem built_run {c : Call} {b : Builtin} (ho : o.op = .call c) (hc : c.callee = .builtin b) : (execOp a.eval o).run P w = (builtin b c.argTypes o.type (c.args.map fun | .const _ => true | _ => false) (c.args.map a.eval)).run P w := by
  simp [execOp, ho, resolve, hc, invoke]
  rfl
theorem args_eq {l : Array Operand} {xs : List Operand} (h : l.toList = xs) : l.map a.eval = (xs.map a.eval).toArray := by
  apply Array.ext'
  simp [h]
theorem arr_eq {α : Type} {l : Array α} {xs : List α} (h : l.toList = xs) : l = xs.toArray := by
  apply Array.ext'
  simp [h]
theorem op_len {c : Call} {x : Operand} {t : TypeId} (ho : o.op = .call c) (hc : c.callee = .builtin .len) (hx : c.args.toList = [x]) (ht : c.argTypes.toList = [t])
    (h : qv (match P.underlying t with
      | some (.array n _) => some (.flat (.int .i64 n))
      | some (.slice _) => lenD (evalD slots x)
      | some .string => lenStr (evalD slots x)
      | _ => none) = some (d, e)) (hH : HR B G w Hr) (hs : SR (ImmB B G) w G slots a) : OpOk P B G w Hr o a d e := by
  obtain ⟨hp, rfl⟩ := qv_some h
  have hv := hs.eval x
  have hrun : (execOp a.eval o).run P w = ((Builtin.len_ #[t] o.type #[a.eval x]).run P w).andThen fun v w' => .ok (.value v) w' := by
    rw [built_run ho hc, args_eq hx, arr_eq ht]
    simp [builtin]
  split at hp
  · rename_i n et hu
    cases hp
    refine OpOk.still hH (V := .int .i64 n) ?_ (by simp [Rep]) rfl
    rw [hrun]
    simp [Builtin.len_, run_underlying hu, goInt]
  · rename_i et hu
    unfold lenD at hp
    split at hp
    · rename_i sz xs tg hk
      cases hp
      rw [hk] at hv
      obtain ⟨A, cc, hv, _⟩ := repX_val hv
      refine OpOk.still hH (V := .int .i64 xs.length) ?_ (by simp [Rep]) rfl
      rw [hrun]
      simp [Builtin.len_, run_underlying hu, hv, goInt]
    · rename_i ag sz k off n cc hk
      cases hp
      rw [hk] at hv
      simp only [Rep] at hv
      obtain ⟨b, _, hv⟩ := hv
      refine OpOk.still hH (V := .int .i64 n) ?_ (by simp [Rep]) rfl
      rw [hrun]
      simp [Builtin.len_, run_underlying hu, hv, goInt]
    · cases hp
  · rename_i hu
    unfold lenStr at hp
    split at hp
    · rename_i s hk
      cases hp
      rw [hk] at hv
      simp only [Rep] at hv
      refine OpOk.still hH (V := .int .i64 s.size) ?_ (by simp [Rep]) rfl
      rw [hrun]
      simp [Builtin.len_, run_underlying hu, hv, goInt]
    · cases hp
  · cases hp
theorem op_cap {c : Call} {x : Operand} {t : TypeId} (ho : o.op = .call c) (hc : c.callee = .builtin .cap) (hx : c.args.toList = [x]) (ht : c.argTypes.toList = [t])
    (h : qv (match P.underlying t with
      | some (.slice _) => capD (evalD slots x)
      | _ => none) = some (d, e)) (hH : HR B G w Hr) (hs : SR (ImmB B G) w G slots a) : OpOk P B G w Hr o a d e := by
  obtain ⟨hp, rfl⟩ := qv_some h
  have hv := hs.eval x
  have hrun : (execOp a.eval o).run P w = ((Builtin.cap_ #[t] o.type #[a.eval x]).run P w).andThen fun v w' => .ok (.value v) w' := by
    rw [built_run ho hc, args_eq hx, arr_eq ht]
    simp [builtin]
  split at hp
  · rename_i et hu
    unfold capD at hp
    split at hp
    · rename_i sz xs hk
      cases hp
      rw [hk] at hv
      obtain ⟨A, cc, hv, _, _, _, hT⟩ := repX_val hv
      simp only [TagOk] at hT
      refine OpOk.still hH (V := .int .i64 xs.length) ?_ (by simp [Rep]) rfl
      rw [hrun]
      simp [Builtin.cap_, run_underlying hu, hv, goInt, hT]
    · rename_i ag sz k off n cc hk
      cases hp
      rw [hk] at hv
      simp only [Rep] at hv
      obtain ⟨b, _, hv⟩ := hv
      refine OpOk.still hH (V := .int .i64 cc) ?_ (by simp [Rep]) rfl
      rw [hrun]
      simp [Builtin.cap_, run_underlying hu, hv, goInt]
    · cases hp
  · cases hp
theorem vals_eq {I : Nat → Nat → Prop} {args : List Operand} {vs : List Value} (hs : SR I w G slots a) (h : mapO toVal (args.map (evalD slots)) = some vs) : args.map a.eval = vs := by
  obtain ⟨h1, h2⟩ := mapO_some h
  refine List.ext_getElem? fun i => ?_
  rw [List.getElem?_map]
  cases hx : args[i]? with
  | none =>
    have := List.getElem?_eq_none_iff.1 hx
    rw [List.getElem?_eq_none (by rw [h1]; simpa using this)]; rfl
  | some x =>
    obtain ⟨v, hv, hf⟩ := h2 i (evalD slots x) (by simp [hx])
    rw [hv, Option.map_some, rep_toVal hf (hs.eval x)]
theorem op_built {c : Call} {b : Builtin} (ho : o.op = .call c) (hc : c.callee = .builtin b) (h : qv (builtD P b c.argTypes o.type (c.args.toList.map (evalD slots))) = some (d, e)) (hH : HR B G w Hr) (hs : SR (ImmB B G) w G slots a) : OpOk P B G w Hr o a d e := by
  obtain ⟨hp, rfl⟩ := qv_some h
  unfold builtD at hp
  cases hm : mapO toVal (c.args.toList.map (evalD slots)) with
  | none => simp [hm] at hp
  | some vs =>
    simp only [hm, Option.bind_some] at hp
    have hv := vals_eq hs hm
    split at hp
    · refine op_pure hp (fun v hr => ?_) hH
      rw [built_run ho hc, args_eq rfl, hv]
      simp [builtin, hr]
    · refine op_pure hp (fun v hr => ?_) hH
      rw [built_run ho hc, args_eq rfl, hv]
      simp [builtin, hr]
    · cases hp
end Go.Proofs.Ytcpgmbpndpcmdaa
namespace Go.Proofs.Ytcpgmbpndpcmdaa
open Go Go.RowKit
variable {P : Program} {B : Nat → Nat → Prop} {G : Gh} {w : World} {H Hr : Heap} {o : Oper} {a : Act} {slots : List DV} {d : DV} {e : Eff}
theorem plainLeaf_some {d d' : DV} (h : plainLeaf d = some d') : d'.leaf = true ∧ ∀ {I : Nat → Nat → Prop} {w : World} {G : Gh} {V : Value}, Rep I w G d V → Rep I w [] d' V := by
  unfold plainLeaf at h
  split at h
  · split at h
    · rename_i v hv
      cases h
      exact ⟨hv, fun k => by simpa only [Rep] using k⟩
    · cases h
  · cases h
    refine ⟨rfl, fun k => ?_⟩
    simp only [Rep] at k ⊢
    obtain ⟨A, c, e, h1, h2, h3, h4⟩ := k
    exact ⟨A, c, e, h1, h2, h3, h4⟩
  · cases h
    refine ⟨rfl, fun k => ?_⟩
    simp only [Rep] at k ⊢
    obtain ⟨A, c, e, h1, h2, h3, h4⟩ := k
    exact ⟨A, c, e, h1, h2, h3, trivial⟩
  · cases h
theorem plainL_some {cs cs' : List DV} (h : mapO plainLeaf cs = some cs') : cs'.all DV.leaf = true ∧ cs'.length = cs.length ∧ ∀ {I : Nat → Nat → Prop} {w : World} {G : Gh} {vs : List Value}, RepL I w G cs vs → RepL I w [] cs' vs := by
  obtain ⟨h1, h2⟩ := mapO_some h
  have back : ∀ (i : Nat) (d' : DV), cs'[i]? = some d' → ∃ d, cs[i]? = some d ∧ plainLeaf d = some d' := by
    intro i d' hd
    have hlt : i < cs.length := by rw [← h1]; exact (List.getElem?_eq_some_iff.1 hd).1
    obtain ⟨y, hy, hf⟩ := h2 i _ (List.getElem?_eq_getElem hlt)
    rw [hd] at hy; cases hy
    exact ⟨_, List.getElem?_eq_getElem hlt, hf⟩
  refine ⟨?_, h1, fun {I w G vs} k => RepL.of (by rw [k.length, h1]) fun i d' v hd hv => ?_⟩
  · rw [List.all_eq_true]
    intro d' hd
    obtain ⟨i, hi⟩ := List.mem_iff_getElem?.1 hd
    obtain ⟨d, _, hf⟩ := back i d' hi
    exact (plainLeaf_some hf).1
  · obtain ⟨d, hd', hf⟩ := back i d' hd
    obtain ⟨v', hv', hr⟩ := k.get i d hd'
    rw [hv'] at hv; cases hv
    exact (plainLeaf_some hf).2 hr
theorem op_boxE {et : TypeId} {x : DV} {V : Value} (h : qv (boxE x) = some (d, e)) (hrun : (execOp a.eval o).run P w = .ok (.value (.pointer (some ⟨w.heap.size, 0, none⟩))) (w.alloc (.cells V.cells et)))
    (hx : Rep (ImmB B G) w G x V) (hB : ∀ b j, w.heap.size ≤ b → B b j) (hH : HR B G w Hr) : OpOk P B G w Hr o a d e := by
  obtain ⟨hp, rfl⟩ := qv_some h
  unfold boxE at hp
  split at hp
  · obtain ⟨x', hpl, rfl⟩ := Option.map_eq_some_iff.1 hp
    have key : x'.cells.all DV.leaf = true ∧ Rep (ImmB B G) w [] x' V := by
      unfold plainEl at hpl
      split at hpl
      · obtain ⟨cs', hm, rfl⟩ := Option.map_eq_some_iff.1 hpl
        obtain ⟨q1, _, q3⟩ := plainL_some hm
        simp only [Rep] at hx ⊢
        obtain ⟨vs, rfl, hx⟩ := hx
        exact ⟨q1, vs, rfl, q3 hx⟩
      · obtain ⟨q1, q2⟩ := plainLeaf_some hpl
        have hd : x'.cells = [x'] := by cases x' <;> first | rfl | cases q1
        exact ⟨by rw [hd]; simp [q1], q2 hx⟩
    obtain ⟨k1, k2⟩ := key
    obtain ⟨hK, hH'⟩ := step_new hH (more_alloc w (.cells V.cells et))
    refine OpOk.val hrun hK hH' ?_
    have k3 : Rep (ImmB B G) (w.alloc (.cells V.cells et)) [] x' V := Rep.stay hK.stay (Evol.refl []) _ _ k2
    simp only [Rep]
    refine ⟨k1, w.heap.size, 0, V, rfl, k3, fun j v hj => ⟨?_, ⟨hB _ _ (Nat.le_refl _), fun k hk => ?_, fun k s c n hk => ?_⟩, (rep_cells k1 k2).2 v (List.mem_of_getElem? hj)⟩⟩
    · rw [Nat.zero_add]
      simp only [World.cell?, (more_alloc w (.cells V.cells et)).new]
      simpa using hj
    · have := hH.lt (.inl hk : liveAt G k _)
      omega
    · have := hH.lt (.inr ⟨_, _, _, hk⟩ : liveAt G k _)
      omega
  · cases hp
theorem chunkOk_some {ag : Bool} {sz n : Nat} (h : chunkOk ag sz n = true) : 0 < sz ∧ (ag = false → sz = 1) ∧ n ≤ 140737488355328 := by
  unfold chunkOk at h
  simp only [Bool.and_eq_true, decide_eq_true_eq, Bool.or_eq_true, beq_iff_eq] at h
  refine ⟨h.1.1, fun e => ?_, h.2⟩
  subst e
  simpa using h.1.2
theorem chunk_rep {I J : Nat → Nat → Prop} {ag : Bool} {sz b : Nat} (h0 : 0 < sz) (h1 : ag = false → sz = 1) : ∀ (n : Nat) (cs : List DV) (vs : List Value) (off : Nat) (xs : List DV), cs.length = n * sz → RepL I w G cs vs →
    CellsAt J w b off vs → mapO plainEl (chunk ag sz n cs) = some xs → RepX I J w sz xs b off ∧ xs.length = n
  | 0, cs, vs, off, xs, _, _, _, h => by
    simp only [chunk, mapO] at h
    cases h
    simp [RepX]
  | n + 1, cs, vs, off, xs, hl, hr, hc, h => by
    rw [Nat.add_mul, Nat.one_mul] at hl
    simp only [chunk, mapO] at h
    split at h
    · rename_i y hy
      split at h
      · rename_i ys hys
        cases h
        have hlv := hr.length
        obtain ⟨k1, k2⟩ := chunk_rep h0 h1 n (cs.drop sz) (vs.drop sz) (off + sz) ys (by simp; omega) (hr.drop sz) (fun j v hj => by
          rw [List.getElem?_drop] at hj
          have := hc _ v hj
          rwa [← Nat.add_assoc] at this) hys
        refine ⟨?_, by simp [k2]⟩
        simp only [RepX]
        refine ⟨?_, k1⟩
        cases ag with
        | true =>
          simp only [if_true, plainEl] at hy
          cases hm : mapO plainLeaf (cs.take sz) with
          | none => simp [hm] at hy
          | some zs =>
            simp [hm] at hy
            subst hy
            obtain ⟨q1, q2, q3⟩ := plainL_some hm
            refine ⟨q1, .agg (vs.take sz).toArray, ?_, ?_, fun j v hj => ?_⟩
            · simp only [Rep]; exact ⟨_, rfl, q3 (hr.take sz)⟩
            · simp [Value.cells]; omega
            · simp only [Value.cells, List.getElem?_take] at hj
              split at hj
              · exact hc j v hj
              · cases hj
        | false =>
          have hsz := h1 rfl
          subst hsz
          simp only [Bool.false_eq_true, if_false] at hy
          cases cs with
          | nil => simp at hl
          | cons d cs =>
            simp only [List.headD_cons] at hy
            simp only [RepL] at hr
            obtain ⟨v, r, rfl, hd, _⟩ := hr
            have key : plainLeaf d = some y := by
              unfold plainEl at hy
              split at hy
              · have := (hc 0 v rfl).2.2
                simp only [Rep] at hd
                obtain ⟨_, rfl, _⟩ := hd
                simp [isOne] at this
              · exact hy
            obtain ⟨q1, q2⟩ := plainLeaf_some key
            have hone := (hc 0 v rfl).2.2
            refine ⟨?_, v, q2 hd, by rw [isOne_cells hone]; rfl, fun j u hj => ?_⟩
            · have : y.cells = [y] := by cases y <;> simp_all [DV.cells, DV.leaf]
              simp [this, q1]
            · rw [isOne_cells hone] at hj
              have hj0 : j = 0 := by
                have := (List.getElem?_eq_some_iff.1 hj).1
                simpa using this
              subst hj0
              simp at hj
              subst hj
              exact hc 0 v rfl
      · cases h
    · cases h
theorem rowCells_some {k off len : Nat} {cs : List DV} (h : rowCells H k off len = some cs) : ∃ e all, H[k]? = some (.cells e all) ∧ off + len ≤ all.length ∧ cs = (all.drop off).take len := by
  unfold rowCells at h
  split at h
  · rename_i e all hk
    split at h
    · rename_i hle
      cases h
      exact ⟨e, all, hk, hle, rfl⟩
    · cases h
  · cases h
theorem row_rep {J : Nat → Nat → Prop} {ag : Bool} {sz k off n b : Nat} {cs xs : List DV} (hH : HR B G w H) (hG : G[k]? = some (GK.cel b)) (hok : chunkOk ag sz n = true) (hc : rowCells H k off (n * sz) = some cs) (hx : mapO plainEl (chunk ag sz n cs) = some xs)
    (hJ : ∀ j, J b j) : RepX (ImmB B G) J w sz xs b off ∧ xs.length = n := by
  obtain ⟨h0, h1, h2⟩ := chunkOk_some hok
  obtain ⟨e, all, hk, hle, rfl⟩ := rowCells_some hc
  obtain ⟨C, q1, q2, q3⟩ := hH.cells hk hG
  refine chunk_rep h0 h1 n _ ((C.toList.drop off).take (n * sz)) off xs (by simp; omega) ((q2.drop off).take _) (fun j v hj => ?_) hx
  rw [List.getElem?_take] at hj
  split at hj
  · rw [List.getElem?_drop] at hj
    refine ⟨?_, hJ _, q3 v (List.mem_of_getElem? hj)⟩
    have := cells_at q1 _ v hj
    rwa [Nat.zero_add] at this
  · cases hj
theorem src_rep {ag : Bool} {sz : Nat} {y : DV} {ys : List DV} {V : Value} (h : srcD ag sz y H = some ys) (hy : Rep (ImmB B G) w G y V) (hH : HR B G w H) :
    ∃ A c, V = .slice A ys.length c ∧ (ys = [] ∨ ∃ b o', A = some ⟨b, o', none⟩ ∧ RepX (ImmB B G) (fun _ _ => True) w sz ys b o') := by
  unfold srcD at h
  split at h
  · rename_i s zs tg
    split at h
    · rename_i hc
      cases h
      obtain ⟨A, c, rfl, _, _, hE, _⟩ := repX_val hy
      refine ⟨A, c, rfl, ?_⟩
      rcases hE with rfl | ⟨b, o', rfl, hE⟩
      · exact .inl rfl
      · by_cases hz : ys = []
        · exact .inl hz
        · have : s = sz := by
            cases ys with
            | nil => exact absurd rfl hz
            | cons x xs => simpa using hc
          subst this
          exact .inr ⟨b, o', rfl, hE.any⟩
    · cases h
  · rename_i a' s k off n c
    split at h
    · rename_i hc
      obtain ⟨rfl, rfl, hok⟩ := hc
      cases hr : rowCells H k off (n * s) with
      | none => simp [hr] at h
      | some cs =>
        simp only [hr, Option.bind_some] at h
        simp only [Rep] at hy
        obtain ⟨b, hG, rfl⟩ := hy
        obtain ⟨h1, h2⟩ := row_rep (J := fun _ _ => True) hH hG hok hr h (fun _ => trivial)
        exact ⟨_, c, by rw [h2], .inr ⟨b, off, rfl, h1⟩⟩
    · cases h
  · cases h
theorem cell_toList {w : World} {b : Nat} {C : Array Value} {e : TypeId} {f : Nat × Nat} (h : w.heap[b]? = some (.cells C e f)) (j : Nat) : w.cell? ⟨b, j, none⟩ = C.toList[j]? := by
  simp [World.cell?, h]
theorem HR.imm {B : Nat → Nat → Prop} {G : Gh} {w : World} {H : Heap} (h : HR B G w H) {k b sz cap hw j : Nat} (hG : G[k]? = some (GK.own b sz cap hw)) (hj : j < hw * sz) : ImmB B G b j := by
  refine ⟨h.bb k b (.inr ⟨_, _, _, hG⟩) j, fun k' hk => ?_, fun k' sz' cap' hw' hk => ?_⟩
  · have := h.dist k k' b (.inr ⟨_, _, _, hG⟩) (.inl hk)
    subst this
    rw [hG] at hk; cases hk
  · have := h.dist k k' b (.inr ⟨_, _, _, hG⟩) (.inr ⟨_, _, _, hk⟩)
    subst this
    rw [hG] at hk; cases hk
    exact hj
theorem zero_size {z : Value} {n : Nat} (h : (ofVal1 z).cells.length = n) : z.cells.size = n := by
  have key : ∀ v : Value, (leafOf v).cells.length = 1 := by
    intro v
    unfold leafOf
    split <;> rfl
  unfold ofVal1 at h
  split at h
  · simpa [DV.cells, Value.cells] using h
  · rename_i v hne
    rw [key] at h
    rw [← h]
    cases z with
    | agg cs => exact absurd rfl (hne cs)
    | _ => rfl
theorem zeroD_info {t : TypeId} {d : DV} {i : TypeInfo} (h : zeroD P t = some d) (hi : P.info? t = some i) : ∃ z, d = ofVal1 z ∧ i.zero = some z := by
  unfold zeroD at h
  simp only [hi, Option.bind_some] at h
  cases hz : i.zero with
  | none => simp [hz] at h
  | some z => simp [hz] at h; exact ⟨z, h.symm, rfl⟩
theorem grow_run {t ty et : TypeId} {i : TypeInfo} {z : Value} {sz : Nat} {A : Option Addr} {n c m c2 b2 o2 : Nat} {olds news : List Value} (ht : P.underlying t = some (.slice et)) (hi : P.info? et = some i) (hz : i.zero = some z) (hsz : i.size = sz) (hzs : z.cells.size = sz)
    (hA : (A = none ∧ n = 0 ∧ c = 0) ∨ ∃ ad, A = some ad ∧ ∀ (j : Nat) (v : Value), olds[j]? = some v → w.cell? (ad.add j) = some v) (hlo : olds.length = n * sz) (hn : CellsAt (fun _ _ => True) w b2 o2 news) (hln : news.length = m * sz)
    (hg : c < n + m) (h63 : n + m ≤ 140737488355328) (hb : (n + m) * i.bytes ≤ 140737488355328) :
    ∃ cap C w', (Builtin.append_ #[t, t] ty #[.slice A n c, .slice (some ⟨b2, o2, none⟩) m c2]).run P w = .ok (.slice (some ⟨w.heap.size, 0, none⟩) (n + m) cap) w' ∧ More (.cells C et (0, 0)) w w' ∧
      n + m ≤ cap ∧ C.size = cap * sz ∧ C.toList.take ((n + m) * sz) = olds ++ news := by
  subst hsz
  have hlen : (olds ++ news).length = (n + m) * i.size := by rw [List.length_append, hlo, hln, Nat.add_mul]
  have hnews : ∀ j v, news[j]? = some v → w.cell? ((⟨b2, o2, none⟩ : Addr).add j) = some v := fun j v hj => by rw [addr_at]; exact (hn j v hj).1
  rcases hA with ⟨rfl, rfl, rfl⟩ | ⟨ad, rfl, hc⟩
  · have ho : olds = [] := List.eq_nil_of_length_eq_zero (by simpa using hlo)
    subst ho
    rw [Nat.zero_add] at hg h63 hb
    have hr := run_append_nil (P := P) w t ty et i z ht hi hz ⟨b2, o2, none⟩ m c2 news hln hnews (by omega) (by omega) (by omega)
    have hge := grownCap_ge w m 0 et
    simp only [Nat.zero_add]
    refine ⟨_, _, _, hr, ⟨rfl, rfl, rfl, rfl⟩, by omega, ?_, ?_⟩
    · simp only [Array.size_append, List.size_toArray, size_zeroCells, hzs, hln, ← Nat.add_mul]
      congr 1; omega
    · simp only [Array.toList_append, List.nil_append]
      rw [← hln]; exact List.take_left
  · have hr := run_append_grow (P := P) w t ty et i z ht hi hz ad n c olds hlo hc ⟨b2, o2, none⟩ m c2 news hln hnews hg (by omega) (growslice_fits hg hb)
    have hge := grownCap_ge w (n + m) c et
    refine ⟨_, _, _, hr, ⟨rfl, rfl, rfl, rfl⟩, hge, ?_, ?_⟩
    · simp only [Array.size_append, List.size_toArray, size_zeroCells, hzs, hlo, hln, ← Nat.add_mul]
      congr 1; omega
    · simp only [Array.toList_append, List.append_assoc]
      rw [← List.append_assoc, ← hlen]
      exact List.take_left
theorem join_rep {G' : Gh} {w' : World} {I : Nat → Nat → Prop} {sz b' : Nat} {C : Array Value} {et : TypeId} {f : Nat × Nat} {xs ys : List DV} {olds news : List Value} (hst : Stay I (ImmB B G') w w')
    (hb : w'.heap[b']? = some (.cells C et f)) (hpre : C.toList.take ((xs.length + ys.length) * sz) = olds ++ news) (hI : ∀ j, j < (xs.length + ys.length) * sz → ImmB B G' b' j)
    (hx : xs = [] ∨ ∃ b o', RepX I (fun _ _ => True) w sz xs b o' ∧ CellsAt (fun _ _ => True) w b o' olds) (hlo : olds.length = xs.length * sz) {b2 o2 : Nat} (hy : RepX I (fun _ _ => True) w sz ys b2 o2) (hn : CellsAt (fun _ _ => True) w b2 o2 news) (hln : news.length = ys.length * sz) :
    RepX (ImmB B G') (ImmB B G') w' sz (xs ++ ys) b' 0 := by
  have hcell : ∀ j v, j < (xs.length + ys.length) * sz → (olds ++ news)[j]? = some v → w'.cell? ⟨b', j, none⟩ = some v := by
    intro j v hj hv
    rw [cell_toList hb, ← hv, ← hpre, List.getElem?_take_of_lt hj]
  rw [Nat.add_mul] at hcell hI
  refine RepX.app ?_ ?_
  · rcases hx with rfl | ⟨b, o', hx, hc⟩
    · simp [RepX]
    · refine hx.move hst fun j hj => ⟨?_, by rw [Nat.zero_add]; exact hI j (by omega)⟩
      rw [Nat.zero_add]
      have hv := List.getElem?_eq_getElem (show j < olds.length by omega)
      rw [(hc j _ hv).1]
      exact hcell j _ (by omega) (by rw [List.getElem?_append_left (by omega)]; exact hv)
  · refine hy.move hst fun j hj => ⟨?_, by rw [Nat.zero_add]; exact hI _ (by omega)⟩
    rw [Nat.zero_add]
    have hv := List.getElem?_eq_getElem (show j < news.length by omega)
    rw [(hn j _ hv).1]
    exact hcell _ _ (by omega) (by rw [List.getElem?_append_right (by omega), hlo, Nat.add_sub_cancel_left]; exact hv)
theorem empty_append_run {t ty et : TypeId} {i : TypeInfo} {A A2 : Option Addr} {n c c2 : Nat} (ht : P.underlying t = some (.slice et)) (hi : P.info? et = some i) (hc : n ≤ c) :
    (Builtin.append_ #[t, t] ty #[.slice A n c, .slice A2 0 c2]).run P w = .ok (.slice A n c) w := by
  cases A <;> cases A2 <;> simp [Builtin.append_, run_underlying ht, sizeOf, typeInfo, hi, Builtin.lenOf, hc, Builtin.firstCells, loadCells, loadCellsFrom, storeCells]
theorem op_append {c : Call} {x y : Operand} {t et : TypeId} {ag : Bool} {sz fl : Nat} {i : TypeInfo} {z : DV} (ho : o.op = .call c) (hc : c.callee = .builtin .append) (hx : c.args.toList = [x, y]) (ht : c.argTypes.toList = [t, t]) (hu : P.underlying t = some (.slice et))
    (hsz : aggSz P et = some (ag, sz)) (hi : P.info? et = some i) (hz : zeroD P et = some z) (hzs : z.cells.length = sz)
    (h : appendD et ag sz i.bytes (evalD slots x) (evalD slots y) H fl = some (d, e)) (hB : ∀ b j, w.heap.size ≤ b → B b j) (hH : HR B G w Hr) (hs : SR (ImmB B G) w G slots a) (hag : Agree e H Hr) (hfl : e.wr → fl ≤ H.length) :
    OpOk P B G w Hr o a d e ∧ (∀ k, k < fl → (e.heap H)[k]? = H[k]?) := by
  have hrun : (execOp a.eval o).run P w = ((Builtin.append_ #[t, t] o.type #[a.eval x, a.eval y]).run P w).andThen fun v w' => .ok (.value v) w' := by
    rw [built_run ho hc, args_eq hx, arr_eq ht]
    simp [builtin]
  have hvx := hs.eval x
  have hvy := hs.eval y
  obtain ⟨zv, rfl, hzv⟩ := zeroD_info hz hi
  have hzsz := zero_size hzs
  have hisz : i.size = sz := by
    obtain ⟨i', hi', h1, _⟩ := aggSz_some hsz
    rw [hi] at hi'; cases hi'; exact h1
  unfold appendD at h
  split at h
  · rename_i s xs tg ys hk hsrc
    rw [hk] at hvx
    obtain ⟨A, cx, ex, x1, x2, xE, xT⟩ := repX_val hvx
    split at h
    · cases h
      have hag : Hr = H := hag
      subst hag
      obtain ⟨A2, c2, ey, _⟩ := src_rep hsrc hvy hH
      refine ⟨OpOk.still hH (V := a.eval x) ?_ (hs.eval x) rfl, fun k _ => rfl⟩
      rw [hrun, ey, ex, List.length_nil, empty_append_run hu hi x1]
      rfl
    · rename_i hne
      split at h
      · rename_i hcond
        obtain ⟨q1, q2, q3, q4⟩ := hcond
        obtain ⟨h0, _, _⟩ := chunkOk_some q2
        have hagH : Hr = H := by
          split at h
          · cases h; exact hag
          · split at h
            · split at h
              · cases h; exact hag
              · cases h
            · cases h
          · cases h
        subst hagH
        obtain ⟨A2, c2, ey, yE⟩ := src_rep hsrc hvy hH
        obtain ⟨b2, o2, rfl, yX⟩ := yE.resolve_left (fun e => hne e)
        obtain ⟨news, n1, n2, _⟩ := yX.vals
        have hm : 0 < ys.length := by
          rcases Nat.eq_zero_or_pos ys.length with h' | h'
          · exact absurd (List.eq_nil_of_length_eq_zero h') (fun e => hne e)
          · exact h'
        have xss : xs = [] ∨ s = sz := by
          cases xs with
          | nil => exact .inl rfl
          | cons x xs => simp at q1; exact .inr q1
        have hold : ∃ olds : List Value, olds.length = xs.length * sz ∧ (xs = [] ∨ ∃ b o', A = some ⟨b, o', none⟩ ∧ RepX (ImmB B G) (ImmB B G) w sz xs b o' ∧ CellsAt (fun _ _ => True) w b o' olds) := by
          rcases xE with rfl | ⟨b, o', rfl, xE⟩
          · exact ⟨[], by simp, .inl rfl⟩
          · rcases xss with rfl | rfl
            · exact ⟨[], by simp, .inl rfl⟩
            · obtain ⟨us, u1, u2, _⟩ := xE.vals
              exact ⟨us, u1, .inr ⟨b, o', rfl, xE, u2.any⟩⟩
        obtain ⟨olds, l1, hold⟩ := hold
        have hxs : xs = [] ∨ ∃ b o', RepX (ImmB B G) (fun _ _ => True) w sz xs b o' ∧ CellsAt (fun _ _ => True) w b o' olds := hold.imp id fun ⟨b, o', _, h1, h2⟩ => ⟨b, o', h1.any, h2⟩
        split at h
        · cases h
          simp only [TagOk] at xT
          subst xT
          have hA : (A = none ∧ xs.length = 0 ∧ xs.length = 0) ∨ ∃ ad, A = some ad ∧ ∀ (j : Nat) (v : Value), olds[j]? = some v → w.cell? (ad.add j) = some v := by
            rcases hold with rfl | ⟨b, o', h1, _, h2⟩
            · cases A with
              | none => exact .inl ⟨rfl, rfl, rfl⟩
              | some ad =>
                have ho : olds = [] := List.eq_nil_of_length_eq_zero (by simpa using l1)
                subst ho
                exact .inr ⟨ad, rfl, fun j v hj => by simp at hj⟩
            · exact .inr ⟨_, h1, fun j v hj => by rw [addr_at]; exact (h2 j v hj).1⟩
          obtain ⟨cap, C, w', hr, hmo, g1, g2, g3⟩ := grow_run (ty := o.type) (c2 := c2) hu hi hzv hisz hzsz hA l1 n2 n1 (by omega) q4 q3
          obtain ⟨hK, hH'⟩ := step_token hH hB hmo g1 h0 q4 g2
          have hself : (G ++ [GK.own w.heap.size sz cap (xs.length + ys.length)])[Hr.length]? = some (GK.own w.heap.size sz cap (xs.length + ys.length)) := by rw [hH.len]; simp
          refine ⟨OpOk.val (V := .slice (some ⟨w.heap.size, 0, none⟩) (xs.length + ys.length) cap) ?_ hK hH' ?_, fun k hk => List.getElem?_append_left (by have := hfl (.inr rfl); omega)⟩
          · rw [hrun, ex, ey, hr]; rfl
          · have := repX_mk (xs := xs ++ ys) (t := .own Hr.length) (c := cap) (by simpa using g1) (by simpa using q4) (.inr ⟨_, _, rfl, join_rep hK.stay hmo.new g3 (fun j hj => hH'.imm hself hj) hxs l1 yX n2 n1⟩) (by
              simp only [TagOk]
              exact ⟨_, _, _, _, hself, by simp, fun _ => ⟨rfl, rfl, rfl⟩⟩)
            rw [List.length_append] at this
            exact this
        · rename_i k
          split at h
          · rename_i e' s' n hkH
            split at h
            · rename_i hc2
              obtain ⟨rfl, rfl, rfl, hfk⟩ := hc2
              cases h
              simp only [TagOk] at xT
              obtain ⟨b, s2, cap, hw, hG, t1, t2⟩ := xT
              have hblk := hH.blk _ _ _ hkH hG
              simp only [BlkRep] at hblk
              obtain ⟨rfl, rfl, k1, k2, k3, C, k4, k5⟩ := hblk
              obtain ⟨rfl, rfl, _⟩ := t2 rfl
              refine ⟨?_, fun j hj => List.getElem?_set_ne (by omega)⟩
              have hlt : k < G.length := (List.getElem?_eq_some_iff.1 hG).1
              have hA' : ∀ {cap'' : Nat}, RepX (ImmB B G) (ImmB B G) w s2 xs b 0 ∨ xs = [] := by
                intro _
                rcases hold with rfl | ⟨b', o', h1, h2, _⟩
                · exact .inr rfl
                · injection h1 with h1; injection h1 with h1 h3; subst h1; subst h3; exact .inl h2
              by_cases hroom : xs.length + ys.length ≤ cx
              · have hcl : ∀ v ∈ news, v.oneCell' = true := by
                  refine all_one fun v hv => ?_
                  obtain ⟨j, hj⟩ := List.mem_iff_getElem?.1 hv
                  exact (n2 j v hj).2.2
                have hfit : xs.length * i.size + news.length ≤ C.size := by rw [n1, k5, hisz, ← Nat.add_mul]; exact Nat.mul_le_mul_right _ hroom
                have hr := run_append_room (P := P) w t o.type e' i hu hi b xs.length cx C k4 ⟨b2, o2, none⟩ ys.length c2 news (by rw [hisz]; exact n1) (fun j u hj => by rw [addr_at]; exact (n2 j u hj).1) hcl hroom hfit
                rw [hisz] at hr hfit
                obtain ⟨C', hC'⟩ : ∃ C' : Array Value, (C.toList.take (xs.length * s2) ++ news ++ C.toList.drop (xs.length * s2 + news.length)).toArray = C' := ⟨_, rfl⟩
                rw [hC'] at hr
                have hCs : C'.size = cx * s2 := by
                  rw [← hC', ← k5]
                  simp only [List.size_toArray, List.length_append, List.length_take, List.length_drop, Array.length_toList]
                  omega
                have hnew := setRow_heap w b C C' e' (0, 0) k4
                have hlow : ∀ j, j < xs.length * s2 → (w.setRow b C').cell? ⟨b, j, none⟩ = w.cell? ⟨b, j, none⟩ := by
                  intro j hj
                  rw [cell_toList hnew, cell_toList k4, ← hC']
                  simp only [List.append_assoc]
                  rw [List.getElem?_append_left (by simp; omega), List.getElem?_take_of_lt hj]
                obtain ⟨hK, hH'⟩ := step_grow (e := e') (C' := C') (n' := xs.length + ys.length) (b' := b) (cap' := cx) hH hG hB (by omega) hroom h0 q4 hnew hCs (.inl ⟨rfl, but_setRow w b C', hlow⟩)
                have hself : (G.set k (GK.own b s2 cx (xs.length + ys.length)))[k]? = some (GK.own b s2 cx (xs.length + ys.length)) := List.getElem?_set_self hlt
                refine OpOk.val (V := .slice (some ⟨b, 0, none⟩) (xs.length + ys.length) cx) ?_ hK hH' ?_
                · rw [hrun, ex, ey, hr]; rfl
                · have hpre : C'.toList.take ((xs.length + ys.length) * s2) = C.toList.take (xs.length * s2) ++ news := by
                    rw [← hC', Nat.add_mul, ← n1]
                    simp only []
                    have : (C.toList.take (xs.length * s2) ++ news).length = xs.length * s2 + news.length := by simp; omega
                    rw [← this]
                    exact List.take_left
                  have hc0 : CellsAt (fun _ _ => True) w b 0 (C.toList.take (xs.length * s2)) := by
                    rcases hold with hx0 | ⟨b', o', h1, h2, h3⟩
                    · intro j v hj; rw [hx0] at hj; simp at hj
                    · injection h1 with h1; injection h1 with h1 h4; subst h1; subst h4
                      have : olds = C.toList.take (xs.length * s2) := by
                        refine List.ext_getElem? fun j => ?_
                        rcases Nat.lt_or_ge j (xs.length * s2) with hj | hj
                        · have hv := List.getElem?_eq_getElem (show j < olds.length by omega)
                          rw [List.getElem?_take_of_lt hj, hv, ← (h3 j _ hv).1, Nat.zero_add, cell_toList k4]
                        · rw [List.getElem?_eq_none (by omega), List.getElem?_eq_none (by simp; omega)]
                      rw [← this]; exact h3
                  have hx2 : xs = [] ∨ ∃ b o', RepX (ImmB B G) (fun _ _ => True) w s2 xs b o' ∧ CellsAt (fun _ _ => True) w b o' (C.toList.take (xs.length * s2)) := by
                    rcases hA' (cap'' := 0) with h1 | h1
                    · exact .inr ⟨b, 0, h1.any, hc0⟩
                    · exact .inl h1
                  have := repX_mk (xs := xs ++ ys) (t := .own k) (c := cx) (by simpa using hroom) (by simpa using q4) (.inr ⟨_, _, rfl, join_rep hK.stay hnew hpre (fun j hj => hH'.imm hself hj) hx2 (by simp; omega) yX n2 n1⟩) (by
                    simp only [TagOk]
                    exact ⟨_, _, _, _, hself, by simp, fun _ => ⟨rfl, rfl, rfl⟩⟩)
                  rw [List.length_append] at this
                  exact this
              · have hA : (some (⟨b, 0, none⟩ : Addr) = none ∧ xs.length = 0 ∧ cx = 0) ∨ ∃ ad, some (⟨b, 0, none⟩ : Addr) = some ad ∧ ∀ (j : Nat) (v : Value), olds[j]? = some v → w.cell? (ad.add j) = some v := by
                  right
                  rcases hold with hx0 | ⟨b', o', h1, _, h2⟩
                  · have : olds = [] := List.eq_nil_of_length_eq_zero (by rw [l1, hx0]; simp)
                    subst this
                    exact ⟨_, rfl, fun j v hj => by simp at hj⟩
                  · exact ⟨_, h1, fun j v hj => by rw [addr_at]; exact (h2 j v hj).1⟩
                obtain ⟨cap, C2, w', hr, hmo, g1, g2, g3⟩ := grow_run (ty := o.type) (c2 := c2) hu hi hzv hisz hzsz hA l1 n2 n1 (by omega) q4 q3
                obtain ⟨hK, hH'⟩ := step_grow (e := e') (C' := C2) (n' := xs.length + ys.length) hH hG hB (by omega) g1 h0 q4 hmo.new g2 (.inr ⟨rfl, hmo⟩)
                have hself : (G.set k (GK.own w.heap.size s2 cap (xs.length + ys.length)))[k]? = some (GK.own w.heap.size s2 cap (xs.length + ys.length)) := List.getElem?_set_self hlt
                refine OpOk.val (V := .slice (some ⟨w.heap.size, 0, none⟩) (xs.length + ys.length) cap) ?_ hK hH' ?_
                · rw [hrun, ex, ey, hr]; rfl
                · have := repX_mk (xs := xs ++ ys) (t := .own k) (c := cap) (by simpa using g1) (by simpa using q4) (.inr ⟨_, _, rfl, join_rep hK.stay hmo.new g3 (fun j hj => hH'.imm hself hj) hxs l1 yX n2 n1⟩) (by
                    simp only [TagOk]
                    exact ⟨_, _, _, _, hself, by simp, fun _ => ⟨rfl, rfl, rfl⟩⟩)
                  rw [List.length_append] at this
                  exact this
            · cases h
          · cases h
        · cases h
      · cases h
  · cases h
end Go.Proofs.Ytcpgmbpndpcmdaa
namespace Go.Proofs.Ytcpgmbpndpcmdaa
open Go Go.RowKit
variable {P : Program} {B : Nat → Nat → Prop} {G : Gh} {w : World} {H Hr : Heap} {o : Oper} {a : Act} {slots : List DV} {d : DV} {e : Eff}
theorem op_copy {c : Call} {x y : Operand} {t t' et : TypeId} {ag : Bool} {sz fl : Nat} (ho : o.op = .call c) (hc : c.callee = .builtin .copy) (hx : c.args.toList = [x, y]) (ht : c.argTypes.toList = [t, t']) (hu : P.underlying t = some (.slice et))
    (hsz : aggSz P et = some (ag, sz)) (h : copyD ag sz (evalD slots x) (evalD slots y) H fl = some (d, e)) (hH : HR B G w Hr) (hs : SR (ImmB B G) w G slots a) (hag : Agree e H Hr) :
    OpOk P B G w Hr o a d e ∧ (∀ k, k < fl → (e.heap H)[k]? = H[k]?) := by
  have hrun : (execOp a.eval o).run P w = ((Builtin.copy_ #[t, t'] o.type #[a.eval x, a.eval y]).run P w).andThen fun v w' => .ok (.value v) w' := by
    rw [built_run ho hc, args_eq hx, arr_eq ht]
    simp [builtin]
  have hvx := hs.eval x
  have hvy := hs.eval y
  obtain ⟨i, hi, hisz, _⟩ := aggSz_some hsz
  unfold copyD at h
  split at h
  · rename_i a' s k off n c' ys hk hsrc
    split at h
    · rename_i hcond
      obtain ⟨rfl, rfl, hfk⟩ := hcond
      split at h
      · rename_i e' cs hkH
        simp only [] at h
        split at h
        · rename_i hc2
          obtain ⟨q1, q2⟩ := hc2
          cases h
          have hag : Hr = H := hag
          subst hag
          rw [hk] at hvx
          simp only [Rep] at hvx
          obtain ⟨b, hG, ex⟩ := hvx
          obtain ⟨A2, c2, ey, yE⟩ := src_rep hsrc hvy hH
          obtain ⟨C, h1, h2, h3⟩ := hH.cells hkH hG
          obtain ⟨m, hm⟩ : ∃ m, min ys.length n = m := ⟨_, rfl⟩
          rw [hm] at q1 q2 ⊢
          have hml : m ≤ ys.length := by omega
          have hnews : ∃ us : List Value, us.length = m * s ∧ (∀ v ∈ us, isOne v = true) ∧ RepL (ImmB B G) w G (((ys.take m).map DV.cells).flatten) us ∧ (Builtin.firstCells s m (.slice A2 ys.length c2)).run P w = .ok us.toArray w := by
            rcases yE with rfl | ⟨b2, o2, rfl, yX⟩
            · have : m = 0 := by simpa using hml
              subst this
              refine ⟨[], by simp, by simp, by simp [RepL], ?_⟩
              cases A2 <;> simp [Builtin.firstCells, loadCells, loadCellsFrom]
            · have := yX.part 0 m
              simp only [List.drop_zero, Nat.zero_mul, Nat.add_zero] at this
              obtain ⟨us, u1, u2, u3⟩ := this.vals
              have hl : (ys.take m).length = m := by simp; omega
              rw [hl] at u1
              refine ⟨us, u1, fun v hv => ?_, RepL.nil' u3, ?_⟩
              · obtain ⟨j, hj⟩ := List.mem_iff_getElem?.1 hv
                exact (u2 j v hj).2.2
              · exact run_firstCells_some (P := P) w s m ⟨b2, o2, none⟩ ys.length c2 us u1 (fun j v hj => by rw [addr_at]; exact (u2 j v hj).1)
          obtain ⟨us, u1, u2, u3, u4⟩ := hnews
          have hst := run_storeCells_at (P := P) b off e' us 0 C w h1 (by have := h2.length; simp at this ⊢; omega) (all_one u2)
          rw [Nat.add_zero] at hst
          obtain ⟨C', hC'⟩ : ∃ C' : Array Value, (C.toList.take off ++ us ++ C.toList.drop (off + us.length)).toArray = C' := ⟨_, rfl⟩
          rw [hC'] at hst
          obtain ⟨hK, hH'⟩ := step_set hH hG (but_setRow w b C') (setRow_heap w b C _ e' (0, 0) h1) (cs' := splice off (((ys.take m).map DV.cells).flatten) cs) (by
            rw [← hC']; exact repL_splice h2 u3 off) (by
            rw [← hC']; exact one_splice h3 u2 off)
          refine ⟨OpOk.val (V := .int .i64 m) ?_ hK hH' (by simp [Rep]), fun j hj => ?_⟩
          · rw [hrun, ex, ey]
            have hmm : Nat.min ys.length n = m := hm
            simp [Builtin.copy_, run_underlying hu, size_run hi, hisz, Builtin.lenOf, hmm, u4, hst, goInt]
          · simp only [Eff.heap]; exact List.getElem?_set_ne (by omega)
        · cases h
      · cases h
    · cases h
  · cases h
theorem foldl_set (off : Nat) : ∀ (vs : List Value) (i : Nat) (C : Array Value), off + i + vs.length ≤ C.size →
    ((vs.zipIdx i).foldl (fun cs p => cs.setIfInBounds (off + p.2) p.1) C).toList = C.toList.take (off + i) ++ vs ++ C.toList.drop (off + i + vs.length)
  | [], i, C, _ => by simp
  | v :: rest, i, C, h => by
    rw [List.zipIdx_cons, List.foldl_cons, foldl_set off rest (i + 1) _ (by simp at h ⊢; omega)]
    have e := list_seg_step C.toList (off + i) v rest (by simp at h ⊢; omega)
    simpa [Array.toList_setIfInBounds, Nat.add_assoc] using e
theorem fill_ok {I : Nat → Nat → Prop} (place : Nat → Option (Nat × Nat)) (ρ : Operand → DV) (ev : Operand → Value) (hev : ∀ x, Rep I w G (ρ x) (ev x)) : ∀ (parts : List (Nat × Operand)) (cs : List DV) (C : Array Value) (r : List DV),
    RepL I w G cs C.toList → (∀ v ∈ C.toList, isOne v = true) → fillD place cs (parts.map fun p => (p.1, ρ p.2)) = some r →
    ∃ C', Instr.fill place C (parts.map fun p => (p.1, ev p.2)) = some C' ∧ RepL I w G r C'.toList ∧ ∀ v ∈ C'.toList, isOne v = true
  | [], cs, C, r, h1, h2, h => by
    simp only [List.map_nil, fillD] at h
    cases h
    exact ⟨C, rfl, h1, h2⟩
  | (i, x) :: parts, cs, C, r, h1, h2, h => by
    simp only [List.map_cons, fillD] at h
    split at h
    · cases h
    · rename_i off size hp
      split at h
      · cases h
      · rename_i hc
        have hc1 : (ρ x).cells.length = size := by
          rcases Nat.lt_trichotomy (ρ x).cells.length size with h' | h' | h'
          · exact absurd (.inl (by omega)) hc
          · exact h'
          · exact absurd (.inl (by omega)) hc
        have hc2 : off + (ρ x).cells.length ≤ cs.length := by
          rcases Nat.lt_or_ge cs.length (off + (ρ x).cells.length) with h' | h'
          · exact absurd (.inr (.inl h')) hc
          · exact h'
        have hc3 : (ρ x).cells.all DV.leaf = true := by
          cases hb : (ρ x).cells.all DV.leaf with
          | true => rfl
          | false => exact absurd (.inr (.inr hb)) hc
        obtain ⟨k1, k2⟩ := rep_cells hc3 (hev x)
        have hl := k1.length
        have hl2 := h1.length
        simp only [Array.length_toList] at hl hl2
        obtain ⟨C2, hC2⟩ : ∃ C2 : Array Value, (ev x).cells.zipIdx.foldl (fun cs p => cs.setIfInBounds (off + p.2) p.1) C = C2 := ⟨_, rfl⟩
        have hC2' : C2.toList = C.toList.take off ++ (ev x).cells.toList ++ C.toList.drop (off + (ev x).cells.toList.length) := by
          rw [← hC2, ← Array.foldl_toList, Array.toList_zipIdx]
          have := foldl_set off (ev x).cells.toList 0 C (by simp; omega)
          rw [Nat.add_zero] at this
          exact this
        obtain ⟨C', q1, q2, q3⟩ := fill_ok place ρ ev hev parts (splice off (ρ x).cells cs) C2 r (by rw [hC2']; exact repL_splice h1 k1 off) (by rw [hC2']; exact one_splice h2 k2 off) h
        refine ⟨C', ?_, q2, q3⟩
        simp only [List.map_cons, Instr.fill, hp]
        rw [if_neg (by simp; omega)]
        have : (fun (cs : Array Value) (x : Value × Nat) => match x with | (c, j) => cs.setIfInBounds (off + j) c) = fun cs p => cs.setIfInBounds (off + p.2) p.1 := rfl
        rw [this, hC2]
        exact q1
theorem parts_eq (parts : Array (Nat × Operand)) : (parts.map fun (i, x) => (i, a.eval x)).toList = parts.toList.map fun p => (p.1, a.eval p.2) := by
  rw [Array.toList_map]
theorem mapM_run {α β : Type} (f : α → Sem β) (g : α → Option β) (hf : ∀ x y, g x = some y → (f x).run P w = .ok y w) : ∀ (l : List α) (r : List β), mapO g l = some r → (l.mapM f).run P w = .ok r w
  | [], r, h => by
    simp only [mapO] at h
    cases h
    simp
  | x :: l, r, h => by
    simp only [mapO] at h
    split at h
    · rename_i y hy
      split at h
      · rename_i r' hr
        cases h
        rw [List.mapM_cons]
        simp [hf x y hy, mapM_run f g hf l r' hr]
      · cases h
    · cases h
theorem op_buildS {t : TypeId} {parts : Array (Nat × Operand)} {fs : Array Field} {z : DV} {pl : List (Nat × Nat)} (ho : o.op = .build t parts) (hu : P.underlying t = some (.struct fs)) (hz : zeroD P t = some z) (hpl : placesD P fs.toList = some pl)
    (h : qv (buildS z pl (parts.toList.map fun p => (p.1, evalD slots p.2))) = some (d, e)) (hl : z.cells.all DV.leaf = true) (hH : HR B G w Hr) (hs : SR (ImmB B G) w G slots a) : OpOk P B G w Hr o a d e := by
  obtain ⟨hp, rfl⟩ := qv_some h
  unfold buildS at hp
  cases hf : fillD (pl[·]?) z.cells (parts.toList.map fun p => (p.1, evalD slots p.2)) with
  | none => simp [hf] at hp
  | some r =>
    simp [hf] at hp
    subst hp
    obtain ⟨zv, rfl, hzv⟩ := zeroD_some hz
    have hzr : Rep (ImmB B G) w G (ofVal1 zv) zv := rep_ofVal1 zv
    obtain ⟨k1, k2⟩ := rep_cells hl hzr
    obtain ⟨C', q1, q2, _⟩ := fill_ok (pl[·]?) (evalD slots) a.eval hs.eval parts.toList _ _ r k1 k2 hf
    refine OpOk.still hH (V := .agg C') ?_ (by simp only [Rep]; exact ⟨_, rfl, q2⟩) rfl
    unfold placesD at hpl
    have hm := mapM_run (P := P) (w := w) (fun f : Field => do pure (f.offset, ← sizeOf f.type)) (fun f => (P.info? f.type).map fun i => (f.offset, i.size)) (fun f y hy => by
      cases hi : P.info? f.type with
      | none => simp [hi] at hy
      | some i =>
        simp [hi] at hy
        subst hy
        simp [size_run hi]) fs.toList pl hpl
    have hm' : (fs.mapM (fun f : Field => do pure (f.offset, ← sizeOf f.type)) : Sem (Array (Nat × Nat))).run P w = .ok pl.toArray w := by
      rw [Array.mapM_eq_mapM_toList]
      simp only [Sem.run_map, hm, Result.andThen_ok]
    have hpl' : (fun i : Nat => pl.toArray[i]?) = (fun i : Nat => pl[i]?) := by funext i; simp
    simp only [execOp, ho, Instr.build, Sem.run_bind, hzv, Result.andThen_ok, run_underlying hu, hm', hpl', parts_eq, q1, Sem.run_pure]
theorem op_buildA {t : TypeId} {parts : Array (Nat × Operand)} {n : Nat} {et : TypeId} {i : TypeInfo} {z : DV} (ho : o.op = .build t parts) (hu : P.underlying t = some (.array n et)) (hz : zeroD P t = some z) (hi : P.info? et = some i)
    (h : qv (buildA z i.size (parts.toList.map fun p => (p.1, evalD slots p.2))) = some (d, e)) (hl : z.cells.all DV.leaf = true) (hH : HR B G w Hr) (hs : SR (ImmB B G) w G slots a) : OpOk P B G w Hr o a d e := by
  obtain ⟨hp, rfl⟩ := qv_some h
  unfold buildA at hp
  cases hf : fillD (fun j => some (j * i.size, i.size)) z.cells (parts.toList.map fun p => (p.1, evalD slots p.2)) with
  | none => simp [hf] at hp
  | some r =>
    simp [hf] at hp
    subst hp
    obtain ⟨zv, rfl, hzv⟩ := zeroD_some hz
    have hzr : Rep (ImmB B G) w G (ofVal1 zv) zv := rep_ofVal1 zv
    obtain ⟨k1, k2⟩ := rep_cells hl hzr
    obtain ⟨C', q1, q2, _⟩ := fill_ok _ (evalD slots) a.eval hs.eval parts.toList _ _ r k1 k2 hf
    refine OpOk.still hH (V := .agg C') ?_ (by simp only [Rep]; exact ⟨_, rfl, q2⟩) rfl
    simp only [execOp, ho, Instr.build, Sem.run_bind, hzv, Result.andThen_ok, run_underlying hu, size_run hi, parts_eq, q1, Sem.run_pure]
theorem rep_flat {α : Type} (l : List α) : ∀ (n i : Nat), i < n * l.length → (List.replicate n l).flatten[i]? = l[i % l.length]?
  | 0, i, h => by simp at h
  | n + 1, i, h => by
    rw [List.replicate_succ, List.flatten_cons]
    rcases Nat.lt_or_ge i l.length with hi | hi
    · rw [List.getElem?_append_left hi, Nat.mod_eq_of_lt hi]
    · rw [List.getElem?_append_right hi, rep_flat l n _ (by rw [Nat.add_mul] at h; omega), Nat.mod_eq_sub_mod hi]
theorem zeros_eq {z : Array Value} {n sz : Nat} (hz : z.size = sz) (h0 : 0 < sz) : ((Array.range (n * sz)).map (z[· % z.size]!)).toList = (List.replicate n z.toList).flatten := by
  refine List.ext_getElem? fun i => ?_
  simp only [Array.toList_map, Array.toList_range, List.getElem?_map]
  rcases Nat.lt_or_ge i (n * sz) with hi | hi
  · rw [rep_flat _ _ _ (by simpa [hz] using hi), List.getElem?_range hi]
    have : i % z.size < z.size := Nat.mod_lt _ (by omega)
    simp [this]
  · rw [List.getElem?_eq_none (by simpa using hi), List.getElem?_eq_none (by simpa [hz] using hi)]
    rfl
theorem repL_rep {I : Nat → Nat → Prop} {cs : List DV} {vs : List Value} (h : RepL I w G cs vs) : ∀ n, RepL I w G (List.replicate n cs).flatten (List.replicate n vs).flatten
  | 0 => by simp [RepL]
  | n + 1 => by
    rw [List.replicate_succ, List.replicate_succ, List.flatten_cons, List.flatten_cons]
    exact h.app (repL_rep h n)
theorem one_rep {vs : List Value} (h : ∀ v ∈ vs, isOne v = true) (n : Nat) : ∀ v ∈ (List.replicate n vs).flatten, isOne v = true := by
  intro v hv
  simp only [List.mem_flatten, List.mem_replicate] at hv
  obtain ⟨l, ⟨_, rfl⟩, hv⟩ := hv
  exact h v hv
theorem op_buildL {t : TypeId} {len : Nat} {parts : Array (Nat × Operand)} {et : TypeId} {ag : Bool} {sz : Nat} {z : DV} (ho : o.op = .buildSlice t len parts) (hu : P.underlying t = some (.slice et)) (ht : aggSz P et = some (ag, sz)) (hz : zeroD P et = some z)
    (h : qv (buildL ag sz len z (parts.toList.map fun p => (p.1, evalD slots p.2))) = some (d, e)) (hB : ∀ b j, w.heap.size ≤ b → B b j) (hH : HR B G w Hr) (hs : SR (ImmB B G) w G slots a) : OpOk P B G w Hr o a d e := by
  obtain ⟨hp, rfl⟩ := qv_some h
  unfold buildL at hp
  split at hp
  · cases hp
  · rename_i h24
    split at hp
    · rename_i hc
      obtain ⟨hzl, hok, hl⟩ := hc
      obtain ⟨h0, h1, h2⟩ := chunkOk_some hok
      split at hp
      · rename_i cs hf
        cases hm : mapO plainEl (chunk ag sz len cs) with
        | none => simp [hm] at hp
        | some xs =>
          simp [hm] at hp
          subst hp
          obtain ⟨zv, rfl, hzv⟩ := zeroD_some hz
          obtain ⟨i, hi, hisz, _⟩ := aggSz_some ht
          have hzs := zero_size hzl
          have hzr : Rep (ImmB B G) w G (ofVal1 zv) zv := rep_ofVal1 zv
          obtain ⟨k1, k2⟩ := rep_cells hl hzr
          obtain ⟨C0, hC0⟩ : ∃ C0 : Array Value, (Array.range (len * sz)).map ((zv.cells)[· % zv.cells.size]!) = C0 := ⟨_, rfl⟩
          have hC0l : C0.toList = (List.replicate len zv.cells.toList).flatten := by rw [← hC0]; exact zeros_eq hzs h0
          obtain ⟨C', q1, q2, q3⟩ := fill_ok (fun i => some (i * sz, sz)) (evalD slots) a.eval hs.eval parts.toList _ C0 cs (by rw [hC0l]; exact repL_rep k1 len) (by rw [hC0l]; exact one_rep k2 len) hf
          have hlen : cs.length = len * sz := by
            have fl : ∀ (ps : List (Nat × DV)) (cs r : List DV), fillD (fun i => some (i * sz, sz)) cs ps = some r → r.length = cs.length := by
              intro ps
              induction ps with
              | nil => intro cs r h; simp only [fillD] at h; cases h; rfl
              | cons p ps ih =>
                intro cs r h
                obtain ⟨i, x⟩ := p
                simp only [fillD] at h
                split at h
                · cases h
                · rename_i hc
                  have := ih _ _ h
                  rw [this]
                  unfold splice
                  simp only [List.length_append, List.length_take, List.length_drop]
                  omega
            rw [fl _ _ _ hf]
            simp [hzl]
          have hmo := more_alloc w (.cells C' et)
          obtain ⟨hK, hH'⟩ := step_new hH hmo
          have hrun : (execOp a.eval o).run P w = .ok (.value (.slice (some ⟨w.heap.size, 0, none⟩) len len)) (w.alloc (.cells C' et)) := by
            simp only [execOp, ho, Instr.buildSlice, Sem.run_bind, run_underlying hu, Result.andThen_ok, size_run hi, hisz]
            rw [if_neg (by omega)]
            by_cases hz0 : len * sz = 0
            · have hC00 : (Array.range (len * sz)).map ((#[] : Array Value)[· % (#[] : Array Value).size]!) = C0 := by
                rw [← hC0, hz0]; simp
              simp only [hz0, if_true] at hC00 ⊢
              simp only [Sem.run_bind, Sem.run_pure, Result.andThen_ok, hC00, parts_eq, q1, newRow]
              rfl
            · simp only [hz0, if_false]
              simp only [Sem.run_bind, Sem.run_pure, Result.andThen_ok, hzv, hC0, parts_eq, q1, newRow]
              rfl
          obtain ⟨r1, r2⟩ := chunk_rep (I := ImmB B G) (J := ImmB B G) (w := w.alloc (.cells C' et)) (b := w.heap.size) h0 h1 len cs C'.toList 0 xs hlen (q2.keep hK) (fun j v hj => by
            refine ⟨cells_at hmo.new j v hj, ⟨hB _ _ (Nat.le_refl _), fun k hk => ?_, fun k s c n hk => ?_⟩, q3 v (List.mem_of_getElem? hj)⟩
            · have := hH.lt (.inl hk : liveAt G k w.heap.size); omega
            · have := hH.lt (.inr ⟨_, _, _, hk⟩ : liveAt G k w.heap.size); omega) hm
          refine OpOk.val hrun hK hH' (rep_mkl (by simp) ?_)
          have := repX_mk (G := G) (xs := xs) (t := .ti) (A := some ⟨w.heap.size, 0, none⟩) (c := len) (by omega) (by omega) (.inr ⟨_, _, rfl, r1⟩) (by simp only [TagOk]; exact r2.symm)
          rw [r2] at this
          exact this
      · cases hp
    · cases hp
theorem op_make {t : TypeId} {x y : Operand} {et : TypeId} {ag : Bool} {sz nid : Nat} {i : TypeInfo} {z : DV} (ho : o.op = .makeSlice t x y) (hu : P.underlying t = some (.slice et)) (ht : aggSz P et = some (ag, sz)) (hi : P.info? et = some i) (hz : zeroD P et = some z)
    (h : makeD ag sz i.bytes et z (evalD slots x) (evalD slots y) nid = some (d, e)) (hB : ∀ b j, w.heap.size ≤ b → B b j) (hH : HR B G w Hr) (hs : SR (ImmB B G) w G slots a) (hag : Agree e H Hr) : OpOk P B G w Hr o a d e := by
  unfold makeD at h
  split at h
  · rename_i l c hl hc
    split at h
    · rename_i hcond
      obtain ⟨rfl, c0, c1, c2, hzl, h0, hzlf⟩ := hcond
      cases h
      have hag : Hr[nid]? = some .hole := hag
      obtain ⟨kd, ex⟩ := int_val hl (hs.eval x)
      obtain ⟨kd', ey⟩ := int_val hc (hs.eval y)
      obtain ⟨zv, rfl, hzv⟩ := zeroD_some hz
      have hzs := zero_size hzl
      have hzr : Rep (ImmB B G) w G (ofVal1 zv) zv := rep_ofVal1 zv
      obtain ⟨k1, k2⟩ := rep_cells hzlf hzr
      have hisz : i.size = sz := by
        obtain ⟨i', hi', h1, _⟩ := aggSz_some ht
        rw [hi] at hi'; cases hi'; exact h1
      obtain ⟨n, rfl⟩ : ∃ n : Nat, l = n := ⟨l.toNat, by omega⟩
      obtain ⟨C0, hC0⟩ : ∃ C0 : Array Value, (Array.range (n * sz)).map ((zv.cells)[· % zv.cells.size]!) = C0 := ⟨_, rfl⟩
      have hC0l : C0.toList = (List.replicate n zv.cells.toList).flatten := by rw [← hC0]; exact zeros_eq hzs h0
      have hlt : nid < Hr.length := (List.getElem?_eq_some_iff.1 hag).1
      have hg := List.getElem?_eq_getElem (show nid < G.length by rw [← hH.len]; exact hlt)
      have hG : G[nid]? = some GK.hole := by
        have := hH.blk _ _ _ hag hg
        cases hB : G[nid]'(by rw [← hH.len]; exact hlt) <;> rw [hB] at this <;> simp only [BlkRep] at this
        rw [hg, hB]
      obtain ⟨hK, hH'⟩ := step_fill hH hG hB (more_alloc w (.cells C0 et)) (cs := (List.replicate n (ofVal1 zv).cells).flatten) (by rw [hC0l]; exact repL_rep k1 n) (by rw [hC0l]; exact one_rep k2 n)
      refine OpOk.val (V := .slice (some ⟨w.heap.size, 0, none⟩) n n) ?_ hK (by simpa [Eff.heap] using hH') ?_
      · have hw : IntKind.i64.wrap (n : Int) = n := IntWalk.i64_in _ (by omega)
        have hb1 : ¬ ((i.bytes : Int) * (n : Int) > 2 ^ 48) := by rw [Int.mul_comm]; omega
        simp only [execOp, ho, Instr.makeSlice, Sem.run_bind, run_underlying hu, Result.andThen_ok, ex, ey, asInt, asIntOf, Sem.run_pure, run_typeInfo w hi, hw]
        have hcond : ((decide ((n : Int) < 0) || decide ((i.bytes : Int) * (n : Int) > 2 ^ 48)) || decide ((n : Int) < 0) || decide ((n : Int) > (n : Int))) = false := by
          simp; omega
        simp only [hcond, Bool.false_eq_true, if_false]
        simp only [Sem.run_bind, run_askRoom, Result.andThen_ok, size_run hi, Int.toNat_natCast, hisz]
        by_cases hz0 : n * sz = 0
        · have hC00 : (Array.range (n * sz)).map ((#[] : Array Value)[· % (#[] : Array Value).size]!) = C0 := by
            rw [← hC0, hz0]; simp
          simp only [hz0, if_true] at hC00 ⊢
          simp only [Sem.run_bind, Sem.run_pure, Result.andThen_ok, hC00, newRow]
          rfl
        · simp only [hz0, if_false]
          simp only [Sem.run_bind, Sem.run_pure, Result.andThen_ok, hzv, hC0, newRow]
          rfl
      · simp only [Rep, Int.toNat_natCast]
        exact ⟨_, List.getElem?_set_self (by rw [← hH.len]; exact hlt), rfl⟩
    · cases h
  · cases h
end Go.Proofs.Ytcpgmbpndpcmdaa
namespace Go.Proofs.Ytcpgmbpndpcmdaa
open Go Go.RowKit
variable {P : Program} {B : Nat → Nat → Prop} {G : Gh} {w : World} {H Hr : Heap} {o : Oper} {a : Act} {slots : List DV} {d : DV} {e : Eff}
def CallOk (P : Program) (f : FuncId) (args : List DV) (H : Heap) (fl : Nat) (r : DV) (H' : Heap) : Prop :=
  ∀ (B : Nat → Nat → Prop) (G : Gh) (w : World) (vs : Array Value), (∀ b j, w.heap.size ≤ b → B b j) → HR B G w H → RepL (ImmB B G) w G args vs.toList → fl ≤ H.length →
    (Calls P f vs w fun e w' => ∃ V G', e = .returned V ∧ Keep G w G' w' ∧ HR B G' w' H' ∧ Rep (ImmB B G') w' G' r V) ∧ (∀ k, k < fl → H'[k]? = H[k]?) ∧ H.length ≤ H'.length
def CFSound (P : Program) (cf : CF) : Prop := ∀ f args H fl r H', cf f args H fl = some (r, H') → CallOk P f args H fl r H' ∧ (∃ fn, P.funcs[f]? = some fn ∧ fn.body.isSome = true) ∧ ∀ k : Nat, H[k]? = some .hole → H'[k]? = some .hole
section
variable {I I' : Nat → Nat → Prop}
theorem Rep.mono {d : DV} {V : Value} (hI : ∀ b j, b < w.heap.size → I b j → I' b j) (h : Rep I w G d V) : Rep I' w G d V :=
  Rep.stay (fun b j _ hi hc => ⟨hc, hI b j (cell_lt hc) hi⟩) (Evol.refl G) d V h
theorem RepX.mono {J J' : Nat → Nat → Prop} {sz b o' : Nat} {xs : List DV} (hI : ∀ b j, b < w.heap.size → I b j → I' b j) (hJ : ∀ j, J b j → J' b j) (h : RepX I J w sz xs b o') : RepX I' J' w sz xs b o' :=
  RepX.of fun i x hx => by
    obtain ⟨h0, V, h1, h2, h3⟩ := h.get i x hx
    exact ⟨h0, V, h1.mono hI, h2, fun j v hj => ⟨(h3 j v hj).1, hJ _ (h3 j v hj).2.1, (h3 j v hj).2.2⟩⟩
theorem outLeaf_rep {ti : Bool} {d d' : DV} {V : Value} (h : outLeaf ti H d = some d') (k : Rep (ImmB B G) w G d V) (hH : (∃ x : Nat, H[x]? ≠ none) → HR B G w H) (hI : ∀ b j, b < w.heap.size → ImmB B G b j → I' b j)
    (hl : ∀ ag sz k off n c b, d = .row ag sz k off n c → G[k]? = some (GK.cel b) → ∀ j, I' b j) : Rep I' w [] d' V ∧ d'.leaf = true := by
  unfold outLeaf at h
  split at h
  · split at h
    · rename_i v hv
      cases h
      exact ⟨by simpa only [Rep] using k, hv⟩
    · cases h
  · rename_i sz xs t
    cases h
    obtain ⟨A, c, rfl, h1, h2, h3, h4⟩ := repX_val k
    have hE : xs = [] ∨ ∃ b o, A = some ⟨b, o, none⟩ ∧ RepX I' I' w sz xs b o := by
      refine h3.imp id fun ⟨b, o', e, h⟩ => ⟨b, o', e, RepX.of fun i x hx => ?_⟩
      obtain ⟨q0, W, q1, q2, q3⟩ := h.get i x hx
      exact ⟨q0, W, q1.mono hI, q2, fun j v hj => ⟨(q3 j v hj).1, hI _ _ (cell_lt (q3 j v hj).1) (q3 j v hj).2.1, (q3 j v hj).2.2⟩⟩
    refine ⟨repX_mk h1 h2 hE ?_, rfl⟩
    unfold shTag
    split
    · split
      · exact h4
      · trivial
    · trivial
  · rename_i ag sz kk off n c
    split at h
    · rename_i hc
      cases hr : rowCells H kk off (n * sz) with
      | none => simp [hr] at h
      | some cs =>
        simp only [hr, Option.bind_some] at h
        cases hx : mapO plainEl (chunk ag sz n cs) with
        | none => simp [hx] at h
        | some xs =>
          simp [hx] at h
          subst h
          simp only [Rep] at k
          obtain ⟨b, hG, rfl⟩ := k
          have hH' := hH ⟨kk, by obtain ⟨e, all, hk, _⟩ := rowCells_some hr; rw [hk]; simp⟩
          obtain ⟨_, _, hn⟩ := chunkOk_some hc.1
          obtain ⟨r1, r2⟩ := row_rep (J := I') hH' hG hc.1 hr hx (hl _ _ _ _ _ _ b rfl hG)
          refine ⟨rep_mkl (by intro j; split <;> simp) ?_, by unfold mkl; split <;> rfl⟩
          have := repX_mk (G := []) (xs := xs) (t := if (ti && n == c) = true then .ti else .sh) (A := some ⟨b, off, none⟩) (c := c) (by rw [r2]; exact hc.2) (by rw [r2]; exact hn) (.inr ⟨b, off, rfl, r1.mono hI (fun _ h => h)⟩) (by
            split
            · rename_i ht
              simp only [Bool.and_eq_true, beq_iff_eq] at ht
              simp only [TagOk]; rw [r2]; exact ht.2.symm
            · trivial)
          rw [r2] at this
          simpa using this
    · cases h
  · cases h
theorem mapO_rep {f : DV → Option DV} {G' : Gh} {cs cs' : List DV} {vs : List Value} (h : mapO f cs = some cs') (hr : RepL I w G cs vs) (hf : ∀ d d' V, d ∈ cs → f d = some d' → Rep I w G d V → Rep I' w G' d' V) : RepL I' w G' cs' vs := by
  obtain ⟨h1, h2⟩ := mapO_some h
  refine RepL.of (by rw [hr.length, h1]) fun i d' v hd hv => ?_
  have hlt : i < cs.length := by rw [← h1]; exact (List.getElem?_eq_some_iff.1 hd).1
  obtain ⟨y, hy, hfy⟩ := h2 i _ (List.getElem?_eq_getElem hlt)
  rw [hd] at hy; cases hy
  obtain ⟨v', hv', hrv⟩ := hr.get i _ (List.getElem?_eq_getElem hlt)
  rw [hv'] at hv; cases hv
  exact hf _ _ _ (List.getElem_mem hlt) hfy hrv
theorem outEl_rep {ti : Bool} {d d' : DV} {V : Value} (h : outEl ti H d = some d') (k : Rep (ImmB B G) w G d V) (hH : (∃ x : Nat, H[x]? ≠ none) → HR B G w H) (hI : ∀ b j, b < w.heap.size → ImmB B G b j → I' b j)
    (hl : ∀ k b : Nat, H[k]? ≠ none → G[k]? = some (GK.cel b) → ∀ j, I' b j) : Rep I' w [] d' V := by
  have leaf : ∀ d d' V, outLeaf ti H d = some d' → Rep (ImmB B G) w G d V → Rep I' w [] d' V := by
    intro d d' V h k
    by_cases hrow : ∃ ag sz kk off n c, d = .row ag sz kk off n c ∧ H[kk]? = none
    · obtain ⟨ag, sz, kk, off, n, c, rfl, hn⟩ := hrow
      unfold outLeaf at h
      simp only [rowCells, hn] at h
      split at h <;> simp at h
    · exact (outLeaf_rep h k hH hI fun ag sz kk off n c b e hG => hl kk b (fun hn => hrow ⟨ag, sz, kk, off, n, c, e, hn⟩) hG).1
  unfold outEl at h
  split at h
  · rename_i cs
    cases hm : mapO (outLeaf ti H) cs with
    | none => simp [hm] at h
    | some cs' =>
      simp [hm] at h
      subst h
      simp only [Rep] at k ⊢
      obtain ⟨vs, e, k⟩ := k
      exact ⟨vs, e, mapO_rep hm k fun d d' V _ h k => leaf d d' V h k⟩
  · cases h
    simpa only [Rep] using k
  · exact leaf _ _ _ h k
theorem outD_rep {ti : Bool} {d d' : DV} {V : Value} (h : outD ti H d = some d') (k : Rep (ImmB B G) w G d V) (hH : (∃ x : Nat, H[x]? ≠ none) → HR B G w H) (hI : ∀ b j, b < w.heap.size → ImmB B G b j → I' b j)
    (hl : ∀ k b : Nat, H[k]? ≠ none → G[k]? = some (GK.cel b) → ∀ j, I' b j) : Rep I' w [] d' V := by
  unfold outD at h
  split at h
  · rename_i cs
    cases hm : mapO (outEl ti H) cs with
    | none => simp [hm] at h
    | some cs' =>
      simp [hm] at h
      subst h
      simp only [Rep] at k ⊢
      obtain ⟨vs, e, k⟩ := k
      exact ⟨vs, e, mapO_rep hm k fun d d' V _ h k => outEl_rep h k hH hI hl⟩
  · exact outEl_rep h k hH hI hl
end
mutual
theorem Rep.inSc {I : Nat → Nat → Prop} : ∀ (d : DV) (V : Value), Rep I w G d V → inSc G.length d = true
  | .any, _, _ => by simp [Go.Proofs.Ytcpgmbpndpcmdaa.inSc]
  | .flat v, V, _ => by simp [Go.Proofs.Ytcpgmbpndpcmdaa.inSc]
  | .agg cs, V, k => by
    simp only [Rep] at k
    obtain ⟨vs, _, k⟩ := k
    simp only [Go.Proofs.Ytcpgmbpndpcmdaa.inSc]
    exact RepL.inSc cs _ k
  | .tup cs, V, k => by
    simp only [Rep] at k
    obtain ⟨vs, _, k⟩ := k
    simp only [Go.Proofs.Ytcpgmbpndpcmdaa.inSc]
    exact RepL.inSc cs _ k
  | .list sz xs t, V, k => by
    simp only [Rep] at k
    obtain ⟨A, c, _, _, _, _, k⟩ := k
    cases t with
    | own k' =>
      simp only [TagOk] at k
      obtain ⟨b, s, cap, hw, hG, _⟩ := k
      simp only [Go.Proofs.Ytcpgmbpndpcmdaa.inSc, decide_eq_true_eq]
      exact (List.getElem?_eq_some_iff.1 hG).1
    | _ => simp [Go.Proofs.Ytcpgmbpndpcmdaa.inSc]
  | .ptr k off, V, r => by
    simp only [Rep] at r
    obtain ⟨b, hG, _⟩ := r
    simp only [Go.Proofs.Ytcpgmbpndpcmdaa.inSc, decide_eq_true_eq]
    exact (List.getElem?_eq_some_iff.1 hG).1
  | .row _ _ k off n c, V, r => by
    simp only [Rep] at r
    obtain ⟨b, hG, _⟩ := r
    simp only [Go.Proofs.Ytcpgmbpndpcmdaa.inSc, decide_eq_true_eq]
    exact (List.getElem?_eq_some_iff.1 hG).1
  | .elem x off, V, _ => by simp [Go.Proofs.Ytcpgmbpndpcmdaa.inSc]
  | .clo fn first cap, V, k => by
    simp only [Rep] at k
    obtain ⟨f, c, _, k1, k2⟩ := k
    simp only [Go.Proofs.Ytcpgmbpndpcmdaa.inSc, Bool.and_eq_true]
    exact ⟨RepL.inSc first _ k1, RepL.inSc cap _ k2⟩
  | .iface t d, V, k => by
    simp only [Rep] at k
    obtain ⟨v, _, k⟩ := k
    simp only [Go.Proofs.Ytcpgmbpndpcmdaa.inSc]
    exact Rep.inSc d v k
theorem RepL.inSc {I : Nat → Nat → Prop} : ∀ (ds : List DV) (vs : List Value), RepL I w G ds vs → inScL G.length ds = true
  | [], _, _ => by simp [inScL]
  | d :: ds, vs, k => by
    simp only [RepL] at k
    obtain ⟨v, r, _, k1, k2⟩ := k
    simp only [inScL, Bool.and_eq_true]
    exact ⟨Rep.inSc d v k1, RepL.inSc ds r k2⟩
end
mutual
theorem Rep.shrink {I I' : Nat → Nat → Prop} {n0 : Nat} {G' : Gh} (hG : ∀ k, k < n0 → G'[k]? = G[k]?) (hst : Stay I I' w w) : ∀ (d : DV) (V : Value), inSc n0 d = true → Rep I w G d V → Rep I' w G' d V
  | .any, _, _, _ => by simp [Rep]
  | .flat v, V, _, k => by simpa only [Rep] using k
  | .agg cs, V, hs, k => by
    simp only [Go.Proofs.Ytcpgmbpndpcmdaa.inSc] at hs
    simp only [Rep] at k ⊢
    obtain ⟨vs, e, k⟩ := k
    exact ⟨vs, e, RepL.shrink hG hst cs _ hs k⟩
  | .tup cs, V, hs, k => by
    simp only [Go.Proofs.Ytcpgmbpndpcmdaa.inSc] at hs
    simp only [Rep] at k ⊢
    obtain ⟨vs, e, k⟩ := k
    exact ⟨vs, e, RepL.shrink hG hst cs _ hs k⟩
  | .list sz xs t, V, hs, k => by
    simp only [Rep] at k ⊢
    obtain ⟨A, c, e, k1, k2, k3, k4⟩ := k
    refine ⟨A, c, e, k1, k2, k3.imp id fun ⟨b, o, e, k⟩ => ⟨b, o, e, RepE.stay hst sz xs b o k⟩, ?_⟩
    cases t with
    | own k' =>
      simp only [Go.Proofs.Ytcpgmbpndpcmdaa.inSc, decide_eq_true_eq] at hs
      simp only [TagOk] at k4 ⊢
      rw [hG k' hs]; exact k4
    | _ => exact k4
  | .ptr k off, V, hs, r => by
    simp only [Go.Proofs.Ytcpgmbpndpcmdaa.inSc, decide_eq_true_eq] at hs
    simp only [Rep] at r ⊢
    rw [hG k hs]; exact r
  | .row _ _ k off n c, V, hs, r => by
    simp only [Go.Proofs.Ytcpgmbpndpcmdaa.inSc, decide_eq_true_eq] at hs
    simp only [Rep] at r ⊢
    rw [hG k hs]; exact r
  | .elem x off, V, _, k => by
    simp only [Rep] at k ⊢
    obtain ⟨k0, b, o, E, e, k1, k2⟩ := k
    exact ⟨k0, b, o, E, e, Rep.stay hst (Evol.nil []) x E k1, k2.stay hst⟩
  | .clo fn first cap, V, hs, k => by
    simp only [Go.Proofs.Ytcpgmbpndpcmdaa.inSc, Bool.and_eq_true] at hs
    simp only [Rep] at k ⊢
    obtain ⟨f, c, e, k1, k2⟩ := k
    exact ⟨f, c, e, RepL.shrink hG hst first _ hs.1 k1, RepL.shrink hG hst cap _ hs.2 k2⟩
  | .iface t d, V, hs, k => by
    simp only [Go.Proofs.Ytcpgmbpndpcmdaa.inSc] at hs
    simp only [Rep] at k ⊢
    obtain ⟨v, e, k⟩ := k
    exact ⟨v, e, Rep.shrink hG hst d v hs k⟩
theorem RepL.shrink {I I' : Nat → Nat → Prop} {n0 : Nat} {G' : Gh} (hG : ∀ k, k < n0 → G'[k]? = G[k]?) (hst : Stay I I' w w) : ∀ (ds : List DV) (vs : List Value), inScL n0 ds = true → RepL I w G ds vs → RepL I' w G' ds vs
  | [], vs, _, k => by simpa only [RepL] using k
  | d :: ds, vs, hs, k => by
    simp only [inScL, Bool.and_eq_true] at hs
    simp only [RepL] at k ⊢
    obtain ⟨v, r, e, k1, k2⟩ := k
    exact ⟨v, r, e, Rep.shrink hG hst d v hs.1 k1, RepL.shrink hG hst ds r hs.2 k2⟩
end
theorem take_get {n0 k : Nat} {g : GK} (h : (G.take n0)[k]? = some g) : k < n0 ∧ G[k]? = some g := by
  rw [List.getElem?_take] at h
  split at h
  · rename_i hk; exact ⟨hk, h⟩
  · cases h
theorem take_live {n0 k b : Nat} (h : liveAt (G.take n0) k b) : k < n0 ∧ liveAt G k b := by
  rcases h with h | ⟨s, c, n, h⟩
  · exact ⟨(take_get h).1, .inl (take_get h).2⟩
  · exact ⟨(take_get h).1, .inr ⟨s, c, n, (take_get h).2⟩⟩
theorem imm_take {n0 b j : Nat} (h : ImmB B G b j) : ImmB B (G.take n0) b j :=
  ⟨h.1, fun k hk => h.2.1 k (take_get hk).2, fun k s c n hk => h.2.2 k s c n (take_get hk).2⟩
theorem stay_take (n0 : Nat) : Stay (ImmB B G) (ImmB B (G.take n0)) w w := fun _ _ _ hi hc => ⟨hc, imm_take hi⟩
theorem oldLeaf_rep {n0 : Nat} {d d' : DV} {V : Value} (h : oldLeaf n0 H d = some d') (k : Rep (ImmB B G) w G d V) (hH : HR B G w H) : Rep (ImmB B (G.take n0)) w (G.take n0) d' V := by
  unfold oldLeaf at h
  split at h
  · rename_i hc
    cases h
    simp only [Bool.and_eq_true] at hc
    exact Rep.shrink (fun i hi => List.getElem?_take_of_lt hi) (stay_take n0) _ _ hc.2 k
  · split at h
    · rename_i sz xs t _
      cases h
      simp only [Rep] at k ⊢
      obtain ⟨A, c, e, k1, k2, k3, k4⟩ := k
      exact ⟨A, c, e, k1, k2, k3.imp id fun ⟨b, o, e, k⟩ => ⟨b, o, e, RepE.stay (stay_take n0) sz xs b o k⟩, trivial⟩
    · rename_i ag sz kk off n c _
      split at h
      · rename_i hk
        refine Rep.nil (outLeaf_rep h k (fun _ => hH) (fun b j _ hi => imm_take hi) fun ag' sz' k' off' n' c' b e hG j => ?_).1
        injection e with _ _ e _ _ _
        subst e
        refine ⟨hH.bb kk b (.inl hG) j, fun i hi => ?_, fun i s c n hi => ?_⟩
        · have h1 := take_get hi
          have := hH.dist kk i b (.inl hG) (.inl h1.2)
          omega
        · have h1 := take_get hi
          have := hH.dist kk i b (.inl hG) (.inr ⟨s, c, n, h1.2⟩)
          omega
      · cases h
    · cases h
theorem oldD_rep {n0 : Nat} {d d' : DV} {V : Value} (h : oldD n0 H d = some d') (k : Rep (ImmB B G) w G d V) (hH : HR B G w H) : Rep (ImmB B (G.take n0)) w (G.take n0) d' V := by
  have el : ∀ d d' V, oldEl n0 H d = some d' → Rep (ImmB B G) w G d V → Rep (ImmB B (G.take n0)) w (G.take n0) d' V := by
    intro d d' V h k
    unfold oldEl at h
    split at h
    · rename_i cs
      cases hm : mapO (oldLeaf n0 H) cs with
      | none => simp [hm] at h
      | some cs' =>
        simp [hm] at h
        subst h
        simp only [Rep] at k ⊢
        obtain ⟨vs, e, k⟩ := k
        exact ⟨vs, e, mapO_rep hm k fun d d' V _ h k => oldLeaf_rep h k hH⟩
    · cases h
      simpa only [Rep] using k
    · exact oldLeaf_rep h k hH
  unfold oldD at h
  split at h
  · rename_i cs
    cases hm : mapO (oldEl n0 H) cs with
    | none => simp [hm] at h
    | some cs' =>
      simp [hm] at h
      subst h
      simp only [Rep] at k ⊢
      obtain ⟨vs, e, k⟩ := k
      exact ⟨vs, e, mapO_rep hm k fun d d' V _ h k => el d d' V h k⟩
  · exact el _ _ _ h k
theorem dist_take (n0 : Nat) (h : Dist G) : Dist (G.take n0) := fun k k' b h1 h2 => h k k' b (take_live h1).2 (take_live h2).2
theorem cut_rep {n0 : Nat} {H2 : Heap} (h : cutH n0 H = some H2) (hH : HR B G w H) : HR B (G.take n0) w H2 := by
  unfold cutH at h
  obtain ⟨h1, h2⟩ := mapO_some h
  refine ⟨by rw [h1]; simp [hH.len], dist_take n0 hH.dist, fun k x g hx hg => ?_, fun k b hl => hH.bb k b (take_live hl).2, hH.lay⟩
  obtain ⟨hk, hg⟩ := take_get hg
  have hlt : k < H.length := by rw [hH.len]; exact (List.getElem?_eq_some_iff.1 hg).1
  have hb := List.getElem?_eq_getElem hlt
  obtain ⟨y, hy, hf⟩ := h2 k _ (by rw [List.getElem?_take_of_lt hk]; exact hb)
  rw [hx] at hy; cases hy
  have hB := hH.blk _ _ _ hb hg
  generalize H[k] = blk at hf hB
  unfold oldBlk at hf
  split at hf
  · rename_i e cs
    cases hm : mapO (oldLeaf n0 H) cs with
    | none => simp [hm] at hf
    | some cs' =>
      simp [hm] at hf
      subst hf
      cases g <;> simp only [BlkRep] at hB ⊢
      obtain ⟨C, q1, q2, q3⟩ := hB
      exact ⟨C, q1, mapO_rep hm q2 fun d d' V _ h k => oldLeaf_rep h k hH, q3⟩
  · rename_i hne
    cases hf
    cases x <;> cases g <;> simp only [BlkRep] at hB ⊢
    · exact absurd rfl (hne _ _)
    · exact hB
theorem keep_take {G' : Gh} {w' : World} (h : Keep G w G' w') : Keep G w (G'.take G.length) w' := by
  refine ⟨h.os, h.tape, h.output, h.size, h.blk, h.own, fun k g hg => ?_, fun k b hb hg => h.fresh k b hb (take_get hg).2, fun k b s c n hb hg => h.freshO k b s c n hb (take_get hg).2⟩
  obtain ⟨g', hg', he⟩ := h.evol k g hg
  exact ⟨g', by rw [List.getElem?_take_of_lt (List.getElem?_eq_some_iff.1 hg).1]; exact hg', he⟩
end Go.Proofs.Ytcpgmbpndpcmdaa
namespace Go.Proofs.Ytcpgmbpndpcmdaa
open Go Go.RowKit
variable {P : Program} {B : Nat → Nat → Prop} {G : Gh} {w : World} {H Hr : Heap} {o : Oper} {a : Act} {slots : List DV} {d : DV} {e : Eff}
theorem OpOk.enter {f : FuncId} {vs : Array Value} (hrun : (execOp a.eval o).run P w = .ok (.enter f vs) w)
    (hc : Calls P f vs w fun en w' => ∃ V G', en = .returned V ∧ Keep G w G' w' ∧ HR B G' w' (e.heap Hr) ∧ Rep (ImmB B G') w' G' d V) : OpOk P B G w Hr o a d e := by
  intro K Q h
  unfold Oper.wp
  rw [hrun, Oper.upon_enter]
  refine hc.mono fun en w' ⟨V, G', he, hK, hH, hd⟩ => ?_
  subst he
  exact h V w' G' hK hH hd
theorem keep_of_nil {G1 : Gh} {w1 : World} (h : Keep [] w G1 w1) : Keep G w G w1 := by
  have old : ∀ b, b < w.heap.size → w1.heap[b]? = w.heap[b]? := fun b hb => h.blk b hb (fun k hk => by rcases hk with hk | ⟨_, _, _, hk⟩ <;> simp at hk)
  exact ⟨h.os, h.tape, h.output, h.size, fun b hb _ => old b hb, fun k b sz cap hw hg hb j _ => cell_of_blk (old b hb) j, Evol.refl G, fun _ _ _ h => h, fun _ _ _ cap hw _ h => ⟨cap, hw, h, Nat.le_refl _⟩⟩
theorem hr_of_nil {G1 : Gh} {w1 : World} (h : Keep [] w G1 w1) (hH : HR B G w H) : HR B G w1 H := by
  have hK := keep_of_nil (G := G) h
  have old : ∀ b, b < w.heap.size → w1.heap[b]? = w.heap[b]? := fun b hb => h.blk b hb (fun k hk => by rcases hk with hk | ⟨_, _, _, hk⟩ <;> simp at hk)
  refine ⟨hH.len, hH.dist, fun k x g hx hg => blk_keep hK (hH.blk k x g hx hg) fun b hb => old b (hH.lt (k := k) ?_), hH.bb, hH.layKeep hK⟩
  rcases hb with rfl | ⟨s, c, n, rfl⟩
  · exact .inl hg
  · exact .inr ⟨s, c, n, hg⟩
theorem hr_nil' (B : Nat → Nat → Prop) (w : World) (hl : LaidOk B w) : HR B [] w [] := ⟨rfl, fun k k' b h _ => by rcases h with h | ⟨_, _, _, h⟩ <;> simp at h, fun k b g h _ => by simp at h, fun k b h => by rcases h with h | ⟨_, _, _, h⟩ <;> simp at h, hl⟩
theorem laid_none (B : Nat → Nat → Prop) (w : World) : LaidOk B w := fun b j v hv => by cases hv
theorem hr_nil (B : Nat → Nat → Prop) (w : World) : HR B [] w [] := hr_nil' B w (laid_none B w)
theorem take_eq {G1 : Gh} {w1 : World} {H1 : Heap} (hH : HR B G w H) (hH1 : HR B G1 w1 H1) (hE : Evol G G1) (hF : ∀ k, k < H.length → H1[k]? = H[k]?) : G1.take G.length = G := by
  refine List.ext_getElem? fun k => ?_
  rcases Nat.lt_or_ge k G.length with hk | hk
  · rw [List.getElem?_take_of_lt hk]
    have hg := List.getElem?_eq_getElem hk
    obtain ⟨g', hg', he⟩ := hE k _ hg
    have hkH : k < H.length := by rw [hH.len]; exact hk
    have hb := List.getElem?_eq_getElem hkH
    have h1 := hH.blk _ _ _ hb hg
    have hb1 := hF k hkH
    rw [hb] at hb1
    have h2 := hH1.blk _ _ _ hb1 hg'
    rw [hg', hg]
    congr 1
    generalize H[k] = x at h1 h2
    generalize G[k] = g at h1 he
    cases x <;> cases g <;> simp only [BlkRep] at h1
    · cases g' <;> simp only [BlkRep] at h2
      rfl
    · exact he
    · obtain ⟨b', cap', hw', rfl, q1, q2⟩ := he
      simp only [BlkRep] at h2
      obtain ⟨_, r1, _⟩ := h2
      obtain ⟨_, r2, _⟩ := h1
      have : hw' = _ := r1.trans r2.symm
      obtain ⟨rfl, rfl⟩ := q2 this
      rw [this]
  · rw [List.getElem?_eq_none (by simp; omega), List.getElem?_eq_none hk]
theorem hr_ro {G1 : Gh} {w1 : World} {H1 : Heap} (hH : HR B G w H) (hH1 : HR B G1 w1 H1) (hE : Evol G G1) (hF : ∀ k, k < H.length → H1[k]? = H[k]?) : HR B G w1 H := by
  have ht := take_eq hH hH1 hE hF
  have hg : ∀ (k : Nat) (g : GK), G[k]? = some g → G1[k]? = some g := by
    intro k g h
    rw [← ht] at h
    exact (take_get h).2
  have hI : Stay (ImmB B G1) (ImmB B G) w1 w1 := by
    have := stay_take (B := B) (G := G1) (w := w1) G.length
    rw [ht] at this; exact this
  refine ⟨hH.len, hH.dist, fun k x g hx hgk => ?_, hH.bb, hH1.lay⟩
  have hk : k < H.length := (List.getElem?_eq_some_iff.1 hx).1
  have h1 := hH1.blk k x g (by rw [hF k hk]; exact hx) (hg k g hgk)
  have h0 := hH.blk k x g hx hgk
  cases x <;> cases g <;> simp only [BlkRep] at h0 h1 ⊢
  · obtain ⟨C, q1, q2, q3⟩ := h1
    obtain ⟨C0, _, r2, _⟩ := h0
    refine ⟨C, q1, RepL.shrink (n0 := G.length) (fun i hi => ?_) hI _ _ (RepL.inSc _ _ r2) q2, q3⟩
    rw [hg i _ (List.getElem?_eq_getElem hi)]
    exact List.getElem?_eq_getElem hi
  · exact h1
theorem op_call {cf : CF} {m : CM} {f : FuncId} {args : List DV} {vs : Array Value} {fl : Nat} (hcf : CFSound P cf) (hrun : (execOp a.eval o).run P w = .ok (.enter f vs) w) (hr : RepL (ImmB B G) w G args vs.toList)
    (h : callD cf m fl f args H = some (d, e)) (hB : ∀ b j, w.heap.size ≤ b → B b j) (hH : HR B G w Hr) (hag : Agree e H Hr) (hfl : e.wr → fl ≤ H.length) :
    OpOk P B G w Hr o a d e ∧ (∀ k, k < fl → (e.heap H)[k]? = H[k]?) ∧ H.length ≤ (e.heap H).length := by
  unfold callD at h
  cases m with
  | pure ti =>
    cases hm : mapO argEl args with
    | none => simp [hm] at h
    | some bs =>
      simp only [hm, Option.bind_some] at h
      cases hc : cf f bs [] 0 with
      | none => simp [hc] at h
      | some r =>
        obtain ⟨r, H1⟩ := r
        simp only [hc, Option.bind_some] at h
        obtain ⟨hp, rfl⟩ := qv_some h
        refine ⟨OpOk.enter hrun ?_, fun _ _ => rfl, Nat.le_refl _⟩
        obtain ⟨B', hB'⟩ : ∃ B' : Nat → Nat → Prop, ∀ b j, B' b j ↔ (ImmB B G b j ∨ w.heap.size ≤ b) := ⟨_, fun _ _ => Iff.rfl⟩
        have hb1 : ∀ b j, ImmB B G b j → ImmB B' [] b j := fun b j hi => ⟨(hB' b j).2 (.inl hi), fun k hk => by simp at hk, fun k s c n hk => by simp at hk⟩
        have hargs : RepL (ImmB B' []) w [] bs vs.toList := mapO_rep hm hr fun d d' V _ hd hV =>
          outEl_rep (B := B) (G := G) hd hV (fun ⟨x, hx⟩ => by simp at hx) (fun b j _ hi => hb1 b j hi) (fun k b hk => by simp at hk)
        obtain ⟨hcall, _⟩ := (hcf _ _ _ _ _ _ hc).1 B' [] w vs (fun b j hb => (hB' b j).2 (.inr hb)) (hr_nil' B' w fun b j v hv => have ⟨q1, q2⟩ := hH.lay b j v hv; ⟨q1, fun hb => by rcases (hB' b j).1 hb with hi | hi; exact q2 hi.1; exact absurd (cell_lt q1) (Nat.not_lt.2 hi)⟩) hargs (Nat.zero_le _)
        refine hcall.mono fun en w1 ⟨V, G1, he, hK, hH1, hd⟩ => ⟨V, G, he, keep_of_nil hK, hr_of_nil hK hH, ?_⟩
        have back : ∀ b j, B' b j → ImmB B G b j := by
          intro b j hb
          rcases (hB' b j).1 hb with hi | hi
          · exact hi
          · refine ⟨hB b j hi, fun k hk => ?_, fun k s c n hk => ?_⟩
            · have := hH.lt (.inl hk : liveAt G k b); omega
            · have := hH.lt (.inr ⟨_, _, _, hk⟩ : liveAt G k b); omega
        exact Rep.nil (outD_rep hp hd (fun _ => hH1) (fun b j _ hi => back b j hi.1) (fun k b _ hk j => back b j (hH1.bb k b (.inl hk) j)))
  | ro =>
    cases hc : cf f args H H.length with
    | none => simp [hc] at h
    | some r =>
      obtain ⟨r, H1⟩ := r
      simp only [hc, Option.bind_some] at h
      unfold ov at h
      cases ho : oldD H.length H1 r with
      | none => simp [ho] at h
      | some d' =>
        simp [ho] at h
        obtain ⟨rfl, rfl⟩ := h
        have hag : Hr = H := hag
        subst hag
        obtain ⟨hcall, hF, _⟩ := (hcf _ _ _ _ _ _ hc).1 B G w vs hB hH hr (Nat.le_refl _)
        refine ⟨OpOk.enter hrun ?_, fun _ _ => rfl, Nat.le_refl _⟩
        refine hcall.mono fun en w1 ⟨V, G1, he, hK, hH1, hd⟩ => ?_
        have ht := take_eq hH hH1 hK.evol hF
        have hk := keep_take hK
        rw [ht] at hk
        refine ⟨V, G, he, hk, hr_ro hH hH1 hK.evol hF, ?_⟩
        have := oldD_rep ho hd hH1
        rw [hH.len, ht] at this
        exact this
  | rw =>
    cases hc : cf f args H fl with
    | none => simp [hc] at h
    | some r =>
      obtain ⟨r, H1⟩ := r
      simp only [hc, Option.bind_some] at h
      cases ho : oldD H.length H1 r with
      | none => simp [ho] at h
      | some d' =>
        simp only [ho, Option.bind_some] at h
        cases hcut : cutH H.length H1 with
        | none => simp [hcut] at h
        | some H2 =>
          simp [hcut] at h
          obtain ⟨rfl, rfl⟩ := h
          have hag : Hr = H := hag
          subst hag
          obtain ⟨hcall, hF, hL⟩ := (hcf _ _ _ _ _ _ hc).1 B G w vs hB hH hr (hfl (.inl rfl))
          have hlen2 : H2.length = Hr.length := by
            have := (mapO_some hcut).1
            rw [this]; simp; omega
          refine ⟨OpOk.enter hrun ?_, ?_, Nat.le_of_eq hlen2.symm⟩
          · refine hcall.mono fun en w1 ⟨V, G1, he, hK, hH1, hd⟩ => ?_
            have h1 := cut_rep hcut hH1
            have h2 := oldD_rep ho hd hH1
            rw [hH.len] at h1 h2
            exact ⟨V, _, he, keep_take hK, h1, h2⟩
          · intro k hk
            show H2[k]? = Hr[k]?
            have hkl : k < Hr.length := Nat.lt_of_lt_of_le hk (hfl (.inl rfl))
            have hb := List.getElem?_eq_getElem hkl
            obtain ⟨y, hy, hfy⟩ := (mapO_some hcut).2 k Hr[k] (by rw [List.getElem?_take_of_lt hkl, hF k hk]; exact hb)
            rw [hy, hb]
            congr 1
            have hg := List.getElem?_eq_getElem (show k < G.length by rw [← hH.len]; exact hkl)
            have hblk := hH.blk _ _ _ hb hg
            generalize Hr[k] = x at hfy hblk
            generalize G[k]'(by rw [← hH.len]; exact hkl) = g at hblk
            unfold oldBlk at hfy
            split at hfy
            · rename_i e' cs
              cases hm : mapO (oldLeaf Hr.length H1) cs with
              | none => simp [hm] at hfy
              | some cs' =>
                simp [hm] at hfy
                subst hfy
                congr 1
                cases g <;> simp only [BlkRep] at hblk
                obtain ⟨C, _, q2, q3⟩ := hblk
                obtain ⟨l1, l2⟩ := mapO_some hm
                refine List.ext_getElem? fun i => ?_
                rcases Nat.lt_or_ge i cs.length with hi | hi
                · have hd := List.getElem?_eq_getElem hi
                  obtain ⟨z, hz, hfz⟩ := l2 i _ hd
                  rw [hz, hd]
                  congr 1
                  obtain ⟨v, hv, hrv⟩ := q2.get i _ hd
                  have hsc := Rep.inSc _ _ hrv
                  have h1 := q3 v (List.mem_of_getElem? hv)
                  generalize cs[i] = dd at hfz hrv hsc
                  unfold oldLeaf at hfz
                  have hlf : dd.leaf = true ∨ dd = .any := by
                    cases dd <;> simp_all [DV.leaf, Rep]
                    all_goals (obtain ⟨_, rfl, _⟩ := hrv; simp [isOne] at h1)
                  rcases hlf with hlf | rfl
                  · rw [hH.len] at hfz
                    rw [if_pos (by simp [hlf, hsc])] at hfz
                    cases hfz; rfl
                  · simp [DV.leaf] at hfz
                · rw [List.getElem?_eq_none (by omega), List.getElem?_eq_none hi]
            · cases hfy; rfl
  | keep =>
    cases hc : cf f args H fl with
    | none => simp [hc] at h
    | some r =>
      obtain ⟨r, H1⟩ := r
      simp [hc] at h
      obtain ⟨rfl, rfl⟩ := h
      have hag : Hr = H := hag
      subst hag
      obtain ⟨hcall, hF, hL⟩ := (hcf _ _ _ _ _ _ hc).1 B G w vs hB hH hr (hfl (.inl rfl))
      exact ⟨OpOk.enter hrun hcall, hF, hL⟩
end Go.Proofs.Ytcpgmbpndpcmdaa
namespace Go.Proofs.Ytcpgmbpndpcmdaa
open Go Go.RowKit
variable {P : Program} {B : Nat → Nat → Prop} {G : Gh} {w : World} {H Hr : Heap} {o : Oper} {a : Act} {slots : List DV} {d : DV} {e : Eff}
def NoOwn (P : Program) : Prop := (P.funcs.all fun fn => fn.name != "runtime.NumGoroutine") = true
theorem callFunc_run {f : FuncId} {fn : Func} (hP : NoOwn P) (hf : P.funcs[f]? = some fn) (hb : fn.body.isSome = true) (vs : Array Value) : (callFunc f vs).run P w = .ok (.enter f vs) w := by
  have hn : ¬ fn.name = "runtime.NumGoroutine" := by
    have := (Array.all_eq_true_iff_forall_mem.1 hP) fn (Array.mem_of_getElem? hf)
    simpa using this
  have hb' : ¬ fn.body = none := by cases h : fn.body <;> simp_all
  simp [callFunc, hf, hn, hb']
theorem args_rep {l : List Operand} (hs : SR (ImmB B G) w G slots a) : RepL (ImmB B G) w G (l.map (evalD slots)) (l.map a.eval) :=
  RepL.of (by simp) fun i d v hd hv => by
    simp only [List.getElem?_map] at hd hv
    cases hx : l[i]? with
    | none => rw [hx] at hd; cases hd
    | some x =>
      rw [hx] at hd hv
      simp at hd hv
      subst hd; subst hv
      exact hs.eval x
def Three (P : Program) (B : Nat → Nat → Prop) (G : Gh) (w : World) (H Hr : Heap) (o : Oper) (a : Act) (d : DV) (e : Eff) (fl : Nat) : Prop :=
  OpOk P B G w Hr o a d e ∧ (∀ k, k < fl → (e.heap H)[k]? = H[k]?) ∧ H.length ≤ (e.heap H).length
theorem three_q {x : Option DV} {fl : Nat} (h : qv x = some (d, e)) (k : OpOk P B G w Hr o a d e) : Three P B G w H Hr o a d e fl := by
  obtain ⟨_, rfl⟩ := qv_some h
  exact ⟨k, fun _ _ => rfl, Nat.le_refl _⟩
theorem three_set {fl : Nat} (k : OpOk P B G w Hr o a d e ∧ ∀ k, k < fl → (e.heap H)[k]? = H[k]?) (hl : H.length ≤ (e.heap H).length) : Three P B G w H Hr o a d e fl := ⟨k.1, k.2, hl⟩
theorem op_value0 {cf : CF} {md : FuncId → CM} {fl : Nat} {c : Call} {f : Operand} (hP : NoOwn P) (hcf : CFSound P cf) (ho : o.op = .call c) (hc : c.callee = .value f) {g : FuncId} {fs cap : List DV}
    (hcase : ∃ F C : Array Value, a.eval f = .func (.func g) F C ∧ RepL (ImmB B G) w G fs F.toList ∧ RepL (ImmB B G) w G cap C.toList)
    (h : callD cf (md g) fl g (fs ++ c.args.toList.map (evalD slots) ++ cap) H = some (d, e)) (hB : ∀ b j, w.heap.size ≤ b → B b j) (hH : HR B G w Hr) (hs : SR (ImmB B G) w G slots a) (hag : Agree e H Hr) (hfl : e.wr → fl ≤ H.length) :
    Three P B G w H Hr o a d e fl := by
  have hfn : ∃ fn, P.funcs[g]? = some fn ∧ fn.body.isSome = true := by
    unfold callD at h
    split at h
    · cases hm : mapO argEl (fs ++ c.args.toList.map (evalD slots) ++ cap) with
      | none => rw [hm] at h; cases h
      | some bs =>
        simp only [hm, Option.bind_some] at h
        cases hc : cf g bs [] 0 with
        | none => simp [hc] at h
        | some r => exact (hcf _ _ _ _ _ _ hc).2.1
    · cases hc : cf g (fs ++ c.args.toList.map (evalD slots) ++ cap) H H.length with
      | none => rw [hc] at h; cases h
      | some r => exact (hcf _ _ _ _ _ _ hc).2.1
    · cases hc : cf g (fs ++ c.args.toList.map (evalD slots) ++ cap) H fl with
      | none => rw [hc] at h; cases h
      | some r => exact (hcf _ _ _ _ _ _ hc).2.1
    · cases hc : cf g (fs ++ c.args.toList.map (evalD slots) ++ cap) H fl with
      | none => rw [hc] at h; cases h
      | some r => exact (hcf _ _ _ _ _ _ hc).2.1
  obtain ⟨fn, hfn, hb⟩ := hfn
  obtain ⟨F, C, hv, hF, hC⟩ := hcase
  refine op_call hcf (vs := F ++ c.args.map a.eval ++ C) ?_ ?_ h hB hH hag hfl
  · simp only [execOp, ho, resolve, hc, Deferred.ofValue, hv, Sem.run_bind, Sem.run_pure, Result.andThen_ok, invoke]
    exact callFunc_run hP hfn hb _
  · have := (hF.app (args_rep (l := c.args.toList) hs)).app hC
    simpa using this
theorem op_value {cf : CF} {md : FuncId → CM} {fl : Nat} {c : Call} {f : Operand} (hP : NoOwn P) (hcf : CFSound P cf) (ho : o.op = .call c) (hc : c.callee = .value f) {g : FuncId} {cap : List DV} (hf : fnOf (evalD slots f) = some (g, cap))
    (h : callD cf (md g) fl g (c.args.toList.map (evalD slots) ++ cap) H = some (d, e)) (hB : ∀ b j, w.heap.size ≤ b → B b j) (hH : HR B G w Hr) (hs : SR (ImmB B G) w G slots a) (hag : Agree e H Hr) (hfl : e.wr → fl ≤ H.length) :
    Three P B G w H Hr o a d e fl := by
  have hv := hs.eval f
  refine op_value0 (fs := []) hP hcf ho hc ?_ h hB hH hs hag hfl
  unfold fnOf at hf
  split at hf
  · rename_i g' first cap' hk
    split at hf
    · rename_i hz
      cases hf
      rw [hk] at hv
      simp only [Rep] at hv
      have h1 : first = #[] := Array.eq_empty_of_size_eq_zero hz.1
      have h2 : cap' = #[] := Array.eq_empty_of_size_eq_zero hz.2
      exact ⟨first, cap', hv, by subst h1; simp [RepL], by subst h2; simp [RepL]⟩
    · cases hf
  · rename_i g' cap' hk
    cases hf
    rw [hk] at hv
    simp only [Rep] at hv
    exact hv
  · cases hf
theorem op_bound {cf : CF} {md : FuncId → CM} {fl : Nat} {c : Call} {f : Operand} (hP : NoOwn P) (hcf : CFSound P cf) (ho : o.op = .call c) (hc : c.callee = .value f) {g : FuncId} {fs cap : List DV} (hf : evalD slots f = .clo (.func g) fs cap)
    (h : callD cf (md g) fl g (fs ++ c.args.toList.map (evalD slots) ++ cap) H = some (d, e)) (hB : ∀ b j, w.heap.size ≤ b → B b j) (hH : HR B G w Hr) (hs : SR (ImmB B G) w G slots a) (hag : Agree e H Hr) (hfl : e.wr → fl ≤ H.length) :
    Three P B G w H Hr o a d e fl := by
  have hv := hs.eval f
  refine op_value0 hP hcf ho hc ?_ h hB hH hs hag hfl
  rw [hf] at hv
  simp only [Rep] at hv
  exact hv
theorem op_sound {cf : CF} {md : FuncId → CM} {fl nid : Nat} (hP : NoOwn P) (hcf : CFSound P cf) (h : evalO P cf md fl nid o slots H = some (d, e)) (hB : ∀ b j, w.heap.size ≤ b → B b j) (hH : HR B G w Hr) (hs : SR (ImmB B G) w G slots a) (hag : Agree e H Hr) (hfl : e.wr → fl ≤ H.length) (hnid : fl ≤ nid) :
    Three P B G w H Hr o a d e fl := by
  cases hop : o.op with
  | move x =>
    simp only [evalO, hop] at h
    have := op_move (P := P) (.inl hop) h hH hs
    cases h
    exact ⟨this, fun _ _ => rfl, Nat.le_refl _⟩
  | assign x =>
    simp only [evalO, hop] at h
    have := op_move (P := P) (.inr hop) h hH hs
    cases h
    exact ⟨this, fun _ _ => rfl, Nat.le_refl _⟩
  | pick c x y =>
    simp only [evalO, hop] at h
    exact three_q h (op_pick hop h hH hs)
  | alloc et =>
    simp only [evalO, hop] at h
    cases hz : zeroD P et with
    | none => simp [hz] at h
    | some z =>
      simp only [hz, Option.bind_some] at h
      obtain ⟨zv, rfl, hzv⟩ := zeroD_some hz
      have hrun : (execOp a.eval o).run P w = .ok (.value (.pointer (some ⟨w.heap.size, 0, none⟩))) (w.alloc (.cells zv.cells et)) := by
        simp only [execOp, hop, Instr.alloc, Sem.run_bind, hzv, Result.andThen_ok, newVar_run, Sem.run_pure]
      refine ⟨op_box h hrun (rep_ofVal1 zv) hB hH hag, ?_, ?_⟩ <;> (unfold allocD at h; split at h <;> cases h)
      · intro k hk; exact List.getElem?_set_ne (by omega)
      · simp [Eff.heap]
  | box et x =>
    simp only [evalO, hop] at h
    have hrun : (execOp a.eval o).run P w = .ok (.value (.pointer (some ⟨w.heap.size, 0, none⟩))) (w.alloc (.cells (a.eval x).cells et)) := by
      simp only [execOp, hop, Instr.box, Sem.run_bind, newVar_run, Result.andThen_ok, Sem.run_pure]
    split at h
    · exact three_q h (op_boxE h hrun (hs.eval x) hB hH)
    refine ⟨op_box h hrun (hs.eval x) hB hH hag, ?_, ?_⟩ <;> (unfold allocD at h; split at h <;> cases h)
    · intro k hk; exact List.getElem?_set_ne (by omega)
    · simp [Eff.heap]
  | build t parts =>
    simp only [evalO, hop] at h
    split at h
    · rename_i fs z hu hz
      split at h
      · rename_i pl hpl
        obtain ⟨hz1, hz2⟩ : zeroD P t = some z ∧ z.cells.all DV.leaf = true := by
          cases hq : zeroD P t with
          | none => simp [hq] at hz
          | some z' => simp [hq, Option.filter] at hz; exact ⟨by rw [hz.2], by rw [← hz.2]; simpa using hz.1⟩
        exact three_q h (op_buildS hop hu hz1 hpl h hz2 hH hs)
      · cases h
    · rename_i n et z hu hz
      split at h
      · rename_i i hi
        obtain ⟨hz1, hz2⟩ : zeroD P t = some z ∧ z.cells.all DV.leaf = true := by
          cases hq : zeroD P t with
          | none => simp [hq] at hz
          | some z' => simp [hq, Option.filter] at hz; exact ⟨by rw [hz.2], by rw [← hz.2]; simpa using hz.1⟩
        exact three_q h (op_buildA hop hu hz1 hi h hz2 hH hs)
      · cases h
    · cases h
  | buildSlice t len parts =>
    simp only [evalO, hop] at h
    split at h
    · rename_i et hu
      split at h
      · rename_i ag sz z ht hz
        exact three_q h (op_buildL hop hu ht hz h hB hH hs)
      · cases h
    · cases h
  | load t x =>
    simp only [evalO, hop] at h
    split at h
    · rename_i ag sz ht
      refine ⟨op_load hop ht h hH hs hag, ?_⟩
      unfold loadD at h
      split at h
      · split at h
        · obtain ⟨_, rfl⟩ := rv_some h
          exact ⟨fun _ _ => rfl, Nat.le_refl _⟩
        · cases h
      · obtain ⟨_, rfl⟩ := qv_some h
        exact ⟨fun _ _ => rfl, Nat.le_refl _⟩
      · cases h
    · cases h
  | store t x y =>
    simp only [evalO, hop] at h
    split at h
    · rename_i ag sz ht
      refine three_set (op_store hop ht h hH hs hag) ?_
      unfold storeD at h
      split at h
      · split at h
        · split at h
          · cases h; simp [Eff.heap]
          · cases h
        · cases h
      · cases h
    · cases h
  | nilCheck x =>
    simp only [evalO, hop] at h
    exact three_q h (op_nil hop h hH hs)
  | binOp op t x y yt =>
    simp only [evalO, hop] at h
    exact three_q h (op_bin hop h hH hs)
  | unOp op t x =>
    simp only [evalO, hop] at h
    exact three_q h (op_un hop h hH hs)
  | convert s t x =>
    simp only [evalO, hop] at h
    exact three_q h (op_conv hop h hB hH hs)
  | makeInterface t x =>
    simp only [evalO, hop] at h
    split at h
    · cases h
    · rename_i td hn hu
      have := op_iface hop hu (fun m hm => hn m hm) h hH hs
      cases h
      exact ⟨this, fun _ _ => rfl, Nat.le_refl _⟩
    · cases h
  | makeFunc fn first cap =>
    simp only [evalO, hop] at h
    have := op_func (P := P) hop h hH hs
    cases h
    exact ⟨this, fun _ _ => rfl, Nat.le_refl _⟩
  | makeSlice t l c =>
    simp only [evalO, hop] at h
    split at h
    · rename_i et hu
      split at h
      · rename_i ag sz i z ht hi hz
        refine ⟨op_make hop hu ht hi hz h hB hH hs hag, ?_, ?_⟩ <;> (unfold makeD at h; split at h <;> (try cases h); split at h <;> cases h)
        · intro k hk; exact List.getElem?_set_ne (by omega)
        · simp [Eff.heap]
      · cases h
    · cases h
  | slice t x lo hi mx =>
    simp only [evalO, hop] at h
    split at h
    · rename_i et hu
      split at h
      · rename_i sz ht
        refine three_q h ?_
        unfold slX at h
        split at h
        · rename_i l k m hl hk hm
          exact op_sliceSl hop hu ht hl hk hm h hH hs
        · simp [qv] at h
      · cases h
    · rename_i n et hu
      split at h
      · rename_i ag sz ht
        refine three_q h ?_
        unfold saX at h
        split at h
        · rename_i l k m hl hk hm
          exact op_sliceAr hop hu ht hl hk hm h hH hs
        · simp [qv] at h
      · cases h
    · cases h
  | fieldAddr s x f =>
    simp only [evalO, hop] at h
    split at h
    · rename_i fs hu
      split at h
      · rename_i fd hf
        split at h
        · rename_i i hi
          exact three_q h (op_fieldAddr hop hu hf hi h hH hs)
        · cases h
      · cases h
    · cases h
  | field t x f =>
    simp only [evalO, hop] at h
    split at h
    · rename_i fs hu
      split at h
      · rename_i fd hf
        split at h
        · rename_i ag sz ht
          refine three_q h ?_
          unfold fldD at h
          split at h
          · rename_i cs hc
            exact op_field hop hu hf ht hc h hH hs
          · simp [qv] at h
        · cases h
      · cases h
    · cases h
  | indexAddr t x i =>
    simp only [evalO, hop] at h
    split at h
    · rename_i len et hu
      split at h
      · rename_i ie hie
        exact three_q h (op_idxArr hop hu hie h hH hs)
      · cases h
    · rename_i et hu
      split at h
      · rename_i ie hie
        exact three_q h (op_idxSl hop hu hie h hH hs)
      · cases h
    · cases h
  | index t x i =>
    simp only [evalO, hop] at h
    split at h
    · rename_i len et hu
      split at h
      · rename_i ag sz ht
        refine three_q h ?_
        unfold idxV at h
        split at h
        · rename_i n cs hn hc
          split at h
          · rename_i h0
            exact op_index hop hu ht hn hc h0 h hH hs
          · simp [qv] at h
        · simp [qv] at h
      · cases h
    · cases h
  | extract t i =>
    simp only [evalO, hop] at h
    exact three_q h (op_ext hop h hH hs)
  | call c =>
    simp only [evalO, hop] at h
    unfold callOp at h
    split at h
    · rename_i hc
      split at h
      · rename_i x t hx ht
        exact three_q h (op_len hop hc hx ht h hH hs)
      · cases h
    · rename_i hc
      split at h
      · rename_i x t hx ht
        exact three_q h (op_cap hop hc hx ht h hH hs)
      · cases h
    · rename_i hc
      split at h
      · rename_i x y t t' hx ht
        split at h
        · rename_i htt
          subst htt
          split at h
          · rename_i et hu
            split at h
            · rename_i ag sz i z hsz hi hz
              split at h
              · rename_i hzl
                refine three_set (op_append hop hc hx ht hu hsz hi hz hzl h hB hH hs hag hfl) ?_
                unfold appendD at h
                split at h
                · split at h
                  · cases h; exact Nat.le_refl _
                  · split at h
                    · split at h
                      · cases h; simp [Eff.heap]
                      · split at h
                        · split at h
                          · cases h; simp [Eff.heap]
                          · cases h
                        · cases h
                      · cases h
                    · cases h
                · cases h
              · cases h
            · cases h
          · cases h
        · cases h
      · cases h
    · rename_i hc
      split at h
      · rename_i x y t t' hx ht
        split at h
        · rename_i et hu
          split at h
          · rename_i ag sz hsz
            refine three_set (op_copy hop hc hx ht hu hsz h hH hs hag) ?_
            unfold copyD at h
            split at h
            · split at h
              · split at h
                · simp only [] at h
                  split at h
                  · cases h; simp [Eff.heap]
                  · cases h
                · cases h
              · cases h
            · cases h
          · cases h
        · cases h
      · cases h
    · rename_i b _ _ _ _ hc
      exact three_q h (op_built hop hc h hH hs)
    · rename_i f hc
      unfold callV at h
      split at h
      · rename_i g cap hf
        exact op_value hP hcf hop hc hf h hB hH hs hag hfl
      · split at h
        · rename_i hf
          exact op_bound hP hcf hop hc hf h hB hH hs hag hfl
        · cases h
    · cases h
  | _ => simp [evalO, hop] at h
end Go.Proofs.Ytcpgmbpndpcmdaa
