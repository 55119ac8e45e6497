/- Deep values: each operation's step is what the machine does (second part). -/
import Derived.Test.YtbhnkdnfmlnajaaPo
import Derived.Laws.BytesString
import Derived.Laws.IdiomStrings
namespace Go.Proofs.Ytbhnkdnfmlnajaa
open Go Go.RowKit

variable {P : Program} {B : Nat → Nat → Prop} {G : Gh} {w : World} {H Hr : Heap} {o : Oper} {a : Act} {slots : List DV} {d : DV} {e : Eff}

theorem op_move {x : Operand} (ho : o.op = .move x ∨ o.op = .assign x) (h : some (evalD slots x, Eff.q) = some (d, e)) (hH : HR B G w Hr) (hs : SR (ImmB B G) w G slots a) : OpOk P B G w Hr o a d e := by
  cases h
  refine OpOk.still hH (V := a.eval x) ?_ (hs.eval x) rfl
  rcases ho with ho | ho <;> simp [execOp, ho]
theorem op_pick {c x y : Operand} (ho : o.op = .pick c x y) (h : qv (pickD (evalD slots c) (evalD slots x) (evalD slots y)) = some (d, e)) (hH : HR B G w Hr) (hs : SR (ImmB B G) w G slots a) : OpOk P B G w Hr o a d e := by
  obtain ⟨hp, rfl⟩ := qv_some h; replace h := hp; clear hp
  unfold pickD at h
  split at h
  · rename_i t ht
    cases h
    have hc := hs.eval c
    rw [ht] at hc
    simp only [Rep] at hc
    cases t with
    | true =>
      refine OpOk.still hH (V := a.eval x) ?_ (hs.eval x) rfl
      simp [execOp, ho, hc, asBool]
    | false =>
      refine OpOk.still hH (V := a.eval y) ?_ (hs.eval y) rfl
      simp [execOp, ho, hc, asBool]
  · cases h
theorem op_load {t : TypeId} {x : Operand} {ag : Bool} {sz : Nat} (ho : o.op = .load t x) (ht : aggSz P t = some (ag, sz)) (h : loadD ag sz (evalD slots x) H = some (d, e))
    (hH : HR B G w Hr) (hs : SR (ImmB B G) w G slots a) (hag : Agree e H Hr) : OpOk P B G w Hr o a d e := by
  have hx := hs.eval x
  unfold loadD at h
  split at h
  · rename_i k off hk
    rw [hk] at hx
    simp only [Rep] at hx
    obtain ⟨b, hG, hx⟩ := hx
    split at h
    · rename_i e' cs hc
      obtain ⟨hp, rfl⟩ := rv_some h; replace h := hp; clear hp
      have hc' : Hr[k]? = some (.cells e' cs) := by
        rcases hag k _ _ hc with h' | h'
        · exact h'
        · have := hH.blk _ _ _ h' hG
          simp [BlkRep] at this
      obtain ⟨C, h1, h2, h3⟩ := hH.cells hc' hG
      obtain ⟨V, hrun, hd⟩ := loadVar_run ht h2 (fun j v hj => cells_at h1 j v hj) h
      refine OpOk.still hH (V := V) ?_ hd rfl
      rw [Nat.zero_add] at hrun
      simp [execOp, ho, hx, Instr.loadAt, Instr.sureAddr, hrun]
    · cases h
  · rename_i y off hy
    rw [hy] at hx
    simp only [Rep] at hx
    obtain ⟨hl, b, oo, E, hx, h1, h2⟩ := hx
    obtain ⟨hp, rfl⟩ := qv_some h
    obtain ⟨h3, h4⟩ := rep_cells hl h1
    obtain ⟨V, hrun, hd⟩ := loadVar_run ht h3 (fun j v hj => (h2 j v hj).1) hp
    refine OpOk.still hH (V := V) ?_ (Rep.nil hd) rfl
    simp [execOp, ho, hx, Instr.loadAt, Instr.sureAddr, hrun]
  · cases h
theorem all_one {vs : List Value} (h : ∀ v ∈ vs, isOne v = true) : ∀ v ∈ vs, v.oneCell' = true := fun v hv => by rw [← isOne_eq]; exact h v hv
theorem splice_toList (C : Array Value) (o : Nat) (vs : List Value) : (C.toList.take o ++ vs ++ C.toList.drop (o + vs.length)).toArray.toList = C.toList.take o ++ vs ++ C.toList.drop (o + vs.length) := rfl
theorem repL_splice {I : Nat → Nat → Prop} {cs ds : List DV} {us vs : List Value} (h : RepL I w G cs us) (k : RepL I w G ds vs) (o : Nat) :
    RepL I w G (splice o ds cs) (us.take o ++ vs ++ us.drop (o + vs.length)) := by
  unfold splice
  rw [k.length]
  exact ((h.take o).app k).app (h.drop _)
theorem one_splice {us vs : List Value} (h : ∀ v ∈ us, isOne v = true) (k : ∀ v ∈ vs, isOne v = true) (o : Nat) : ∀ v ∈ us.take o ++ vs ++ us.drop (o + vs.length), isOne v = true := by
  intro v hv
  simp only [List.mem_append] at hv
  rcases hv with (hv | hv) | hv
  · exact h v (List.mem_of_mem_take hv)
  · exact k v hv
  · exact h v (List.mem_of_mem_drop hv)
theorem op_store {t : TypeId} {x y : Operand} {ag : Bool} {sz fl : Nat} (ho : o.op = .store t x y) (ht : aggSz P t = some (ag, sz)) (h : storeD sz (evalD slots x) (evalD slots y) H fl = some (d, e))
    (hH : HR B G w Hr) (hs : SR (ImmB B G) w G slots a) (hag : Agree e H Hr) : OpOk P B G w Hr o a d e ∧ (∀ k, k < fl → (e.heap H)[k]? = H[k]?) := by
  have hx := hs.eval x
  have hy := hs.eval y
  unfold storeD at h
  split at h
  · rename_i k off hk
    rw [hk] at hx
    simp only [Rep] at hx
    obtain ⟨b, hG, hx⟩ := hx
    split at h
    · rename_i e' cs hc
      split at h
      · rename_i hcond
        obtain ⟨q1, q2, q3, q4⟩ := hcond
        cases h
        have hag : Hr = H := hag
        subst hag
        obtain ⟨C, h1, h2, h3⟩ := hH.cells hc hG
        obtain ⟨k1, k2⟩ := rep_cells q4 hy
        obtain ⟨i, hi, hsz, _⟩ := aggSz_some ht
        have hlen : (a.eval y).cells.size = sz := by
          have := k1.length
          simp at this
          rw [this, q2]
        have hrun := run_storeCells_at (P := P) b off e' (a.eval y).cells.toList 0 C w h1 (by have := h2.length; simp at this ⊢; omega) (all_one k2)
        rw [Nat.add_zero] at hrun
        obtain ⟨C', hC'⟩ : ∃ C' : Array Value, (C.toList.take off ++ (a.eval y).cells.toList ++ C.toList.drop (off + (a.eval y).cells.toList.length)).toArray = C' := ⟨_, rfl⟩
        rw [hC'] at hrun
        obtain ⟨hK, hH'⟩ := step_set hH hG (but_setRow w b C') (setRow_heap w b C _ e' (0, 0) h1) (cs' := splice off (evalD slots y).cells cs) (by
          rw [← hC']; exact repL_splice h2 k1 off) (by
          rw [← hC']; exact one_splice h3 k2 off)
        refine ⟨OpOk.skip ?_ hK hH', fun i hi => ?_⟩
        · simp only [execOp, ho, hx, Instr.storeAt, Instr.sureAddr, storeVar, Sem.run_bind, Sem.run_pure, Result.andThen_ok, size_run hi]
          simp [hlen, hsz, hrun]
        · simp only [Eff.heap]; exact List.getElem?_set_ne (by omega)
      · cases h
    · cases h
  · cases h
theorem newVar_run (v : Value) (t : TypeId) (w : World) : (newVar t v).run P w = .ok ⟨w.heap.size, 0, none⟩ (w.alloc (.cells v.cells t)) := by
  simp [newVar, newRow]
theorem more_alloc (w : World) (ob : Obj) : More ob w (w.alloc ob) := ⟨rfl, rfl, rfl, rfl⟩
theorem more_draw {w w' : World} {ob : Obj} {n : Nat} (h : More ob { w with drawn := n } w') : More ob w w' := ⟨h.os, h.tape, h.output, h.heap⟩
theorem op_box {et : TypeId} {x : DV} {V : Value} {nid : Nat} (h : allocD et x nid = some (d, e)) (hrun : (execOp a.eval o).run P w = .ok (.value (.pointer (some ⟨w.heap.size, 0, none⟩))) (w.alloc (.cells V.cells et)))
    (hx : Rep (ImmB B G) w G x V) (hB : ∀ b j, w.heap.size ≤ b → B b j) (hH : HR B G w Hr) (hag : Agree e H Hr) : OpOk P B G w Hr o a d e := by
  unfold allocD at h
  split at h
  · rename_i hl
    cases h
    have hag : Hr[nid]? = some .hole := hag
    obtain ⟨k1, k2⟩ := rep_cells hl hx
    have hlt : nid < Hr.length := (List.getElem?_eq_some_iff.1 hag).1
    have hg := List.getElem?_eq_getElem (show nid < G.length by rw [← hH.len]; exact hlt)
    have hG : G[nid]? = some GK.hole := by
      have := hH.blk _ _ _ hag hg
      cases hB : G[nid]'(by rw [← hH.len]; exact hlt) <;> rw [hB] at this <;> simp only [BlkRep] at this
      rw [hg, hB]
    obtain ⟨hK, hH'⟩ := step_fill hH hG hB (more_alloc w (.cells V.cells et)) k1 k2
    refine OpOk.val hrun hK hH' ?_
    simp only [Rep]
    exact ⟨_, List.getElem?_set_self (by rw [← hH.len]; exact hlt), rfl⟩
  · cases h
theorem op_nil {x : Operand} (ho : o.op = .nilCheck x) (h : qv (nilD (evalD slots x)) = some (d, e)) (hH : HR B G w Hr) (hs : SR (ImmB B G) w G slots a) : OpOk P B G w Hr o a d e := by
  obtain ⟨hp, rfl⟩ := qv_some h; replace h := hp; clear hp
  have hx := hs.eval x
  unfold nilD at h
  split at h
  · rename_i k off hk
    cases h
    rw [hk] at hx
    refine OpOk.still hH (V := a.eval x) ?_ hx rfl
    simp only [Rep] at hx
    obtain ⟨b, _, hx⟩ := hx
    simp [execOp, ho, hx]
  · rename_i y off hk
    cases h
    rw [hk] at hx
    refine OpOk.still hH (V := a.eval x) ?_ hx rfl
    simp only [Rep] at hx
    obtain ⟨_, b, o', E, hx, _⟩ := hx
    simp [execOp, ho, hx]
  · rename_i f y z hk
    cases h
    rw [hk] at hx
    refine OpOk.still hH (V := a.eval x) ?_ hx rfl
    simp only [Rep] at hx
    obtain ⟨f', c', hx, _⟩ := hx
    simp [execOp, ho, hx]
  · rename_i f y z hk
    cases h
    rw [hk] at hx
    refine OpOk.still hH (V := a.eval x) ?_ hx rfl
    simp only [Rep] at hx
    simp [execOp, ho, hx]
  · cases h
theorem op_pure {s : Sem Value} (hs : pureV P s = some d) (hrun : ∀ v, s.run P w = .ok v w → (execOp a.eval o).run P w = .ok (.value v) w) (hH : HR B G w Hr) : OpOk P B G w Hr o a d .q := by
  obtain ⟨v, rfl, h⟩ := pureV_run hs
  exact OpOk.still hH (hrun v (h w)) (rep_ofVal v) rfl
theorem eqIn_ptr {t et : TypeId} (hu : P.underlying t = some (.pointer et)) (n : Nat) (b : Addr) : (Op.equalIn (n + 1) t (.pointer (some b)) (.pointer none)).run P w = .ok false w := by
  simp [Op.equalIn, run_underlying hu]
theorem eqIn_iface {t t' : TypeId} {ms : Array (String × TypeId)} (hu : P.underlying t = some (.interface ms)) (n : Nat) (v : Value) : (Op.equalIn (n + 1) t (.iface t' v) .nilIface).run P w = .ok false w := by
  simp [Op.equalIn, run_underlying hu]
theorem eqIn_func {t : TypeId} {x y : Array TypeId} {b : Bool} (hu : P.underlying t = some (.func x y b)) (n : Nat) (f : Fn) (c c' : Array Value) : (Op.equalIn (n + 1) t (.func f c c') .nilFunc).run P w = .ok false w := by
  simp [Op.equalIn, run_underlying hu]
theorem eqIn_slice {t et : TypeId} (hu : P.underlying t = some (.slice et)) (n : Nat) (b : Addr) (l c : Nat) : (Op.equalIn (n + 1) t (.slice (some b) l c) (.slice none 0 0)).run P w = .ok false w := by
  simp [Op.equalIn, run_underlying hu]
/-- the bytes that a list of bytes stands for -/
theorem bytes_at {I : Nat → Nat → Prop} {sz b : Nat} : ∀ (xs : List DV) (o : Nat) (l : List UInt8), mapO byteOf xs = some l → RepE I w sz xs b o → l.length = xs.length ∧ (xs ≠ [] → sz = 1) ∧ ∀ j (hj : j < l.length), w.cell? ⟨b, o + j, none⟩ = some (.int .u8 (l[j].toNat : Int))
  | [], o, l, h, _ => by cases h; exact ⟨rfl, fun h => absurd rfl h, fun j hj => by simp at hj⟩
  | x :: xs, o, l, h, k => by
    simp only [mapO] at h
    cases hx : byteOf x with
    | none => simp [hx] at h
    | some y =>
      cases hr : mapO byteOf xs with
      | none => simp [hx, hr] at h
      | some r =>
        simp [hx, hr] at h
        subst h
        simp only [RepE] at k
        obtain ⟨hk0, V, k1, k2, k3⟩ := k.1
        have k4 := k.2
        clear k hk0
        unfold byteOf at hx
        split at hx
        · rename_i n
          split at hx
          · rename_i hn
            cases hx
            simp only [Rep] at k1
            subst k1
            have hsz : sz = 1 := by rw [← k2]; rfl
            subst hsz
            obtain ⟨e1, _, e3⟩ := bytes_at xs (o + 1) r hr k4
            refine ⟨by simp [e1], fun _ => rfl, fun j hj => ?_⟩
            cases j with
            | zero =>
              have := (k3 0 (.int .u8 n) rfl).1
              rw [this]
              have : ((UInt8.ofNat n.toNat).toNat : Int) = n := by rw [UInt8.toNat_ofNat']; omega
              simp only [List.getElem_cons_zero, this]
            | succ j =>
              have := e3 j (by simpa using hj)
              rw [show o + (j + 1) = o + 1 + j by omega, this]
              rfl
          · cases hx
        · cases hx
theorem equal_nil {t : TypeId} {d : DV} {V v : Value} {I : Nat → Nat → Prop} (h : nilEq P t d v = true) (k : Rep I w G d V) :
    (∀ x y, (eqGuard .eql t x y V v).run P w = .ok () w ∧ (eqGuard .neq t x y V v).run P w = .ok () w) ∧ (binOp .eql t V v).run P w = .ok (.bool false) w ∧ (binOp .neq t V v).run P w = .ok (.bool true) w := by
  have key : (Op.equalIn (9999 + 1) t V v).run P w = .ok false w → (binOp .eql t V v = do pure (.bool (← Op.equalIn (9999 + 1) t V v))) → (binOp .neq t V v = do pure (.bool (!(← Op.equalIn (9999 + 1) t V v)))) → (binOp .eql t V v).run P w = .ok (.bool false) w ∧ (binOp .neq t V v).run P w = .ok (.bool true) w := by
    intro h1 h2 h3
    rw [h2, h3]
    simp [h1]
  unfold nilEq at h
  split at h
  · rename_i hu
    simp only [Rep] at k
    obtain ⟨b, _, rfl⟩ := k
    exact ⟨fun x y => ⟨rfl, rfl⟩, key (eqIn_ptr hu _ _) rfl rfl⟩
  · rename_i hu
    simp only [Rep] at k
    obtain ⟨_, b, _, _, rfl, _⟩ := k
    exact ⟨fun x y => ⟨rfl, rfl⟩, key (eqIn_ptr hu _ _) rfl rfl⟩
  · rename_i hu
    simp only [Rep] at k
    obtain ⟨v, rfl, _⟩ := k
    exact ⟨fun x y => ⟨rfl, rfl⟩, key (eqIn_iface hu _ _) rfl rfl⟩
  · rename_i hu
    simp only [Rep] at k
    obtain ⟨_, _, rfl, _⟩ := k
    exact ⟨fun x y => ⟨rfl, rfl⟩, key (eqIn_func hu _ _ _ _) rfl rfl⟩
  · rename_i hu
    simp only [Rep] at k
    obtain ⟨A, c, rfl, _, _, k, _⟩ := k
    rcases k with k | ⟨b, o, rfl, _⟩
    · cases k
    · exact ⟨fun x y => ⟨rfl, rfl⟩, key (eqIn_slice hu _ _ _ _) rfl rfl⟩
  · cases h
theorem op_bin {op : BinOp} {t yt : TypeId} {x y : Operand} (ho : o.op = .binOp op t x y yt) (h : qv (binD P op t x y (evalD slots x) (evalD slots y)) = some (d, e)) (hH : HR B G w Hr) (hs : SR (ImmB B G) w G slots a) : OpOk P B G w Hr o a d e := by
  obtain ⟨hp, rfl⟩ := qv_some h; replace h := hp; clear hp
  have hx := hs.eval x
  have hy := hs.eval y
  have eq : ∀ op', op = op' → eqD P op' t x y (evalD slots x) (evalD slots y) = some d → OpOk P B G w Hr o a d .q := by
    intro op' e h
    subst e
    unfold eqD at h
    split at h
    · rename_i va vb h1 h2
      have e1 := rep_toVal h1 hx
      have e2 := rep_toVal h2 hy
      refine op_pure h (fun v hv => ?_) hH
      simp only [execOp, ho, Sem.run_bind, e1, e2] at hv ⊢
      rw [hv]; rfl
    · rename_i vb h1 h2
      have e2 := rep_toVal h2 hy
      split at h
      · rename_i hn
        obtain ⟨hg, h3, h4⟩ := equal_nil (w := w) hn hx
        unfold eqRes at h
        split at h
        · cases h
          refine OpOk.still hH (V := .bool false) ?_ (by simp [Rep]) rfl
          simp only [execOp, ho, Sem.run_bind, e2, (hg x y).1, Result.andThen_ok, h3]; rfl
        · cases h
          refine OpOk.still hH (V := .bool true) ?_ (by simp [Rep]) rfl
          simp only [execOp, ho, Sem.run_bind, e2, (hg x y).2, Result.andThen_ok, h4]; rfl
        · cases h
      · cases h
    · split at h
      · rename_i vb _ _
        have e2 : a.eval (.const vb) = vb := rfl
        split at h
        · rename_i hn
          obtain ⟨hg, h3, h4⟩ := equal_nil (w := w) hn hx
          unfold eqRes at h
          split at h
          · cases h
            refine OpOk.still hH (V := .bool false) ?_ (by simp [Rep]) rfl
            simp only [execOp, ho, Sem.run_bind, e2, (hg x _).1, Result.andThen_ok, h3]; rfl
          · cases h
            refine OpOk.still hH (V := .bool true) ?_ (by simp [Rep]) rfl
            simp only [execOp, ho, Sem.run_bind, e2, (hg x _).2, Result.andThen_ok, h4]; rfl
          · cases h
        · cases h
      · cases h
    · cases h
  have ar : op ≠ .eql → op ≠ .neq → arD P op t (evalD slots x) (evalD slots y) = some d → OpOk P B G w Hr o a d .q := by
    intro h1 h2 h
    unfold arD at h
    split at h
    · rename_i va vb h3 h4
      have e1 := rep_toVal h3 hx
      have e2 := rep_toVal h4 hy
      refine op_pure h (fun v hv => ?_) hH
      have hg : eqGuard op t x y va vb = pure () := by
        unfold eqGuard
        cases op <;> first | exact absurd rfl h1 | exact absurd rfl h2 | rfl
      simp only [execOp, ho, Sem.run_bind, e1, e2, hg, Sem.run_pure, Result.andThen_ok, hv]
    · cases h
  clear hx hy
  revert h eq ar
  cases op <;> intro h eq ar <;> first | exact eq _ rfl h | exact ar (by simp) (by simp) h
theorem op_un {op : UnOp} {t : TypeId} {x : Operand} (ho : o.op = .unOp op t x) (h : qv (unD P op (evalD slots x)) = some (d, e)) (hH : HR B G w Hr) (hs : SR (ImmB B G) w G slots a) : OpOk P B G w Hr o a d e := by
  obtain ⟨hp, rfl⟩ := qv_some h; replace h := hp; clear hp
  unfold unD at h
  cases hv : toVal (evalD slots x) with
  | none => simp [hv] at h
  | some va =>
    simp only [hv, Option.bind_some] at h
    have e1 := rep_toVal hv (hs.eval x)
    refine op_pure h (fun v hv => ?_) hH
    simp only [execOp, ho, Sem.run_bind, e1, hv]; rfl
theorem repE_bytes {I : Nat → Nat → Prop} {b : Nat} : ∀ (l : List UInt8) (o : Nat), (∀ j (h : j < l.length), w.cell? ⟨b, o + j, none⟩ = some (.int .u8 (l[j].toNat : Int)) ∧ I b (o + j)) → RepE I w 1 (l.map fun c => DV.flat (.int .u8 (c.toNat : Int))) b o
  | [], o, _ => by simp [RepE]
  | a :: l, o, h => by
    simp only [List.map_cons, RepE]
    refine ⟨⟨by simp [DV.cells, DV.leaf, isOne], .int .u8 (a.toNat : Int), by simp only [Rep], rfl, ?_⟩, repE_bytes l (o + 1) fun j hj => ?_⟩
    · intro j v hj
      cases j with
      | zero =>
        simp [Value.cells] at hj
        subst hj
        obtain ⟨h2, h3⟩ := h 0 (by simp)
        exact ⟨h2, h3, rfl⟩
      | succ j => simp [Value.cells] at hj
    · have := h (j + 1) (by simpa using hj)
      rw [show o + (j + 1) = o + 1 + j by omega] at this
      exact this
theorem op_conv {s t : TypeId} {x : Operand} (ho : o.op = .convert s t x) (h : qv (convD P s t (evalD slots x)) = some (d, e)) (hB : ∀ b j, w.heap.size ≤ b → B b j) (hH : HR B G w Hr) (hs : SR (ImmB B G) w G slots a) : OpOk P B G w Hr o a d e := by
  obtain ⟨hp, rfl⟩ := qv_some h; replace h := hp; clear hp
  unfold convD at h
  split at h
  · rename_i sz xs tg hxs
    unfold strD at h
    split at h
    · rename_i et hu1 hu2
      split at h
      · rename_i hu3
        cases hm : mapO byteOf xs with
        | none => simp [hm] at h
        | some l =>
          simp [hm] at h
          subst h
          have hx := hs.eval x
          rw [hxs] at hx
          simp only [Rep] at hx
          obtain ⟨A, c, hV, h1, h2, h3, _⟩ := hx
          refine OpOk.still hH (V := .string ⟨l.toArray⟩) ?_ (by simp [Rep]) rfl
          have key : (convert s t (a.eval x)).run P w = .ok (.string ⟨l.toArray⟩) w := by
            rw [hV]
            rcases h3 with rfl | ⟨b, o, rfl, h3⟩
            · cases hm
              cases A with
              | none =>
                rw [run_convert_bytes_string w s t et none _ c hu1 hu3 hu2]
                simp [Conv.bytesToString]
                rfl
              | some ad => exact run_convert_bytes_back w s t et ad c [] hu1 hu3 hu2 fun j hj => by simp at hj
            · obtain ⟨e1, _, e3⟩ := bytes_at xs o l hm h3
              rw [← e1]
              refine run_convert_bytes_back w s t et ⟨b, o, none⟩ c l hu1 hu3 hu2 fun j hj => ?_
              have : (⟨b, o, none⟩ : Addr).add j = ⟨b, o + j, none⟩ := by unfold Addr.add; split <;> simp_all
              rw [this, e3 j hj]
          simp only [execOp, ho, Sem.run_bind, key]; rfl
      · cases h
    · cases h
  · rename_i sx hxs
    have hx := hs.eval x
    rw [hxs] at hx
    simp only [Rep] at hx
    split at h
    · rename_i r hr
      cases h
      unfold bytD at hr
      split at hr
      · rename_i et hu1 hu2
        split at hr
        · rename_i hu3
          split at hr
          · rename_i hsz
            cases hr
            have key := run_bytes_of_string w s t et sx hu1 hu2 hu3
            generalize hC : bytesRow sx (grownCap w sx.size 0 et) = C at key
            have hmo : More (.cells C et (C.size, C.size + 1)) w (w.drew.alloc (.cells C et (C.size, C.size + 1))) := ⟨rfl, rfl, rfl, rfl⟩
            obtain ⟨hK, hH'⟩ := step_new hH hmo
            have hcap : sx.size ≤ grownCap w sx.size 0 et := grownCap_ge w sx.size 0 et
            have hE : RepE (ImmB B G) (w.drew.alloc (.cells C et (C.size, C.size + 1))) 1 (sx.data.toList.map fun c => DV.flat (.int .u8 (c.toNat : Int))) w.heap.size 0 := by
              refine repE_bytes _ 0 fun j hj => ⟨?_, hB _ _ (Nat.le_refl _), fun k hk => ?_, fun k s c n hk => ?_⟩
              · refine cells_at hmo.new j _ ?_
                rw [← hC]
                unfold bytesRow
                have hj' : j < sx.data.size := by simpa using hj
                simp only [Array.toList_append, Array.toList_map]
                rw [List.getElem?_append_left (by simpa using hj')]
                rw [List.getElem?_map, Array.getElem?_toList, Array.getElem?_eq_getElem hj']
                rfl
              · have := hH.lt (.inl hk : liveAt G k w.heap.size); omega
              · have := hH.lt (.inr ⟨_, _, _, hk⟩ : liveAt G k w.heap.size); omega
            have hlen : sx.data.toList.length = sx.size := Array.length_toList
            refine OpOk.val (V := .slice (some ⟨w.heap.size, 0, none⟩) sx.size (grownCap w sx.size 0 et)) ?_ hK hH' ?_
            · simp only [execOp, ho, Sem.run_bind, hx, key]; rfl
            · cases hl : sx.data.toList with
              | nil =>
                rw [hl] at hlen
                simp only [List.map_nil, mkl, Rep, TagOk]
                exact ⟨_, _, by rw [← hlen]; rfl, Nat.zero_le _, by simp, .inl trivial, trivial⟩
              | cons c l =>
                rw [hl] at hlen hE
                simp only [List.map_cons, mkl, Rep, TagOk]
                refine ⟨some ⟨w.heap.size, 0, none⟩, grownCap w sx.size 0 et, by rw [← hlen]; simp, by simp at hlen ⊢; omega, by simp at hlen ⊢; omega, .inr ⟨w.heap.size, 0, rfl, by simpa using hE⟩, trivial⟩
          · cases hr
        · cases hr
      · cases hr
    · refine op_pure h (fun v hv => ?_) hH
      simp only [execOp, ho, Sem.run_bind, hx, hv]; rfl
  cases hv : toVal (evalD slots x) with
  | none => simp [hv] at h
  | some va =>
    simp only [hv, Option.bind_some] at h
    have e1 := rep_toVal hv (hs.eval x)
    refine op_pure h (fun v hv => ?_) hH
    simp only [execOp, ho, Sem.run_bind, e1, hv]; rfl
theorem op_ext {t : Operand} {i : Nat} (ho : o.op = .extract t i) (h : qv (extD i (evalD slots t)) = some (d, e)) (hH : HR B G w Hr) (hs : SR (ImmB B G) w G slots a) : OpOk P B G w Hr o a d e := by
  obtain ⟨hp, rfl⟩ := qv_some h; replace h := hp; clear hp
  have hx := hs.eval t
  unfold extD at h
  split at h
  · rename_i cs hc
    rw [hc] at hx
    simp only [Rep] at hx
    obtain ⟨vs, hx, hr⟩ := hx
    obtain ⟨v, hv, hd⟩ := hr.get i d h
    refine OpOk.still hH (V := v) ?_ hd rfl
    simp only [Array.getElem?_toList] at hv
    simp [execOp, ho, hx, Instr.extract, hv]
  · cases h
theorem op_func {fn : Fn} {first cap : Array Operand} (ho : o.op = .makeFunc fn first cap) (h : some (DV.clo fn (first.toList.map (evalD slots)) (cap.toList.map (evalD slots)), Eff.q) = some (d, e)) (hH : HR B G w Hr) (hs : SR (ImmB B G) w G slots a) : OpOk P B G w Hr o a d e := by
  cases h
  have key : ∀ l : Array Operand, RepL (ImmB B G) w G (l.toList.map (evalD slots)) (l.map a.eval).toList := by
    intro l
    refine RepL.of (by simp) fun i d v hd hv => ?_
    simp only [Array.toList_map, List.getElem?_map] at hv hd
    cases hx : l.toList[i]? with
    | none => rw [hx] at hd; cases hd
    | some x =>
      rw [hx] at hd hv
      simp at hd hv
      subst hd; subst hv
      exact hs.eval x
  refine OpOk.still hH (V := .func fn (first.map a.eval) (cap.map a.eval)) ?_ ?_ rfl
  · simp [execOp, ho, Instr.makeFunc]
  · simp only [Rep]
    exact ⟨_, _, rfl, key first, key cap⟩
theorem op_iface {t : TypeId} {x : Operand} {td : TypeDesc} (ho : o.op = .makeInterface t x) (hu : P.underlying t = some td) (hn : ∀ m, td ≠ .interface m) (h : some (DV.iface t (evalD slots x), Eff.q) = some (d, e)) (hH : HR B G w Hr) (hs : SR (ImmB B G) w G slots a) : OpOk P B G w Hr o a d e := by
  cases h
  refine OpOk.still hH (V := .iface t (a.eval x)) ?_ ?_ rfl
  · simp only [execOp, ho, Instr.makeInterface, Sem.run_bind, run_underlying hu, Result.andThen_ok]
    cases td <;> first | rfl | exact absurd rfl (hn _)
  · simp only [Rep]
    exact ⟨_, rfl, hs.eval x⟩
end Go.Proofs.Ytbhnkdnfmlnajaa
