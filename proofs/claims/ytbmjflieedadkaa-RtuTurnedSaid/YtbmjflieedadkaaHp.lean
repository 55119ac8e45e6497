/- Heaps: what stands where, and what a call that writes leaves. -/
import Derived.Test.YtbmjflieedadkaaEv
namespace Go.Proofs.Ytbmjflieedadkaa
open Go

@[simp] theorem hp_get_left (H X : Heap) (k : Nat) (h : k < H.length) : (H ++ X)[k]? = H[k]? := List.getElem?_append_left h
@[simp] theorem hp_get_0 (H X : Heap) (a : DBlk) (n : Nat) (h : n = H.length) : (H ++ a :: X)[n]? = some a := by subst h; simp
@[simp] theorem hp_get_1 (H X : Heap) (a b : DBlk) (n : Nat) (h : n = H.length + 1) : (H ++ a :: b :: X)[n]? = some b := by
  subst h; rw [List.getElem?_append_right (by omega)]; simp
@[simp] theorem hp_get_2 (H X : Heap) (a b c : DBlk) (n : Nat) (h : n = H.length + 2) : (H ++ a :: b :: c :: X)[n]? = some c := by
  subst h; rw [List.getElem?_append_right (by omega)]; simp
@[simp] theorem hp_get_3 (H X : Heap) (a b c d : DBlk) (n : Nat) (h : n = H.length + 3) : (H ++ a :: b :: c :: d :: X)[n]? = some d := by
  subst h; rw [List.getElem?_append_right (by omega)]; simp
@[simp] theorem hp_set_left (H X : Heap) (k : Nat) (y : DBlk) (h : k < H.length) : (H ++ X).set k y = H.set k y ++ X := by
  rw [List.set_append_left _ _ h]
@[simp] theorem hp_set_0 (H X : Heap) (a y : DBlk) (n : Nat) (h : n = H.length) : (H ++ a :: X).set n y = H ++ y :: X := by subst h; rw [List.set_append_right _ _ (by omega)]; simp
@[simp] theorem hp_set_1 (H X : Heap) (a b y : DBlk) (n : Nat) (h : n = H.length + 1) : (H ++ a :: b :: X).set n y = H ++ a :: y :: X := by
  subst h; rw [List.set_append_right _ _ (by omega), Nat.add_sub_cancel_left]; rfl
@[simp] theorem hp_set_2 (H X : Heap) (a b c y : DBlk) (n : Nat) (h : n = H.length + 2) : (H ++ a :: b :: c :: X).set n y = H ++ a :: b :: y :: X := by
  subst h; rw [List.set_append_right _ _ (by omega), Nat.add_sub_cancel_left]; rfl
@[simp] theorem hp_set_3 (H X : Heap) (a b c d y : DBlk) (n : Nat) (h : n = H.length + 3) : (H ++ a :: b :: c :: d :: X).set n y = H ++ a :: b :: c :: y :: X := by
  subst h; rw [List.set_append_right _ _ (by omega), Nat.add_sub_cancel_left]; rfl
@[simp] theorem hp_set_get (H : Heap) (k : Nat) (y : DBlk) (h : k < H.length) : (H.set k y)[k]? = some y := by simp [h]
@[simp] theorem hp_set_ne (H : Heap) (k j : Nat) (y : DBlk) (h : j ≠ k) : (H.set k y)[j]? = H[j]? := by rw [List.getElem?_set, if_neg (fun e => h e.symm)]
theorem hp_lt {H : Heap} {k : Nat} {b : DBlk} (h : H[k]? = some b) : k < H.length := by
  rcases Nat.lt_or_ge k H.length with h' | h'
  · exact h'
  · rw [List.getElem?_eq_none h'] at h; cases h
@[simp] theorem nilD_ptr (k o : Nat) : nilD (.ptr k o) = some (.ptr k o) := rfl
@[simp] theorem fieldD_ptr (fo sz k o : Nat) (h : sz ≠ 0) : fieldD fo sz (.ptr k o) = some (.ptr k (o + fo)) := by simp [fieldD, h]
@[simp] theorem fieldD_elem (fo sz o : Nat) (x : DV) (h : sz ≠ 0) : fieldD fo sz (.elem x o) = some (.elem x (o + fo)) := by simp [fieldD, h]

/-- a block that names none but old ones -/
def WfB (n : Nat) : DBlk → Prop
  | .cells _ cs => ∀ d ∈ cs, (d.leaf && inSc n d) = true
  | _ => True
def WfH (H : Heap) : Prop := ∀ b ∈ H, WfB H.length b
theorem wf_nil : WfH [] := fun b h => by simp at h
@[simp] theorem inSc_LV_sh {α : Type} (n sz : Nat) (enc : α → DV) (l : List α) : inSc n (LV sz enc l .sh) = true := by cases l <;> rfl
@[simp] theorem inSc_LV_ti {α : Type} (n sz : Nat) (enc : α → DV) (l : List α) : inSc n (LV sz enc l .ti) = true := by cases l <;> rfl
@[simp] theorem inSc_flat (n : Nat) (v : Value) : inSc n (.flat v) = true := rfl
@[simp] theorem inSc_ptr (n k o : Nat) : inSc n (.ptr k o) = decide (k < n) := rfl
@[simp] theorem inSc_nil (n : Nat) : inSc n (.list 0 [] .sh) = true := rfl
@[simp] theorem inSc_nilt (n : Nat) : inSc n (.list 0 [] .ti) = true := rfl
mutual
theorem inSc_mono {n m : Nat} (h : n ≤ m) : ∀ d : DV, inSc n d = true → inSc m d = true
  | .any, _ => rfl
  | .flat _, _ => rfl
  | .agg cs, k => by simp only [inSc] at k ⊢; exact inScL_mono h cs k
  | .tup cs, k => by simp only [inSc] at k ⊢; exact inScL_mono h cs k
  | .list _ _ t, k => by
    cases t with
    | own j => simp only [inSc, decide_eq_true_eq] at k ⊢; omega
    | _ => rfl
  | .ptr j _, k => by simp only [inSc, decide_eq_true_eq] at k ⊢; omega
  | .row _ _ j _ _ _, k => by simp only [inSc, decide_eq_true_eq] at k ⊢; omega
  | .elem _ _, _ => rfl
  | .clo _ f c, k => by simp only [inSc, Bool.and_eq_true] at k ⊢; exact ⟨inScL_mono h f k.1, inScL_mono h c k.2⟩
  | .iface _ d, k => by simp only [inSc] at k ⊢; exact inSc_mono h d k
theorem inScL_mono {n m : Nat} (h : n ≤ m) : ∀ l : List DV, inScL n l = true → inScL m l = true
  | [], _ => rfl
  | d :: l, k => by simp only [inScL, Bool.and_eq_true] at k ⊢; exact ⟨inSc_mono h d k.1, inScL_mono h l k.2⟩
end
theorem WfB.mono {n m : Nat} (h : n ≤ m) {b : DBlk} (k : WfB n b) : WfB m b := by
  cases b with
  | cells e cs =>
    intro d hd
    have := k d hd
    simp only [Bool.and_eq_true] at this ⊢
    exact ⟨this.1, inSc_mono h d this.2⟩
  | _ => trivial
theorem WfH.app {H X : Heap} (h : WfH H) (hx : ∀ b ∈ X, WfB (H ++ X).length b) : WfH (H ++ X) := fun b hb => by
  rcases List.mem_append.mp hb with hb | hb
  · exact (h b hb).mono (by simp)
  · exact hx b hb
theorem WfH.set {H : Heap} (h : WfH H) (k : Nat) {b : DBlk} (hb : WfB H.length b) : WfH (H.set k b) := fun c hc => by
  rw [List.length_set]
  rcases List.mem_or_eq_of_mem_set hc with hc | rfl
  · exact h c hc
  · exact hb
theorem mapO_id {α : Type} (f : α → Option α) : ∀ (l : List α), (∀ x ∈ l, f x = some x) → mapO f l = some l
  | [], _ => rfl
  | x :: l, h => by rw [mapO_cons, h x (by simp), mapO_id f l (fun y hy => h y (by simp [hy]))]; rfl
theorem mapO_set {α : Type} (f : α → Option α) : ∀ (l : List α) (k : Nat) (b c : α), (∀ x ∈ l, f x = some x) → f b = some c → mapO f (l.set k b) = some (l.set k c)
  | [], _, _, _, _, _ => rfl
  | x :: l, 0, b, c, h, hb => by rw [List.set_cons_zero, mapO_cons, hb, mapO_id f l (fun y hy => h y (by simp [hy]))]; rfl
  | x :: l, k + 1, b, c, h, hb => by rw [List.set_cons_succ, mapO_cons, h x (by simp), mapO_set f l k b c (fun y hy => h y (by simp [hy])) hb]; rfl
theorem oldBlk_wf {n : Nat} {H' : Heap} {b : DBlk} (h : WfB n b) : oldBlk n H' b = some b := by
  cases b with
  | cells e cs =>
    show (mapO (oldLeaf n H') cs).map (DBlk.cells e) = _
    rw [mapO_id _ cs fun d hd => by
      have := h d hd
      unfold oldLeaf
      rw [if_pos this]]
    rfl
  | _ => rfl
/-- what a call that writes one block leaves -/
theorem cutH_set {H H' : Heap} (h : WfH H) {k : Nat} {b c : DBlk} (hk : k < H.length) (hb : H'[k]? = some b) (hj : ∀ j, j < H.length → j ≠ k → H'[j]? = H[j]?) (hc : oldBlk H.length H' b = some c) : cutH H.length H' = some (H.set k c) := by
  have e : H'.take H.length = H.set k b := by
    apply List.ext_getElem?
    intro j
    rw [List.getElem?_take]
    by_cases hjn : j < H.length
    · rw [if_pos hjn]
      by_cases hjk : j = k
      · subst hjk; rw [hb, List.getElem?_set_self hjn]
      · rw [hj j hjn hjk, List.getElem?_set_ne (fun e => hjk e.symm)]
    · rw [if_neg hjn, List.getElem?_eq_none (by simp; omega)]
  unfold cutH
  rw [e]
  exact mapO_set _ H k b c (fun x hx => oldBlk_wf (h x hx)) hc
theorem cutH_same {H H' : Heap} (h : WfH H) (hj : ∀ j, j < H.length → H'[j]? = H[j]?) : cutH H.length H' = some H := by
  have e : H'.take H.length = H := by
    apply List.ext_getElem?
    intro j
    rw [List.getElem?_take]
    by_cases hjn : j < H.length
    · rw [if_pos hjn, hj j hjn]
    · rw [if_neg hjn, List.getElem?_eq_none (by omega)]
  unfold cutH
  rw [e]
  exact mapO_id _ H fun x hx => oldBlk_wf (h x hx)
theorem cW_of {n f : Nat} {args : List DV} {H H' H2 : Heap} {fl : Nat} {r r' : DV} (h1 : callG Try.prog ENV n f args H fl = some (r, H')) (h2 : oldD H.length H' r = some r') (h3 : cutH H.length H' = some H2) : cW n f args H fl = some (r', H2) := by
  unfold cW callW
  rw [h1, bi_some, h2, bi_some, h3, bi_some]
theorem cO_of {n f : Nat} {args : List DV} {H H' : Heap} {r r' : DV} (h1 : callG Try.prog ENV n f args H H.length = some (r, H')) (h2 : oldD H.length H' r = some r') : cO n f args H = some r' := by
  unfold cO callO
  rw [h1, bi_some, h2]
@[simp] theorem oldLeaf_sh {α : Type} (n : Nat) (H : Heap) (sz : Nat) (enc : α → DV) (l : List α) : oldLeaf n H (LV sz enc l .sh) = some (LV sz enc l .sh) := by cases l <;> rfl
@[simp] theorem oldLeaf_ti {α : Type} (n : Nat) (H : Heap) (sz : Nat) (enc : α → DV) (l : List α) : oldLeaf n H (LV sz enc l .ti) = some (LV sz enc l .ti) := by cases l <;> rfl
theorem oldLeaf_own {α : Type} (n : Nat) (H : Heap) (sz : Nat) (enc : α → DV) (l : List α) (k : Nat) (hk : n ≤ k) : oldLeaf n H (LV sz enc l (.own k)) = some (LV sz enc l .sh) := by
  have : ¬ k < n := by omega
  cases l <;> simp [LV, mkl, oldLeaf, inSc, this]
@[simp] theorem oldLeaf_i (n : Nat) (H : Heap) (k : IntKind) (x : Int) : oldLeaf n H (.flat (.int k x)) = some (.flat (.int k x)) := rfl
@[simp] theorem oldLeaf_b (n : Nat) (H : Heap) (b : Bool) : oldLeaf n H (.flat (.bool b)) = some (.flat (.bool b)) := rfl
@[simp] theorem oldLeaf_nil (n : Nat) (H : Heap) : oldLeaf n H (.list 0 [] .ti) = some (.list 0 [] .ti) := rfl
@[simp] theorem oldLeaf_nils (n : Nat) (H : Heap) : oldLeaf n H (.list 0 [] .sh) = some (.list 0 [] .sh) := rfl
@[simp] theorem oldEl_agg (n : Nat) (H : Heap) (cs : List DV) : oldEl n H (.agg cs) = (mapO (oldLeaf n H) cs).map .agg := rfl
@[simp] theorem oldEl_flat (n : Nat) (H : Heap) (v : Value) : oldEl n H (.flat v) = some (.flat v) := rfl
@[simp] theorem oldEl_LV {α : Type} (n : Nat) (H : Heap) (sz : Nat) (enc : α → DV) (l : List α) (t : Tag) : oldEl n H (LV sz enc l t) = oldLeaf n H (LV sz enc l t) := by cases l <;> rfl
@[simp] theorem oldEl_nil (n : Nat) (H : Heap) (t : Tag) : oldEl n H (.list 0 [] t) = oldLeaf n H (.list 0 [] t) := rfl
@[simp] theorem oldD_tup (n : Nat) (H : Heap) (cs : List DV) : oldD n H (.tup cs) = (mapO (oldEl n H) cs).map .tup := rfl
@[simp] theorem oldD_flat (n : Nat) (H : Heap) (v : Value) : oldD n H (.flat v) = some (.flat v) := rfl
@[simp] theorem oldD_LV {α : Type} (n : Nat) (H : Heap) (sz : Nat) (enc : α → DV) (l : List α) (t : Tag) : oldD n H (LV sz enc l t) = oldLeaf n H (LV sz enc l t) := by cases l <;> rfl
@[simp] theorem oldD_agg (n : Nat) (H : Heap) (cs : List DV) : oldD n H (.agg cs) = (mapO (oldLeaf n H) cs).map .agg := rfl
@[simp] theorem oldBlk_cells (n : Nat) (H : Heap) (e : TypeId) (cs : List DV) : oldBlk n H (.cells e cs) = (mapO (oldLeaf n H) cs).map (.cells e) := rfl

/-- append to a list that this call builds: what it leaves of the heap -/
theorem appG_fr {α : Type} {e : TypeId} {ag : Bool} {sz by_ n0 : Nat} {enc : α → DV} {xs ys : List α} {t t' : Tag} {H : Heap} {fl : Nat} (hfl : fl ≤ n0) (hn0 : n0 ≤ H.length) (ht : TgOk t e sz n0 xs.length H) (hne : ys ≠ []) (hc : chunkOk ag sz 0 = true) (hb : (xs.length + ys.length) * by_ ≤ 140737488355328) (hb2 : xs.length + ys.length ≤ 140737488355328) :
    ∃ t2 H', appG e ag sz by_ (LV sz enc xs t) (LV sz enc ys t') H fl = some (LV sz enc (xs ++ ys) t2, H') ∧ TgOk t2 e sz n0 (xs ++ ys).length H' ∧ H.length ≤ H'.length ∧ (∀ j, j < n0 → H'[j]? = H[j]?) ∧ (WfH H → WfH H') ∧ HExt H H' := by
  rcases ht with rfl | ⟨k, rfl, hk, hkf⟩
  · refine ⟨_, _, appG_ti hne hc hb hb2, .inr ⟨_, rfl, by simp, hn0⟩, by simp, fun j hj => hp_get_left _ _ _ (by omega), fun h => h.app (fun b hb => by simp at hb; subst hb; trivial), HExt.app _ _⟩
  · have hkl := hp_lt hk
    obtain ⟨t2, H', h1, h2, h3, h4⟩ := appG_ok (e := e) (ag := ag) (sz := sz) (by_ := by_) (enc := enc) (xs := xs) (ys := ys) (t := .own k) (t' := t') (H := H) (fl := fl) (.inr ⟨k, rfl, hk, by omega⟩) (by omega) hne hc hb hb2
    have hl : LV sz enc (xs ++ ys) (.own k) = .list sz (xs.map enc ++ ys.map enc) (.own k) := by
      cases xs with
      | nil => cases ys with
        | nil => exact absurd rfl hne
        | cons y ys => rfl
      | cons x xs => simp [LV, mkl]
    have he : appG e ag sz by_ (LV sz enc xs (.own k)) (LV sz enc ys t') H fl = some (LV sz enc (xs ++ ys) (.own k), H.set k (.token e sz (xs ++ ys).length)) := by
      obtain ⟨s1, h1, g1⟩ := LV_list sz enc xs (.own k)
      obtain ⟨s2, h2, g2⟩ := LV_list sz enc ys t'
      have hkf' : fl ≤ k := by omega
      rw [hl, h1, h2]
      unfold appG appendD srcD
      simp only [g2, if_true]
      cases ys with
      | nil => exact absurd rfl hne
      | cons y ys =>
        have g3 : ¬xs = [] → s1 = sz := by
          intro h
          have : xs.isEmpty = false := by cases xs <;> simp_all
          simpa [this] using g1
        simp only [List.map_cons, List.length_map, List.length_cons] at *
        simp [hc, hb, hb2, effH, Eff.heap, hk, hkf']
        exact g3
    rw [he] at h1
    simp only [Option.some.injEq, Prod.mk.injEq] at h1
    obtain ⟨_, rfl⟩ := h1
    exact ⟨_, _, he, .inr ⟨k, rfl, hp_set_get _ _ _ hkl, hkf⟩, by simp, fun j hj => hp_set_ne _ _ _ _ (by omega), fun h => h.set k trivial, h3⟩

/-- a list's end as a call that writes hands it out -/
def okT (t : Tag) : Prop := t = .sh ∨ t = .ti
def oT (n0 : Nat) (t : Tag) : Prop := t = .ti ∨ ∃ k, t = .own k ∧ n0 ≤ k
theorem TgOk.oT {t : Tag} {e : TypeId} {sz n0 n : Nat} {H : Heap} (h : TgOk t e sz n0 n H) : oT n0 t := h.imp id fun ⟨k, h1, _, h2⟩ => ⟨k, h1, h2⟩
theorem oldLeaf_oT {α : Type} {n : Nat} {t : Tag} (h : oT n t) (H : Heap) (sz : Nat) (enc : α → DV) (l : List α) : ∃ t', okT t' ∧ oldLeaf n H (LV sz enc l t) = some (LV sz enc l t') := by
  rcases h with rfl | ⟨k, rfl, hk⟩
  · exact ⟨.ti, .inr rfl, oldLeaf_ti _ _ _ _ _⟩
  · exact ⟨.sh, .inl rfl, oldLeaf_own _ _ _ _ _ _ hk⟩
theorem oldLeaf_okT {α : Type} {n : Nat} {t : Tag} (h : okT t) (H : Heap) (sz : Nat) (enc : α → DV) (l : List α) : oldLeaf n H (LV sz enc l t) = some (LV sz enc l t) := by
  rcases h with rfl | rfl <;> simp
theorem inSc_okT {α : Type} {t : Tag} (h : okT t) (n sz : Nat) (enc : α → DV) (l : List α) : inSc n (LV sz enc l t) = true := by
  rcases h with rfl | rfl <;> simp

/-- the same, whatever is appended -/
theorem appG_all {α : Type} {e : TypeId} {ag : Bool} {sz by_ n0 : Nat} {enc : α → DV} {xs ys : List α} {t t' : Tag} {H : Heap} {fl : Nat} (hfl : fl ≤ n0) (hn0 : n0 ≤ H.length) (ht : TgOk t e sz n0 xs.length H) (hc : chunkOk ag sz 0 = true) (hb : (xs.length + ys.length) * by_ ≤ 140737488355328) (hb2 : xs.length + ys.length ≤ 140737488355328) :
    ∃ t2 H', appG e ag sz by_ (LV sz enc xs t) (LV sz enc ys t') H fl = some (LV sz enc (xs ++ ys) t2, H') ∧ TgOk t2 e sz n0 (xs ++ ys).length H' ∧ H.length ≤ H'.length ∧ (∀ j, j < n0 → H'[j]? = H[j]?) ∧ (WfH H → WfH H') ∧ HExt H H' := by
  by_cases h : ys = []
  · subst h
    refine ⟨t, H, ?_, by simpa using ht, Nat.le_refl _, fun _ _ => rfl, id, HExt.refl H⟩
    obtain ⟨s, h1, h2⟩ := LV_list sz enc xs t
    rw [List.append_nil, h1]
    rfl
  · exact appG_fr hfl hn0 ht h hc hb hb2
theorem binD_ptr_nil {t e : TypeId} (hu : Try.prog.underlying t = some (.pointer e)) (x y : Operand) (k o : Nat) : binD Try.prog .eql t x y (.ptr k o) (.flat (.pointer none)) = some (Bo false) := by
  have : nilEq Try.prog t (.ptr k o) (.pointer none) = true := by unfold nilEq; rw [hu]
  show (if nilEq Try.prog t (.ptr k o) (.pointer none) = true then eqRes .eql else none) = _
  rw [if_pos this]; rfl
theorem binD_ptr_nen {t e : TypeId} (hu : Try.prog.underlying t = some (.pointer e)) (x y : Operand) (k o : Nat) : binD Try.prog .neq t x y (.ptr k o) (.flat (.pointer none)) = some (Bo true) := by
  have : nilEq Try.prog t (.ptr k o) (.pointer none) = true := by unfold nilEq; rw [hu]
  show (if nilEq Try.prog t (.ptr k o) (.pointer none) = true then eqRes .neq else none) = _
  rw [if_pos this]; rfl
end Go.Proofs.Ytbmjflieedadkaa
