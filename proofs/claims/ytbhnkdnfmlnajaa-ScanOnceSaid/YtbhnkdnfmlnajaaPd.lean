/- Deep values: regions, in the order of the text and in any order that the edges allow. -/
import Derived.Test.YtbhnkdnfmlnajaaPz
namespace Go.Proofs.Ytbhnkdnfmlnajaa
open Go Go.RowKit

abbrev Zip := List (Oper × Stp)
def foldS (L : Nat → Bool) : Zip → Nat → List DV → List DV
  | [], _, acc => acc
  | p :: z, i, acc => foldS L z (i + 1) (if L i then putD acc p.1.dst p.2.d else acc)
def foldH (L : Nat → Bool) : Zip → Nat → Heap → Heap
  | [], _, acc => acc
  | p :: z, i, acc => foldH L z (i + 1) (if L i then p.2.e.heap acc else acc)
theorem putD_len (acc : List DV) (dst : Option Tmp) (d : DV) : (putD acc dst d).length = acc.length := by cases dst <;> simp [putD]
theorem putD_get (acc : List DV) (dst : Option Tmp) (d : DV) (t : Nat) : (putD acc dst d)[t]? = if dst = some t ∧ t < acc.length then some d else acc[t]? := by
  cases dst with
  | none => simp [putD]
  | some u =>
    simp only [putD, Option.some.injEq]
    by_cases h : u = t
    · subst h
      by_cases hl : u < acc.length
      · simp [hl]
      · simp [hl]
    · simp [h]
theorem foldS_len (L : Nat → Bool) : ∀ (z : Zip) (i : Nat) (acc : List DV), (foldS L z i acc).length = acc.length
  | [], _, _ => rfl
  | p :: z, i, acc => by
    simp only [foldS]
    rw [foldS_len L z]
    split
    · exact putD_len _ _ _
    · rfl
theorem foldS_congr {L L' : Nat → Bool} (t : Nat) : ∀ (z : Zip) (i : Nat) (acc acc' : List DV), acc.length = acc'.length → acc[t]? = acc'[t]? → (∀ j p, z[j]? = some p → p.1.dst = some t → L (i + j) = L' (i + j)) → (foldS L z i acc)[t]? = (foldS L' z i acc')[t]?
  | [], _, _, _, _, h, _ => h
  | p :: z, i, acc, acc', hl, h, hL => by
    simp only [foldS]
    refine foldS_congr t z (i + 1) _ _ ?_ ?_ fun j q hq hd => by have := hL (j + 1) q (by simpa using hq) hd; rwa [← Nat.add_assoc, Nat.add_right_comm] at this
    · split <;> split <;> simp [putD_len, hl]
    · by_cases hd : p.1.dst = some t
      · have := hL 0 p rfl hd
        rw [Nat.add_zero] at this
        rw [← this]
        split
        · rw [putD_get, putD_get, hl, h]
        · exact h
      · have e1 : ∀ (b : Bool) (acc : List DV), (if b then putD acc p.1.dst p.2.d else acc)[t]? = acc[t]? := by
          intro b acc
          cases b
          · rfl
          · simp only [if_true]; rw [putD_get, if_neg (by simp [hd])]
        rw [e1, e1, h]
/-- behind the last one that writes a slot -/
theorem foldS_last {L : Nat → Bool} (t : Nat) : ∀ (z : Zip) (i j : Nat) (p : Oper × Stp) (acc : List DV), z[j]? = some p → p.1.dst = some t → L (i + j) = true → (∀ j' q, j < j' → z[j']? = some q → q.1.dst = some t → L (i + j') = false) → t < acc.length → (foldS L z i acc)[t]? = some p.2.d
  | [], _, j, _, _, h, _, _, _, _ => by simp at h
  | q :: z, i, 0, p, acc, h, hd, hL, hl, ht => by
    simp at h
    subst h
    simp only [foldS]
    rw [Nat.add_zero] at hL
    rw [hL, if_pos rfl]
    have := foldS_congr (L := L) (L' := fun _ => false) t z (i + 1) (putD acc q.1.dst q.2.d) (putD acc q.1.dst q.2.d) rfl rfl (fun j x hx hxd => by
      have := hl (j + 1) x (by omega) (by simpa using hx) hxd
      rwa [← Nat.add_assoc, Nat.add_right_comm] at this)
    rw [this]
    have none : ∀ (z : Zip) (i : Nat) (acc : List DV), foldS (fun _ => false) z i acc = acc := by
      intro z
      induction z with
      | nil => intro i acc; rfl
      | cons p z ih => intro i acc; simp only [foldS, Bool.false_eq_true, if_false]; exact ih _ _
    rw [none, putD_get, if_pos ⟨hd, ht⟩]
  | q :: z, i, j + 1, p, acc, h, hd, hL, hl, ht => by
    simp only [foldS]
    refine foldS_last t z (i + 1) j p _ (by simpa using h) hd (by rwa [← Nat.add_assoc, Nat.add_right_comm] at hL) (fun j' x hj hx hxd => by
      have := hl (j' + 1) x (by omega) (by simpa using hx) hxd
      rwa [← Nat.add_assoc, Nat.add_right_comm] at this) ?_
    split
    · rw [putD_len]; exact ht
    · exact ht
def loud : Eff → Bool
  | .ch _ => true
  | .tk _ => true
  | .al .. => true
  | _ => false
theorem quiet_heap {e : Eff} (h : loud e = false) (H : Heap) : e.heap H = H := by cases e <;> simp_all [loud, Eff.heap]
theorem abs_heap {e : Eff} {H' : Heap} (h : e.abs = some H') (H : Heap) : e.heap H = H' := by cases e <;> simp_all [Eff.abs, Eff.heap]
theorem abs_loud {e : Eff} {H' : Heap} (h : e.abs = some H') : loud e = true := by cases e <;> simp_all [Eff.abs, loud]
theorem foldH_congr {L L' : Nat → Bool} : ∀ (z : Zip) (i : Nat) (acc : Heap), (∀ j p, z[j]? = some p → loud p.2.e = true → L (i + j) = L' (i + j)) → foldH L z i acc = foldH L' z i acc
  | [], _, _, _ => rfl
  | p :: z, i, acc, h => by
    simp only [foldH]
    have e1 : (if L i then p.2.e.heap acc else acc) = if L' i then p.2.e.heap acc else acc := by
      cases hl : loud p.2.e with
      | false => rw [quiet_heap hl]; simp
      | true =>
        have := h 0 p rfl hl
        rw [Nat.add_zero] at this
        rw [this]
    rw [e1]
    exact foldH_congr z (i + 1) _ fun j q hq hl => by have := h (j + 1) q (by simpa using hq) hl; rwa [← Nat.add_assoc, Nat.add_right_comm] at this
/-- the numbers of blocks to be made: holes till then, each its own -/
def HolesIn (z : Zip) (acc : Heap) : Prop := ∀ (j : Nat) (p : Oper × Stp) (k : Nat) (b : DBlk), z[j]? = some p → p.2.e = .al k b → acc[k]? = some .hole
def Zok : Zip → Prop
  | [] => True
  | p :: z => (∀ H', p.2.e.abs = some H' → HolesIn z H') ∧ (∀ k b, p.2.e = .al k b → ∀ (j : Nat) (q : Oper × Stp) (k' : Nat) (b' : DBlk), z[j]? = some q → q.2.e = .al k' b' → k' ≠ k) ∧ Zok z
theorem HolesIn.tail {p : Oper × Stp} {z : Zip} {acc : Heap} (h : HolesIn (p :: z) acc) : HolesIn z acc := fun j q k b hq he => h (j + 1) q k b (by simpa using hq) he
theorem HolesIn.step {p : Oper × Stp} {z : Zip} {acc : Heap} (hz : Zok (p :: z)) (h : HolesIn (p :: z) acc) (b : Bool) : HolesIn z (if b then p.2.e.heap acc else acc) := by
  obtain ⟨h1, h2, _⟩ := hz
  cases b with
  | false => exact h.tail
  | true =>
    simp only [if_true]
    cases he : p.2.e with
    | ch H' => exact h1 H' (by rw [he]; rfl)
    | tk H' => exact h1 H' (by rw [he]; rfl)
    | al k x =>
      intro j q k' b' hq hq'
      exact hole_set (h.tail j q k' b' hq hq') (h2 k x he j q k' b' hq hq')
    | q => exact h.tail
    | rd => exact h.tail
    | ro => exact h.tail
/-- what a load may meet -/
def Near (acc acc' : Heap) : Prop := ∀ (k : Nat) (t : TypeId) (cs : List DV), acc'[k]? = some (.cells t cs) → acc[k]? = some (.cells t cs) ∨ acc[k]? = some .hole
set_option linter.unusedSimpArgs false in
/-- L is what there is, L' the text: what of the text alone is there makes no cells -/
theorem foldH_near {L L' : Nat → Bool} : ∀ (z : Zip) (i : Nat) (acc acc' : Heap), Zok z → HolesIn z acc → HolesIn z acc' → Near acc acc' → (∀ j p H', z[j]? = some p → p.2.e = .ch H' → L (i + j) = L' (i + j)) →
    (∀ j p H', z[j]? = some p → p.2.e = .tk H' → L (i + j) = true → L' (i + j) = true) → (∀ j p H', z[j]? = some p → p.2.e = .tk H' → L' (i + j) = true → ∀ (k : Nat) (t : TypeId) (cs : List DV), H'[k]? = some (.cells t cs) → (foldH L' (z.take j) i acc')[k]? = some (.cells t cs)) →
    Near (foldH L z i acc) (foldH L' z i acc')
  | [], _, _, _, _, _, _, h, _, _, _ => h
  | p :: z, i, acc, acc', hz, ha, ha', h, hL, hT, hS => by
    simp only [foldH]
    refine foldH_near z (i + 1) _ _ hz.2.2 (ha.step hz (L i)) (ha'.step hz (L' i)) ?_ (fun j q H' hq he => by have := hL (j + 1) q H' (by simpa using hq) he; rwa [← Nat.add_assoc, Nat.add_right_comm] at this) (fun j q H' hq he => by have := hT (j + 1) q H' (by simpa using hq) he; rwa [← Nat.add_assoc, Nat.add_right_comm] at this) (fun j q H' hq he hl => by
      have := hS (j + 1) q H' (by simpa using hq) he (by rwa [← Nat.add_assoc, Nat.add_right_comm])
      simpa only [List.take_succ_cons, foldH] using this)
    cases he : p.2.e with
    | ch H' =>
      have := hL 0 p H' rfl he
      rw [Nat.add_zero] at this
      rw [← this]
      cases L i
      · exact h
      · exact fun k t cs hx => .inl hx
    | tk H' =>
      have h1 := hT 0 p H' rfl he
      have h2 := hS 0 p H' rfl he
      rw [Nat.add_zero] at h1 h2
      cases hLi : L i <;> cases hLi' : L' i
      · exact h
      · simp only [Bool.false_eq_true, if_false, if_true, Eff.heap]
        intro k t cs hx
        exact h k t cs (by have := h2 hLi' k t cs hx; simpa only [List.take_zero, foldH] using this)
      · rw [h1 hLi] at hLi'; cases hLi'
      · exact fun k t cs hx => .inl hx
    | al k b =>
      have h1 := ha 0 p k b rfl he
      have h2 := ha' 0 p k b rfl he
      have hk1 := (List.getElem?_eq_some_iff.1 h1).1
      have hk2 := (List.getElem?_eq_some_iff.1 h2).1
      intro k' t cs hx
      by_cases hk : k' = k
      · subst hk
        cases hLi : L i <;> cases hLi' : L' i <;> simp only [hLi, hLi', if_true, if_false, Bool.false_eq_true, Eff.heap] at hx ⊢
        · exact h k' t cs hx
        · exact .inr h1
        · rw [h2] at hx; cases hx
        · rw [List.getElem?_set_self hk2] at hx
          rw [List.getElem?_set_self hk1]
          exact .inl hx
      · have e1 : ∀ (c : Bool) (acc : Heap), (if c = true then (Eff.al k b).heap acc else acc)[k']? = acc[k']? := by
          intro c acc
          cases c
          · rfl
          · simp only [if_true, Eff.heap]; exact List.getElem?_set_ne (Ne.symm hk)
        rw [e1] at hx ⊢
        exact h k' t cs hx
    | q => simp only [Eff.heap, ite_self]; exact h
    | rd => simp only [Eff.heap, ite_self]; exact h
    | ro => simp only [Eff.heap, ite_self]; exact h
/-- a fold up to a place -/
theorem foldH_upto {L L' : Nat → Bool} : ∀ (z : Zip) (i j : Nat) (acc : Heap), (∀ j', j' < j → L (i + j') = L' (i + j')) → (∀ j', j ≤ j' → L (i + j') = false) → foldH L z i acc = foldH L' (z.take j) i acc
  | [], _, _, _, _, _ => by simp [foldH]
  | p :: z, i, 0, acc, h1, h2 => by
    rw [List.take_zero]
    simp only [foldH]
    have h0 := h2 0 (Nat.le_refl _)
    rw [Nat.add_zero] at h0
    rw [h0]
    simp only [Bool.false_eq_true, if_false]
    have := foldH_upto (L := L) (L' := L') z (i + 1) 0 acc (fun j' hj => by omega) (fun j' _ => by have := h2 (j' + 1) (by omega); rwa [← Nat.add_assoc, Nat.add_right_comm] at this)
    rw [this, List.take_zero]
    rfl
  | p :: z, i, j + 1, acc, h1, h2 => by
    rw [List.take_succ_cons]
    simp only [foldH]
    have h0 := h1 0 (by omega)
    rw [Nat.add_zero] at h0
    rw [h0]
    exact foldH_upto z (i + 1) j _ (fun j' hj => by have := h1 (j' + 1) (by omega); rwa [← Nat.add_assoc, Nat.add_right_comm] at this) (fun j' hj => by have := h2 (j' + 1) (by omega); rwa [← Nat.add_assoc, Nat.add_right_comm] at this)
/-- a hole stays one while nobody fills it -/
theorem foldH_hole {L : Nat → Bool} {k : Nat} : ∀ (z : Zip) (i : Nat) (acc : Heap), acc[k]? = some .hole → (∀ j p H', z[j]? = some p → p.2.e.abs = some H' → L (i + j) = false) → (∀ (j : Nat) (p : Oper × Stp) (k' : Nat) (b' : DBlk), z[j]? = some p → p.2.e = .al k' b' → k' ≠ k) → (foldH L z i acc)[k]? = some .hole
  | [], _, _, h, _, _ => h
  | p :: z, i, acc, h, hc, ha => by
    simp only [foldH]
    refine foldH_hole z (i + 1) _ ?_ (fun j q H' hq he => by have := hc (j + 1) q H' (by simpa using hq) he; rwa [← Nat.add_assoc, Nat.add_right_comm] at this) (fun j q k' b' hq he => ha (j + 1) q k' b' (by simpa using hq) he)
    split
    · rename_i hL
      cases he : p.2.e with
      | ch H' =>
        have := hc 0 p H' rfl (by rw [he]; rfl)
        rw [Nat.add_zero, hL] at this; cases this
      | tk H' =>
        have := hc 0 p H' rfl (by rw [he]; rfl)
        rw [Nat.add_zero, hL] at this; cases this
      | al k' b' => exact hole_set h (Ne.symm (ha 0 p k' b' rfl he))
      | q => exact h
      | rd => exact h
      | ro => exact h
    · exact h
theorem foldH_alhole {L : Nat → Bool} {k : Nat} {b : DBlk} : ∀ (z : Zip) (i j : Nat) (p : Oper × Stp) (acc : Heap), Zok z → HolesIn z acc → z[j]? = some p → p.2.e = .al k b → L (i + j) = false → (∀ j' q H', j < j' → z[j']? = some q → q.2.e.abs = some H' → L (i + j') = false) → (foldH L z i acc)[k]? = some .hole
  | [], _, _, _, _, _, _, h, _, _, _ => by simp at h
  | q :: z, i, 0, p, acc, hz, ha, h, he, hL, hc => by
    simp at h
    subst h
    simp only [foldH]
    rw [Nat.add_zero] at hL
    rw [hL]
    simp only [Bool.false_eq_true, if_false]
    exact foldH_hole z (i + 1) _ (ha 0 q k b rfl he) (fun j x H' hx hxe => by have := hc (j + 1) x H' (by omega) (by simpa using hx) hxe; rwa [← Nat.add_assoc, Nat.add_right_comm] at this) (hz.2.1 k b he)
  | q :: z, i, j + 1, p, acc, hz, ha, h, he, hL, hc => by
    simp only [foldH]
    exact foldH_alhole z (i + 1) j p _ hz.2.2 (ha.step hz (L i)) (by simpa using h) he (by rwa [← Nat.add_assoc, Nat.add_right_comm] at hL) (fun j' x H' hj hx hxe => by have := hc (j' + 1) x H' (by omega) (by simpa using hx) hxe; rwa [← Nat.add_assoc, Nat.add_right_comm] at this)
theorem foldH_setk {L : Nat → Bool} {k : Nat} {b : DBlk} : ∀ (z : Zip) (i : Nat) (acc : Heap), (∀ j p H', z[j]? = some p → p.2.e.abs = some H' → L (i + j) = false) → (∀ (j : Nat) (p : Oper × Stp) (k' : Nat) (b' : DBlk), z[j]? = some p → p.2.e = .al k' b' → k' ≠ k) → foldH L z i (acc.set k b) = (foldH L z i acc).set k b
  | [], _, _, _, _ => rfl
  | p :: z, i, acc, hc, ha => by
    simp only [foldH]
    have e1 : (if L i then p.2.e.heap (acc.set k b) else acc.set k b) = (if L i then p.2.e.heap acc else acc).set k b := by
      split
      · rename_i hL
        cases he : p.2.e with
        | ch H' =>
          have := hc 0 p H' rfl (by rw [he]; rfl)
          rw [Nat.add_zero, hL] at this; cases this
        | tk H' =>
          have := hc 0 p H' rfl (by rw [he]; rfl)
          rw [Nat.add_zero, hL] at this; cases this
        | al k' b' => exact List.set_comm _ _ (Ne.symm (ha 0 p k' b' rfl he))
        | q => rfl
        | rd => rfl
        | ro => rfl
      · rfl
    rw [e1]
    exact foldH_setk z (i + 1) _ (fun j q H' hq he => by have := hc (j + 1) q H' (by simpa using hq) he; rwa [← Nat.add_assoc, Nat.add_right_comm] at this) (fun j q k' b' hq he => ha (j + 1) q k' b' (by simpa using hq) he)
theorem foldH_addal {L L' : Nat → Bool} {k : Nat} {b : DBlk} : ∀ (z : Zip) (i j : Nat) (p : Oper × Stp) (acc : Heap), Zok z → z[j]? = some p → p.2.e = .al k b → L (i + j) = false → L' (i + j) = true → (∀ j', j' ≠ j → L' (i + j') = L (i + j')) →
    (∀ j' q H', j < j' → z[j']? = some q → q.2.e.abs = some H' → L (i + j') = false) → foldH L' z i acc = (foldH L z i acc).set k b
  | [], _, _, _, _, _, h, _, _, _, _, _ => by simp at h
  | q :: z, i, 0, p, acc, hz, h, he, hL, hL', hs, hc => by
    simp at h
    subst h
    simp only [foldH]
    rw [Nat.add_zero] at hL hL'
    rw [hL, hL', he]
    simp only [Bool.false_eq_true, if_false, if_true, Eff.heap]
    rw [foldH_congr (L := L') (L' := L) z (i + 1) _ (fun j x _ _ => by have := hs (j + 1) (by omega); rwa [← Nat.add_assoc, Nat.add_right_comm] at this)]
    exact foldH_setk z (i + 1) _ (fun j x H' hx hxe => by have := hc (j + 1) x H' (by omega) (by simpa using hx) hxe; rwa [← Nat.add_assoc, Nat.add_right_comm] at this) (hz.2.1 k b he)
  | q :: z, i, j + 1, p, acc, hz, h, he, hL, hL', hs, hc => by
    simp only [foldH]
    have := hs 0 (by omega)
    rw [Nat.add_zero] at this
    rw [this]
    exact foldH_addal z (i + 1) j p _ hz.2.2 (by simpa using h) he (by rwa [← Nat.add_assoc, Nat.add_right_comm] at hL) (by rwa [← Nat.add_assoc, Nat.add_right_comm] at hL')
      (fun j' hj => by have := hs (j' + 1) (by omega); rwa [← Nat.add_assoc, Nat.add_right_comm] at this) (fun j' x H' hj hx hxe => by have := hc (j' + 1) x H' (by omega) (by simpa using hx) hxe; rwa [← Nat.add_assoc, Nat.add_right_comm] at this)
/-- behind the last that is loud -/
theorem foldH_last {L : Nat → Bool} {H' : Heap} : ∀ (z : Zip) (i j : Nat) (p : Oper × Stp) (acc : Heap), z[j]? = some p → p.2.e.abs = some H' → L (i + j) = true → (∀ j' q, j < j' → z[j']? = some q → loud q.2.e = true → L (i + j') = false) → foldH L z i acc = H'
  | [], _, _, _, _, h, _, _, _ => by simp at h
  | q :: z, i, 0, p, acc, h, he, hL, hc => by
    simp at h
    subst h
    simp only [foldH]
    rw [Nat.add_zero] at hL
    rw [hL]
    simp only [if_true, abs_heap he]
    rw [foldH_congr (L := L) (L' := fun _ => false) z (i + 1) _ (fun j x hx hl => by have := hc (j + 1) x (by omega) (by simpa using hx) hl; rwa [← Nat.add_assoc, Nat.add_right_comm] at this)]
    have none : ∀ (z : Zip) (i : Nat) (acc : Heap), foldH (fun _ => false) z i acc = acc := by
      intro z
      induction z with
      | nil => intro i acc; rfl
      | cons p z ih => intro i acc; simp only [foldH, Bool.false_eq_true, if_false]; exact ih _ _
    exact none _ _ _
  | q :: z, i, j + 1, p, acc, h, he, hL, hc => by
    simp only [foldH]
    exact foldH_last z (i + 1) j p _ (by simpa using h) he (by rwa [← Nat.add_assoc, Nat.add_right_comm] at hL) (fun j' x hj hx hl => by have := hc (j' + 1) x (by omega) (by simpa using hx) hl; rwa [← Nat.add_assoc, Nat.add_right_comm] at this)
/-- a trace, index by index -/
theorem trace_at {X : Ctx} {ops : Array Oper} : ∀ {l : List Oper} {nid : Nat} {S S' : St} {tr : List Stp}, TraceOk X ops l nid S tr S' → tr.length = l.length ∧
    (∀ (i : Nat) (o : Oper) (s : Stp), l[i]? = some o → tr[i]? = some s → StepOk X ops o s ∧ nid ≤ s.nid ∧ (∀ (i0 : Nat), s.S.slots = foldS (fun j => decide (j < i0 + i)) (l.zip tr) i0 S.slots ∧ s.S.heap = foldH (fun j => decide (j < i0 + i)) (l.zip tr) i0 S.heap)) ∧
    (∀ i0, S'.slots = foldS (fun _ => true) (l.zip tr) i0 S.slots ∧ S'.heap = foldH (fun _ => true) (l.zip tr) i0 S.heap)
  | [], nid, S, S', [], h => by
    simp only [TraceOk] at h
    subst h
    exact ⟨rfl, fun i o s ho => by simp at ho, fun _ => ⟨rfl, rfl⟩⟩
  | [], _, _, _, _ :: _, h => h.elim
  | _ :: _, _, _, _, [], h => h.elim
  | o :: l, nid, S, S', s :: tr, h => by
    obtain ⟨h1, h2, h3, h4⟩ := h
    obtain ⟨k1, k2, k3⟩ := trace_at h4
    refine ⟨by simp [k1], fun i o' s' ho hs => ?_, fun i0 => ?_⟩
    · cases i with
      | zero =>
        simp at ho hs
        subst ho; subst hs
        refine ⟨h3, Nat.le_of_eq h2.symm, fun i0 => ?_⟩
        have noneS : ∀ (z : Zip) (i : Nat) (acc : List DV), i0 ≤ i → foldS (fun j => decide (j < i0 + 0)) z i acc = acc := by
          intro z
          induction z with
          | nil => intro i acc _; rfl
          | cons p z ih =>
            intro i acc hi
            simp only [foldS]
            rw [if_neg (by simp; omega)]
            exact ih _ _ (by omega)
        have noneH : ∀ (z : Zip) (i : Nat) (acc : Heap), i0 ≤ i → foldH (fun j => decide (j < i0 + 0)) z i acc = acc := by
          intro z
          induction z with
          | nil => intro i acc _; rfl
          | cons p z ih =>
            intro i acc hi
            simp only [foldH]
            rw [if_neg (by simp; omega)]
            exact ih _ _ (by omega)
        rw [noneS _ _ _ (Nat.le_refl _), noneH _ _ _ (Nat.le_refl _), h1]
        exact ⟨rfl, rfl⟩
      | succ i =>
        obtain ⟨q1, q2, q3⟩ := k2 i o' s' (by simpa using ho) (by simpa using hs)
        refine ⟨q1, ?_, fun i0 => ?_⟩
        · have : nid ≤ nextId o nid := by unfold nextId; split <;> omega
          omega
        · have := q3 (i0 + 1)
          simp only [List.zip_cons_cons, foldS, foldH]
          rw [if_pos (by simp), if_pos (by simp)]
          rw [show i0 + 1 + i = i0 + (i + 1) by omega] at this
          exact this
    · have := k3 (i0 + 1)
      simp only [List.zip_cons_cons, foldS, foldH, if_true]
      exact this
def alCount (l : List Oper) : Nat := (l.filter isAl).length
theorem trace_holes {X : Ctx} {ops : Array Oper} (hcf : CFSound X.P X.cf) : ∀ {l : List Oper} {nid : Nat} {S S' : St} {tr : List Stp}, TraceOk X ops l nid S tr S' → (∀ k, nid ≤ k → k < nid + alCount l → S.heap[k]? = some .hole) →
    Zok (l.zip tr) ∧ HolesIn (l.zip tr) S.heap ∧ ∀ (j : Nat) (p : Oper × Stp) (k : Nat) (b : DBlk), (l.zip tr)[j]? = some p → p.2.e = .al k b → nid ≤ k ∧ k < nid + alCount l
  | [], nid, S, S', [], h, _ => ⟨by simp [Zok], fun j p k b hp => by simp at hp, fun j p k b hp => by simp at hp⟩
  | [], _, _, _, _ :: _, h, _ => h.elim
  | _ :: _, _, _, _, [], h, _ => h.elim
  | o :: l, nid, S, S', s :: tr, h, hh => by
    obtain ⟨h1, h2, h3, h4⟩ := h
    have hcount : nextId o nid + alCount l = nid + alCount (o :: l) := by
      unfold nextId alCount
      cases ho : isAl o <;> simp [ho]
      omega
    have hle : nid ≤ nextId o nid := by unfold nextId; split <;> omega
    have hnext : ∀ k, nextId o nid ≤ k → k < nextId o nid + alCount l → (s.e.heap S.heap)[k]? = some .hole := by
      intro k hk1 hk2
      rw [← h1]
      refine step_holes hcf h3 (by rw [h1]; exact hh k (by omega) (by omega)) fun ho => ?_
      unfold nextId at hk1
      rw [if_pos ho] at hk1
      omega
    obtain ⟨k1, k2, k3⟩ := trace_holes hcf h4 hnext
    have hal : ∀ k b, s.e = .al k b → k = nid ∧ isAl o = true := by
      intro k b he
      rcases h3 with ⟨_, h⟩ | ⟨_, _, h⟩
      · rw [he] at h
        obtain ⟨e1, e2⟩ := al_is h
        exact ⟨e1.trans h2, e2⟩
      · rw [he] at h; cases h
    refine ⟨⟨fun H' he j q k b hq hqe => ?_, fun k b he j q k' b' hq hqe => ?_, k1⟩, fun j p k b hp he => ?_, fun j p k b hp he => ?_⟩
    · have := k2 j q k b hq hqe
      simp only [] at he
      rw [abs_heap he] at this
      exact this
    · obtain ⟨e1, e2⟩ := hal k b he
      have := (k3 j q k' b' hq hqe).1
      unfold nextId at this
      rw [if_pos e2] at this
      omega
    · cases j with
      | zero =>
        simp at hp
        subst hp
        obtain ⟨e1, e2⟩ := hal k b he
        refine hh k (by omega) ?_
        unfold alCount
        simp [e2]; omega
      | succ j =>
        obtain ⟨q1, q2⟩ := k3 j p k b (by simpa using hp) he
        exact hh k (by omega) (by omega)
    · cases j with
      | zero =>
        simp at hp
        subst hp
        obtain ⟨e1, e2⟩ := hal k b he
        unfold alCount
        simp [e2]; omega
      | succ j =>
        obtain ⟨q1, q2⟩ := k3 j p k b (by simpa using hp) he
        omega
end Go.Proofs.Ytbhnkdnfmlnajaa
