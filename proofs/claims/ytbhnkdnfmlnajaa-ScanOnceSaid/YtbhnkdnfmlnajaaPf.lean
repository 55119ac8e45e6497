/- Deep values: regions in any order that the edges allow. -/
import Derived.Test.YtbhnkdnfmlnajaaPe
namespace Go.Proofs.Ytbhnkdnfmlnajaa
open Go Go.RowKit

variable {B : Nat → Nat → Prop} {G : Gh} {w : World} {o : Oper} {a : Act}

theorem trace_facts {X : Ctx} {ops : Array Oper} {fl : Nat} : ∀ {l : List Oper} {nid : Nat} {S S' : St} {tr : List Stp} (m : Nat), TraceOk X ops l nid S tr S' →
    (∀ (j : Nat) (s : Stp), tr[j]? = some s → loud s.e = true → j < m → Facts fl s.S.heap (s.e.heap s.S.heap)) → (∀ s, tr[m]? = some s → Facts fl S.heap s.S.heap) ∧ (l.length ≤ m → Facts fl S.heap S'.heap)
  | [], nid, S, S', [], m, h, _ => by
    simp only [TraceOk] at h
    subst h
    exact ⟨fun s hs => by simp at hs, fun _ => Facts.refl _ _⟩
  | [], _, _, _, _ :: _, _, h, _ => h.elim
  | _ :: _, _, _, _, [], _, h, _ => h.elim
  | o :: l, nid, S, S', s :: tr, m, h, hf => by
    obtain ⟨h1, h2, h3, h4⟩ := h
    cases m with
    | zero =>
      refine ⟨fun s' hs => ?_, fun hl => by simp at hl⟩
      simp at hs
      subst hs
      rw [h1]; exact Facts.refl _ _
    | succ m =>
      have h0 : Facts fl S.heap (s.e.heap S.heap) := by
        cases hl : loud s.e with
        | false => rw [quiet_heap hl]; exact Facts.refl _ _
        | true => rw [← h1]; exact hf 0 s rfl hl (by omega)
      obtain ⟨k1, k2⟩ := trace_facts m h4 (fun j s' hs hl hj => hf (j + 1) s' (by simpa using hs) hl (by omega))
      exact ⟨fun s' hs => h0.trans (k1 s' (by simpa using hs)), fun hl => h0.trans (k2 (by simp at hl; omega))⟩
theorem masks_get : ∀ (l : List Oper) (acc : List Nat) (j : Nat) (o : Oper), l[j]? = some o → ∃ acc' : List Nat, acc'.length = acc.length + j ∧ (masks l acc)[acc.length + j]? = some (maskOf o acc') ∧ ∀ i, i < acc.length + j → (masks l acc)[i]? = acc'[i]?
  | [], acc, j, o, h => by simp at h
  | x :: l, acc, 0, o, h => by
    simp at h
    subst h
    have pre : ∀ (l : List Oper) (acc : List Nat) (i : Nat), i < acc.length → (masks l acc)[i]? = acc[i]? := by
      intro l
      induction l with
      | nil => intro acc i _; rfl
      | cons y l ih =>
        intro acc i hi
        simp only [masks]
        rw [ih _ _ (by simp; omega), List.getElem?_append_left hi]
    refine ⟨acc, by simp, ?_, fun i hi => ?_⟩
    · simp only [masks, Nat.add_zero]
      rw [pre _ _ _ (by simp)]
      simp
    · simp only [masks]
      rw [pre _ _ _ (by simp; omega), List.getElem?_append_left (by omega)]
  | x :: l, acc, j + 1, o, h => by
    obtain ⟨acc', h1, h2, h3⟩ := masks_get l (acc ++ [maskOf x acc]) j o (by simpa using h)
    simp only [List.length_append, List.length_cons, List.length_nil] at h1 h2 h3
    refine ⟨acc', by omega, ?_, fun i hi => ?_⟩
    · simp only [masks]
      rw [show acc.length + (j + 1) = acc.length + (0 + 1) + j by omega]
      exact h2
    · simp only [masks]
      exact h3 i (by omega)
theorem mask_bit (o : Oper) (acc : List Nat) (i : Nat) : (maskOf o acc).testBit i = true → ∃ e, e ∈ o.after ∧ Region.binds .any e = true ∧ (i = e.on ∨ (acc.getD e.on 0).testBit i = true) := by
  have key : ∀ (l : List Edge) (s : Nat), (l.foldl (fun s e => if Region.binds .any e then s ||| (2 ^ e.on ||| acc.getD e.on 0) else s) s).testBit i = true → s.testBit i = true ∨ ∃ e, e ∈ l ∧ Region.binds .any e = true ∧ (i = e.on ∨ (acc.getD e.on 0).testBit i = true) := by
    intro l
    induction l with
    | nil => intro s h; exact .inl h
    | cons e l ih =>
      intro s h
      rw [List.foldl_cons] at h
      rcases ih _ h with h1 | ⟨e', h1, h2, h3⟩
      · split at h1
        · rename_i hb
          rw [Nat.testBit_or, Nat.testBit_or, Bool.or_eq_true, Bool.or_eq_true] at h1
          rcases h1 with h1 | h1 | h1
          · exact .inl h1
          · right
            refine ⟨e, by simp, hb, .inl ?_⟩
            rw [Nat.testBit_two_pow] at h1
            exact (by simpa using h1 : e.on = i).symm
          · exact .inr ⟨e, by simp, hb, .inr h1⟩
        · exact .inl h1
      · exact .inr ⟨e', by simp [h1], h2, h3⟩
  intro h
  rcases key _ _ h with h1 | ⟨e, h1, h2, h3⟩
  · simp at h1
  · exact ⟨e, by simpa using h1, h2, h3⟩
/-- which operations are done is closed under forerunners -/
def Down (ops : Array Oper) (L : Nat → Bool) : Prop := ∀ (j : Nat) (o : Oper), ops[j]? = some o → L j = true → ∀ e ∈ o.after, Region.binds .any e = true → L e.on = true
theorem anc {ops : Array Oper} {L : Nat → Bool} (hD : Down ops L) (hE : ∀ (j : Nat) (o : Oper), ops[j]? = some o → ∀ e ∈ o.after, Region.binds .any e = true → e.on < j) : ∀ (j : Nat) (o : Oper) (i : Nat), ops[j]? = some o → (∀ e ∈ o.after, Region.binds .any e = true → L e.on = true) →
    ((masks ops.toList []).getD j 0).testBit i = true → L i = true := by
  intro j
  induction j using Nat.strongRecOn with
  | _ j ih =>
    intro o i ho hd hb
    obtain ⟨acc, h1, h2, h3⟩ := masks_get ops.toList [] j o (by simpa using ho)
    simp only [List.length_nil, Nat.zero_add] at h1 h2 h3
    simp only [List.getD, h2, Option.getD_some] at hb
    obtain ⟨e, he, hbd, hc⟩ := mask_bit o acc i hb
    have hlt := hE j o ho e he hbd
    rcases hc with rfl | hc
    · exact hd e he hbd
    · have hon : ∃ o', ops[e.on]? = some o' := by
        have : j < ops.size := (Array.getElem?_eq_some_iff.1 ho).1
        exact ⟨ops[e.on], by simp⟩
      obtain ⟨o', ho'⟩ := hon
      refine ih e.on hlt o' i ho' (hD e.on o' ho' (hd e he hbd)) ?_
      simp only [List.getD, h3 e.on hlt]
      exact hc
theorem drawOk_spec {ops : Array Oper} {cs : List Nat} (h : drawOk ops cs = true) :
    (∀ (j : Nat) (o : Oper), ops[j]? = some o → ∀ e ∈ o.after, Region.binds .any e = true → e.on < j) ∧
    (∀ (i j : Nat) (oi oj : Oper), ops[i]? = some oi → ops[j]? = some oj → i < j → clash ops oi oj (cs.getD i 2) (cs.getD j 2) = true → ((masks ops.toList []).getD j 0).testBit i = true) := by
  unfold drawOk at h
  simp only [List.all_eq_true, List.mem_range, Bool.and_eq_true, Bool.or_eq_true, Bool.not_eq_true', decide_eq_true_eq] at h
  refine ⟨fun j o ho e he hb => ?_, fun i j oi oj hi hj hij hc => ?_⟩
  · have hlt : j < ops.size := (Array.getElem?_eq_some_iff.1 ho).1
    have := (h j (by simpa using hlt)).1 e (by simp [List.getD, ho]; exact he)
    rcases this with h1 | h1
    · rw [hb] at h1; cases h1
    · exact h1
  · have hlt : j < ops.size := (Array.getElem?_eq_some_iff.1 hj).1
    have := (h j (by simpa using hlt)).2 i hij
    simp only [List.getD, Array.getElem?_toList, hi, hj, Option.getD_some] at this hc
    rcases this with h1 | h1
    · rw [hc] at h1; cases h1
    · exact h1
theorem zip_get {ops : Array Oper} {tr : List Stp} {j : Nat} {p : Oper × Stp} (h : (ops.toList.zip tr)[j]? = some p) : ops[j]? = some p.1 ∧ tr[j]? = some p.2 := by
  rw [List.getElem?_zip_eq_some] at h
  simpa using h
theorem zip_mk {ops : Array Oper} {tr : List Stp} {j : Nat} {o : Oper} {s : Stp} (h1 : ops[j]? = some o) (h2 : tr[j]? = some s) : (ops.toList.zip tr)[j]? = some (o, s) := by
  rw [List.getElem?_zip_eq_some]
  simpa using ⟨h1, h2⟩
theorem cls_loud {e : Eff} (h : loud e = true) : e.cls = 2 ∨ e.cls = 3 ∨ e.cls = 5 := by cases e <;> simp_all [loud, Eff.cls]
theorem abs_cls {e : Eff} {H' : Heap} (h : e.abs = some H') : e.cls = 2 ∨ e.cls = 5 := by cases e <;> simp_all [Eff.abs, Eff.cls]
theorem ready_all {ops : Array Oper} {listed : Array Bool} (hE : ∀ (j : Nat) (o : Oper), ops[j]? = some o → ∀ e ∈ o.after, Region.binds .any e = true → e.on < j) (hs : listed.size = ops.size) (hr : Region.ready .any ops listed = []) : ∀ j, j < ops.size → listed.getD j false = true := by
  intro j
  induction j using Nat.strongRecOn with
  | _ j ih =>
    intro hj
    cases hl : listed.getD j false with
    | true => rfl
    | false =>
      have hm : j ∈ Region.ready .any ops listed := by
        rw [mem_ready]
        refine ⟨?_, ops[j], by simp, fun e he hb => ?_⟩
        · simp only [Array.getD, hs, hj, dif_pos] at hl ⊢; exact hl
        · have := hE j ops[j] (by simp) e he hb
          exact ih e.on this (by omega)
      rw [hr] at hm; simp at hm
theorem count_set {listed : Array Bool} {i n : Nat} (hs : listed.size = n) (hi : i < n) (hl : listed.getD i true = false) : (List.range n).countP (fun j => !(listed.setIfInBounds i true).getD j true) + 1 = (List.range n).countP (fun j => !listed.getD j true) := by
  have key : ∀ m, m ≤ n → (List.range m).countP (fun j => !(listed.setIfInBounds i true).getD j true) + (if i < m then 1 else 0) = (List.range m).countP (fun j => !listed.getD j true) := by
    intro m
    induction m with
    | zero => intro _; simp
    | succ m ih =>
      intro hm
      have := ih (by omega)
      have e1 : ∀ f : Nat → Bool, (List.range (m + 1)).countP f = (List.range m).countP f + (if f m = true then 1 else 0) := by
        intro f
        rw [List.range_succ, List.countP_append]
        simp [List.countP_cons]
      rw [e1, e1]
      by_cases hmi : m = i
      · subst hmi
        have h1 : (listed.setIfInBounds m true).getD m true = true := by simp [Array.getD, hs, hi]
        rw [h1, hl]
        rw [if_neg (by omega)] at this
        rw [if_neg (by simp), if_pos (by omega), if_pos (by simp)]
        omega
      · have h1 : (listed.setIfInBounds i true).getD m true = listed.getD m true := getD_set_ne true (Ne.symm hmi)
        rw [h1]
        by_cases him : i < m
        · rw [if_pos him] at this
          rw [if_pos (show i < m + 1 by omega)]
          omega
        · rw [if_neg him] at this
          rw [if_neg (show ¬ i < m + 1 by omega)]
          omega
  have := key n (Nat.le_refl _)
  rw [if_pos hi] at this
  exact this
structure JJ (X : Ctx) (ops : Array Oper) (z : Zip) (S0 : St) (B : Nat → Nat → Prop) (G0 : Gh) (w0 : World) (listed : Array Bool) (a : Act) (w : World) (G : Gh) : Prop where
  size : listed.size = ops.size
  down : Down ops (fun j => listed.getD j false)
  hr : HR B G w (foldH (fun j => listed.getD j false) z 0 S0.heap)
  sr : SR (ImmB B G) w G (foldS (fun j => listed.getD j false) z 0 S0.slots) a
  keep : Keep G0 w0 G w
  facts : ∀ (j : Nat) (p : Oper × Stp), z[j]? = some p → listed.getD j false = true → Facts X.fl p.2.S.heap (p.2.e.heap p.2.S.heap)
theorem draw_any {X : Ctx} {ops : Array Oper} (hP : NoOwn X.P) (hcf : CFSound X.P X.cf) {Q : Exit → Act → World → Prop} {S0 S' : St} {tr : List Stp} {nid : Nat} {G0 : Gh} {w0 : World} (ht : TraceOk X ops ops.toList nid S0 tr S') (hok : drawOk ops (tr.map fun s => s.e.cls) = true)
    (hB : ∀ b j, w0.heap.size ≤ b → B b j) (hD0 : Dist G0) (hfl : X.fl ≤ S0.heap.length) (hnid : X.fl ≤ nid) (hh : ∀ k, nid ≤ k → k < nid + alCount ops.toList → S0.heap[k]? = some .hole)
    (hQ : ∀ a' w' G', Keep G0 w0 G' w' → HR B G' w' S'.heap → SR (ImmB B G') w' G' S'.slots a' → Facts X.fl S0.heap S'.heap → Q .normal a' w') :
    ∀ (fuel : Nat) (listed : Array Bool) (a : Act) (w : World) (G : Gh), JJ X ops (ops.toList.zip tr) S0 B G0 w0 listed a w G → (List.range ops.size).countP (fun j => !listed.getD j true) = fuel → wpAny X.P .any ops Q fuel listed a w := by
  obtain ⟨hE1, hE2⟩ := drawOk_spec hok
  obtain ⟨hlen, hat, hend⟩ := trace_at ht
  obtain ⟨hZ, hHI, hids⟩ := trace_holes hcf ht hh
  have done : ∀ (listed : Array Bool) (a : Act) (w : World) (G : Gh), JJ X ops (ops.toList.zip tr) S0 B G0 w0 listed a w G → Region.ready .any ops listed = [] → Q .normal a w := by
    intro listed a w G J hr
    have hall := ready_all hE1 J.size hr
    have hlt : ∀ (j : Nat) (p : Oper × Stp), (ops.toList.zip tr)[j]? = some p → j < ops.size := fun j p hp => (Array.getElem?_eq_some_iff.1 (zip_get hp).1).1
    have hS : foldS (fun j => listed.getD j false) (ops.toList.zip tr) 0 S0.slots = S'.slots := by
      rw [(hend 0).1]
      refine List.ext_getElem? fun t => foldS_congr t _ 0 _ _ rfl rfl fun j p hp _ => ?_
      rw [Nat.zero_add]; exact hall j (hlt j p hp)
    have hH : foldH (fun j => listed.getD j false) (ops.toList.zip tr) 0 S0.heap = S'.heap := by
      rw [(hend 0).2]
      refine foldH_congr _ 0 _ fun j p hp _ => ?_
      rw [Nat.zero_add]; exact hall j (hlt j p hp)
    have h1 := J.hr
    have h2 := J.sr
    rw [hH] at h1
    rw [hS] at h2
    refine hQ a w G J.keep h1 h2 ((trace_facts ops.toList.length ht fun j s hs _ hj => ?_).2 (Nat.le_refl _))
    have hj' : j < ops.size := by simpa using hj
    exact J.facts j (ops[j], s) (zip_mk (by simp) hs) (hall j hj')
  intro fuel
  induction fuel with
  | zero =>
    intro listed a w G J hc
    have hr : Region.ready .any ops listed = [] := by
      cases hr : Region.ready .any ops listed with
      | nil => rfl
      | cons i r =>
        have hm : i ∈ Region.ready .any ops listed := by rw [hr]; simp
        obtain ⟨h1, o, ho, _⟩ := mem_ready.1 hm
        have hi : i < ops.size := (Array.getElem?_eq_some_iff.1 ho).1
        have := List.countP_eq_zero.1 hc i (by simpa using hi)
        simp [h1] at this
    exact ⟨hr, done listed a w G J hr⟩
  | succ fuel ih =>
    intro listed a w G J hc
    refine ⟨done listed a w G J, fun i hm => ?_⟩
    obtain ⟨h1, o, ho, hdep⟩ := mem_ready.1 hm
    have hi : i < ops.size := (Array.getElem?_eq_some_iff.1 ho).1
    have hLi : listed.getD i false = false := by
      simp only [Array.getD, J.size, hi, dif_pos] at h1 ⊢; exact h1
    obtain ⟨s, hs⟩ : ∃ s, tr[i]? = some s := ⟨tr[i]'(by rw [hlen]; simpa using hi), List.getElem?_eq_getElem _⟩
    have hz := zip_mk ho hs
    obtain ⟨hstep, hsn, hSi⟩ := hat i o s (by simpa using ho) hs
    obtain ⟨hSs, hSh⟩ := hSi 0
    simp only [Nat.zero_add] at hSs hSh
    have hcls : ∀ (j : Nat) (p : Oper × Stp), (ops.toList.zip tr)[j]? = some p → (tr.map fun s => s.e.cls).getD j 2 = p.2.e.cls := by
      intro j p hp
      simp [List.getD, (zip_get hp).2]
    have hci := hcls i _ hz
    simp only [] at hci
    have before : ∀ (j : Nat) (p : Oper × Stp), (ops.toList.zip tr)[j]? = some p → j < i → clash ops p.1 o p.2.e.cls s.e.cls = true → listed.getD j false = true := by
      intro j p hp hj hcl
      have := hE2 j i p.1 o (zip_get hp).1 ho hj (by rw [hcls j p hp, hci]; exact hcl)
      exact anc J.down hE1 i o j ho hdep this
    have after : ∀ (j : Nat) (p : Oper × Stp), (ops.toList.zip tr)[j]? = some p → i < j → clash ops o p.1 s.e.cls p.2.e.cls = true → listed.getD j false = false := by
      intro j p hp hj hcl
      have hb := hE2 i j o p.1 ho (zip_get hp).1 hj (by rw [hcls j p hp, hci]; exact hcl)
      cases hl : listed.getD j false with
      | false => rfl
      | true =>
        have := anc J.down hE1 j p.1 i (zip_get hp).1 (J.down j p.1 (zip_get hp).1 hl) hb
        rw [hLi] at this; cases this
    have slot : ∀ t, t ∈ namesOf ops o → (foldS (fun j => listed.getD j false) (ops.toList.zip tr) 0 S0.slots)[t]? = s.S.slots[t]? := by
      intro t htn
      rw [hSs]
      refine foldS_congr t _ 0 _ _ rfl rfl fun j p hp hd => ?_
      rw [Nat.zero_add]
      rcases Nat.lt_trichotomy j i with hj | hj | hj
      · rw [before j p hp hj (by simp [clash, hd, htn])]
        simp [hj]
      · subst hj; rw [hLi]; simp
      · rw [after j p hp hj (by simp [clash, hd, htn])]
        simp; omega
    have hops : ∀ t, Operand.tmp t ∈ o.op.operands.toList → t ∈ namesOf ops o := by
      intro t ht
      simp only [namesOf, List.mem_append, List.mem_filterMap]
      exact .inl (.inr ⟨_, ht, rfl⟩)
    have hev : ∀ H, evalO X.P X.cf X.md X.fl s.nid o (foldS (fun j => listed.getD j false) (ops.toList.zip tr) 0 S0.slots) H = evalO X.P X.cf X.md X.fl s.nid o s.S.slots H := fun H => evalO_congr fun t ht => slot t (hops t ht)
    have hwant : wantD ops o (foldS (fun j => listed.getD j false) (ops.toList.zip tr) 0 S0.slots) = wantD ops o s.S.slots := wantD_congr slot
    have loudEq : (s.e.cls = 2 ∨ s.e.cls = 4 ∨ s.e.cls = 5) → foldH (fun j => listed.getD j false) (ops.toList.zip tr) 0 S0.heap = s.S.heap := by
      intro hc2
      rw [hSh]
      refine foldH_congr _ 0 _ fun j p hp hl => ?_
      rw [Nat.zero_add]
      have hcl := cls_loud hl
      rcases Nat.lt_trichotomy j i with hj | hj | hj
      · rw [before j p hp hj (by rcases hc2 with h | h | h <;> rcases hcl with h' | h' | h' <;> simp [clash, h, h'])]
        simp [hj]
      · subst hj; rw [hLi]; simp
      · rw [after j p hp hj (by rcases hc2 with h | h | h <;> rcases hcl with h' | h' | h' <;> simp [clash, h, h'])]
        simp; omega
    have hag : Agree s.e s.S.heap (foldH (fun j => listed.getD j false) (ops.toList.zip tr) 0 S0.heap) := by
      cases he : s.e with
      | q => trivial
      | rd =>
        rw [hSh]
        refine foldH_near _ 0 _ _ hZ hHI hHI (fun k t cs hx => .inl hx) (fun j p H' hp hpe => ?_) (fun j p H' hp hpe hl => ?_) (fun j p H' hp hpe hl k t cs hx => ?_)
        · rw [Nat.zero_add]
          rcases Nat.lt_trichotomy j i with hj | hj | hj
          · rw [before j p hp hj (by rw [hpe, he]; simp [clash, Eff.cls])]
            simp [hj]
          · subst hj; rw [hLi]; simp
          · rw [after j p hp hj (by rw [hpe, he]; simp [clash, Eff.cls])]
            simp; omega
        · rw [Nat.zero_add] at hl ⊢
          rcases Nat.lt_trichotomy j i with hj | hj | hj
          · simp [hj]
          · subst hj; rw [hLi] at hl; cases hl
          · rw [after j p hp hj (by rw [hpe, he]; simp [clash, Eff.cls])] at hl
            cases hl
        · rw [Nat.zero_add] at hl
          have hji : j < i := by simpa using hl
          obtain ⟨hst, _, hSj⟩ := hat j p.1 p.2 (by simpa using (zip_get hp).1) (zip_get hp).2
          have hc : TkOk p.2.S.heap H' := by
            rcases hst with ⟨_, h2⟩ | ⟨_, _, h3⟩
            · rw [hpe] at h2
              exact tk_cells h2
            · rw [hpe] at h3; cases h3
          have := hc k t cs hx
          rw [(hSj 0).2, foldH_upto (L' := fun j' => decide (j' < i)) _ 0 j _ (fun j' hj' => by simp; omega) (fun j' hj' => by simp; omega)] at this
          exact this
      | ro => exact loudEq (.inr (.inl (by rw [he]; rfl)))
      | ch H' => exact loudEq (.inl (by rw [he]; rfl))
      | tk H' => exact loudEq (.inr (.inr (by rw [he]; rfl)))
      | al k b =>
        refine foldH_alhole _ 0 i _ _ hZ hHI hz he (by rw [Nat.zero_add]; exact hLi) fun j q H' hj hq hqe => ?_
        rw [Nat.zero_add]
        exact after j q hq hj (by have hc3 : s.e.cls = 3 := (by rw [he]; rfl); rcases abs_cls hqe with h | h <;> simp [clash, hc3, h])
    have hBw : ∀ b j, w.heap.size ≤ b → B b j := fun b j hb => hB b j (Nat.le_trans J.keep.size hb)
    have hflS : s.e.wr → X.fl ≤ s.S.heap.length := by
      intro hc2
      refine Nat.le_trans hfl ((trace_facts (fl := X.fl) i ht fun j s' hs' hl hj => ?_).1 s hs).2
      have hjo : j < ops.size := by omega
      have hp := zip_mk (show ops[j]? = some ops[j] by simp) hs'
      refine J.facts j _ hp (before j _ hp hj ?_)
      rcases hc2 with h | h <;> rcases cls_loud hl with h' | h' | h' <;> simp [clash, h, h']
    have hnidS : X.fl ≤ s.nid := Nat.le_trans hnid hsn
    have hfact := step_facts hP hcf hstep hBw J.hr J.sr (hev _) hag hflS hnidS
    refine step_sound hP hcf ho hstep hBw J.hr J.sr hwant (hev _) hag hflS hnidS fun V w' G' hK hH' hr => ?_
    have hset : ∀ j, (listed.setIfInBounds i true).getD j false = if j = i then true else listed.getD j false := by
      intro j
      by_cases hj : j = i
      · subst hj; simp [Array.getD, J.size, hi]
      · rw [if_neg hj, getD_set_ne false (Ne.symm hj)]
    have hfold : foldS (fun j => (listed.setIfInBounds i true).getD j false) (ops.toList.zip tr) 0 S0.slots = putD (foldS (fun j => listed.getD j false) (ops.toList.zip tr) 0 S0.slots) o.dst s.d := by
      refine List.ext_getElem? fun t => ?_
      rw [putD_get]
      by_cases hd : o.dst = some t
      · by_cases hlt : t < (foldS (fun j => listed.getD j false) (ops.toList.zip tr) 0 S0.slots).length
        · rw [if_pos ⟨hd, hlt⟩]
          refine foldS_last t _ 0 i (o, s) _ hz hd (by rw [Nat.zero_add, hset, if_pos rfl]) (fun j q hj hq hqd => ?_) (by rw [foldS_len] at hlt; exact hlt)
          rw [Nat.zero_add, hset, if_neg (by omega)]
          refine after j q hq hj ?_
          have : t ∈ namesOf ops o := by simp [namesOf, hd]
          simp [clash, hqd, this]
        · rw [if_neg (fun h => hlt h.2)]
          rw [List.getElem?_eq_none (by rw [foldS_len]; rw [foldS_len] at hlt; omega), List.getElem?_eq_none (by omega)]
      · rw [if_neg (fun h => hd h.1)]
        refine foldS_congr t _ 0 _ _ rfl rfl fun j p hp hpd => ?_
        rw [Nat.zero_add, hset]
        by_cases hj : j = i
        · subst hj
          rw [hz] at hp; cases hp
          exact absurd hpd hd
        · rw [if_neg hj]
    have hfoldH : foldH (fun j => (listed.setIfInBounds i true).getD j false) (ops.toList.zip tr) 0 S0.heap = s.e.heap (foldH (fun j => listed.getD j false) (ops.toList.zip tr) 0 S0.heap) := by
      cases hl : loud s.e with
      | false =>
        rw [quiet_heap hl]
        refine foldH_congr _ 0 _ fun j p hp hpl => ?_
        rw [Nat.zero_add, hset]
        by_cases hj : j = i
        · subst hj
          rw [hz] at hp; cases hp
          rw [hl] at hpl; cases hpl
        · rw [if_neg hj]
      | true =>
        cases he : s.e with
        | ch H' =>
          refine foldH_last _ 0 i (o, s) _ hz (by show s.e.abs = _; rw [he]; rfl) (by rw [Nat.zero_add, hset, if_pos rfl]) fun j q hj hq hql => ?_
          rw [Nat.zero_add, hset, if_neg (by omega)]
          refine after j q hq hj ?_
          have hc2 : s.e.cls = 2 := by rw [he]; rfl
          rcases cls_loud hql with h' | h' | h' <;> simp [clash, hc2, h']
        | tk H' =>
          refine foldH_last _ 0 i (o, s) _ hz (by show s.e.abs = _; rw [he]; rfl) (by rw [Nat.zero_add, hset, if_pos rfl]) fun j q hj hq hql => ?_
          rw [Nat.zero_add, hset, if_neg (by omega)]
          refine after j q hq hj ?_
          have hc2 : s.e.cls = 5 := by rw [he]; rfl
          rcases cls_loud hql with h' | h' | h' <;> simp [clash, hc2, h']
        | al k b =>
          refine foldH_addal _ 0 i (o, s) _ hZ hz he (by rw [Nat.zero_add]; exact hLi) (by rw [Nat.zero_add, hset, if_pos rfl]) (fun j hj => by rw [Nat.zero_add, hset, if_neg hj]) fun j q H' hj hq hqe => ?_
          rw [Nat.zero_add]
          exact after j q hq hj (by have hc3 : s.e.cls = 3 := (by rw [he]; rfl); rcases abs_cls hqe with h | h <;> simp [clash, hc3, h])
        | q => rw [he] at hl; cases hl
        | rd => rw [he] at hl; cases hl
        | ro => rw [he] at hl; cases hl
    refine ih _ _ w' G' ⟨by simp [J.size], fun j o' ho' hl e he hb => ?_, by rw [hfoldH]; exact hH', by rw [hfold]; exact (J.sr.keep hK).put o.dst hr, Keep.trans hD0 J.keep hK, fun j p hp hl => ?_⟩ ?_
    · simp only [hset] at hl ⊢
      split at hl
      · rename_i hj
        subst hj
        rw [ho] at ho'; cases ho'
        have := hdep e he hb
        split
        · rfl
        · exact this
      · have := J.down j o' ho' hl e he hb
        split
        · rfl
        · exact this
    · rw [hset] at hl
      split at hl
      · rename_i hj
        subst hj
        rw [hz] at hp; cases hp
        exact hfact
      · exact J.facts j p hp hl
    · have := count_set J.size hi h1
      omega
/-- a region in any order -/
theorem draw_sound {X : Ctx} {ops : Array Oper} {id : Nat} (hM : X.P.follows .mixedOrders = true) (hP : NoOwn X.P) (hcf : CFSound X.P X.cf) {Q : Exit → Act → World → Prop} {S S' : St} {tr : List Stp} (ht : TraceOk X ops ops.toList S.heap.length ⟨S.slots, S.heap ++ holes ops.toList⟩ tr S') (hok : drawOk ops (tr.map fun s => s.e.cls) = true)
    (hB : ∀ b j, w.heap.size ≤ b → B b j) (hH : HR B G w S.heap) (hs : SR (ImmB B G) w G S.slots a) (hfl : X.fl ≤ S.heap.length)
    (hQ : ∀ a' w' G', Keep G w G' w' → HR B G' w' S'.heap → SR (ImmB B G') w' G' S'.slots a' → Facts X.fl S.heap S'.heap → Q .normal a' w') : (Code.region id ops true).wp X.P Q a w := by
  refine wp_region_any hM ?_
  rw [holes_eq] at ht
  obtain ⟨h1, h2⟩ := hr_holes (hH.draw (w.drawn + 1)) (alCount ops.toList)
  have hkd := Keep.trans hH.dist (Keep.draw G w (w.drawn + 1)) h2
  have hf0 : Facts X.fl S.heap (S.heap ++ List.replicate (alCount ops.toList) DBlk.hole) := ⟨fun k hk => List.getElem?_append_left (by omega), by simp⟩
  have hnone : ∀ j, (Array.replicate ops.size false).getD j false = false := by intro j; simp [Array.getD]
  have noneS : ∀ (z : Zip) (i : Nat) (acc : List DV), foldS (fun j => (Array.replicate ops.size false).getD j false) z i acc = acc := by
    intro z
    induction z with
    | nil => intro i acc; rfl
    | cons p z ih =>
      intro i acc
      simp only [foldS]
      rw [if_neg (by rw [hnone i]; simp)]
      exact ih _ _
  have noneH : ∀ (z : Zip) (i : Nat) (acc : Heap), foldH (fun j => (Array.replicate ops.size false).getD j false) z i acc = acc := by
    intro z
    induction z with
    | nil => intro i acc; rfl
    | cons p z ih =>
      intro i acc
      simp only [foldH]
      rw [if_neg (by rw [hnone i]; simp)]
      exact ih _ _
  refine draw_any (B := B) (G0 := G ++ List.replicate (alCount ops.toList) GK.hole) (w0 := { w with drawn := w.drawn + 1 }) hP hcf ht hok hB h1.dist (Nat.le_trans hfl hf0.2) hfl (fun k hk1 hk2 => by
    simp only []
    rw [List.getElem?_append_right hk1, List.getElem?_replicate, if_pos (by omega)]) (fun a' w' G' hK hH' hs' hf => hQ a' w' G' (Keep.trans hH.dist hkd hK) hH' hs' (hf0.trans hf)) _ _ _ _ (G ++ List.replicate (alCount ops.toList) GK.hole) ⟨by simp, fun j o _ hl => (by have := hnone j; simp only [] at hl; rw [this] at hl; cases hl), (by rw [noneH]; exact h1), (by rw [noneS]; exact hs.keep hkd), Keep.refl _ _, fun j p _ hl => (by rw [hnone] at hl; cases hl)⟩ ?_
  have : ∀ m, m ≤ ops.size → (List.range m).countP (fun j => !(Array.replicate ops.size false).getD j true) = m := by
    intro m hm
    rw [List.countP_eq_length.2]
    · simp
    · intro j hj
      have : j < ops.size := by have := List.mem_range.1 hj; omega
      simp [Array.getD, this]
  exact this _ (Nat.le_refl _)
end Go.Proofs.Ytbhnkdnfmlnajaa
