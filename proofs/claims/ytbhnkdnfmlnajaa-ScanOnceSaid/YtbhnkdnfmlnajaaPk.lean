/- The evaluator with its states FORCED to literal lists between operations, so that the kernel can compare it with a printed function. -/
import Derived.Test.YtbhnkdnfmlnajaaPg
namespace Go.Proofs.Ytbhnkdnfmlnajaa
open Go
def forceL {β : Type} : List DV → (List DV → β) → β
  | [], k => k []
  | x :: l, k => forceL l fun ys => k (x :: ys)
theorem forceL_eq {β : Type} (l : List DV) (k : List DV → β) : forceL l k = k l := by
  induction l generalizing k with
  | nil => rfl
  | cons x l ih => exact ih _
abbrev KF := List DV → Heap → R
/-- the value of a move, read off at once -/
def getF {β : Type} (s : List DV) (t : Nat) (k : DV → β) : β := match s, t with
  | [], _ => k .any
  | x :: _, 0 => k x
  | _ :: s, t + 1 => getF s t k
theorem getF_eq {β : Type} (s : List DV) (t : Nat) (k : DV → β) : getF s t k = k (s.getD t .any) := by
  induction s generalizing t with
  | nil => cases t <;> rfl
  | cons x s ih => cases t with
    | zero => rfl
    | succ t => exact ih t
def evalK {β : Type} (s : List DV) (x : Operand) (k : DV → β) : β := match x with
  | .tmp t => getF s t k
  | .const v => k (ofVal v)
  | .global g => k (.flat (.pointer (some ⟨g, 0, none⟩)))
  | .func f => k (.flat (.func (.func f) #[] #[]))
theorem evalK_eq {β : Type} (s : List DV) (x : Operand) (k : DV → β) : evalK s x k = k (evalD s x) := by
  cases x with
  | tmp t => exact getF_eq s t k
  | _ => rfl
def moveOf (o : Oper) : Option Operand := match o.guard with
  | none => match o.op with
    | .move x => some x
    | .assign x => some x
    | _ => none
  | some _ => none
def opsF (X : Ctx) (ops : Array Oper) : List Oper → Nat → List Nat → List DV → Heap → (List Nat → KF) → R
  | [], _, cs, s, H, k => k cs s H
  | o :: l, nid, cs, s, H, k => match moveOf o with
    | some x => evalK s x fun d => forceL (putD s o.dst d) fun s' => opsF X ops l nid (0 :: cs) s' H k
    | none =>
    Option.bind (wantE (wantD ops o s) (evalO X.P X.cf X.md X.fl nid o s H)) fun p =>
      forceL (putD s o.dst p.1) fun s' => match isAl o with
        | true => opsF X ops l (nid + 1) (p.2.cls :: cs) s' (p.2.heap H) k
        | false => opsF X ops l nid (p.2.cls :: cs) s' (p.2.heap H) k
theorem opsF_eq (X : Ctx) (ops : Array Oper) (l : List Oper) : ∀ nid cs s H k, opsF X ops l nid cs s H k = opsK X ops l nid cs ⟨s, H⟩ fun cs S => k cs S.slots S.heap := by
  induction l with
  | nil => intros; rfl
  | cons o l ih =>
    intro nid cs s H k
    show (match moveOf o with | some x => _ | none => _) = _
    cases hm : moveOf o with
    | some x =>
      dsimp only
      rw [evalK_eq, forceL_eq, ih]
      have ho : o.guard = none ∧ (o.op = .move x ∨ o.op = .assign x) := by
        unfold moveOf at hm
        split at hm
        · next hg =>
          refine ⟨hg, ?_⟩
          split at hm
          · next he => cases hm; exact .inl he
          · next he => cases hm; exact .inr he
          · cases hm
        · cases hm
      show _ = opK X ops nid o ⟨s, H⟩ _
      unfold opK
      have hw : wantD ops o s = some true := by unfold wantD; rw [ho.1]
      have hal : isAl o = false := by unfold isAl; rcases ho.2 with h | h <;> rw [h]
      have he : evalO X.P X.cf X.md X.fl nid o s H = some (evalD s x, .q) := by
        rcases ho.2 with h | h <;> (unfold evalO; rw [h])
      dsimp only
      rw [hw, he, hal]
      rfl
    | none =>
    dsimp only
    show Option.bind _ _ = Option.bind _ _
    congr 1
    funext p
    rw [forceL_eq]
    show (match isAl o with | true => _ | false => _) = opsK X ops l (if isAl o = true then nid + 1 else nid) _ _ _
    cases isAl o <;> exact ih _ _ _ _ _
def holesF (hs : Heap) (H : Heap) (k : Heap → R) : R := match hs with | [] => k H | h :: hs => k (H ++ h :: hs)
theorem holesF_eq (l : List Oper) (H : Heap) (k : Heap → R) : holesF (holes l) H k = k (addHoles l H) := by
  unfold holesF addHoles
  cases holes l <;> rfl
def execF (X : Ctx) (n : Nat) : Code → List (List Nat × List Nat) → List DV → Heap → (Ex → KF) → R
  | .skip, _, s, H, k => k .normal s H
  | .region _ ops draw, _, s, H, k => holesF (holes ops.toList) H fun H' =>
    opsF X ops ops.toList H.length [] s H' fun cs s' H' => drawK draw ops cs (k .normal s' H')
  | .seq a b, ks, s, H, k => execF X n a (ks.take (nloops a)) s H fun x s' H' => match x with | .normal => execF X n b (ks.drop (nloops a)) s' H' k | .exit i => k (.exit i) s' H' | .ret => k .ret s' H'
  | .cond c a b, ks, s, H, k => condR (evalD s c) (execF X n a (ks.take (nloops a)) s H k) (execF X n b (ks.drop (nloops a)) s H k)
  | .block id b, ks, s, H, k => execF X n b ks s H fun x s' H' => match x with | .normal => k .normal s' H' | .exit i => if i = id then k .normal s' H' else k (.exit i) s' H' | .ret => k .ret s' H'
  | .loop b, ks, s, H, k => forceL (forget (ks.headD ([], [])).1 X.N s) fun s' => loopN (ks.headD ([], [])).1 (ks.headD ([], [])).2 X.N (execD X n b ks.tail) n ⟨s', H⟩ fun x S' => match x with | .normal => none | .exit i => forceL (forget (ks.headD ([], [])).2 X.N S'.slots) (fun s'' => k (.exit i) s'' S'.heap) | .ret => forceL (forget (ks.headD ([], [])).2 X.N S'.slots) fun s'' => k .ret s'' S'.heap
  | .scope b, ks, s, H, k => execF X n b ks s H k
  | .exit id, _, s, H, k => k (.exit id) s H
  | .ret, _, s, H, k => k .ret s H
  | _, _, _, _, _ => none
theorem execF_eq (X : Ctx) (n : Nat) : ∀ (c : Code) ks s H k, execF X n c ks s H k = execD X n c ks ⟨s, H⟩ fun x S => k x S.slots S.heap := by
  intro c
  induction c with
  | seq a b iha ihb =>
    intro ks s H k
    show execF X n a _ s H _ = execD X n a _ _ _
    rw [iha]
    congr 1
    funext x S
    cases x with
    | normal => exact ihb _ _ _ _
    | exit i => rfl
    | ret => rfl
  | cond c a b iha ihb =>
    intro ks s H k
    show condR _ _ _ = condR _ _ _
    rw [iha, ihb]
  | block id b ih =>
    intro ks s H k
    show execF X n b ks s H _ = execD X n b ks _ _
    rw [ih]
    congr 1
    funext x S
    cases x <;> rfl
  | loop b ih =>
    intro ks s H k
    show forceL _ _ = loopN _ _ _ _ _ _ _
    rw [forceL_eq]
    congr 1
    funext x S
    cases x with
    | normal => rfl
    | exit i => exact forceL_eq _ _
    | ret => exact forceL_eq _ _
  | scope b ih => intro ks s H k; exact ih _ _ _ _
  | region id ops draw =>
    intro ks s H k
    show holesF _ _ _ = opsK X ops _ _ _ _ _
    rw [holesF_eq, opsF_eq]
  | _ => intros; rfl
def callF (P : Program) (E : Env) (n : Nat) : CF := fun f args H fl =>
    match E.prim f with
    | some g => g args H
    | none => match P.funcs[f]? with
      | some fn => match fn.body with
        | some c => if fn.ntmps < args.length then none else forceL (args ++ List.replicate (fn.ntmps - args.length) (.flat undef)) fun s => execF ⟨P, callN P E n, E.md, fl, fn.ntmps⟩ n c (E.ks f) s H fun x s H =>
            match x with
            | .exit _ => none
            | _ => (resD P fn.results.toList ⟨s, H⟩).map fun d => (d, H)
        | none => none
      | none => none
theorem callF_eq (P : Program) (E : Env) (n : Nat) (f : FuncId) (args : List DV) (H : Heap) (fl : Nat) : callN P E (n + 1) f args H fl = callF P E n f args H fl := by
  unfold callF
  show (match E.prim f with | some g => _ | none => _) = _
  cases E.prim f with
  | some g => rfl
  | none =>
    dsimp only
    cases P.funcs[f]? with
    | none => rfl
    | some fn =>
      dsimp only
      cases fn.body with
      | none => rfl
      | some c =>
        dsimp only
        split
        · rfl
        · rw [forceL_eq, execF_eq]
          rfl
/-- one round of a loop -/
def stepF (X : Ctx) (n : Nat) (c : Code) (ks : List (List Nat × List Nat)) (keep out : List Nat) (N m : Nat) (s : List DV) (H : Heap) (k : Ex → St → R) : R :=
  execF X n c ks s H fun x s H => match x with
      | .normal => forceL (forget keep N s) fun s => loopN keep out N (execD X n c ks) m ⟨s, H⟩ k
      | .exit i => forceL (forget out N s) (fun s => k (.exit i) ⟨s, H⟩)
      | .ret => forceL (forget out N s) fun s => k .ret ⟨s, H⟩
theorem loopN_F (X : Ctx) (n : Nat) (c : Code) (ks : List (List Nat × List Nat)) (keep out : List Nat) (N m : Nat) (s : List DV) (H : Heap) (k : Ex → St → R) :
    loopN keep out N (execD X n c ks) (m + 1) ⟨s, H⟩ k = stepF X n c ks keep out N m s H k := by
  unfold stepF
  rw [execF_eq]
  show execD X n c ks _ _ = _
  congr 1
  funext x S
  cases x with
  | normal => dsimp only; rw [forceL_eq]
  | exit i => dsimp only; rw [forceL_eq]
  | ret => dsimp only; rw [forceL_eq]
end Go.Proofs.Ytbhnkdnfmlnajaa
