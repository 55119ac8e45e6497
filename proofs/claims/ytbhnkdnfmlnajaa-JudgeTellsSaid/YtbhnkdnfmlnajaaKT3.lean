/- Texts of mine, laid together: Pk, Pl, Pn, Pp, PlainA, PlainB, PlainW, PrimD, Env, FImgs, FRef11. -/
import Derived.Test.YtbhnkdnfmlnajaaKT2
import Derived.WalkKit
import Derived.OpenShut
import Derived.Laws.BitsLemmas
/- The evaluator with its states FORCED to literal lists between operations, so that the kernel can compare it with a printed function. -/
namespace Go.Proofs.Ytbhnkdnfmlnajaa
open Go
def forceL {β : Type} : List DV → (List DV → β) → β
  | [], k => k []
  | x :: l, k => forceL l fun ys => k (x :: ys)
theorem forceL_eq {β : Type} (l : List DV) (k : List DV → β) : forceL l k = k l := by
  induction l generalizing k with
  | nil => rfl
  | cons x l ih => exact ih _
abbrev KF := List DV → Heap → R
/-- the value of a move, read off at once -/
def getF {β : Type} (s : List DV) (t : Nat) (k : DV → β) : β := match s, t with
  | [], _ => k .any
  | x :: _, 0 => k x
  | _ :: s, t + 1 => getF s t k
theorem getF_eq {β : Type} (s : List DV) (t : Nat) (k : DV → β) : getF s t k = k (s.getD t .any) := by
  induction s generalizing t with
  | nil => cases t <;> rfl
  | cons x s ih => cases t with
    | zero => rfl
    | succ t => exact ih t
def evalK {β : Type} (s : List DV) (x : Operand) (k : DV → β) : β := match x with
  | .tmp t => getF s t k
  | .const v => k (ofVal v)
  | .global g => k (.flat (.pointer (some ⟨g, 0, none⟩)))
  | .func f => k (.flat (.func (.func f) #[] #[]))
theorem evalK_eq {β : Type} (s : List DV) (x : Operand) (k : DV → β) : evalK s x k = k (evalD s x) := by
  cases x with
  | tmp t => exact getF_eq s t k
  | _ => rfl
def moveOf (o : Oper) : Option Operand := match o.guard with
  | none => match o.op with
    | .move x => some x
    | .assign x => some x
    | _ => none
  | some _ => none
def opsF (X : Ctx) (ops : Array Oper) : List Oper → Nat → List Nat → List DV → Heap → (List Nat → KF) → R
  | [], _, cs, s, H, k => k cs s H
  | o :: l, nid, cs, s, H, k => match moveOf o with
    | some x => evalK s x fun d => forceL (putD s o.dst d) fun s' => opsF X ops l nid (0 :: cs) s' H k
    | none =>
    Option.bind (wantE (wantD ops o s) (evalO X.P X.cf X.md X.fl nid o s H)) fun p =>
      forceL (putD s o.dst p.1) fun s' => match isAl o with
        | true => opsF X ops l (nid + 1) (p.2.cls :: cs) s' (p.2.heap H) k
        | false => opsF X ops l nid (p.2.cls :: cs) s' (p.2.heap H) k
theorem opsF_eq (X : Ctx) (ops : Array Oper) (l : List Oper) : ∀ nid cs s H k, opsF X ops l nid cs s H k = opsK X ops l nid cs ⟨s, H⟩ fun cs S => k cs S.slots S.heap := by
  induction l with
  | nil => intros; rfl
  | cons o l ih =>
    intro nid cs s H k
    show (match moveOf o with | some x => _ | none => _) = _
    cases hm : moveOf o with
    | some x =>
      dsimp only
      rw [evalK_eq, forceL_eq, ih]
      have ho : o.guard = none ∧ (o.op = .move x ∨ o.op = .assign x) := by
        unfold moveOf at hm
        split at hm
        · next hg =>
          refine ⟨hg, ?_⟩
          split at hm
          · next he => cases hm; exact .inl he
          · next he => cases hm; exact .inr he
          · cases hm
        · cases hm
      show _ = opK X ops nid o ⟨s, H⟩ _
      unfold opK
      have hw : wantD ops o s = some true := by unfold wantD; rw [ho.1]
      have hal : isAl o = false := by unfold isAl; rcases ho.2 with h | h <;> rw [h]
      have he : evalO X.P X.cf X.md X.fl nid o s H = some (evalD s x, .q) := by
        rcases ho.2 with h | h <;> (unfold evalO; rw [h])
      dsimp only
      rw [hw, he, hal]
      rfl
    | none =>
    dsimp only
    show Option.bind _ _ = Option.bind _ _
    congr 1
    funext p
    rw [forceL_eq]
    show (match isAl o with | true => _ | false => _) = opsK X ops l (if isAl o = true then nid + 1 else nid) _ _ _
    cases isAl o <;> exact ih _ _ _ _ _
def holesF (hs : Heap) (H : Heap) (k : Heap → R) : R := match hs with | [] => k H | h :: hs => k (H ++ h :: hs)
theorem holesF_eq (l : List Oper) (H : Heap) (k : Heap → R) : holesF (holes l) H k = k (addHoles l H) := by
  unfold holesF addHoles
  cases holes l <;> rfl
def execF (X : Ctx) (n : Nat) : Code → List (List Nat × List Nat) → List DV → Heap → (Ex → KF) → R
  | .skip, _, s, H, k => k .normal s H
  | .region _ ops draw, _, s, H, k => holesF (holes ops.toList) H fun H' =>
    opsF X ops ops.toList H.length [] s H' fun cs s' H' => drawK draw ops cs (k .normal s' H')
  | .seq a b, ks, s, H, k => execF X n a (ks.take (nloops a)) s H fun x s' H' => match x with | .normal => execF X n b (ks.drop (nloops a)) s' H' k | .exit i => k (.exit i) s' H' | .ret => k .ret s' H'
  | .cond c a b, ks, s, H, k => condR (evalD s c) (execF X n a (ks.take (nloops a)) s H k) (execF X n b (ks.drop (nloops a)) s H k)
  | .block id b, ks, s, H, k => execF X n b ks s H fun x s' H' => match x with | .normal => k .normal s' H' | .exit i => if i = id then k .normal s' H' else k (.exit i) s' H' | .ret => k .ret s' H'
  | .loop b, ks, s, H, k => forceL (forget (ks.headD ([], [])).1 X.N s) fun s' => loopN (ks.headD ([], [])).1 (ks.headD ([], [])).2 X.N (execD X n b ks.tail) n ⟨s', H⟩ fun x S' => match x with | .normal => none | .exit i => forceL (forget (ks.headD ([], [])).2 X.N S'.slots) (fun s'' => k (.exit i) s'' S'.heap) | .ret => forceL (forget (ks.headD ([], [])).2 X.N S'.slots) fun s'' => k .ret s'' S'.heap
  | .scope b, ks, s, H, k => execF X n b ks s H k
  | .exit id, _, s, H, k => k (.exit id) s H
  | .ret, _, s, H, k => k .ret s H
  | _, _, _, _, _ => none
theorem execF_eq (X : Ctx) (n : Nat) : ∀ (c : Code) ks s H k, execF X n c ks s H k = execD X n c ks ⟨s, H⟩ fun x S => k x S.slots S.heap := by
  intro c
  induction c with
  | seq a b iha ihb =>
    intro ks s H k
    show execF X n a _ s H _ = execD X n a _ _ _
    rw [iha]
    congr 1
    funext x S
    cases x with
    | normal => exact ihb _ _ _ _
    | exit i => rfl
    | ret => rfl
  | cond c a b iha ihb =>
    intro ks s H k
    show condR _ _ _ = condR _ _ _
    rw [iha, ihb]
  | block id b ih =>
    intro ks s H k
    show execF X n b ks s H _ = execD X n b ks _ _
    rw [ih]
    congr 1
    funext x S
    cases x <;> rfl
  | loop b ih =>
    intro ks s H k
    show forceL _ _ = loopN _ _ _ _ _ _ _
    rw [forceL_eq]
    congr 1
    funext x S
    cases x with
    | normal => rfl
    | exit i => exact forceL_eq _ _
    | ret => exact forceL_eq _ _
  | scope b ih => intro ks s H k; exact ih _ _ _ _
  | region id ops draw =>
    intro ks s H k
    show holesF _ _ _ = opsK X ops _ _ _ _ _
    rw [holesF_eq, opsF_eq]
  | _ => intros; rfl
def callF (P : Program) (E : Env) (n : Nat) : CF := fun f args H fl =>
    match E.prim f with
    | some g => g args H
    | none => match P.funcs[f]? with
      | some fn => match fn.body with
        | some c => if fn.ntmps < args.length then none else forceL (args ++ List.replicate (fn.ntmps - args.length) (.flat undef)) fun s => execF ⟨P, callN P E n, E.md, fl, fn.ntmps⟩ n c (E.ks f) s H fun x s H =>
            match x with
            | .exit _ => none
            | _ => (resD P fn.results.toList ⟨s, H⟩).map fun d => (d, H)
        | none => none
      | none => none
theorem callF_eq (P : Program) (E : Env) (n : Nat) (f : FuncId) (args : List DV) (H : Heap) (fl : Nat) : callN P E (n + 1) f args H fl = callF P E n f args H fl := by
  unfold callF
  show (match E.prim f with | some g => _ | none => _) = _
  cases E.prim f with
  | some g => rfl
  | none =>
    dsimp only
    cases P.funcs[f]? with
    | none => rfl
    | some fn =>
      dsimp only
      cases fn.body with
      | none => rfl
      | some c =>
        dsimp only
        split
        · rfl
        · rw [forceL_eq, execF_eq]
          rfl
/-- one round of a loop -/
def stepF (X : Ctx) (n : Nat) (c : Code) (ks : List (List Nat × List Nat)) (keep out : List Nat) (N m : Nat) (s : List DV) (H : Heap) (k : Ex → St → R) : R :=
  execF X n c ks s H fun x s H => match x with
      | .normal => forceL (forget keep N s) fun s => loopN keep out N (execD X n c ks) m ⟨s, H⟩ k
      | .exit i => forceL (forget out N s) (fun s => k (.exit i) ⟨s, H⟩)
      | .ret => forceL (forget out N s) fun s => k .ret ⟨s, H⟩
theorem loopN_F (X : Ctx) (n : Nat) (c : Code) (ks : List (List Nat × List Nat)) (keep out : List Nat) (N m : Nat) (s : List DV) (H : Heap) (k : Ex → St → R) :
    loopN keep out N (execD X n c ks) (m + 1) ⟨s, H⟩ k = stepF X n c ks keep out N m s H k := by
  unfold stepF
  rw [execF_eq]
  show execD X n c ks _ _ = _
  congr 1
  funext x S
  cases x with
  | normal => dsimp only; rw [forceL_eq]
  | exit i => dsimp only; rw [forceL_eq]
  | ret => dsimp only; rw [forceL_eq]
end Go.Proofs.Ytbhnkdnfmlnajaa

/- The front evaluator: the same runs in a form that prints shortly; what it answers, the deep evaluator answers. -/
namespace Go.Proofs.Ytbhnkdnfmlnajaa
open Go

def bi {α β : Type} (x : Option α) (k : α → Option β) : Option β := match x with | some a => k a | none => none
theorem bi_some {α β : Type} (a : α) (k : α → Option β) : bi (some a) k = k a := rfl
theorem bi_none {α β : Type} (k : α → Option β) : bi none k = none := rfl
theorem bi_eq {α β : Type} {x : Option α} {k : α → Option β} {r : β} (h : bi x k = some r) : ∃ a, x = some a ∧ k a = some r := by
  cases x with
  | none => cases h
  | some a => exact ⟨a, rfl, h⟩

/-! numbers -/
def arI (k : IntKind) (f : Int → Int → Int) (a b : DV) : Option DV := match a, b with
  | .flat (.int k1 x), .flat (.int k2 y) => if k1 = k ∧ k2 = k then some (.flat (.int k (f x y))) else none
  | _, _ => none
def cmI (k : IntKind) (f : Int → Int → Bool) (a b : DV) : Option DV := match a, b with
  | .flat (.int k1 x), .flat (.int k2 y) => if k1 = k ∧ k2 = k then some (.flat (.bool (f x y))) else none
  | _, _ => none
def divI (k : IntKind) (f : Int → Int → Int) (a b : DV) : Option DV := match a, b with
  | .flat (.int k1 x), .flat (.int k2 y) => if k1 = k ∧ k2 = k ∧ y ≠ 0 then some (.flat (.int k (f x y))) else none
  | _, _ => none
def shI (k : IntKind) (f : Int → Nat → Int) (a b : DV) : Option DV := match a, b with
  | .flat (.int k1 x), .flat (.int _ y) => if k1 = k ∧ 0 ≤ y then some (.flat (.int k (f x (min y.toNat k.bits)))) else none
  | _, _ => none
def addK (k : IntKind) := arI k fun x y => k.wrap (x + y)
def subK (k : IntKind) := arI k fun x y => k.wrap (x - y)
def mulK (k : IntKind) := arI k fun x y => k.wrap (x * y)
def andK (k : IntKind) := arI k fun x y => k.wrap (BitVec.ofInt k.bits x &&& BitVec.ofInt k.bits y).toNat
def orK (k : IntKind) := arI k fun x y => k.wrap (BitVec.ofInt k.bits x ||| BitVec.ofInt k.bits y).toNat
def xorK (k : IntKind) := arI k fun x y => k.wrap (BitVec.ofInt k.bits x ^^^ BitVec.ofInt k.bits y).toNat
def andNotK (k : IntKind) := arI k fun x y => k.wrap (BitVec.ofInt k.bits x &&& ~~~BitVec.ofInt k.bits y).toNat
def quoK (k : IntKind) := divI k fun x y => k.wrap (x.tdiv y)
def remK (k : IntKind) := divI k fun x y => x.tmod y
def shlK (k : IntKind) := shI k fun x n => k.wrap (x * 2 ^ n)
def shrK (k : IntKind) := shI k fun x n => x.fdiv (2 ^ n)
def eqK (k : IntKind) := cmI k fun x y => x == y
def neK (k : IntKind) := cmI k fun x y => x != y
def ltK (k : IntKind) := cmI k fun x y => decide (x < y)
def leK (k : IntKind) := cmI k fun x y => decide (x ≤ y)
def gtK (k : IntKind) := cmI k fun x y => decide (x > y)
def geK (k : IntKind) := cmI k fun x y => decide (x ≥ y)
def intF (k : IntKind) (op : BinOp) (a b : DV) : Option DV := match op with
  | .add => addK k a b | .sub => subK k a b | .mul => mulK k a b | .quo => quoK k a b | .rem => remK k a b
  | .and => andK k a b | .or => orK k a b | .xor => xorK k a b | .andNot => andNotK k a b | .shl => shlK k a b | .shr => shrK k a b
  | .eql => eqK k a b | .neq => neK k a b | .lss => ltK k a b | .leq => leK k a b | .gtr => gtK k a b | .geq => geK k a b
def eqB (a b : DV) : Option DV := match a, b with | .flat (.bool x), .flat (.bool y) => some (.flat (.bool (x == y))) | _, _ => none
def neB (a b : DV) : Option DV := match a, b with | .flat (.bool x), .flat (.bool y) => some (.flat (.bool (x != y))) | _, _ => none
def eqS (a b : DV) : Option DV := match a, b with | .flat (.string x), .flat (.string y) => some (.flat (.bool (x.toList == y.toList))) | _, _ => none
def neS (a b : DV) : Option DV := match a, b with | .flat (.string x), .flat (.string y) => some (.flat (.bool (!(x.toList == y.toList)))) | _, _ => none
def binF (P : Program) (op : BinOp) (t : TypeId) (x y : Operand) (a b : DV) : Option DV := match P.underlying t with
  | some (.int k) => intF k op a b
  | some .bool => (match op with | .eql => eqB a b | .neq => neB a b | op => binD P op t x y a b)
  | some .string => (match op with | .eql => eqS a b | .neq => neS a b | op => binD P op t x y a b)
  | _ => binD P op t x y a b
def notD (a : DV) : Option DV := match a with | .flat (.bool x) => some (.flat (.bool !x)) | _ => none
def unF (P : Program) (op : UnOp) (a : DV) : Option DV := match op with | .not => notD a | op => unD P op a
def cvK (k : IntKind) (a : DV) : Option DV := match a with | .flat (.int _ x) => some (.flat (.int k (k.wrap x))) | _ => none
def cvF (P : Program) (s d : TypeId) (a : DV) : Option DV := match P.underlying s, P.underlying d with
  | some (.int _), some (.int k) => cvK k a
  | _, _ => convD P s d a
def maxI (a b : DV) : Option DV := match a, b with | .flat (.int k x), .flat (.int _ y) => some (.flat (.int k (max x y))) | _, _ => none
def minI (a b : DV) : Option DV := match a, b with | .flat (.int k x), .flat (.int _ y) => some (.flat (.int k (min x y))) | _, _ => none
def builtF (P : Program) (b : Builtin) (ts : Array TypeId) (t : TypeId) (args : List DV) : Option DV := match b, args with
  | .max, [x, y] => maxI x y
  | .min, [x, y] => minI x y
  | b, args => builtD P b ts t args

/-! memory -/
def loadG (ag : Bool) (sz : Nat) (p : DV) (H : Heap) : Option DV := match p with
  | .ptr k off => (match H[k]? with | some (.cells _ cs) => partD ag sz off cs | _ => none)
  | .elem x off => partD ag sz off x.cells
  | _ => none
/-- a load off a list's element -/
def loadE (ag : Bool) (sz : Nat) (p : DV) : Option DV := match p with
  | .elem x off => partD ag sz off x.cells
  | _ => none
def isElLd (P : Program) (ops : Array Oper) (o : Oper) : Bool := match o.op with
  | .load _ (.tmp t) => ops.any fun o' => (o'.dst == some t) && (match o'.op with | .indexAddr ty _ _ => (match P.underlying ty with | some (.slice _) => true | _ => false) | _ => false)
  | _ => false
def storeG (sz : Nat) (p d : DV) (H : Heap) (fl : Nat) : Option Heap := match p with
  | .ptr k off => (match H[k]? with
    | some (.cells e cs) => if fl ≤ k ∧ d.cells.length = sz ∧ off + sz ≤ cs.length ∧ d.cells.all DV.leaf = true then some (H.set k (.cells e (splice off d.cells cs))) else none
    | _ => none)
  | _ => none
def allocG (e : TypeId) (d : DV) (nid : Nat) (H : Heap) : Option Heap := if d.cells.all DV.leaf = true then some (H.set nid (.cells e d.cells)) else none
def effH (x : EO) (H : Heap) : Option (DV × Heap) := x.map fun p => (p.1, p.2.heap H)
def appG (e : TypeId) (ag : Bool) (sz bytes : Nat) (x y : DV) (H : Heap) (fl : Nat) : Option (DV × Heap) := effH (appendD e ag sz bytes x y H fl) H
def copyG (ag : Bool) (sz : Nat) (x y : DV) (H : Heap) (fl : Nat) : Option (DV × Heap) := effH (copyD ag sz x y H fl) H
def makeG (ag : Bool) (sz bytes : Nat) (e : TypeId) (zero l c : DV) (nid : Nat) (H : Heap) : Option (DV × Heap) := effH (makeD ag sz bytes e zero l c nid) H
def callP (cf : CF) (f : FuncId) (ti : Bool) (args : List DV) : Option DV := bi (mapO argEl args) fun bs => bi (cf f bs [] 0) fun r => outD ti r.2 r.1
def callO (cf : CF) (f : FuncId) (args : List DV) (H : Heap) : Option DV := bi (cf f args H H.length) fun r => oldD H.length r.2 r.1
def callW (cf : CF) (f : FuncId) (args : List DV) (H : Heap) (fl : Nat) : Option (DV × Heap) :=
  bi (cf f args H fl) fun r => bi (oldD H.length r.2 r.1) fun d => bi (cutH H.length r.2) fun H' => some (d, H')
def callVG (cf : CF) (md : FuncId → CM) (fl : Nat) (f : DV) (args : List DV) (H : Heap) : Option (DV × Heap) := effH (callV cf md fl f args H) H

/-- are indirect calls with a result of this type to functions that are called with lists alone? (told by a mark in the table) -/
def vpu (md : FuncId → CM) (t : TypeId) : Bool := match md (1000000 + t) with | .ro => true | .pure _ => false | .rw => false | .keep => false
def callVP (cf : CF) (md : FuncId → CM) (f : DV) (args : List DV) : Option DV := match fnOf f with
  | some (g, cap) => (match md g with | .pure ti => callP cf g ti (args ++ cap) | .ro => none | .rw => none | .keep => none)
  | none => none

inductive OpR where
  | m (d : DV) | a (x : Option DV) | b (x : Option (DV × Heap)) | h (d : DV) (x : Option Heap)
def OpR.out (H : Heap) : OpR → Option (DV × Heap)
  | .m d => some (d, H)
  | .a x => x.map fun d => (d, H)
  | .b x => x
  | .h d x => x.map fun H' => (d, H')
def callR (P : Program) (cf : CF) (md : FuncId → CM) (fl : Nat) (t : TypeId) (c : Call) (ρ : Operand → DV) (H : Heap) : OpR :=
  match c.callee with
  | .builtin .len => match c.args.toList, c.argTypes.toList with
    | [x], [t] => (match P.underlying t with
      | some (.array n _) => .m (.flat (.int .i64 n))
      | some (.slice _) => .a (lenD (ρ x))
      | some .string => .a (lenStr (ρ x))
      | _ => .b none)
    | _, _ => .b none
  | .builtin .cap => match c.args.toList, c.argTypes.toList with
    | [x], [t] => (match P.underlying t with
      | some (.slice _) => .a (capD (ρ x))
      | _ => .b none)
    | _, _ => .b none
  | .builtin .append => match c.args.toList, c.argTypes.toList with
    | [x, y], [t, t'] => if t' = t then (match P.underlying t with
      | some (.slice e) => (match aggSz P e, P.info? e, zeroD P e with
        | some (ag, sz), some i, some z => if z.cells.length = sz then .b (appG e ag sz i.bytes (ρ x) (ρ y) H fl) else .b none
        | _, _, _ => .b none)
      | _ => .b none) else .b none
    | _, _ => .b none
  | .builtin .copy => match c.args.toList, c.argTypes.toList with
    | [x, y], [t, _] => (match P.underlying t with
      | some (.slice e) => (match aggSz P e with
        | some (ag, sz) => .b (copyG ag sz (ρ x) (ρ y) H fl)
        | _ => .b none)
      | _ => .b none)
    | _, _ => .b none
  | .builtin .max => .a (builtF P .max c.argTypes t (c.args.toList.map ρ))
  | .builtin .min => .a (builtF P .min c.argTypes t (c.args.toList.map ρ))
  | .value (.func f) => (match md f with
    | .pure ti => .a (callP cf f ti (c.args.toList.map ρ))
    | .ro => .a (callO cf f (c.args.toList.map ρ) H)
    | .rw => .b (callW cf f (c.args.toList.map ρ) H fl)
    | .keep => .b (cf f (c.args.toList.map ρ) H fl))
  | .value (.tmp k) => (match vpu md t with
    | true => .a (callVP cf md (ρ (.tmp k)) (c.args.toList.map ρ))
    | false => .b (callVG cf md fl (ρ (.tmp k)) (c.args.toList.map ρ) H))
  | .value f => .b (callVG cf md fl (ρ f) (c.args.toList.map ρ) H)
  | _ => .b none
def opR (X : Ctx) (st : Bool) (nid : Nat) (o : Oper) (slots : List DV) (H : Heap) : OpR :=
  let ρ := evalD slots
  let P := X.P
  match o.op with
  | .move x | .assign x => .m (ρ x)
  | .pick c a b => .a (pickD (ρ c) (ρ a) (ρ b))
  | .alloc e => (match zeroD P e with | some d => .h (.ptr nid 0) (allocG e d nid H) | none => .b none)
  | .box e x => .h (.ptr nid 0) (allocG e (ρ x) nid H)
  | .build t parts => (match P.underlying t, (zeroD P t).filter (fun z => z.cells.all DV.leaf) with
    | some (.struct fs), some z => (match placesD P fs.toList with
      | some pl => .a (buildS z pl (parts.toList.map fun p => (p.1, ρ p.2)))
      | none => .b none)
    | some (.array _ e), some z => (match P.info? e with
      | some i => .a (buildA z i.size (parts.toList.map fun p => (p.1, ρ p.2)))
      | none => .b none)
    | _, _ => .b none)
  | .buildSlice t len parts => (match P.underlying t with
    | some (.slice e) => (match aggSz P e, zeroD P e with
      | some (ag, sz), some z => .a (buildL ag sz len z (parts.toList.map fun p => (p.1, ρ p.2)))
      | _, _ => .b none)
    | _ => .b none)
  | .load t a => (match aggSz P t with
    | some (ag, sz) => (match st with | true => .a (loadE ag sz (ρ a)) | false => .a (loadG ag sz (ρ a) H))
    | none => .b none)
  | .store t a x => (match aggSz P t with
    | some (_, sz) => .h (.flat undef) (storeG sz (ρ a) (ρ x) H X.fl)
    | none => .b none)
  | .nilCheck x => .a (nilD (ρ x))
  | .binOp op t x y _ => .a (binF P op t x y (ρ x) (ρ y))
  | .unOp op _ x => .a (unF P op (ρ x))
  | .convert s d x => .a (cvF P s d (ρ x))
  | .makeInterface t x => (match P.underlying t with
    | some (.interface _) => .b none
    | some _ => .m (.iface t (ρ x))
    | none => .b none)
  | .makeFunc fn first cap => .m (.clo fn (first.toList.map ρ) (cap.toList.map ρ))
  | .makeSlice t l c => (match P.underlying t with
    | some (.slice e) => (match aggSz P e, P.info? e, zeroD P e with
      | some (ag, sz), some i, some z => .b (makeG ag sz i.bytes e z (ρ l) (ρ c) nid H)
      | _, _, _ => .b none)
    | _ => .b none)
  | .slice t x lo hi mx => (match P.underlying t with
    | some (.slice e) => (match aggSz P e with
      | some (_, sz) => .a (slX sz (ρ x) (lo.map ρ) (hi.map ρ) (mx.map ρ))
      | none => .b none)
    | some (.array n e) => (match aggSz P e with
      | some (ag, sz) => .a (saX ag n sz (ρ x) (lo.map ρ) (hi.map ρ) (mx.map ρ))
      | none => .b none)
    | _ => .b none)
  | .fieldAddr s x f => (match P.underlying s with
    | some (.struct fs) => (match fs[f]? with
      | some fd => (match P.info? fd.type with
        | some i => .a (fieldD fd.offset i.size (ρ x))
        | none => .b none)
      | none => .b none)
    | _ => .b none)
  | .field t x f => (match P.underlying t with
    | some (.struct fs) => (match fs[f]? with
      | some fd => (match aggSz P fd.type with
        | some (ag, sz) => .a (fldD ag sz fd.offset (ρ x))
        | none => .b none)
      | none => .b none)
    | _ => .b none)
  | .indexAddr t x i => (match P.underlying t with
    | some (.array len e) => (match P.info? e with
      | some ie => .a (idxArr len ie.size (ρ x) (ρ i))
      | none => .b none)
    | some (.slice e) => (match P.info? e with
      | some ie => .a (idxSl ie.size (ρ x) (ρ i))
      | none => .b none)
    | _ => .b none)
  | .index t x i => (match P.underlying t with
    | some (.array len e) => (match aggSz P e with
      | some (ag, sz) => .a (idxV ag sz len (ρ x) (ρ i))
      | none => .b none)
    | _ => .b none)
  | .extract t i => .a (extD i (ρ t))
  | .call c => callR P X.cf X.md X.fl o.type c ρ H
  | _ => .b none
/-- an operation's class, as far as the text tells -/
def sCls (md : FuncId → CM) (st : Bool) (o : Oper) : Nat := match o.op with
  | .alloc _ | .box .. | .makeSlice .. => 3
  | .load .. => (match st with | true => 0 | false => 1)
  | .store .. => 2
  | .call c => (match c.callee with
    | .builtin .append => 5
    | .builtin .copy => 2
    | .builtin _ => 0
    | .value (.func f) => (match md f with | .pure _ => 0 | .ro => 4 | _ => 2)
    | .value (.tmp _) => (match vpu md o.type with | true => 0 | false => 2)
    | _ => 2)
  | _ => 0
def wantF (c : DV) (w : Bool) (x : Option DV) : Option DV := match guardD c w with
  | some true => x
  | some false => some (.flat undef)
  | none => none
def wantH (c : DV) (w : Bool) (H : Heap) (x : Option (DV × Heap)) : Option (DV × Heap) := match guardD c w with
  | some true => x
  | some false => some (.flat undef, H)
  | none => none
def stepG (g : Option (DV × Bool)) (r : OpR) (H : Heap) (k : DV → Heap → R) : R := match g with
  | none => (match r with
    | .m d => k d H
    | .a x => bi x fun d => k d H
    | .b x => bi x fun p => k p.1 p.2
    | .h d x => bi x fun H' => k d H')
  | some (c, w) => (match r with
    | .m d => bi (wantF c w (some d)) fun d => k d H
    | .a x => bi (wantF c w x) fun d => k d H
    | .b x => bi (wantH c w H x) fun p => k p.1 p.2
    | .h d x => bi (wantH c w H (x.map fun H' => (d, H'))) fun p => k p.1 p.2)
def guardOf (ops : Array Oper) (o : Oper) (s : List DV) : Option (Option (DV × Bool)) := match o.guard with
  | none => some none
  | some (j, w) => (match ((ops[j]?).bind (·.dst)) with | some t => some (some (s.getD t .any, w)) | none => none)
def opsG (X : Ctx) (st : Bool) (ops : Array Oper) : List Oper → Nat → List DV → Heap → KF → R
  | [], _, s, H, k => k s H
  | o :: l, nid, s, H, k => match moveOf o with
    | some x => evalK s x fun d => forceL (putD s o.dst d) fun s' => opsG X st ops l nid s' H k
    | none => match guardOf ops o s with
      | none => none
      | some g => stepG g (opR X (st && isElLd X.P ops o) nid o s H) H fun d H' => forceL (putD s o.dst d) fun s' => match isAl o with
        | true => opsG X st ops l (nid + 1) s' H' k
        | false => opsG X st ops l nid s' H' k
def loopG (keep out : List Nat) (N : Nat) (body : List DV → Heap → (Ex → KF) → R) : Nat → List DV → Heap → (Ex → KF) → R
  | 0, _, _, _ => none
  | m + 1, s, H, k => body s H fun x s H => match x with
    | .normal => forceL (forget keep N s) fun s => loopG keep out N body m s H k
    | .exit i => forceL (forget out N s) fun s => k (.exit i) s H
    | .ret => forceL (forget out N s) fun s => k .ret s H
def execG (X : Ctx) (n : Nat) : Code → List (List Nat × List Nat) → List DV → Heap → (Ex → KF) → R
  | .skip, _, s, H, k => k .normal s H
  | .region _ ops draw, _, s, H, k => match draw && !drawOk ops (ops.toList.map (sCls X.md false)) with
    | false => holesF (holes ops.toList) H fun H' => opsG X false ops ops.toList H.length s H' fun s' H' => k .normal s' H'
    | true => match drawOk ops (ops.toList.map fun o => sCls X.md (isElLd X.P ops o) o) with
      | true => holesF (holes ops.toList) H fun H' => opsG X true ops ops.toList H.length s H' fun s' H' => k .normal s' H'
      | false => none
  | .seq a b, ks, s, H, k => execG X n a (ks.take (nloops a)) s H fun x s' H' => match x with | .normal => execG X n b (ks.drop (nloops a)) s' H' k | .exit i => k (.exit i) s' H' | .ret => k .ret s' H'
  | .cond c a b, ks, s, H, k => condR (evalD s c) (execG X n a (ks.take (nloops a)) s H k) (execG X n b (ks.drop (nloops a)) s H k)
  | .block id b, ks, s, H, k => execG X n b ks s H fun x s' H' => match x with | .normal => k .normal s' H' | .exit i => if i = id then k .normal s' H' else k (.exit i) s' H' | .ret => k .ret s' H'
  | .loop b, ks, s, H, k => forceL (forget (ks.headD ([], [])).1 X.N s) fun s' => loopG (ks.headD ([], [])).1 (ks.headD ([], [])).2 X.N (execG X n b ks.tail) n s' H fun x s' H' => match x with | .normal => none | .exit i => forceL (forget (ks.headD ([], [])).2 X.N s') (fun s'' => k (.exit i) s'' H') | .ret => forceL (forget (ks.headD ([], [])).2 X.N s') fun s'' => k .ret s'' H'
  | .scope b, ks, s, H, k => execG X n b ks s H k
  | .exit id, _, s, H, k => k (.exit id) s H
  | .ret, _, s, H, k => k .ret s H
  | _, _, _, _, _ => none
abbrev I (k : IntKind) (n : Int) : DV := .flat (.int k n)
abbrev Bo (b : Bool) : DV := .flat (.bool b)
def resK (P : Program) (s : List DV) (H : Heap) : List ResultVar → (List DV → R) → R
  | [], k => k []
  | .tmp t :: rs, k => resK P s H rs fun ds => k (s.getD t .any :: ds)
  | .cell a t :: rs, k => match aggSz P t with
    | some (ag, sz) => bi (cellR ag sz (s.getD a .any) H) fun d => resK P s H rs fun ds => k (d :: ds)
    | none => none
/-- one call, by a way to call others -/
def bodyG (P : Program) (E : Env) (n : Nat) (cf : CF) : CF := fun f args H fl =>
    match E.prim f with
    | some g => g args H
    | none => match P.funcs[f]? with
      | some fn => match fn.body with
        | some c => if fn.ntmps < args.length then none else forceL (args ++ List.replicate (fn.ntmps - args.length) (.flat undef)) fun s => execG ⟨P, cf, E.md, fl, fn.ntmps⟩ n c (E.ks f) s H fun x s H =>
            match x with
            | .exit _ => none
            | .normal => resK P s H fn.results.toList fun ds => some (tupD ds, H)
            | .ret => resK P s H fn.results.toList fun ds => some (tupD ds, H)
        | none => none
      | none => none
def callG (P : Program) (E : Env) : Nat → CF
  | 0 => fun _ _ _ _ => none
  | n + 1 => bodyG P E n (callG P E n)
theorem callG_eq (P : Program) (E : Env) (n : Nat) (f : FuncId) (args : List DV) (H : Heap) (fl : Nat) : callG P E (n + 1) f args H fl = bodyG P E n (callG P E n) f args H fl := rfl
theorem loopG_succ (keep out : List Nat) (N : Nat) (body : List DV → Heap → (Ex → KF) → R) (m : Nat) (s : List DV) (H : Heap) (k : Ex → KF) :
    loopG keep out N body (m + 1) s H k = body s H fun x s H => match x with
    | .normal => forceL (forget keep N s) fun s => loopG keep out N body m s H k
    | .exit i => forceL (forget out N s) fun s => k (.exit i) s H
    | .ret => forceL (forget out N s) fun s => k .ret s H := rfl
end Go.Proofs.Ytbhnkdnfmlnajaa

/- The front evaluator answers only what the deep evaluator answers. -/
namespace Go.Proofs.Ytbhnkdnfmlnajaa
open Go

theorem opt_map_some {α β : Type} {f : α → β} {x : Option α} {b : β} (h : x.map f = some b) : ∃ a, x = some a ∧ f a = b := by
  cases x with
  | none => cases h
  | some a => exact ⟨a, rfl, Option.some.inj h⟩
theorem arI_eq {k : IntKind} {f : Int → Int → Int} {a b d : DV} (h : arI k f a b = some d) : ∃ x y, a = .flat (.int k x) ∧ b = .flat (.int k y) ∧ d = .flat (.int k (f x y)) := by
  unfold arI at h
  split at h
  · split at h
    · rename_i x y hk; obtain ⟨rfl, rfl⟩ := hk; cases h; exact ⟨_, _, rfl, rfl, rfl⟩
    · cases h
  · cases h
theorem cmI_eq {k : IntKind} {f : Int → Int → Bool} {a b d : DV} (h : cmI k f a b = some d) : ∃ x y, a = .flat (.int k x) ∧ b = .flat (.int k y) ∧ d = .flat (.bool (f x y)) := by
  unfold cmI at h
  split at h
  · split at h
    · rename_i x y hk; obtain ⟨rfl, rfl⟩ := hk; cases h; exact ⟨_, _, rfl, rfl, rfl⟩
    · cases h
  · cases h
theorem divI_eq {k : IntKind} {f : Int → Int → Int} {a b d : DV} (h : divI k f a b = some d) : ∃ x y, a = .flat (.int k x) ∧ b = .flat (.int k y) ∧ y ≠ 0 ∧ d = .flat (.int k (f x y)) := by
  unfold divI at h
  split at h
  · split at h
    · rename_i x y hk; obtain ⟨rfl, rfl, h0⟩ := hk; cases h; exact ⟨_, _, rfl, rfl, h0, rfl⟩
    · cases h
  · cases h
theorem shI_eq {k : IntKind} {f : Int → Nat → Int} {a b d : DV} (h : shI k f a b = some d) : ∃ x k2 y, a = .flat (.int k x) ∧ b = .flat (.int k2 y) ∧ 0 ≤ y ∧ d = .flat (.int k (f x (min y.toNat k.bits))) := by
  unfold shI at h
  split at h
  · split at h
    · rename_i x _ y hk; obtain ⟨rfl, h0⟩ := hk; cases h; exact ⟨_, _, _, rfl, rfl, h0, rfl⟩
    · cases h
  · cases h
theorem pureV_int (P : Program) (k : IntKind) (n : Int) : pureV P (pure (.int k n)) = some (.flat (.int k n)) := rfl
theorem pureV_bool (P : Program) (b : Bool) : pureV P (pure (.bool b)) = some (.flat (.bool b)) := rfl
theorem intF_ok {P : Program} {k : IntKind} {op : BinOp} {t : TypeId} {x y : Operand} {a b d : DV} (h : intF k op a b = some d) : binD P op t x y a b = some d := by
  cases op
  case add => have h : addK k a b = some d := h; obtain ⟨u, v, rfl, rfl, rfl⟩ := arI_eq h; simp only [binD, arD, toVal, binOp, ne_eq, not_true_eq_false, if_false]; rfl
  case sub => have h : subK k a b = some d := h; obtain ⟨u, v, rfl, rfl, rfl⟩ := arI_eq h; simp only [binD, arD, toVal, binOp, ne_eq, not_true_eq_false, if_false]; rfl
  case mul => have h : mulK k a b = some d := h; obtain ⟨u, v, rfl, rfl, rfl⟩ := arI_eq h; simp only [binD, arD, toVal, binOp, ne_eq, not_true_eq_false, if_false]; rfl
  case and => have h : andK k a b = some d := h; obtain ⟨u, v, rfl, rfl, rfl⟩ := arI_eq h; simp only [binD, arD, toVal, binOp, ne_eq, not_true_eq_false, if_false]; rfl
  case or => have h : orK k a b = some d := h; obtain ⟨u, v, rfl, rfl, rfl⟩ := arI_eq h; simp only [binD, arD, toVal, binOp, ne_eq, not_true_eq_false, if_false]; rfl
  case xor => have h : xorK k a b = some d := h; obtain ⟨u, v, rfl, rfl, rfl⟩ := arI_eq h; simp only [binD, arD, toVal, binOp, ne_eq, not_true_eq_false, if_false]; rfl
  case andNot => have h : andNotK k a b = some d := h; obtain ⟨u, v, rfl, rfl, rfl⟩ := arI_eq h; simp only [binD, arD, toVal, binOp, ne_eq, not_true_eq_false, if_false]; rfl
  case quo => have h : quoK k a b = some d := h; obtain ⟨u, v, rfl, rfl, h0, rfl⟩ := divI_eq h; simp only [binD, arD, toVal, binOp, ne_eq, not_true_eq_false, if_false, Op.intDiv, if_neg h0]; rfl
  case rem => have h : remK k a b = some d := h; obtain ⟨u, v, rfl, rfl, h0, rfl⟩ := divI_eq h; simp only [binD, arD, toVal, binOp, ne_eq, not_true_eq_false, if_false, Op.intDiv, if_neg h0]; rfl
  case shl => have h : shlK k a b = some d := h; obtain ⟨u, k2, v, rfl, rfl, h0, rfl⟩ := shI_eq h; simp only [binD, arD, toVal, binOp, Op.shift, if_neg (Int.not_lt.mpr h0)]; rfl
  case shr => have h : shrK k a b = some d := h; obtain ⟨u, k2, v, rfl, rfl, h0, rfl⟩ := shI_eq h; simp only [binD, arD, toVal, binOp, Op.shift, if_neg (Int.not_lt.mpr h0)]; rfl
  case eql => have h : eqK k a b = some d := h; obtain ⟨u, v, rfl, rfl, rfl⟩ := cmI_eq h; simp only [binD, eqD, toVal, binOp, ne_eq, not_true_eq_false, if_false]; rfl
  case neq => have h : neK k a b = some d := h; obtain ⟨u, v, rfl, rfl, rfl⟩ := cmI_eq h; simp only [binD, eqD, toVal, binOp, ne_eq, not_true_eq_false, if_false]; rfl
  case lss => have h : ltK k a b = some d := h; obtain ⟨u, v, rfl, rfl, rfl⟩ := cmI_eq h; simp only [binD, arD, toVal, binOp, ne_eq, not_true_eq_false, if_false]; rfl
  case leq => have h : leK k a b = some d := h; obtain ⟨u, v, rfl, rfl, rfl⟩ := cmI_eq h; simp only [binD, arD, toVal, binOp, ne_eq, not_true_eq_false, if_false]; rfl
  case gtr => have h : gtK k a b = some d := h; obtain ⟨u, v, rfl, rfl, rfl⟩ := cmI_eq h; simp only [binD, arD, toVal, binOp, ne_eq, not_true_eq_false, if_false]; rfl
  case geq => have h : geK k a b = some d := h; obtain ⟨u, v, rfl, rfl, rfl⟩ := cmI_eq h; simp only [binD, arD, toVal, binOp, ne_eq, not_true_eq_false, if_false]; rfl
theorem pure_equal_bool {P : Program} {t : TypeId} {u v : Bool} (ht : P.underlying t = some .bool) : pureRun P (Op.equal t (.bool u) (.bool v)) = some (u == v) := by
  show pureRun P (Op.equalIn (9999 + 1) t (.bool u) (.bool v)) = _
  rw [Op.equalIn]
  simp only [underlying, program, Bind.bind, Sem.bind, pureRun, ht, pure]
theorem pureRun_bind {P : Program} {α β : Type} : ∀ (s : Sem α) (f : α → Sem β) (a : α), pureRun P s = some a → pureRun P (s >>= f) = pureRun P (f a)
  | .pure a, f, b, h => by cases h; rfl
  | .program k, f, b, h => pureRun_bind (k P) f b h
  | .mark m k, f, b, h => pureRun_bind k f b h
  | .load .., _, _, h => by cases h
  | .store .., _, _, h => by cases h
  | .new .., _, _, h => by cases h
  | .shape .., _, _, h => by cases h
  | .freeze .., _, _, h => by cases h
  | .frozen .., _, _, h => by cases h
  | .getObj .., _, _, h => by cases h
  | .setObj .., _, _, h => by cases h
  | .choose .., _, _, h => by cases h
  | .sys .., _, _, h => by cases h
  | .halt .., _, _, h => by cases h
theorem eqB_ok {P : Program} {t : TypeId} {x y : Operand} {u v : Bool} (ht : P.underlying t = some .bool) : binD P .eql t x y (.flat (.bool u)) (.flat (.bool v)) = some (.flat (.bool (u == v))) := by
  show pureV P (Op.equal t (.bool u) (.bool v) >>= fun b => pure (.bool b)) = _
  unfold pureV
  rw [pureRun_bind _ _ _ (pure_equal_bool ht)]
  rfl
theorem neB_ok {P : Program} {t : TypeId} {x y : Operand} {u v : Bool} (ht : P.underlying t = some .bool) : binD P .neq t x y (.flat (.bool u)) (.flat (.bool v)) = some (.flat (.bool (u != v))) := by
  show pureV P (Op.equal t (.bool u) (.bool v) >>= fun b => pure (.bool !b)) = _
  unfold pureV
  rw [pureRun_bind _ _ _ (pure_equal_bool ht)]
  rfl
theorem binF_ok {P : Program} {op : BinOp} {t : TypeId} {x y : Operand} {a b d : DV} (h : binF P op t x y a b = some d) : binD P op t x y a b = some d := by
  unfold binF at h
  split at h
  · exact intF_ok h
  · rename_i ht
    split at h
    · unfold eqB at h; split at h
      · cases h; exact eqB_ok ht
      · cases h
    · unfold neB at h; split at h
      · cases h; exact neB_ok ht
      · cases h
    · exact h
  · split at h
    · unfold eqS at h; split at h
      · cases h; rfl
      · cases h
    · unfold neS at h; split at h
      · cases h; rfl
      · cases h
    · exact h
  · exact h
theorem unF_ok {P : Program} {op : UnOp} {a d : DV} (h : unF P op a = some d) : unD P op a = some d := by
  unfold unF at h
  split at h
  · unfold notD at h; split at h
    · cases h; rfl
    · cases h
  · exact h
theorem cvF_ok {P : Program} {s t : TypeId} {a d : DV} (h : cvF P s t a = some d) : convD P s t a = some d := by
  unfold cvF at h
  split at h
  · rename_i k1 k hs ht
    unfold cvK at h; split at h
    · cases h
      unfold convD
      simp only [toVal, Option.bind_some, pureV, convert, underlying, program, Bind.bind, Sem.bind, pureRun, hs, ht, pure, Conv.intToInt, Option.map_some, ofVal, ofVal1, leafOf]
    · cases h
  · exact h
theorem builtF_ok {P : Program} {b : Builtin} {ts : Array TypeId} {t : TypeId} {args : List DV} {d : DV} (h : builtF P b ts t args = some d) : builtD P b ts t args = some d := by
  unfold builtF at h
  split at h
  · unfold maxI at h; split at h
    · cases h
      rename_i k u k2 v
      have : max u v = if v > u then v else u := by omega
      rw [this]; rfl
    · cases h
  · unfold minI at h; split at h
    · cases h
      rename_i k u k2 v
      have : min u v = if v < u then v else u := by omega
      rw [this]; rfl
    · cases h
  · exact h
theorem loadG_ok {ag : Bool} {sz : Nat} {p d : DV} {H : Heap} (h : loadG ag sz p H = some d) : ∃ e, loadD ag sz p H = some (d, e) ∧ e.heap H = H ∧ e.cls ≤ 1 := by
  unfold loadG at h; unfold loadD
  split at h
  · split at h
    · rename_i hb; exact ⟨.rd, by simp only [hb, h, rv, Option.map_some], rfl, Nat.le_refl _⟩
    · cases h
  · exact ⟨.q, by simp only [h, qv, Option.map_some], rfl, Nat.zero_le _⟩
  · cases h
theorem storeG_ok {sz : Nat} {p d : DV} {H H' : Heap} {fl : Nat} (h : storeG sz p d H fl = some H') : ∃ e, storeD sz p d H fl = some (.flat undef, e) ∧ e.heap H = H' ∧ e.cls ≤ 2 := by
  unfold storeG at h; unfold storeD
  split at h
  · split at h
    · split at h
      · rename_i hb hc
        cases h
        exact ⟨.ch _, by simp only [hb, if_pos hc], rfl, Nat.le_refl _⟩
      · cases h
    · cases h
  · cases h
theorem allocG_ok {e : TypeId} {d : DV} {nid : Nat} {H H' : Heap} (h : allocG e d nid H = some H') : ∃ f, allocD e d nid = some (.ptr nid 0, f) ∧ f.heap H = H' ∧ f.cls = 3 := by
  unfold allocG at h; unfold allocD
  split at h
  · rename_i hc; cases h; exact ⟨_, by rw [if_pos hc], rfl, rfl⟩
  · cases h
theorem effH_ok {x : EO} {H H' : Heap} {d : DV} (h : effH x H = some (d, H')) : ∃ e, x = some (d, e) ∧ e.heap H = H' := by
  obtain ⟨⟨d', e⟩, h1, h2⟩ := opt_map_some h
  cases h2
  exact ⟨e, h1, rfl⟩
theorem bi_map {α β : Type} (x : Option α) (f : α → β) : bi x (fun a => some (f a)) = x.map f := by cases x <;> rfl
/-- one way to call answers no more than another one -/
def CLe (cf cf' : CF) : Prop := ∀ f args H fl r, cf f args H fl = some r → cf' f args H fl = some r
theorem callP_ok {cf cf' : CF} (hc : CLe cf cf') {f : FuncId} {ti : Bool} {args : List DV} {d : DV} {H : Heap} {fl : Nat} (h : callP cf f ti args = some d) : callD cf' (.pure ti) fl f args H = some (d, .q) := by
  obtain ⟨bs, h1, h⟩ := bi_eq h
  obtain ⟨r, h2, h3⟩ := bi_eq h
  simp only [callD, h1, Option.bind_some, hc _ _ _ _ _ h2, qv, h3, Option.map_some]
theorem callO_ok {cf cf' : CF} (hc : CLe cf cf') {f : FuncId} {args : List DV} {d : DV} {H : Heap} {fl : Nat} (h : callO cf f args H = some d) : callD cf' .ro fl f args H = some (d, .ro) := by
  obtain ⟨r, h2, h3⟩ := bi_eq h
  simp only [callD, Option.bind_some, hc _ _ _ _ _ h2, ov, h3, Option.map_some]
theorem callW_ok {cf cf' : CF} (hc : CLe cf cf') {f : FuncId} {args : List DV} {d : DV} {H H' : Heap} {fl : Nat} (h : callW cf f args H fl = some (d, H')) : callD cf' .rw fl f args H = some (d, .ch H') := by
  obtain ⟨r, h1, h⟩ := bi_eq h
  obtain ⟨d', h2, h⟩ := bi_eq h
  obtain ⟨H2, h3, h⟩ := bi_eq h
  cases h
  simp only [callD, Option.bind_some, hc _ _ _ _ _ h1, h2, h3, Option.map_some]
theorem callD_le {cf cf' : CF} (hc : CLe cf cf') {m : CM} {f : FuncId} {args : List DV} {H : Heap} {fl : Nat} {r : DV × Eff} (h : callD cf m fl f args H = some r) : callD cf' m fl f args H = some r ∧ r.2.cls ≤ 4 ∧ (r.2.cls ≠ 1 ∧ r.2.cls ≠ 3) := by
  cases m with
  | pure ti =>
    simp only [callD] at h ⊢
    obtain ⟨bs, h1, h⟩ := Option.bind_eq_some_iff.mp h
    obtain ⟨q, h2, h⟩ := Option.bind_eq_some_iff.mp h
    refine ⟨?_, ?_⟩
    · simp only [h1, Option.bind_some, hc _ _ _ _ _ h2, h]
    · obtain ⟨d, _, rfl⟩ := opt_map_some h; simp [Eff.cls]
  | ro =>
    simp only [callD] at h ⊢
    obtain ⟨q, h2, h⟩ := Option.bind_eq_some_iff.mp h
    refine ⟨?_, ?_⟩
    · simp only [Option.bind_some, hc _ _ _ _ _ h2, h]
    · obtain ⟨d, _, rfl⟩ := opt_map_some h; simp [Eff.cls]
  | rw =>
    simp only [callD] at h ⊢
    obtain ⟨q, h2, h⟩ := Option.bind_eq_some_iff.mp h
    refine ⟨?_, ?_⟩
    · simp only [Option.bind_some, hc _ _ _ _ _ h2, h]
    · obtain ⟨d, _, h⟩ := Option.bind_eq_some_iff.mp h
      obtain ⟨d, _, rfl⟩ := opt_map_some h; simp [Eff.cls]
  | keep =>
    simp only [callD] at h ⊢
    obtain ⟨q, h2, rfl⟩ := opt_map_some h
    refine ⟨?_, ?_⟩
    · simp only [hc _ _ _ _ _ h2, Option.map_some]
    · simp [Eff.cls]
theorem callV_le {cf cf' : CF} (hc : CLe cf cf') {md : FuncId → CM} {f : DV} {args : List DV} {H : Heap} {fl : Nat} {r : DV × Eff} (h : callV cf md fl f args H = some r) : callV cf' md fl f args H = some r ∧ r.2.cls ≤ 4 ∧ (r.2.cls ≠ 1 ∧ r.2.cls ≠ 3) := by
  unfold callV at h ⊢
  split at h
  · exact callD_le hc h
  · cases h
/-- a class that may stand for another one -/
def cLe (c s : Nat) : Prop := c = s ∨ c = 0 ∨ (c = 1 ∧ s = 2) ∨ (c = 4 ∧ s = 2) ∨ (c = 3 ∧ s = 2) ∨ (c = 5 ∧ s = 2)
theorem appendD_cls {e : TypeId} {ag : Bool} {sz bytes : Nat} {x y : DV} {H : Heap} {fl : Nat} {d : DV} {f : Eff} (h : appendD e ag sz bytes x y H fl = some (d, f)) : f.cls = 5 := by
  unfold appendD at h
  split at h
  · split at h
    · cases h; rfl
    · split at h
      · split at h
        · cases h; rfl
        · split at h
          · split at h
            · cases h; rfl
            · cases h
          · cases h
        · cases h
      · cases h
  · cases h
theorem copyD_cls {ag : Bool} {sz : Nat} {x y : DV} {H : Heap} {fl : Nat} {d : DV} {f : Eff} (h : copyD ag sz x y H fl = some (d, f)) : f.cls = 2 := by
  unfold copyD at h
  split at h
  · split at h
    · split at h
      · simp only [] at h
        split at h
        · cases h; rfl
        · cases h
      · cases h
    · cases h
  · cases h
theorem callR_ok {P : Program} {cf cf' : CF} (hc : CLe cf cf') {md : FuncId → CM} {fl : Nat} {o : Oper} {c : Call} {slots : List DV} {H H' : Heap} {d : DV} (ho : o.op = .call c)
    (h : (callR P cf md fl o.type c (evalD slots) H).out H = some (d, H')) {st : Bool} : ∃ e, callOp P cf' md fl o c (evalD slots) H = some (d, e) ∧ e.heap H = H' ∧ cLe e.cls (sCls md st o) := by
  have hq : ∀ {x : Option DV}, (OpR.a x).out H = some (d, H') → qv x = some (d, .q) ∧ H = H' := by
    intro x hx
    obtain ⟨d', h1, h2⟩ := opt_map_some hx
    cases h2
    exact ⟨by simp only [qv, h1, Option.map_some], rfl⟩
  have hqq : ∀ {x : Option DV} {s : Nat}, (OpR.a x).out H = some (d, H') → ∃ e, qv x = some (d, e) ∧ e.heap H = H' ∧ cLe e.cls s := fun h => ⟨.q, (hq h).1, (hq h).2, .inr (.inl rfl)⟩
  have hb : ∀ {x : EO}, (OpR.b (effH x H)).out H = some (d, H') → ∃ e, x = some (d, e) ∧ e.heap H = H' := fun h => effH_ok h
  have hcls : ∀ {e : Eff}, e.cls ≤ 4 → cLe e.cls 2 := by
    intro e _; cases e <;> simp [Eff.cls, cLe]
  unfold callR at h
  unfold callOp sCls
  rw [ho]
  dsimp only
  cases hcal : c.callee with
  | invoke r m => rw [hcal] at h; cases h
  | value f =>
    rw [hcal] at h
    dsimp only at h ⊢
    have gen : (OpR.b (callVG cf md fl (evalD slots f) (c.args.toList.map (evalD slots)) H)).out H = some (d, H') → ∃ e, callV cf' md fl (evalD slots f) (c.args.toList.map (evalD slots)) H = some (d, e) ∧ e.heap H = H' ∧ cLe e.cls 2 := by
      intro h
      obtain ⟨e, h1, h2⟩ := hb h
      have := callV_le hc h1
      exact ⟨e, this.1, h2, hcls this.2.1⟩
    cases f with
    | func f =>
      dsimp only at h ⊢
      have hV : callV cf' md fl (evalD slots (.func f)) (c.args.toList.map (evalD slots)) H = callD cf' (md f) fl f (c.args.toList.map (evalD slots)) H := by
        simp only [callV, evalD, fnOf, Array.size_empty, and_self, if_true, List.append_nil]
      rw [hV]
      cases hm : md f with
      | pure ti =>
        rw [hm] at h
        obtain ⟨d', h1, h2⟩ := opt_map_some h
        cases h2
        exact ⟨_, callP_ok hc h1, rfl, .inr (.inl rfl)⟩
      | ro =>
        rw [hm] at h
        obtain ⟨d', h1, h2⟩ := opt_map_some h
        cases h2
        exact ⟨_, callO_ok hc h1, rfl, .inl rfl⟩
      | rw =>
        rw [hm] at h
        exact ⟨_, callW_ok hc h, rfl, .inl rfl⟩
      | keep =>
        rw [hm] at h
        refine ⟨.ch H', ?_, rfl, .inl rfl⟩
        have h : cf f (c.args.toList.map (evalD slots)) H fl = some (d, H') := h
        simp only [callD, hc _ _ _ _ _ h, Option.map_some]
    | tmp t =>
      dsimp only at h ⊢
      cases hv : vpu md o.type with
      | false =>
        rw [hv] at h
        exact gen h
      | true =>
        rw [hv] at h
        obtain ⟨d', h1, h2⟩ := opt_map_some h
        cases h2
        unfold callVP at h1
        unfold callV
        split at h1
        · rename_i g cap hf
          rw [hf]
          dsimp only
          split at h1
          · rename_i ti hm
            rw [hm]
            exact ⟨_, callP_ok hc h1, rfl, .inr (.inl rfl)⟩
          · cases h1
          · cases h1
          · cases h1
        · cases h1
    | const v => exact gen h
    | global g => exact gen h
  | builtin b =>
    rw [hcal] at h
    cases b
    case len =>
      dsimp only at h ⊢
      split at h
      · split at h
        · rename_i ht
          simp only [OpR.out, Option.some.injEq, Prod.mk.injEq] at h
          obtain ⟨rfl, rfl⟩ := h
          rename_i h1 h2 _ _ _
          rw [h1, h2]; dsimp only; rw [ht]
          exact ⟨.q, rfl, rfl, .inr (.inl rfl)⟩
        · rename_i h1 h2 _ _ ht
          rw [h1, h2]; dsimp only; rw [ht]
          exact hqq h
        · rename_i h1 h2 _ ht
          rw [h1, h2]; dsimp only; rw [ht]
          exact hqq h
        · cases h
      · cases h
    case cap =>
      dsimp only at h ⊢
      split at h
      · split at h
        · rename_i h1 h2 _ _ ht
          rw [h1, h2]; dsimp only; rw [ht]
          exact hqq h
        · cases h
      · cases h
    case append =>
      dsimp only at h ⊢
      split at h
      · split at h
        · split at h
          · split at h
            · split at h
              · rename_i hargs htys ht _ _ hu _ _ _ _ _ _ _ e1 e2 e3 hz
                obtain ⟨e, h3, h4⟩ := hb h
                rw [hargs, htys]
                try dsimp only
                rw [if_pos ht, hu]
                try dsimp only
                rw [e1, e2, e3]
                try dsimp only
                rw [if_pos hz]
                exact ⟨e, h3, h4, .inl (appendD_cls h3)⟩
              · cases h
            · cases h
          · cases h
        · cases h
      · cases h
    case copy =>
      dsimp only at h ⊢
      split at h
      · split at h
        · split at h
          · rename_i h1 h2 _ _ hu _ _ _ e1
            obtain ⟨e, h3, h4⟩ := hb h
            rw [h1, h2]; dsimp only
            rw [hu]; dsimp only
            rw [e1]; dsimp only
            exact ⟨e, h3, h4, .inl (copyD_cls h3)⟩
          · cases h
        · cases h
      · cases h
    case max =>
      dsimp only at h ⊢
      obtain ⟨d', h1, h2⟩ := opt_map_some h
      cases h2
      refine ⟨.q, ?_, rfl, .inr (.inl rfl)⟩
      have := builtF_ok h1
      simp only [qv, this, Option.map_some]
    case min =>
      dsimp only at h ⊢
      obtain ⟨d', h1, h2⟩ := opt_map_some h
      cases h2
      refine ⟨.q, ?_, rfl, .inr (.inl rfl)⟩
      have := builtF_ok h1
      simp only [qv, this, Option.map_some]
    all_goals cases h
theorem opR_ok {X : Ctx} {cf' : CF} (hc : CLe X.cf cf') {st : Bool} {nid : Nat} {o : Oper} {slots : List DV} {H H' : Heap} {d : DV}
    (h : (opR X st nid o slots H).out H = some (d, H')) : ∃ e, evalO X.P cf' X.md X.fl nid o slots H = some (d, e) ∧ e.heap H = H' ∧ cLe e.cls (sCls X.md st o) := by
  have hq : ∀ {x : Option DV}, (OpR.a x).out H = some (d, H') → x = some d ∧ H = H' := by
    intro x hx
    obtain ⟨d', h1, h2⟩ := opt_map_some hx
    cases h2
    exact ⟨h1, rfl⟩
  have hqq : ∀ {x : Option DV} {s : Nat}, (OpR.a x).out H = some (d, H') → ∃ e, qv x = some (d, e) ∧ e.heap H = H' ∧ cLe e.cls s := fun h => ⟨.q, by simp only [qv, (hq h).1, Option.map_some], (hq h).2, .inr (.inl rfl)⟩
  have hb : ∀ {x : EO}, (OpR.b (effH x H)).out H = some (d, H') → ∃ e, x = some (d, e) ∧ e.heap H = H' := fun h => effH_ok h
  have hcls : ∀ {e : Eff}, cLe e.cls 2 := by
    intro e; cases e <;> simp [Eff.cls, cLe]
  cases hop : o.op with
  | call c =>
    unfold opR at h; rw [hop] at h
    unfold evalO; rw [hop]
    exact callR_ok hc hop h
  | move x => unfold opR at h; rw [hop] at h; unfold evalO; rw [hop]; cases h; exact ⟨.q, rfl, rfl, .inr (.inl rfl)⟩
  | assign x => unfold opR at h; rw [hop] at h; unfold evalO; rw [hop]; cases h; exact ⟨.q, rfl, rfl, .inr (.inl rfl)⟩
  | pick c a b => unfold opR at h; rw [hop] at h; unfold evalO; rw [hop]; exact hqq h
  | nilCheck x => unfold opR at h; rw [hop] at h; unfold evalO; rw [hop]; exact hqq h
  | extract t i => unfold opR at h; rw [hop] at h; unfold evalO; rw [hop]; exact hqq h
  | binOp op t x y t2 => unfold opR at h; rw [hop] at h; unfold evalO; rw [hop]; exact ⟨.q, by simp only [qv, binF_ok (hq h).1, Option.map_some], (hq h).2, .inr (.inl rfl)⟩
  | unOp op t x => unfold opR at h; rw [hop] at h; unfold evalO; rw [hop]; exact ⟨.q, by simp only [qv, unF_ok (hq h).1, Option.map_some], (hq h).2, .inr (.inl rfl)⟩
  | convert s t x => unfold opR at h; rw [hop] at h; unfold evalO; rw [hop]; exact ⟨.q, by simp only [qv, cvF_ok (hq h).1, Option.map_some], (hq h).2, .inr (.inl rfl)⟩
  | makeFunc fn a b => unfold opR at h; rw [hop] at h; unfold evalO; rw [hop]; cases h; exact ⟨.q, rfl, rfl, .inr (.inl rfl)⟩
  | alloc e =>
    unfold opR at h; rw [hop] at h; unfold evalO; rw [hop]
    dsimp only at h ⊢
    unfold sCls; rw [hop]; dsimp only
    split at h
    · rename_i z hz
      obtain ⟨H2, h1, h2⟩ := opt_map_some h
      cases h2
      obtain ⟨f, h3, h4, h5⟩ := allocG_ok h1
      rw [hz]
      exact ⟨f, h3, h4, .inl h5⟩
    · cases h
  | box e x =>
    unfold opR at h; rw [hop] at h; unfold evalO; rw [hop]
    dsimp only at h ⊢
    unfold sCls; rw [hop]; dsimp only
    obtain ⟨H2, h1, h2⟩ := opt_map_some h
    cases h2
    obtain ⟨f, h3, h4, h5⟩ := allocG_ok h1
    exact ⟨f, h3, h4, .inl h5⟩
  | load t a =>
    unfold opR at h; rw [hop] at h; unfold evalO; rw [hop]
    dsimp only at h ⊢
    unfold sCls; rw [hop]; dsimp only
    split at h
    · rename_i hz
      rw [hz]; dsimp only
      cases st with
      | true =>
        have h4 := (hq h).1
        unfold loadE at h4
        split at h4
        · rename_i hx
          refine ⟨.q, ?_, (hq h).2, .inl rfl⟩
          unfold loadD
          rw [hx]
          simp only [qv, h4, Option.map_some]
        · cases h4
      | false =>
      obtain ⟨e, h1, h2, h3⟩ := loadG_ok (hq h).1
      refine ⟨e, h1, h2.trans (hq h).2, ?_⟩
      cases e <;> simp [Eff.cls, cLe] at h3 ⊢
    · cases h
  | store t a x =>
    unfold opR at h; rw [hop] at h; unfold evalO; rw [hop]
    dsimp only at h ⊢
    unfold sCls; rw [hop]; dsimp only
    split at h
    · rename_i hz
      rw [hz]; dsimp only
      obtain ⟨H2, h1, h2⟩ := opt_map_some h
      cases h2
      obtain ⟨e, h3, h4, _⟩ := storeG_ok h1
      exact ⟨e, h3, h4, hcls⟩
    · cases h
  | build t ps =>
    unfold opR at h; rw [hop] at h; unfold evalO; rw [hop]
    dsimp only at h ⊢
    split at h
    · split at h
      · rename_i hu hz _ _ hp
        rw [hu, hz]; dsimp only; rw [hp]
        exact hqq h
      · cases h
    · split at h
      · rename_i hu hz _ _ hp
        rw [hu, hz]; dsimp only; rw [hp]
        exact hqq h
      · cases h
    · cases h
  | buildSlice t n ps =>
    unfold opR at h; rw [hop] at h; unfold evalO; rw [hop]
    dsimp only at h ⊢
    split at h
    · split at h
      · rename_i hu _ _ _ _ _ h1 h2
        rw [hu]; dsimp only; rw [h1, h2]
        exact hqq h
      · cases h
    · cases h
  | makeInterface t x =>
    unfold opR at h; rw [hop] at h; unfold evalO; rw [hop]
    dsimp only at h ⊢
    split at h
    · cases h
    · rename_i v hne hu
      cases h
      split
      · rename_i e2; exact (hne _ (Option.some.inj (hu.symm.trans e2))).elim
      · exact ⟨.q, rfl, rfl, .inr (.inl rfl)⟩
      · rename_i e2; rw [hu] at e2; cases e2
    · cases h
  | makeSlice t l c =>
    unfold opR at h; rw [hop] at h; unfold evalO; rw [hop]
    dsimp only at h ⊢
    unfold sCls; rw [hop]; dsimp only
    split at h
    · split at h
      · rename_i hu _ _ _ _ _ _ _ h1 h2 h3
        rw [hu]; dsimp only; rw [h1, h2, h3]; dsimp only
        obtain ⟨e, h4, h5⟩ := hb h
        refine ⟨e, h4, h5, ?_⟩
        unfold makeD at h4
        split at h4
        · split at h4
          · cases h4; exact .inl rfl
          · cases h4
        · cases h4
      · cases h
    · cases h
  | slice t x lo hi mx =>
    unfold opR at h; rw [hop] at h; unfold evalO; rw [hop]
    dsimp only at h ⊢
    split at h
    · split at h
      · rename_i hu _ _ _ h1
        rw [hu]; dsimp only; rw [h1]
        exact hqq h
      · cases h
    · split at h
      · rename_i hu _ _ _ h1
        rw [hu]; dsimp only; rw [h1]
        exact hqq h
      · cases h
    · cases h
  | fieldAddr t x f =>
    unfold opR at h; rw [hop] at h; unfold evalO; rw [hop]
    dsimp only at h ⊢
    split at h
    · split at h
      · split at h
        · rename_i hu _ _ h1 _ _ h2
          rw [hu]; dsimp only; rw [h1]; dsimp only; rw [h2]
          exact hqq h
        · cases h
      · cases h
    · cases h
  | field t x f =>
    unfold opR at h; rw [hop] at h; unfold evalO; rw [hop]
    dsimp only at h ⊢
    split at h
    · split at h
      · split at h
        · rename_i hu _ _ h1 _ _ _ h2
          rw [hu]; dsimp only; rw [h1]; dsimp only; rw [h2]
          exact hqq h
        · cases h
      · cases h
    · cases h
  | indexAddr t x i =>
    unfold opR at h; rw [hop] at h; unfold evalO; rw [hop]
    dsimp only at h ⊢
    split at h
    · split at h
      · rename_i hu _ _ h1
        rw [hu]; dsimp only; rw [h1]
        exact hqq h
      · cases h
    · split at h
      · rename_i hu _ _ h1
        rw [hu]; dsimp only; rw [h1]
        exact hqq h
      · cases h
    · cases h
  | index t x i =>
    unfold opR at h; rw [hop] at h; unfold evalO; rw [hop]
    dsimp only at h ⊢
    split at h
    · split at h
      · rename_i hu _ _ _ h1
        rw [hu]; dsimp only; rw [h1]
        exact hqq h
      · cases h
    · cases h
  | _ => unfold opR at h; rw [hop] at h; cases h
end Go.Proofs.Ytbhnkdnfmlnajaa

/- The front evaluator answers only what the deep evaluator answers: regions, loops, calls. -/
namespace Go.Proofs.Ytbhnkdnfmlnajaa
open Go

/-- more classes clash no less -/
theorem cLe_zero {c s : Nat} (h : cLe c s) : s = 0 → c = 0 := by unfold cLe at h; omega
theorem clash_mono {ops : Array Oper} {a b : Oper} {ca cb sa sb : Nat} (ha : cLe ca sa) (hb : cLe cb sb) (hsa : sa ≤ 5) (hsb : sb ≤ 5) (h : clash ops a b sa sb = false) : clash ops a b ca cb = false := by
  unfold clash at h ⊢
  simp only [Bool.or_eq_false_iff] at h ⊢
  obtain ⟨⟨⟨⟨⟨⟨⟨h1, h2⟩, h7⟩, h8⟩, h3⟩, h4⟩, h5⟩, h6⟩ := h
  refine ⟨⟨⟨⟨⟨⟨⟨?_, ?_⟩, ?_⟩, ?_⟩, ?_⟩, ?_⟩, h5⟩, h6⟩ <;>
  · unfold cLe at ha hb
    simp only [Bool.and_eq_false_iff, beq_eq_false_iff_ne, bne_eq_false_iff_eq, ne_eq, decide_eq_false_iff_not] at h1 h2 h3 h4 h7 h8 ⊢
    omega
def LLe : List Nat → List Nat → Prop
  | [], [] => True
  | c :: l, s :: m => (cLe c s ∧ s ≤ 5) ∧ LLe l m
  | _, _ => False
theorem LLe.length {l m : List Nat} (h : LLe l m) : l.length = m.length := by
  induction l generalizing m with
  | nil => cases m with
    | nil => rfl
    | cons => exact h.elim
  | cons c l ih => cases m with
    | nil => exact h.elim
    | cons s m => simp [ih h.2]
theorem LLe.get {l m : List Nat} (h : LLe l m) (i : Nat) (hi : i < l.length) : cLe (l.getD i 2) (m.getD i 2) ∧ m.getD i 2 ≤ 5 := by
  induction l generalizing m i with
  | nil => simp at hi
  | cons c l ih => cases m with
    | nil => exact h.elim
    | cons s m => cases i with
      | zero => exact h.1
      | succ i => exact ih h.2 i (by simpa using hi)
theorem drawOk_mono {ops : Array Oper} {cs ss : List Nat} (h : LLe cs ss) (hl : ss.length = ops.toList.length) (hd : drawOk ops ss = true) : drawOk ops cs = true := by
  unfold drawOk at hd ⊢
  simp only [List.all_eq_true, List.mem_range, Bool.and_eq_true, Bool.or_eq_true, Bool.not_eq_true'] at hd ⊢
  intro j hj
  refine ⟨(hd j hj).1, fun i hi => ((hd j hj).2 i hi).imp (fun hc => ?_) id⟩
  have hlen := h.length
  have g1 := h.get i (by omega)
  have g2 := h.get j (by omega)
  exact clash_mono g1.1 g2.1 g1.2 g2.2 hc

theorem sCls_le (md : FuncId → CM) (st : Bool) (o : Oper) : sCls md st o ≤ 5 := by
  unfold sCls
  repeat' split
  all_goals omega
theorem wantF_eq {c : DV} {w : Bool} {x : Option DV} {d : DV} (h : wantF c w x = some d) : (guardD c w = some true ∧ x = some d) ∨ (guardD c w = some false ∧ d = .flat undef) := by
  unfold wantF at h
  split at h
  · rename_i hg; exact .inl ⟨hg, h⟩
  · rename_i hg; cases h; exact .inr ⟨hg, rfl⟩
  · cases h
theorem wantH_eq {c : DV} {w : Bool} {H : Heap} {x : Option (DV × Heap)} {p : DV × Heap} (h : wantH c w H x = some p) : (guardD c w = some true ∧ x = some p) ∨ (guardD c w = some false ∧ p = (.flat undef, H)) := by
  unfold wantH at h
  split at h
  · rename_i hg; exact .inl ⟨hg, h⟩
  · rename_i hg; cases h; exact .inr ⟨hg, rfl⟩
  · cases h
theorem stepG_eq {g : Option (DV × Bool)} {q : OpR} {H : Heap} {k : DV → Heap → R} {r : DV × Heap} (h : stepG g q H k = some r) :
    ∃ d H', k d H' = some r ∧ ((q.out H = some (d, H') ∧ (g = none ∨ ∃ c w, g = some (c, w) ∧ guardD c w = some true)) ∨ (d = .flat undef ∧ H' = H ∧ ∃ c w, g = some (c, w) ∧ guardD c w = some false)) := by
  unfold stepG at h
  split at h
  · split at h
    · exact ⟨_, _, h, .inl ⟨rfl, .inl rfl⟩⟩
    · obtain ⟨d, rfl, h⟩ := bi_eq h; exact ⟨_, _, h, .inl ⟨rfl, .inl rfl⟩⟩
    · obtain ⟨p, rfl, h⟩ := bi_eq h; exact ⟨_, _, h, .inl ⟨rfl, .inl rfl⟩⟩
    · obtain ⟨d, rfl, h⟩ := bi_eq h; exact ⟨_, _, h, .inl ⟨rfl, .inl rfl⟩⟩
  · split at h
    · obtain ⟨d, h1, h0⟩ := bi_eq h
      rcases wantF_eq h1 with ⟨hg, h2⟩ | ⟨hg, rfl⟩
      · cases h2; exact ⟨_, _, h0, .inl ⟨rfl, .inr ⟨_, _, rfl, hg⟩⟩⟩
      · exact ⟨_, _, h0, .inr ⟨rfl, rfl, _, _, rfl, hg⟩⟩
    · obtain ⟨d, h1, h0⟩ := bi_eq h
      rcases wantF_eq h1 with ⟨hg, h2⟩ | ⟨hg, rfl⟩
      · cases h2; exact ⟨_, _, h0, .inl ⟨rfl, .inr ⟨_, _, rfl, hg⟩⟩⟩
      · exact ⟨_, _, h0, .inr ⟨rfl, rfl, _, _, rfl, hg⟩⟩
    · obtain ⟨p, h1, h0⟩ := bi_eq h
      rcases wantH_eq h1 with ⟨hg, h2⟩ | ⟨hg, rfl⟩
      · cases h2; exact ⟨_, _, h0, .inl ⟨rfl, .inr ⟨_, _, rfl, hg⟩⟩⟩
      · exact ⟨_, _, h0, .inr ⟨rfl, rfl, _, _, rfl, hg⟩⟩
    · obtain ⟨p, h1, h⟩ := bi_eq h
      rcases wantH_eq h1 with ⟨hg, h2⟩ | ⟨hg, rfl⟩
      · exact ⟨_, _, h, .inl ⟨h2, .inr ⟨_, _, rfl, hg⟩⟩⟩
      · exact ⟨_, _, h, .inr ⟨rfl, rfl, _, _, rfl, hg⟩⟩
theorem opsG_ok {X : Ctx} {cf' : CF} (hc : CLe X.cf cf') {st : Bool} {ops : Array Oper} {r : DV × Heap} {k : KF} {k' : List Nat → St → R} : ∀ (l : List Oper) (nid : Nat) (cs ss : List Nat) (s : List DV) (H : Heap),
    LLe cs ss → (∀ cs' s H, LLe cs' ((l.map fun o => sCls X.md (st && isElLd X.P ops o) o).reverse ++ ss) → k s H = some r → k' cs' ⟨s, H⟩ = some r) →
    opsG X st ops l nid s H k = some r → opsK ⟨X.P, cf', X.md, X.fl, X.N⟩ ops l nid cs ⟨s, H⟩ k' = some r := by
  intro l
  induction l with
  | nil => intro nid cs ss s H hcs hk h; exact hk _ _ _ (by simpa using hcs) h
  | cons o l ih =>
    intro nid cs ss s H hcs hk h
    unfold opsG at h
    have key : ∀ (d : DV) (e : Eff), wantE (wantD ops o s) (evalO X.P cf' X.md X.fl nid o s H) = some (d, e) → cLe e.cls (sCls X.md (st && isElLd X.P ops o) o) →
        opsG X st ops l (if isAl o then nid + 1 else nid) (putD s o.dst d) (e.heap H) k = some r → opsK ⟨X.P, cf', X.md, X.fl, X.N⟩ ops (o :: l) nid cs ⟨s, H⟩ k' = some r := by
      intro d e h1 h2 h3
      show opK _ ops nid o ⟨s, H⟩ _ = some r
      unfold opK
      dsimp only
      rw [h1, Option.bind_some]
      refine ih _ (e.cls :: cs) (sCls X.md (st && isElLd X.P ops o) o :: ss) _ _ ⟨⟨h2, sCls_le _ _ _⟩, hcs⟩ (fun cs' s H hcs' hh => hk _ _ _ (by simpa using hcs') hh) h3
    cases hm : moveOf o with
    | some x =>
      rw [hm] at h
      dsimp only at h
      rw [evalK_eq, forceL_eq] at h
      have ho : o.guard = none ∧ (o.op = .move x ∨ o.op = .assign x) := by
        unfold moveOf at hm
        split at hm
        · next hg =>
          refine ⟨hg, ?_⟩
          split at hm
          · next he => cases hm; exact .inl he
          · next he => cases hm; exact .inr he
          · cases hm
        · cases hm
      have hw : wantD ops o s = some true := by unfold wantD; rw [ho.1]
      have hal : isAl o = false := by unfold isAl; rcases ho.2 with h | h <;> rw [h]
      have he : evalO X.P cf' X.md X.fl nid o s H = some (evalD s x, .q) := by
        rcases ho.2 with h | h <;> (unfold evalO; rw [h])
      exact key _ .q (by rw [hw, he]; rfl) (.inr (.inl rfl)) (by rw [hal]; exact h)
    | none =>
      rw [hm] at h
      dsimp only at h
      cases hg : guardOf ops o s with
      | none => rw [hg] at h; cases h
      | some g =>
        rw [hg] at h
        dsimp only at h
        obtain ⟨d, H', h1, h2⟩ := stepG_eq h
        rw [forceL_eq] at h1
        have h1' : opsG X st ops l (if isAl o then nid + 1 else nid) (putD s o.dst d) H' k = some r := by
          cases ha : isAl o <;> (rw [ha] at h1; exact h1)
        have hwd : ∀ b, (g = none ∧ b = true) ∨ (∃ c w, g = some (c, w) ∧ guardD c w = some b) → wantD ops o s = some b := by
          intro b hb
          unfold guardOf at hg
          unfold wantD
          split at hg
          · rename_i e; rw [e]; cases hg
            rcases hb with ⟨_, rfl⟩ | ⟨_, _, h, _⟩
            · rfl
            · cases h
          · rename_i j w e
            rw [e]
            dsimp only
            split at hg
            · rename_i t e2
              rw [e2]
              cases hg
              rcases hb with ⟨h, _⟩ | ⟨_, _, h, h2⟩
              · cases h
              · cases h; exact h2
            · cases hg
        rcases h2 with ⟨h2, h3⟩ | ⟨rfl, rfl, c, w, rfl, h3⟩
        · obtain ⟨e, h4, h5, h6⟩ := opR_ok hc h2
          refine key d e ?_ h6 (by rw [h5]; exact h1')
          rw [hwd true (h3.imp (fun h => ⟨h, rfl⟩) id)]
          exact h4
        · refine key _ .q ?_ (.inr (.inl rfl)) h1'
          rw [hwd false (.inr ⟨_, _, rfl, h3⟩)]
          rfl
theorem condR_eq {d : DV} {x y : R} {r : DV × Heap} (h : condR d x y = some r) : (d = .flat (.bool true) ∧ x = some r) ∨ (d = .flat (.bool false) ∧ y = some r) := by
  unfold condR at h
  split at h
  · exact .inl ⟨rfl, h⟩
  · exact .inr ⟨rfl, h⟩
  · cases h
theorem loopG_ok {keep out : List Nat} {N : Nat} {body : List DV → Heap → (Ex → KF) → R} {body' : St → (Ex → St → R) → R} {r : DV × Heap}
    (hb : ∀ s H (k : Ex → KF) (k' : Ex → St → R), (∀ x s H, k x s H = some r → k' x ⟨s, H⟩ = some r) → body s H k = some r → body' ⟨s, H⟩ k' = some r) :
    ∀ (m : Nat) s H (k : Ex → KF) (k' : Ex → St → R), (∀ x s H, k x s H = some r → k' x ⟨s, H⟩ = some r) → loopG keep out N body m s H k = some r → loopN keep out N body' m ⟨s, H⟩ k' = some r := by
  intro m
  induction m with
  | zero => intro s H k k' hk h; cases h
  | succ m ih =>
    intro s H k k' hk h
    rw [loopG_succ] at h
    refine hb _ _ _ _ (fun x s H h => ?_) h
    cases x with
    | normal => dsimp only at h ⊢; rw [forceL_eq] at h; exact ih _ _ _ _ hk h
    | exit i => dsimp only at h ⊢; rw [forceL_eq] at h; exact hk _ _ _ h
    | ret => dsimp only at h ⊢; rw [forceL_eq] at h; exact hk _ _ _ h
theorem execG_ok {X : Ctx} {cf' : CF} (hc : CLe X.cf cf') {n : Nat} {r : DV × Heap} : ∀ (c : Code) ks s H (k : Ex → KF) (k' : Ex → St → R), (∀ x s H, k x s H = some r → k' x ⟨s, H⟩ = some r) →
    execG X n c ks s H k = some r → execD ⟨X.P, cf', X.md, X.fl, X.N⟩ n c ks ⟨s, H⟩ k' = some r := by
  intro c
  induction c with
  | skip => intro ks s H k k' hk h; exact hk _ _ _ h
  | region id ops draw =>
    intro ks s H k k' hk h
    have fin : ∀ (st : Bool), (draw = true → drawOk ops (ops.toList.map fun o => sCls X.md (st && isElLd X.P ops o) o) = true) → opsG X st ops ops.toList H.length s (addHoles ops.toList H) (fun s' H' => k .normal s' H') = some r →
        execD ⟨X.P, cf', X.md, X.fl, X.N⟩ n (.region id ops draw) ks ⟨s, H⟩ k' = some r := by
      intro st hd h
      show opsK _ ops ops.toList H.length [] ⟨s, addHoles ops.toList H⟩ _ = some r
      refine opsG_ok (X := X) hc ops.toList H.length [] [] s _ trivial (fun cs' s' H' hcs hh => ?_) h
      unfold drawK
      rw [if_neg]
      · exact hk _ _ _ hh
      · intro hcon
        simp only [Bool.and_eq_true, Bool.not_eq_true'] at hcon
        obtain ⟨h1, h2⟩ := hcon
        have hrev : LLe cs'.reverse (ops.toList.map fun o => sCls X.md (st && isElLd X.P ops o) o) := by
          have : ∀ (a b : List Nat), LLe a b → ∀ c d, LLe c d → LLe (a.reverse ++ c) (b.reverse ++ d) := by
            intro a
            induction a with
            | nil => intro b hb c d hcd; cases b with
              | nil => simpa using hcd
              | cons => exact hb.elim
            | cons x a ih => intro b hb c d hcd; cases b with
              | nil => exact hb.elim
              | cons y b => simpa using ih b hb.2 (x :: c) (y :: d) ⟨hb.1, hcd⟩
          have := this _ _ hcs [] [] trivial
          simpa using this
        rw [drawOk_mono hrev (by simp) (hd h1)] at h2
        cases h2
    simp only [execG] at h
    split at h
    · rename_i hd
      rw [holesF_eq] at h
      refine fin false (fun hdr => ?_) h
      rw [hdr] at hd
      simpa using hd
    · split at h
      · rename_i hd
        rw [holesF_eq] at h
        exact fin true (fun _ => by simpa using hd) h
      · cases h
  | seq a b iha ihb =>
    intro ks s H k k' hk h
    refine iha _ _ _ _ _ (fun x s H h => ?_) h
    cases x with
    | normal => exact ihb _ _ _ _ _ hk h
    | exit i => exact hk _ _ _ h
    | ret => exact hk _ _ _ h
  | cond c a b iha ihb =>
    intro ks s H k k' hk h
    rcases condR_eq h with ⟨h1, h2⟩ | ⟨h1, h2⟩
    · show condR (evalD s c) _ _ = _
      rw [h1]
      exact iha _ _ _ _ _ hk h2
    · show condR (evalD s c) _ _ = _
      rw [h1]
      exact ihb _ _ _ _ _ hk h2
  | block id b ih =>
    intro ks s H k k' hk h
    refine ih _ _ _ _ _ (fun x s H h => ?_) h
    cases x with
    | normal => exact hk _ _ _ h
    | exit i =>
      dsimp only at h ⊢
      split at h
      · rename_i e; rw [if_pos e]; exact hk _ _ _ h
      · rename_i e; rw [if_neg e]; exact hk _ _ _ h
    | ret => exact hk _ _ _ h
  | loop b ih =>
    intro ks s H k k' hk h
    simp only [execG] at h
    rw [forceL_eq] at h
    refine loopG_ok (fun s H k k' hk h => ih _ _ _ _ _ hk h) n _ _ _ _ (fun x s H h => ?_) h
    cases x with
    | normal => cases h
    | exit i => dsimp only at h ⊢; rw [forceL_eq] at h; exact hk _ _ _ h
    | ret => dsimp only at h ⊢; rw [forceL_eq] at h; exact hk _ _ _ h
  | scope b ih => intro ks s H k k' hk h; exact ih _ _ _ _ _ hk h
  | exit id => intro ks s H k k' hk h; exact hk _ _ _ h
  | ret => intro ks s H k k' hk h; exact hk _ _ _ h
  | _ => intros; rename_i h; cases h
theorem resK_ok {P : Program} {s : List DV} {H : Heap} {r : DV × Heap} : ∀ (rs : List ResultVar) (k : List DV → R), resK P s H rs k = some r → ∃ ds, seqO (rs.map (resOne P ⟨s, H⟩)) = some ds ∧ k ds = some r := by
  intro rs
  induction rs with
  | nil => intro k h; exact ⟨[], rfl, h⟩
  | cons v rs ih =>
    intro k h
    cases v with
    | tmp t =>
      obtain ⟨ds, h1, h2⟩ := ih _ h
      exact ⟨_, by simp only [List.map_cons, seqO, resOne, Option.bind_some, h1, Option.map_some], h2⟩
    | cell a t =>
      simp only [resK] at h
      split at h
      · rename_i ha
        obtain ⟨d, h3, h4⟩ := bi_eq h
        obtain ⟨ds, h1, h2⟩ := ih _ h4
        exact ⟨_, by simp only [List.map_cons, seqO, resOne, ha, h3, Option.bind_some, h1, Option.map_some], h2⟩
      · cases h
theorem callG_ok (P : Program) (E : Env) : ∀ n, CLe (callG P E n) (callN P E n) := by
  intro n
  induction n with
  | zero => intro f args H fl r h; cases h
  | succ n ih =>
    intro f args H fl r h
    rw [callG_eq] at h
    unfold bodyG at h
    simp only [callN]
    split at h
    · rename_i g hg
      rw [hg]
      exact h
    · rename_i hg
      rw [hg]
      dsimp only
      split at h
      · rename_i fn hf
        rw [hf]
        dsimp only
        split at h
        · rename_i c hb
          rw [hb]
          dsimp only
          split at h
          · cases h
          · rename_i hn
            rw [if_neg hn]
            rw [forceL_eq] at h
            refine execG_ok (X := ⟨P, callG P E n, E.md, fl, fn.ntmps⟩) ih c _ _ _ _ _ (fun x s H h => ?_) h
            cases x with
            | exit i => cases h
            | normal => obtain ⟨ds, h1, h2⟩ := resK_ok _ _ h; cases h2; dsimp only; unfold resD; rw [h1]; rfl
            | ret => obtain ⟨ds, h1, h2⟩ := resK_ok _ _ h; cases h2; dsimp only; unfold resD; rw [h1]; rfl
        · cases h
      · cases h
end Go.Proofs.Ytbhnkdnfmlnajaa

/- Plain laws on bits of words, and that the reference's sum is the program's. No program in sight. -/
namespace Go.Proofs.Ytbhnkdnfmlnajaa
open Go.RowKit

theorem wraps_u16 (n : Int) (h0 : 0 ≤ n) (h1 : n < 2 ^ 16) : IntKind.u16.wrap n = n := by
  simp [IntKind.wrap, IntKind.bits, IntKind.signed]; omega
theorem bits_xor_nat (k : IntKind) (j : Nat) (hj : j ≤ k.bits) (hk : ∀ n : Int, 0 ≤ n → n < 2 ^ j → k.wrap n = n) (a b : Nat) (ha : a < 2 ^ j) (hb : b < 2 ^ j) :
    Go.bits .xor k a b = ((a ^^^ b : Nat) : Int) := by
  have hp : 2 ^ j ≤ 2 ^ k.bits := Nat.pow_le_pow_right (by decide) hj
  have ha' : a % 2 ^ k.bits = a := Nat.mod_eq_of_lt (Nat.lt_of_lt_of_le ha hp)
  have hb' : b % 2 ^ k.bits = b := Nat.mod_eq_of_lt (Nat.lt_of_lt_of_le hb hp)
  have cast : ∀ n : Nat, n < 2 ^ j → ((n : Nat) : Int) < 2 ^ j := fun n h => by exact_mod_cast h
  simp only [Go.bits, BitVec.ofInt_natCast, BitVec.toNat_xor, BitVec.toNat_ofNat, ha', hb']
  exact hk _ (Int.natCast_nonneg _) (cast _ (Nat.xor_lt_two_pow ha hb))
theorem xor_u16 (x y : Int) (hx0 : 0 ≤ x) (hx1 : x < 65536) (hy0 : 0 ≤ y) (hy1 : y < 65536) : Go.bits .xor .u16 x y = ((x.toNat ^^^ y.toNat : Nat) : Int) := by
  obtain ⟨a, rfl⟩ := Int.eq_ofNat_of_zero_le hx0
  obtain ⟨b, rfl⟩ := Int.eq_ofNat_of_zero_le hy0
  exact bits_xor_nat .u16 16 (by decide) wraps_u16 a b (by omega) (by omega)
theorem and_u16 (x y : Int) (hx0 : 0 ≤ x) (hx1 : x < 65536) (hy0 : 0 ≤ y) (hy1 : y < 65536) : Go.bits .and .u16 x y = ((x.toNat &&& y.toNat : Nat) : Int) := by
  obtain ⟨a, rfl⟩ := Int.eq_ofNat_of_zero_le hx0
  obtain ⟨b, rfl⟩ := Int.eq_ofNat_of_zero_le hy0
  exact (bits_nat .u16 16 (by decide) wraps_u16 a b (by omega) (by omega)).1
theorem or_u16 (x y : Int) (hx0 : 0 ≤ x) (hx1 : x < 65536) (hy0 : 0 ≤ y) (hy1 : y < 65536) : Go.bits .or .u16 x y = ((x.toNat ||| y.toNat : Nat) : Int) := by
  obtain ⟨a, rfl⟩ := Int.eq_ofNat_of_zero_le hx0
  obtain ⟨b, rfl⟩ := Int.eq_ofNat_of_zero_le hy0
  exact (bits_nat .u16 16 (by decide) wraps_u16 a b (by omega) (by omega)).2

theorem div_u16 (x c : Int) (h0 : 0 ≤ x) (h1 : x < 65536) (hc : 0 < c) : IntKind.u16.wrap (x.tdiv c) = x / c := by
  rw [Int.tdiv_eq_ediv_of_nonneg h0]
  have := Int.ediv_nonneg h0 (Int.le_of_lt hc)
  have := Int.ediv_le_self c h0
  exact wraps_u16 _ (by omega) (by omega)
theorem wraps_i64 (n : Int) (h0 : 0 ≤ n) (h1 : n < 2 ^ 62) : IntKind.i64.wrap n = n := by
  simp [IntKind.wrap, IntKind.bits, IntKind.signed]; omega
theorem and1_i64 (x : Int) (h0 : 0 ≤ x) (h1 : x < 2 ^ 62) : Go.bits .and .i64 x 1 = x % 2 := bits_mask .i64 62 (by decide) wraps_i64 1 (by decide) x h0 h1
/-! ### the program's sum -/
def crcBit (x : Int) : Int := Go.bits .xor .u16 (x / 2) (Go.bits .and .u16 40961 (IntKind.u16.wrap (-(Go.bits .and .u16 x 1))))
def crcBits : Nat → Int → Int
  | 0, x => x
  | n + 1, x => crcBit (crcBits n x)
def crcByte (s : Int) (c : UInt8) : Int := crcBits 8 (Go.bits .xor .u16 s (IntKind.u16.wrap (c.toNat : Int)))
def crcMore (s : Int) (l : List UInt8) : Int := l.foldl crcByte s
theorem crcMore_snoc (s : Int) (l : List UInt8) (k : Nat) (h : k < l.length) : crcMore s (l.take (k + 1)) = crcByte (crcMore s (l.take k)) l[k] := by
  unfold crcMore; rw [List.take_succ_eq_append_getElem h, List.foldl_append]; rfl

/-! ### the reference's -/
/-- the bits by which two bytes differ, the first j of them -/
def xsum (a b : Int) : Nat → Int
  | 0 => 0
  | j + 1 => xsum a b j + if a / 2 ^ j % 2 ≠ b / 2 ^ j % 2 then 2 ^ j else 0
def refBit (x : Int) : Int := if x % 2 = 1 then Go.bits .xor .u16 (x / 2) 40961 else x / 2
def refBits : Nat → Int → Int
  | 0, x => x
  | n + 1, x => refBit (refBits n x)
def refStep (s : Int) (c : UInt8) : Int := refBits 8 (s - s % 256 + xsum (s % 256) (c.toNat : Int) 8)
theorem xsum_le (a b : Int) (j : Nat) : 0 ≤ xsum a b j ∧ xsum a b j < 2 ^ j := by
  induction j with
  | zero => simp [xsum]
  | succ j ih =>
    have h2 : (0 : Int) < 2 ^ j := Int.pow_pos (by omega)
    simp only [xsum, Int.pow_succ]
    split <;> omega
theorem refBit_bd (x : Int) (h0 : 0 ≤ x) (h1 : x < 65536) : 0 ≤ refBit x ∧ refBit x < 65536 := by
  unfold refBit
  split
  · have := bounds_u16 (wf_bits .xor .u16 (x / 2) 40961); omega
  · omega
theorem refBits_bd (n : Nat) (x : Int) (h0 : 0 ≤ x) (h1 : x < 65536) : 0 ≤ refBits n x ∧ refBits n x < 65536 := by
  induction n with
  | zero => exact ⟨h0, h1⟩
  | succ n ih => exact refBit_bd _ ih.1 ih.2
theorem refStep_bd (s : Int) (c : UInt8) (h0 : 0 ≤ s) (h1 : s < 65536) : 0 ≤ refStep s c ∧ refStep s c < 65536 := by
  have := xsum_le (s % 256) (c.toNat : Int) 8
  unfold refStep
  exact refBits_bd _ _ (by omega) (by omega)

/-! ### they are one -/
theorem xsum_nat (a b j : Nat) : xsum (a : Int) (b : Int) j = (((a ^^^ b) % 2 ^ j : Nat) : Int) := by
  induction j with
  | zero => simp [xsum, Nat.mod_one]
  | succ j ih =>
    have hx : ((a ^^^ b) / 2 ^ j) % 2 = ((a / 2 ^ j % 2) ^^^ (b / 2 ^ j % 2)) := by
      have := Nat.xor_mod_two_pow (a := a / 2 ^ j) (b := b / 2 ^ j) (n := 1)
      rw [Nat.xor_div_two_pow]; simpa using this
    rw [Nat.mod_pow_succ, xsum, ih, hx]
    have e : ∀ x : Nat, (x : Int) / 2 ^ j % 2 = ((x / 2 ^ j % 2 : Nat) : Int) := by
      intro x
      have h2 : ((2 ^ j : Nat) : Int) = 2 ^ j := by simp
      rw [Int.natCast_emod, Int.natCast_ediv, h2]
      rfl
    rw [e, e]
    have h1 : a / 2 ^ j % 2 < 2 := Nat.mod_lt _ (by omega)
    have h2 : b / 2 ^ j % 2 < 2 := Nat.mod_lt _ (by omega)
    generalize a / 2 ^ j % 2 = p at *
    generalize b / 2 ^ j % 2 = q at *
    rcases (by omega : (p = 0 ∨ p = 1)) with rfl | rfl <;> rcases (by omega : (q = 0 ∨ q = 1)) with rfl | rfl <;> simp
theorem xor_split (s c : Nat) (hc : c < 256) : s ^^^ c = s - s % 256 + ((s % 256) ^^^ c) % 2 ^ 8 := by
  have h1 : (s ^^^ c) % 2 ^ 8 = (s % 256) ^^^ c := by
    rw [Nat.xor_mod_two_pow]; congr 1; exact Nat.mod_eq_of_lt hc
  have h2 : (s ^^^ c) / 2 ^ 8 = s / 256 := by
    rw [Nat.xor_div_two_pow, Nat.div_eq_of_lt hc]; simp
  have h3 : ((s % 256) ^^^ c) < 2 ^ 8 := Nat.xor_lt_two_pow (Nat.mod_lt _ (by omega)) hc
  have h4 := Nat.div_add_mod (s ^^^ c) (2 ^ 8)
  rw [h1, h2] at h4
  rw [Nat.mod_eq_of_lt h3]
  have := Nat.div_add_mod s 256
  omega
theorem crcBit_is (x : Int) (h0 : 0 ≤ x) (h1 : x < 65536) : crcBit x = refBit x := by
  unfold crcBit refBit
  rw [and_u16 x 1 h0 h1 (by omega) (by omega)]
  have e : (x.toNat &&& (1 : Int).toNat) = x.toNat % 2 := by
    show x.toNat &&& 1 = _
    exact Nat.and_one_is_mod _
  rw [e]
  rcases (by omega : x.toNat % 2 = 0 ∨ x.toNat % 2 = 1) with h | h
  · rw [h, if_neg (by omega)]
    rw [show IntKind.u16.wrap (-((0 : Nat) : Int)) = 0 from rfl, show Go.bits .and .u16 40961 0 = 0 from by decide, xor_u16 _ _ (by omega) (by omega) (by omega) (by omega)]
    simp; omega
  · rw [h, if_pos (by omega)]
    rw [show IntKind.u16.wrap (-((1 : Nat) : Int)) = 65535 from by decide, show Go.bits .and .u16 40961 65535 = 40961 from by decide]
theorem crcBits_is (n : Nat) (x : Int) (h0 : 0 ≤ x) (h1 : x < 65536) : crcBits n x = refBits n x := by
  induction n with
  | zero => rfl
  | succ n ih => have := refBits_bd n x h0 h1; rw [crcBits, refBits, ih, crcBit_is _ this.1 this.2]
theorem crcByte_is (s : Int) (c : UInt8) (h0 : 0 ≤ s) (h1 : s < 65536) : crcByte s c = refStep s c := by
  have hc : (c.toNat : Int) < 256 := by have := c.toNat_lt; omega
  unfold crcByte refStep
  rw [wraps_u16 _ (by omega) (by omega), xor_u16 _ _ h0 h1 (by omega) (by omega), Int.toNat_natCast]
  obtain ⟨a, rfl⟩ := Int.eq_ofNat_of_zero_le h0
  have e : ((a : Int) % 256) = ((a % 256 : Nat) : Int) := by omega
  rw [e, xsum_nat, Int.toNat_natCast, xor_split a c.toNat (by omega)]
  have hle : a % 256 ≤ a := Nat.mod_le _ _
  have hlt : ((a % 256) ^^^ c.toNat) % 2 ^ 8 < 2 ^ 8 := Nat.mod_lt _ (by omega)
  rw [Int.natCast_add, Int.natCast_sub hle]
  exact crcBits_is _ _ (by omega) (by omega)
theorem crcByte_bd (s : Int) (c : UInt8) (h0 : 0 ≤ s) (h1 : s < 65536) : 0 ≤ crcByte s c ∧ crcByte s c < 65536 := by
  rw [crcByte_is s c h0 h1]; exact refStep_bd s c h0 h1
theorem crcMore_bd (l : List UInt8) : ∀ (s : Int), 0 ≤ s → s < 65536 → 0 ≤ crcMore s l ∧ crcMore s l < 65536 := by
  induction l with
  | nil => exact fun s h0 h1 => ⟨h0, h1⟩
  | cons x l ih => exact fun s h0 h1 => ih _ (crcByte_bd s x h0 h1).1 (crcByte_bd s x h0 h1).2
theorem refMore_is (l : List UInt8) : ∀ (s : Int), 0 ≤ s → s < 65536 → l.foldl refStep s = crcMore s l := by
  induction l with
  | nil => exact fun _ _ _ => rfl
  | cons x l ih => intro s h0 h1; rw [List.foldl_cons, ← crcByte_is s x h0 h1, ih _ (crcByte_bd s x h0 h1).1 (crcByte_bd s x h0 h1).2]; rfl
end Go.Proofs.Ytbhnkdnfmlnajaa

/- Plain laws: the sum is linear; bytes with their sum have the sum 0, and no others. -/
namespace Go.Proofs.Ytbhnkdnfmlnajaa
open Go.RowKit

def nBit (x : Nat) : Nat := (x / 2) ^^^ (if x % 2 = 1 then 40961 else 0)
def nBits : Nat → Nat → Nat
  | 0, x => x
  | n + 1, x => nBit (nBits n x)
def nMore (s : Nat) (l : List UInt8) : Nat := l.foldl (fun s c => nBits 8 (s ^^^ c.toNat)) s
theorem nBit_lt (x : Nat) (h : x < 65536) : nBit x < 65536 := by
  unfold nBit
  have h2 : (if x % 2 = 1 then 40961 else 0) < 2 ^ 16 := by split <;> omega
  exact Nat.xor_lt_two_pow (by omega) h2
theorem nBits_lt (n x : Nat) (h : x < 65536) : nBits n x < 65536 := by
  induction n with
  | zero => exact h
  | succ n ih => exact nBit_lt _ ih
theorem crcBit_nat (x : Nat) (h : x < 65536) : crcBit (x : Int) = (nBit x : Int) := by
  rw [crcBit_is _ (by omega) (by omega)]
  unfold refBit nBit
  by_cases ho : x % 2 = 1
  · rw [if_pos (by omega), if_pos ho, xor_u16 _ _ (by omega) (by omega) (by omega) (by omega)]
    rfl
  · rw [if_neg (by omega), if_neg ho]; simp
theorem crcBits_nat (n x : Nat) (h : x < 65536) : crcBits n (x : Int) = (nBits n x : Int) := by
  induction n with
  | zero => rfl
  | succ n ih => rw [crcBits, ih, nBits, crcBit_nat _ (nBits_lt n x h)]
theorem crcMore_nat (l : List UInt8) : ∀ s : Nat, s < 65536 → crcMore (s : Int) l = (nMore s l : Int) := by
  induction l with
  | nil => exact fun _ _ => rfl
  | cons c l ih =>
    intro s h
    have hc := c.toNat_lt
    have hx : s ^^^ c.toNat < 2 ^ 16 := Nat.xor_lt_two_pow h (by omega)
    show crcMore (crcByte (s : Int) c) l = _
    have e : crcByte (s : Int) c = (nBits 8 (s ^^^ c.toNat) : Int) := by
      unfold crcByte
      rw [wraps_u16 _ (by omega) (by omega), xor_u16 _ _ (by omega) (by omega) (by omega) (by omega), ← crcBits_nat _ _ hx]
      rfl
    rw [e, ih _ (nBits_lt _ _ hx)]
    rfl
theorem nMore_lt (l : List UInt8) : ∀ s : Nat, s < 65536 → nMore s l < 65536 := by
  intro s h
  have := crcMore_bd l (s : Int) (by omega) (by omega)
  rw [crcMore_nat l s h] at this
  omega
theorem nMore_append (s : Nat) (a b : List UInt8) : nMore s (a ++ b) = nMore (nMore s a) b := by unfold nMore; rw [List.foldl_append]
theorem crcMore_append (s : Int) (a b : List UInt8) : crcMore s (a ++ b) = crcMore (crcMore s a) b := by unfold crcMore; rw [List.foldl_append]

theorem nBit_xor (x y : Nat) : nBit (x ^^^ y) = nBit x ^^^ nBit y := by
  unfold nBit
  have h1 : (x ^^^ y) / 2 = x / 2 ^^^ y / 2 := by simpa using Nat.xor_div_two_pow (a := x) (b := y) (n := 1)
  have h2 : (x ^^^ y) % 2 = (x % 2) ^^^ (y % 2) := by simpa using Nat.xor_mod_two_pow (a := x) (b := y) (n := 1)
  rw [h1, h2]
  rcases (by omega : x % 2 = 0 ∨ x % 2 = 1) with h | h <;> rcases (by omega : y % 2 = 0 ∨ y % 2 = 1) with k | k <;> rw [h, k]
  · simp
  · simp [Nat.xor_assoc]
  · simp only [Nat.xor_zero, if_true]
    rw [Nat.xor_assoc, Nat.xor_assoc]
    simp [Nat.xor_comm]
  · have e : ∀ p q c : Nat, p ^^^ c ^^^ (q ^^^ c) = p ^^^ q := by
      intro p q c
      rw [Nat.xor_comm q c, Nat.xor_assoc, ← Nat.xor_assoc c c q]; simp
    simp [e]
theorem nBits_xor (n x y : Nat) : nBits n (x ^^^ y) = nBits n x ^^^ nBits n y := by
  induction n with
  | zero => rfl
  | succ n ih => rw [nBits, ih, nBit_xor]; rfl
theorem nBit_zero (x : Nat) (h : x < 65536) (hz : nBit x = 0) : x = 0 := by
  unfold nBit at hz
  rcases (by omega : x % 2 = 0 ∨ x % 2 = 1) with h2 | h2
  · rw [if_neg (by omega)] at hz; simp at hz; omega
  · rw [if_pos h2] at hz
    have h3 : x / 2 = 40961 := by
      have := congrArg (· ^^^ 40961) hz
      simpa [Nat.xor_assoc] using this
    omega
theorem nBits_zero (n : Nat) : ∀ x : Nat, x < 65536 → nBits n x = 0 → x = 0 := by
  induction n with
  | zero => exact fun _ _ h => h
  | succ n ih => exact fun x h hz => ih x h (nBit_zero _ (nBits_lt n x h) hz)
theorem nBits_shift (n : Nat) : ∀ y : Nat, nBits n (2 ^ n * y) = y := by
  have key : ∀ m k y : Nat, nBits m (2 ^ (m + k) * y) = 2 ^ k * y := by
    intro m
    induction m with
    | zero => intro k y; simp [nBits]
    | succ m ih =>
      intro k y
      have := ih (k + 1) y
      rw [show m + 1 + k = m + (k + 1) by omega, nBits, this]
      unfold nBit
      have e : 2 ^ (k + 1) * y = 2 * (2 ^ k * y) := by rw [Nat.pow_succ, Nat.mul_comm (2 ^ k) 2, Nat.mul_assoc]
      rw [e, if_neg (by omega)]
      simp
  intro y
  simpa using key n 0 y
theorem nBits_add (m n x : Nat) : nBits m (nBits n x) = nBits (m + n) x := by
  induction m with
  | zero => simp [nBits]
  | succ m ih => rw [nBits, ih, show m + 1 + n = m + n + 1 by omega]; rfl
theorem nBits_nil (n : Nat) : nBits n 0 = 0 := by
  induction n with
  | zero => rfl
  | succ n ih => rw [nBits, ih]; rfl
/-- two bytes more: sixteen bits at once -/
theorem nMore_two (s : Nat) (a b : UInt8) : nMore s [a, b] = nBits 16 (s ^^^ a.toNat ^^^ 256 * b.toNat) := by
  show nBits 8 (nBits 8 (s ^^^ a.toNat) ^^^ b.toNat) = _
  rw [show (16 : Nat) = 8 + 8 from rfl, ← nBits_add 8 8, nBits_xor 8 (s ^^^ a.toNat), show 256 * b.toNat = 2 ^ 8 * b.toNat from rfl, nBits_shift 8]
theorem two_zero (s : Nat) (a b : UInt8) (h : s < 65536) : nMore s [a, b] = 0 ↔ a.toNat = s % 256 ∧ b.toNat = s / 256 := by
  have ha := a.toNat_lt
  have hb := b.toNat_lt
  have e : a.toNat ^^^ 256 * b.toNat = a.toNat + 256 * b.toNat := by
    have h1 : (a.toNat ^^^ 256 * b.toNat) % 2 ^ 8 = a.toNat := by
      rw [Nat.xor_mod_two_pow, show 256 * b.toNat = 2 ^ 8 * b.toNat from rfl, Nat.mul_mod_right, Nat.mod_eq_of_lt (by omega)]; simp
    have h2 : (a.toNat ^^^ 256 * b.toNat) / 2 ^ 8 = b.toNat := by
      rw [Nat.xor_div_two_pow, show 256 * b.toNat = 2 ^ 8 * b.toNat from rfl, Nat.mul_div_cancel_left _ (by omega), Nat.div_eq_of_lt (by omega)]; simp
    have := Nat.div_add_mod (a.toNat ^^^ 256 * b.toNat) (2 ^ 8)
    omega
  rw [nMore_two, Nat.xor_assoc, e]
  constructor
  · intro hz
    have hx : s ^^^ (a.toNat + 256 * b.toNat) < 2 ^ 16 := Nat.xor_lt_two_pow (by omega) (by omega)
    have := nBits_zero 16 _ hx hz
    have : s = a.toNat + 256 * b.toNat := by
      have h3 := congrArg (· ^^^ (a.toNat + 256 * b.toNat)) this
      simpa [Nat.xor_assoc] using h3
    omega
  · intro ⟨h1, h2⟩
    have : a.toNat + 256 * b.toNat = s := by omega
    rw [this, Nat.xor_self, nBits_nil]
def lowB (n : Int) : UInt8 := UInt8.ofNat n.toNat
theorem lowB_nat (n : Int) (h0 : 0 ≤ n) (h1 : n < 256) : ((lowB n).toNat : Int) = n := by
  unfold lowB; rw [UInt8.toNat_ofNat']; omega
def crcPut (l : List UInt8) : List UInt8 := l ++ [lowB (crcMore 65535 l % 256), lowB (crcMore 65535 l / 256 % 256)]
theorem crcPut_zero (l : List UInt8) : crcMore 65535 (crcPut l) = 0 := by
  have h := nMore_lt l 65535 (by omega)
  have e := crcMore_nat l 65535 (by omega)
  have e' : crcMore 65535 l = (nMore 65535 l : Int) := e
  unfold crcPut
  rw [e', show (65535 : Int) = ((65535 : Nat) : Int) from rfl, crcMore_nat _ _ (by omega), nMore_append]
  have h1 := lowB_nat ((nMore 65535 l : Int) % 256) (by omega) (by omega)
  have h2 := lowB_nat ((nMore 65535 l : Int) / 256 % 256) (by omega) (by omega)
  rw [(two_zero _ _ _ h).2 ⟨by omega, by omega⟩]
  rfl
/-- the only bytes with the sum 0 are those with their own sum behind them -/
theorem crc_zero (l : List UInt8) (h2 : 2 ≤ l.length) (hz : crcMore 65535 l = 0) : crcPut (l.take (l.length - 2)) = l := by
  obtain ⟨f, a, b, rfl⟩ : ∃ f a b, l = f ++ [a, b] := by
    refine ⟨l.take (l.length - 2), l[l.length - 2], l[l.length - 1], ?_⟩
    have h3 : l = l.take (l.length - 2) ++ l.drop (l.length - 2) := (List.take_append_drop _ _).symm
    have h4 : l.drop (l.length - 2) = [l[l.length - 2], l[l.length - 1]] := by
      rw [List.drop_eq_getElem_cons (by omega), show l.length - 2 + 1 = l.length - 1 by omega, List.drop_eq_getElem_cons (by omega), show l.length - 1 + 1 = l.length by omega, List.drop_length]
    rw [h4] at h3
    exact h3
  have e : (f ++ [a, b]).take ((f ++ [a, b]).length - 2) = f := by simp
  rw [e]
  have h := nMore_lt f 65535 (by omega)
  rw [show (65535 : Int) = ((65535 : Nat) : Int) from rfl, crcMore_nat _ _ (by omega), nMore_append] at hz
  obtain ⟨h3, h4⟩ := (two_zero _ a b h).1 (by exact_mod_cast hz)
  have e' : crcMore 65535 f = (nMore 65535 f : Int) := crcMore_nat f 65535 (by omega)
  unfold crcPut
  rw [e']
  have k1 : lowB ((nMore 65535 f : Int) % 256) = a := by
    apply UInt8.toNat_inj.1
    have := lowB_nat ((nMore 65535 f : Int) % 256) (by omega) (by omega)
    omega
  have k2 : lowB ((nMore 65535 f : Int) / 256 % 256) = b := by
    apply UInt8.toNat_inj.1
    have := lowB_nat ((nMore 65535 f : Int) / 256 % 256) (by omega) (by omega)
    omega
  rw [k1, k2]
theorem crcPut_take (l : List UInt8) (h2 : 2 ≤ l.length) : crcPut (l.take (l.length - 2)) = l ↔ crcMore 65535 l = 0 :=
  ⟨fun h => h ▸ crcPut_zero _, crc_zero l h2⟩
end Go.Proofs.Ytbhnkdnfmlnajaa

/- Plain laws of layer 2: words and bits of bytes, and back. No program in sight. -/
namespace Go.Proofs.Ytbhnkdnfmlnajaa
open Go.RowKit

def mkW (a b : UInt8) : UInt16 := UInt16.ofNat (256 * a.toNat + b.toNat)
theorem mkW_nat (a b : UInt8) : (mkW a b).toNat = 256 * a.toNat + b.toNat := by
  have := a.toNat_lt; have := b.toNat_lt
  unfold mkW; rw [UInt16.toNat_ofNat']; omega
theorem or_mkW (a b : UInt8) : Go.bits .or .u16 (IntKind.u16.wrap (IntKind.u16.wrap (a.toNat : Int) * 256)) (IntKind.u16.wrap (b.toNat : Int)) = ((mkW a b).toNat : Int) := by
  have := a.toNat_lt; have := b.toNat_lt
  rw [mkW_nat, wraps_u16 (a.toNat : Int) (by omega) (by omega), wraps_u16 (b.toNat : Int) (by omega) (by omega), wraps_u16 _ (by omega) (by omega),
    bits_join .u16 16 (by decide) wraps_u16 8 _ _ (by omega) (by omega) (by omega) (by omega) (by omega) (by omega)]
  omega
def wWords : List UInt8 → List UInt16
  | a :: b :: l => mkW a b :: wWords l
  | _ => []
theorem wWords_append (l m : List UInt8) (h : l.length % 2 = 0) : wWords (l ++ m) = wWords l ++ wWords m := by
  induction l using wWords.induct with
  | case1 a b l ih => simp only [List.cons_append, wWords]; rw [ih (by simp at h; omega)]
  | case2 l hl =>
    cases l with
    | nil => rfl
    | cons a l =>
      cases l with
      | nil => simp at h
      | cons b l => exact absurd rfl (hl a b l)
theorem wWords_len (l : List UInt8) : (wWords l).length = l.length / 2 := by
  induction l using wWords.induct with
  | case1 a b l ih => simp only [wWords, List.length_cons, ih]; omega
  | case2 l hl =>
    cases l with
    | nil => rfl
    | cons a l =>
      cases l with
      | nil => simp [wWords]
      | cons b l => exact absurd rfl (hl a b l)
theorem wWords_step (l : List UInt8) (k : Nat) (h : k + 1 < l.length) (hk : k % 2 = 0) : wWords (l.take (k + 2)) = wWords (l.take k) ++ [mkW l[k] l[k + 1]] := by
  have e : l.take (k + 2) = l.take k ++ [l[k], l[k + 1]] := by
    rw [show k + 2 = k + 1 + 1 from rfl, List.take_succ_eq_append_getElem h, List.take_succ_eq_append_getElem (by omega : k < l.length), List.append_assoc]; rfl
  rw [e, wWords_append _ _ (by rw [List.length_take]; omega)]
  rfl
def wBytes (l : List UInt16) : List UInt8 := l.flatMap fun n => [UInt8.ofNat (n.toNat / 256), UInt8.ofNat (n.toNat % 256)]
theorem wBytes_step (l : List UInt16) (k : Nat) (h : k < l.length) : wBytes (l.take (k + 1)) = wBytes (l.take k) ++ [UInt8.ofNat (l[k].toNat / 256), UInt8.ofNat (l[k].toNat % 256)] := by
  unfold wBytes
  rw [List.take_succ_eq_append_getElem h, List.flatMap_append]; simp
theorem wBytes_len (l : List UInt16) : (wBytes l).length = 2 * l.length := by
  unfold wBytes
  induction l with
  | nil => rfl
  | cons a l ih => simp [List.flatMap_cons] at ih ⊢; omega
theorem wWords_bytes (l : List UInt16) : wWords (wBytes l) = l := by
  induction l with
  | nil => rfl
  | cons a l ih =>
    show wWords (UInt8.ofNat (a.toNat / 256) :: UInt8.ofNat (a.toNat % 256) :: wBytes l) = _
    rw [wWords, ih]
    congr 1
    have := a.toNat_lt
    apply UInt16.toNat_inj.1
    rw [mkW_nat, UInt8.toNat_ofNat', UInt8.toNat_ofNat']
    omega

/-! ### bits -/
/-- the bits of a byte, the lowest first -/
def bitsOf (c : UInt8) (i : Nat) : Bool := c.toNat / 2 ^ i % 2 = 1
theorem and1_u8 (x : Int) (h0 : 0 ≤ x) (h1 : x < 256) : Go.bits .and .u8 x 1 = x % 2 := bits_mask .u8 8 (by decide) wraps_u8 1 (by decide) x h0 h1
theorem shr_nat (c : UInt8) (i : Nat) : (c.toNat : Int) / 2 ^ i = ((c.toNat / 2 ^ i : Nat) : Int) := by
  rw [Int.natCast_ediv]; simp
theorem and_bit (c : UInt8) (i : Nat) : (Go.bits .and .u8 ((c.toNat : Int) / 2 ^ i) 1 == 1) = bitsOf c i := by
  have hc := c.toNat_lt
  have hle : c.toNat / 2 ^ i ≤ c.toNat := Nat.div_le_self _ _
  rw [shr_nat]
  unfold bitsOf
  generalize c.toNat / 2 ^ i = q at *
  rw [and1_u8 _ (by omega) (by omega)]
  rw [Bool.eq_iff_iff, beq_iff_eq, decide_eq_true_iff]
  omega
/-- bits as one byte -/
def bOf8 : List Bool → Nat
  | [] => 0
  | b :: l => (if b then 1 else 0) + 2 * bOf8 l
theorem bOf8_lt (l : List Bool) : bOf8 l < 2 ^ l.length := by
  induction l with
  | nil => simp [bOf8]
  | cons b l ih => simp only [bOf8, List.length_cons, Nat.pow_succ]; split <;> omega
theorem bOf8_snoc (l : List Bool) (b : Bool) : bOf8 (l ++ [b]) = bOf8 l + if b then 2 ^ l.length else 0 := by
  induction l with
  | nil => simp [bOf8]
  | cons c l ih =>
    simp only [List.cons_append, bOf8, ih, List.length_cons, Nat.pow_succ]
    split <;> split <;> omega
theorem bOf8_bit (l : List Bool) (i : Nat) : (bOf8 l / 2 ^ i % 2 = 1) ↔ l[i]? = some true := by
  induction l generalizing i with
  | nil => simp [bOf8]
  | cons b l ih =>
    cases i with
    | zero => simp only [bOf8, Nat.pow_zero, Nat.div_one, List.getElem?_cons_zero]; cases b <;> simp <;> omega
    | succ i =>
      have e : bOf8 (b :: l) / 2 ^ (i + 1) = bOf8 l / 2 ^ i := by
        rw [Nat.pow_succ, Nat.mul_comm, ← Nat.div_div_eq_div_mul]
        congr 1
        simp only [bOf8]; split <;> omega
      rw [e, ih]; simp
/-- bits as bytes -/
def wPack (l : List Bool) : List UInt8 := (List.range ((l.length + 7) / 8)).map fun i => UInt8.ofNat (bOf8 ((l.drop (8 * i)).take 8))
theorem wPack_len (l : List Bool) : (wPack l).length = (l.length + 7) / 8 := by simp [wPack]
theorem wPack_get (l : List Bool) (i : Nat) (h : i < (wPack l).length) : (wPack l)[i].toNat = bOf8 ((l.drop (8 * i)).take 8) := by
  have hb := bOf8_lt ((l.drop (8 * i)).take 8)
  have hl : ((l.drop (8 * i)).take 8).length ≤ 8 := by simp; omega
  have : 2 ^ ((l.drop (8 * i)).take 8).length ≤ 2 ^ 8 := Nat.pow_le_pow_right (by omega) hl
  simp only [wPack, List.getElem_map, List.getElem_range, UInt8.toNat_ofNat']
  omega
/-- bits as n bytes -/
def pk (l : List Bool) (n : Nat) : List UInt8 := (List.range n).map fun i => UInt8.ofNat (bOf8 ((l.drop (8 * i)).take 8))
theorem pk_len (l : List Bool) (n : Nat) : (pk l n).length = n := by simp [pk]
theorem pk_get (l : List Bool) (n i : Nat) (h : i < (pk l n).length) : (pk l n)[i].toNat = bOf8 ((l.drop (8 * i)).take 8) := by
  have hb := bOf8_lt ((l.drop (8 * i)).take 8)
  have hl : ((l.drop (8 * i)).take 8).length ≤ 8 := by simp; omega
  have : 2 ^ ((l.drop (8 * i)).take 8).length ≤ 2 ^ 8 := Nat.pow_le_pow_right (by omega) hl
  simp only [pk, List.getElem_map, List.getElem_range, UInt8.toNat_ofNat']
  omega
theorem pk_nil (n : Nat) : pk [] n = List.replicate n 0 := by
  apply List.ext_getElem
  · simp [pk]
  · intro i h1 h2; simp [pk, bOf8]
theorem chunk_same (l : List Bool) (k i : Nat) (h : k < l.length) (hi : i ≠ k / 8) : ((l.take (k + 1)).drop (8 * i)).take 8 = ((l.take k).drop (8 * i)).take 8 := by
  rw [List.take_succ_eq_append_getElem h]
  have hk : (l.take k).length = k := by simp; omega
  rcases Nat.lt_or_ge i (k / 8) with hlt | hge
  · rw [List.drop_append_of_le_length (by omega), List.take_append_of_le_length (by simp; omega)]
  · rw [List.drop_eq_nil_of_le (by simp; omega), List.drop_eq_nil_of_le (by omega)]
theorem chunk_step (l : List Bool) (k : Nat) (h : k < l.length) : ((l.take (k + 1)).drop (8 * (k / 8))).take 8 = ((l.take k).drop (8 * (k / 8))).take 8 ++ [l[k]] := by
  rw [List.take_succ_eq_append_getElem h]
  have hk : (l.take k).length = k := by simp; omega
  rw [List.drop_append_of_le_length (by omega), List.take_of_length_le (by simp; omega), List.take_of_length_le (l := (l.take k).drop _) (by simp; omega)]
theorem chunk_len (l : List Bool) (k : Nat) (h : k < l.length) : (((l.take k).drop (8 * (k / 8))).take 8).length = k % 8 := by simp; omega
theorem pk_false (l : List Bool) (k n : Nat) (h : k < l.length) (hb : l[k] = false) : pk (l.take (k + 1)) n = pk (l.take k) n := by
  apply List.ext_getElem
  · simp [pk_len]
  · intro i h1 h2
    apply UInt8.toNat_inj.1
    rw [pk_get, pk_get]
    by_cases hi : i = k / 8
    · subst hi; rw [chunk_step l k h, bOf8_snoc, hb]; simp
    · rw [chunk_same l k i h hi]
theorem pk_true (l : List Bool) (k n : Nat) (h : k < l.length) (hb : l[k] = true) (hn : k / 8 < (pk (l.take k) n).length) :
    pk (l.take (k + 1)) n = (pk (l.take k) n).set (k / 8) (UInt8.ofNat ((pk (l.take k) n)[k / 8].toNat + 2 ^ (k % 8))) ∧ (pk (l.take k) n)[k / 8].toNat < 2 ^ (k % 8) := by
  have hlt : (pk (l.take k) n)[k / 8].toNat < 2 ^ (k % 8) := by
    rw [pk_get]; have := bOf8_lt (((l.take k).drop (8 * (k / 8))).take 8); rwa [chunk_len l k h] at this
  refine ⟨?_, hlt⟩
  have hp : 2 ^ (k % 8 + 1) ≤ 2 ^ 8 := Nat.pow_le_pow_right (by omega) (by omega)
  rw [Nat.pow_succ] at hp
  apply List.ext_getElem
  · simp [pk_len]
  · intro i h1 h2
    apply UInt8.toNat_inj.1
    rw [List.getElem_set]
    by_cases hi : k / 8 = i
    · subst hi
      rw [if_pos rfl, pk_get, chunk_step l k h, bOf8_snoc, hb, if_pos rfl, chunk_len l k h, UInt8.toNat_ofNat', pk_get]
      rw [pk_get] at hlt
      omega
    · rw [if_neg hi, pk_get, pk_get, chunk_same l k i h (fun e => hi e.symm)]
theorem pk_all (l : List Bool) : pk l ((l.length + 7) / 8) = wPack l := rfl
theorem or_u8_pow (x : Nat) (e : Nat) (he : e < 8) (hx : x < 2 ^ e) : Go.bits .or .u8 (x : Int) (((2 ^ e : Nat)) : Int) = ((x + 2 ^ e : Nat) : Int) := by
  have hp : 2 ^ (e + 1) ≤ 2 ^ 8 := Nat.pow_le_pow_right (by omega) (by omega)
  rw [Nat.pow_succ] at hp
  have h := (bits_nat .u8 8 (by decide) wraps_u8 x (2 ^ e) (by omega) (by omega)).2
  rw [h]
  have := Nat.two_pow_add_eq_or_of_lt hx 1
  rw [Nat.mul_one, Nat.or_comm] at this
  rw [← this]; omega
theorem or_bit (x e : Nat) (he : e < 8) (hx : x < 2 ^ e) : Go.bits .or .u8 (x : Int) ((2 : Int) ^ e % 256) = ((UInt8.ofNat (x + 2 ^ e)).toNat : Int) := by
  have hp : 2 ^ (e + 1) ≤ 2 ^ 8 := Nat.pow_le_pow_right (by omega) (by omega)
  rw [Nat.pow_succ] at hp
  have h1 : ((2 : Int) ^ e % 256) = ((2 ^ e : Nat) : Int) := by
    have : ((2 ^ e : Nat) : Int) = (2 : Int) ^ e := by simp
    rw [← this]; omega
  rw [h1, or_u8_pow x e he hx, UInt8.toNat_ofNat']
  omega
/-- so many bits of bytes -/
def wBitsL (b : List UInt8) (n : Nat) : List Bool := (List.range n).map fun i => bitsOf (b.getD (i / 8) 0) (i % 8)
theorem wBitsL_len (b : List UInt8) (n : Nat) : (wBitsL b n).length = n := by simp [wBitsL]
theorem bOf8_bits (c : UInt8) (m : Nat) : bOf8 ((List.range m).map (bitsOf c)) = c.toNat % 2 ^ m := by
  induction m with
  | zero => simp [bOf8, Nat.mod_one]
  | succ m ih =>
    rw [List.range_succ, List.map_append, List.map_singleton, bOf8_snoc, ih, List.length_map, List.length_range, Nat.mod_pow_succ]
    unfold bitsOf
    have : c.toNat / 2 ^ m % 2 < 2 := Nat.mod_lt _ (by omega)
    by_cases h : c.toNat / 2 ^ m % 2 = 1
    · simp [h]
    · rw [show c.toNat / 2 ^ m % 2 = 0 by omega]; simp
theorem bits_chunk (b : List UInt8) (n i : Nat) : ((wBitsL b n).drop (8 * i)).take 8 = (List.range (min 8 (n - 8 * i))).map (bitsOf (b.getD i 0)) := by
  apply List.ext_getElem
  · simp [wBitsL_len]
  · intro j h1 h2
    simp only [List.length_map, List.length_range] at h2
    simp only [List.getElem_take, List.getElem_drop, wBitsL, List.getElem_map, List.getElem_range]
    rw [show (8 * i + j) / 8 = i by omega, show (8 * i + j) % 8 = j by omega]
/-- whether bytes are so many bits, and no more -/
def bitsFit (b : List UInt8) (n : Nat) : Prop := b.length = (n + 7) / 8 ∧ (n % 8 = 0 ∨ (b.getD (n / 8) 0).toNat / 2 ^ (n % 8) = 0)
instance (b : List UInt8) (n : Nat) : Decidable (bitsFit b n) := by unfold bitsFit; infer_instance
theorem pack_bits (b : List UInt8) (n : Nat) : wPack (wBitsL b n) = b ↔ bitsFit b n := by
  have hl : (wPack (wBitsL b n)).length = (n + 7) / 8 := by rw [wPack_len, wBitsL_len]
  have get : ∀ i (h : i < (wPack (wBitsL b n)).length), (wPack (wBitsL b n))[i].toNat = (b.getD i 0).toNat % 2 ^ min 8 (n - 8 * i) := by
    intro i h
    rw [wPack_get, bits_chunk b n i, bOf8_bits]
  constructor
  · intro he
    refine ⟨by rw [← hl, he], ?_⟩
    by_cases h0 : n % 8 = 0
    · exact .inl h0
    · right
      have hi : n / 8 < (wPack (wBitsL b n)).length := by rw [hl]; omega
      have h1 := get _ hi
      rw [show min 8 (n - 8 * (n / 8)) = n % 8 by omega] at h1
      have h2 : (wPack (wBitsL b n))[n / 8].toNat = (b.getD (n / 8) 0).toNat := by
        have : (wPack (wBitsL b n))[n / 8]? = b[n / 8]? := by rw [he]
        rw [List.getElem?_eq_getElem hi] at this
        rw [List.getD_eq_getElem?_getD, ← this, Option.getD_some]
      rw [h2] at h1
      rw [h1]
      exact Nat.div_eq_of_lt (Nat.mod_lt _ (Nat.two_pow_pos _))
  · rintro ⟨h1, h2⟩
    apply List.ext_getElem
    · rw [hl, h1]
    · intro i k1 k2
      apply UInt8.toNat_inj.1
      rw [get i k1, List.getD_eq_getElem?_getD, List.getElem?_eq_getElem k2, Option.getD_some]
      have hb := b[i].toNat_lt
      rcases Nat.lt_or_ge (8 * i + 8) (n + 1) with h | h
      · rw [show min 8 (n - 8 * i) = 8 by omega, Nat.mod_eq_of_lt hb]
      · have hi : i = n / 8 := by omega
        subst hi
        rw [show min 8 (n - 8 * (n / 8)) = n % 8 by omega]
        have h3 := h2.resolve_left (by omega)
        rw [List.getD_eq_getElem?_getD, List.getElem?_eq_getElem k2, Option.getD_some] at h3
        apply Nat.mod_eq_of_lt
        exact (Nat.div_eq_zero_iff_lt (Nat.two_pow_pos _)).1 h3
theorem wBitsL_step (b : List UInt8) (k : Nat) : wBitsL b (k + 1) = wBitsL b k ++ [bitsOf (b.getD (k / 8) 0) (k % 8)] := by
  unfold wBitsL; rw [List.range_succ, List.map_append]; rfl
theorem wBits_pack (l : List Bool) : wBitsL (wPack l) l.length = l := by
  apply List.ext_getElem
  · simp [wBitsL]
  · intro i h1 h2
    simp only [wBitsL, List.getElem_map, List.getElem_range, bitsOf]
    have hi : i / 8 < (wPack l).length := by rw [wPack_len]; omega
    rw [List.getD_eq_getElem?_getD, List.getElem?_eq_getElem hi, Option.getD_some, wPack_get]
    have e := bOf8_bit ((l.drop (8 * (i / 8))).take 8) (i % 8)
    rw [List.getElem?_take, if_pos (by omega), List.getElem?_drop, show 8 * (i / 8) + i % 8 = i by omega, List.getElem?_eq_getElem h2] at e
    rw [Bool.eq_iff_iff, decide_eq_true_iff, e]
    simp
theorem pk_enough (l : List Bool) (k : Nat) (h : k < l.length) (hk : k % 8 ≠ 0) : wPack (l.take k) = pk (l.take k) (k / 8 + 1) := by
  unfold wPack pk
  rw [List.length_take, Nat.min_eq_left (by omega), show (k + 7) / 8 = k / 8 + 1 by omega]
theorem pk_more (l : List Bool) (k : Nat) (h : k < l.length) (hk : k % 8 = 0) : wPack (l.take k) ++ [0] = pk (l.take k) (k / 8 + 1) := by
  unfold wPack pk
  rw [List.length_take, Nat.min_eq_left (by omega), show (k + 7) / 8 = k / 8 by omega, List.range_succ, List.map_append]
  congr 1
  rw [List.map_singleton, List.drop_eq_nil_of_le (by simp; omega)]
  rfl
theorem pk_wPack (l : List Bool) (k : Nat) (h : k < l.length) : pk (l.take (k + 1)) (k / 8 + 1) = wPack (l.take (k + 1)) := by
  unfold wPack pk
  rw [List.length_take, Nat.min_eq_left (by omega), show (k + 1 + 7) / 8 = k / 8 + 1 by omega]
theorem add_mkW (a b : UInt8) : IntKind.u16.wrap (IntKind.u16.wrap (256 * IntKind.u16.wrap (a.toNat : Int)) + IntKind.u16.wrap (b.toNat : Int)) = ((mkW a b).toNat : Int) := by
  have := a.toNat_lt; have := b.toNat_lt
  rw [mkW_nat, wraps_u16 (a.toNat : Int) (by omega) (by omega), wraps_u16 (b.toNat : Int) (by omega) (by omega), wraps_u16 (256 * (a.toNat : Int)) (by omega) (by omega), wraps_u16 _ (by omega) (by omega)]
  omega
/-- what Bits tells of bytes -/
def wBits (b : List UInt8) (n : Nat) : Bool × List Bool := if bitsFit b n then (true, wBitsL b n) else (false, [])
theorem wBits_yes {b : List UInt8} {n : Nat} (h : bitsFit b n) : wBits b n = (true, wBitsL b n) := if_pos h
theorem wBits_no {b : List UInt8} {n : Nat} (h : ¬ bitsFit b n) : wBits b n = (false, []) := if_neg h
theorem fit_pack (l : List Bool) : bitsFit (wPack l) l.length := by
  rw [← pack_bits, wBits_pack]

/-- what Bits tells of bytes, at any number -/
def bitsTell (b : List UInt8) (n : Int) : Bool × List Bool := if n < 0 then (false, []) else wBits b n.toNat
theorem bitsTell_nat (b : List UInt8) (m : Nat) : bitsTell b (m : Int) = wBits b m := by unfold bitsTell; rw [if_neg (by omega)]; rfl
theorem bitsTell_neg {b : List UInt8} {n : Int} (h : n < 0) : bitsTell b n = (false, []) := if_pos h
/-- what Words tells of bytes -/
def wordsTell (l : List UInt8) : Bool × List UInt16 := if l.length % 2 = 1 then (false, []) else (true, wWords l)
theorem wordsTell_no {l : List UInt8} (h : l.length % 2 = 1) : wordsTell l = (false, []) := if_pos h
theorem wordsTell_yes {l : List UInt8} (h : l.length % 2 = 0) : wordsTell l = (true, wWords l) := if_neg (by omega)
/-! ### masks -/
def maskB (n a o : Nat) (i : Nat) : Bool := if a.testBit i then n.testBit i else o.testBit i
/-- the reference's sum, its first j bits -/
def msum (n a o : Nat) : Nat → Nat
  | 0 => 0
  | j + 1 => msum n a o j + if maskB n a o j then 2 ^ j else 0
def maskN (n a o : Nat) : Nat := (n &&& a) ||| (o &&& (a ^^^ 65535))
theorem maskN_bit (n a o : Nat) (i : Nat) (h : i < 16) : (maskN n a o).testBit i = maskB n a o i := by
  unfold maskN maskB
  have h1 : (65535 : Nat).testBit i = true := by
    have := Nat.testBit_two_pow_sub_one 16 i
    rw [show (2 : Nat) ^ 16 - 1 = 65535 from rfl] at this
    rw [this]; simpa using h
  rw [Nat.testBit_or, Nat.testBit_and, Nat.testBit_and, Nat.testBit_xor, h1]
  cases a.testBit i <;> simp
theorem maskN_lt (n a o : Nat) (hn : n < 65536) (ho : o < 65536) : maskN n a o < 65536 := by
  have h1 : n &&& a < 2 ^ 16 := Nat.lt_of_le_of_lt Nat.and_le_left hn
  have h2 : o &&& (a ^^^ 65535) < 2 ^ 16 := Nat.lt_of_le_of_lt Nat.and_le_left ho
  exact Nat.or_lt_two_pow h1 h2
theorem msum_mod (n a o j : Nat) (h : j ≤ 16) : msum n a o j = maskN n a o % 2 ^ j := by
  induction j with
  | zero => simp [msum, Nat.mod_one]
  | succ j ih =>
    rw [msum, ih (by omega), Nat.mod_pow_succ, ← maskN_bit n a o j (by omega), Nat.testBit_eq_decide_div_mod_eq]
    have : maskN n a o / 2 ^ j % 2 < 2 := Nat.mod_lt _ (by omega)
    by_cases hb : maskN n a o / 2 ^ j % 2 = 1
    · simp [hb]
    · rw [show maskN n a o / 2 ^ j % 2 = 0 by omega]; simp
theorem msum_all (n a o : Nat) (hn : n < 65536) (ho : o < 65536) : msum n a o 16 = maskN n a o := by
  rw [msum_mod _ _ _ _ (Nat.le_refl _)]; exact Nat.mod_eq_of_lt (maskN_lt n a o hn ho)
theorem msum_lt (n a o j : Nat) : msum n a o j < 2 ^ j := by
  induction j with
  | zero => simp [msum]
  | succ j ih => rw [msum, Nat.pow_succ]; split <;> omega
theorem bits16_ext (x y : Nat) (hx : x < 65536) (hy : y < 65536) (h : ∀ i, i < 16 → x.testBit i = y.testBit i) : x = y := by
  apply Nat.eq_of_testBit_eq
  intro i
  rcases Nat.lt_or_ge i 16 with h1 | h1
  · exact h i h1
  · have e : ∀ z : Nat, z < 65536 → z.testBit i = false := fun z hz => Nat.testBit_lt_two_pow (Nat.lt_of_lt_of_le hz (Nat.pow_le_pow_right (by omega) h1 : 2 ^ 16 ≤ 2 ^ i))
    rw [e x hx, e y hy]
theorem mask_again (n a o : Nat) (hn : n < 65536) (ho : o < 65536) : maskN (maskN n a o) a o = maskN n a o := by
  have hm := maskN_lt n a o hn ho
  refine bits16_ext _ _ (maskN_lt _ _ _ hm ho) hm fun i hi => ?_
  rw [maskN_bit _ _ _ _ hi]
  unfold maskB
  rw [maskN_bit _ _ _ _ hi]
  unfold maskB
  cases a.testBit i <;> simp
theorem mask_all (n o : Nat) (hn : n < 65536) : maskN n 65535 o = n := by
  unfold maskN
  rw [Nat.xor_self, Nat.and_zero, Nat.or_zero, show (65535 : Nat) = 2 ^ 16 - 1 from rfl, Nat.and_two_pow_sub_one_eq_mod]
  exact Nat.mod_eq_of_lt hn
theorem mask_none (n o : Nat) (ho : o < 65536) : maskN n 0 o = o := by
  unfold maskN
  rw [Nat.and_zero, Nat.zero_or, Nat.zero_xor, show (65535 : Nat) = 2 ^ 16 - 1 from rfl, Nat.and_two_pow_sub_one_eq_mod]
  exact Nat.mod_eq_of_lt ho
theorem andNot_u16 (x y : Nat) (hx : x < 65536) (hy : y < 65536) : Go.bits .andNot .u16 (x : Int) (y : Int) = ((x &&& (y ^^^ 65535) : Nat) : Int) := by
  have e : (BitVec.ofInt 16 (x : Int) &&& ~~~(BitVec.ofInt 16 (y : Int))).toNat = x &&& (y ^^^ 65535) := by
    rw [BitVec.toNat_and, BitVec.ofInt_natCast, BitVec.ofInt_natCast, BitVec.toNat_ofNat, Nat.mod_eq_of_lt (by omega)]
    congr 1
    rw [BitVec.toNat_not, BitVec.toNat_ofNat, Nat.mod_eq_of_lt (by omega)]
    have h1 : y ^^^ 65535 < 2 ^ 16 := Nat.xor_lt_two_pow hy (by omega)
    apply bits16_ext _ _ (by omega) h1
    intro i hi
    have h3 := Nat.testBit_two_pow_sub_succ (x := y) (n := 16) (by omega) i
    rw [show 2 ^ 16 - 1 - y = 2 ^ 16 - (y + 1) by omega, h3, Nat.testBit_xor]
    have h4 := Nat.testBit_two_pow_sub_one 16 i
    rw [show (2 : Nat) ^ 16 - 1 = 65535 from rfl] at h4
    rw [h4]
    simp [hi]
  unfold Go.bits
  show IntKind.u16.wrap ((BitVec.ofInt 16 (x : Int) &&& ~~~(BitVec.ofInt 16 (y : Int))).toNat : Int) = _
  rw [e]
  have : x &&& (y ^^^ 65535) < 65536 := Nat.lt_of_le_of_lt Nat.and_le_left hx
  exact wraps_u16 _ (by omega) (by omega)
theorem mask_int (n a o : Nat) (hn : n < 65536) (ha : a < 65536) (ho : o < 65536) :
    Go.bits .or .u16 (Go.bits .and .u16 (n : Int) (a : Int)) (Go.bits .andNot .u16 (o : Int) (a : Int)) = (maskN n a o : Int) := by
  have h1 : n &&& a < 65536 := Nat.lt_of_le_of_lt Nat.and_le_left hn
  have h2 : o &&& (a ^^^ 65535) < 65536 := Nat.lt_of_le_of_lt Nat.and_le_left ho
  rw [and_u16 _ _ (by omega) (by omega) (by omega) (by omega), andNot_u16 o a ho ha]
  have h3 := or_u16 ((n &&& a : Nat) : Int) ((o &&& (a ^^^ 65535) : Nat) : Int) (by omega) (by omega) (by omega) (by omega)
  exact h3
end Go.Proofs.Ytbhnkdnfmlnajaa

/- Functions that are known by a contract of their own: what they answer. -/
namespace Go.Proofs.Ytbhnkdnfmlnajaa
open Go
abbrev Prim := List DV → Heap → R
/-- slices.Grow of nil: a list of nothing, with room -/
def primGrow : Prim
  | [.list 0 [] .ti, .flat (.int .i64 n)], H => if n = 0 then some (.list 0 [] .ti, H) else if 0 < n ∧ n ≤ 1000000 then some (.list 1 [] (.own H.length), H ++ [.token 5 1 0]) else none
  | _, _ => none
def medI : List Int → Int × Bool
  | [a] => (a, true)
  | [a, b] => ((a + b) / 2, true)
  | [a, b, c] => (max (min a b) (min (max a b) c), true)
  | _ => (0, false)
def dWI : DV → Option Int
  | .flat (.int .u16 n) => if 0 ≤ n ∧ n < 65536 then some n else none
  | _ => none
/-- vote.Median -/
def primMed : Prim
  | [.list _ xs _], H => (mapO dWI xs).bind fun l => if l.length ≤ 100000 then some (.tup [.flat (.int .u16 (medI l).1), .flat (.bool (medI l).2)], H) else none
  | _, _ => none
def dB : DV → Option UInt8
  | .flat (.int .u8 n) => if 0 ≤ n ∧ n < 256 then some (lowB n) else none
  | _ => none
def dW : DV → Option UInt16
  | .flat (.int .u16 n) => if 0 ≤ n ∧ n < 65536 then some (UInt16.ofNat n.toNat) else none
  | _ => none
def dT : DV → Option Bool
  | .flat (.bool b) => some b
  | _ => none
def eB (c : UInt8) : DV := .flat (.int .u8 (c.toNat : Int))
def eW (c : UInt16) : DV := .flat (.int .u16 (c.toNat : Int))
def eT (c : Bool) : DV := .flat (.bool c)
/-- a function from lists to lists -/
def primLL {α β : Type} (d : DV → Option α) (e : β → DV) (g : List α → List β) : Prim
  | [.list _ xs _], H => (mapO d xs).bind fun l => if l.length ≤ 100000 then some (mkl 1 ((g l).map e) .sh, H) else none
  | _, _ => none
def primWords : Prim
  | [.list _ xs _], H => (mapO dB xs).bind fun l => if l.length ≤ 100000 then some (.tup [mkl 1 ((wordsTell l).2.map eW) .sh, .flat (.bool (wordsTell l).1)], H) else none
  | _, _ => none
def primBits : Prim
  | [.list _ xs _, .flat (.int .i64 n)], H => (mapO dB xs).bind fun l => if l.length ≤ 100000 ∧ -9223372036854775808 ≤ n ∧ n ≤ 9223372036854775807 then some (.tup [mkl 1 ((bitsTell l n).2.map eT) .sh, .flat (.bool (bitsTell l n).1)], H) else none
  | _, _ => none
def PRIMW (f : FuncId) : Option Prim :=
  bif f == 166 then some (primLL dW eB wBytes) else
  bif f == 168 then some (primLL dT eB wPack) else
  bif f == 171 then some primWords else
  bif f == 169 then some primBits else
  none
def PRIM (f : FuncId) : Option Prim :=
  bif f == 116 then some primMed else
  bif f == 182 then some primGrow else
  PRIMW f
end Go.Proofs.Ytbhnkdnfmlnajaa

/- How each function is called; printed by a program of mine. -/
namespace Go.Proofs.Ytbhnkdnfmlnajaa
open Go
set_option linter.unusedVariables false
def ENV : Env where
  md f := bif f == 73 then .rw else bif f == 74 then .rw else bif f == 76 then .rw else bif f == 77 then .rw else bif f == 87 then .rw else bif f == 140 then .rw else bif f == 142 then .rw else bif f == 144 then .rw else bif f == 146 then .rw else bif f == 148 then .rw else bif f == 150 then .rw else bif f == 152 then .rw else bif f == 105 then .ro else bif f == 53 then .ro else bif f == 102 then .ro else bif f == 103 then .ro else bif f == 115 then .ro else bif f == 101 then .ro else bif f == 91 then .ro else bif f == 90 then .ro else bif f == 110 then .ro else bif f == 46 then .ro else bif f == 49 then .ro else bif f == 51 then .ro else bif f == 88 then .ro else bif f == 81 then .ro else bif f == 104 then .ro else bif f == 47 then .ro else bif f == 52 then .ro else bif f == 50 then .ro else bif f == 71 then .keep else bif f == 72 then .keep else bif f == 45 then .keep else bif f == 84 then .keep else bif f == 182 then .keep else bif f == 1000251 then .ro else .pure false
  ks f := (List.lookup f [(3, [([1, 5, 6, 8, 10], [4, 5]), ([1, 5, 6, 8, 10, 11], [1, 4, 5, 6, 8, 10])]), (4, [([0, 1, 2, 7, 8, 10, 11], [1, 6, 7, 8]), ([0, 1, 2, 7, 8, 10, 11, 12, 13], [0, 1, 2, 6, 7, 8, 10, 11]), ([0, 1, 2, 7, 8, 10, 11, 12, 13, 14], [0, 1, 2, 7, 8, 10, 11, 12, 13, 14])]), (5, [([0, 2, 7, 10, 12, 14], [6, 7]), ([0, 2, 7, 10, 12, 14, 27], [0, 2, 6, 7, 10, 12, 14])]), (6, [([0, 2, 4, 7, 9, 11, 12], [6]), ([4, 7, 9, 11, 16, 17, 19], [4, 6, 7, 9, 16, 17])]), (7, [([4, 7, 10, 12, 13, 14], [4, 6, 7, 10, 13])]), (9, [([0, 1, 2, 7, 9, 10], [0, 2, 7, 9]), ([0, 2, 7, 9, 12], [6, 7]), ([0, 2, 7, 9, 12, 13, 14], [0, 2, 7, 9, 12, 13]), ([0, 2, 7, 9, 12, 19, 20, 21], [0, 2, 6, 7, 9, 12, 20]), ([0, 2, 7, 9, 12, 20, 22], [0, 2, 6, 7, 9, 12])]), (10, [([0, 2, 7, 9, 11, 12, 13], [0, 2, 6, 7]), ([0, 2, 7, 14, 15], [0, 7, 14])]), (25, [([0, 3, 4], [0, 2, 3])]), (29, [([0, 3, 5], [0, 3, 4])]), (30, [([1, 2, 3, 4], [2, 3])]), (31, [([0, 2, 3, 5, 21], [0, 2, 3, 4, 5])]), (32, [([0, 2, 3, 5], [0, 2, 3, 4])]), (45, [([0, 2, 4, 8, 10, 12], [8, 10]), ([0, 2, 4, 8, 10, 12, 13], [0, 2, 4, 8, 10, 12])]), (47, [([0, 1, 2, 7, 8, 10, 11, 12, 13], [0, 1, 2, 7, 8, 10, 11, 12]), ([0, 1, 2, 7, 8, 10, 11, 12, 14], [8, 10, 11]), ([0, 1, 2, 7, 8, 10, 11, 12, 14, 15, 16, 17], [0, 1, 2, 7, 8, 10, 11, 12, 14, 15]), ([0, 1, 2, 7, 8, 10, 11, 12, 14, 15, 16, 17, 18, 19], [0, 1, 2, 7, 8, 10, 11, 12, 14, 15, 16, 17, 18]), ([0, 1, 2, 7, 8, 10, 11, 12, 14, 15, 20, 22], [0, 1, 2, 7, 8, 10, 11, 12, 14, 15])]), (48, [([0, 1, 5], [4])]), (50, [([0, 1, 2, 7, 9, 10], [9])]), (52, [([0, 1, 2, 6, 7, 8, 9], [6, 7]), ([0, 1, 2, 6, 7, 8, 9, 10], [0, 1, 2, 6, 7, 8, 9])]), (54, [([0, 14], [])]), (55, [([1, 3], [1, 2]), ([1, 4], [1, 2]), ([1, 5], [2]), ([1, 5, 6], [1, 2, 5])]), (62, [([0, 1, 5], [4])]), (66, [([3, 6, 7], [3, 6])]), (68, [([0, 1, 5], [4])]), (70, [([0, 3, 4], [3])]), (71, [([0, 4, 14], [4])]), (72, [([0, 4, 5], [4])]), (73, [([3, 4, 5, 6, 30, 31, 32], [])]), (74, [([0, 1, 2, 3, 4, 11], [0, 1, 2, 3, 4, 10]), ([0, 1, 2, 3, 4, 12], [])]), (75, [([3, 6, 7], [3])]), (76, [([1, 2, 4, 8, 14, 15, 16], [])]), (77, [([2, 3, 4, 5, 6, 13], [2, 3, 4])]), (78, [([3, 4, 8, 9, 10], [3, 4])]), (79, [([1, 2, 3, 21, 22, 23], [2])]), (81, [([0, 1, 2, 7, 10, 11, 12], [10, 11])]), (87, [([1, 3, 4, 5, 14], [])]), (95, [([0, 1, 7, 8], [4])]), (97, [([6, 24, 25, 26], [6])]), (98, [([0, 1, 12, 13], [4])]), (99, [([2, 3, 7, 8], [2, 3, 4, 7])]), (105, [([0, 1, 2, 7, 10, 11, 15], [10, 11])]), (107, [([0, 4, 5], [0, 2, 3, 4])]), (108, [([0, 4], [2, 3]), ([0, 4, 5, 6, 7], [0, 4, 5, 6])]), (110, [([0, 1, 7, 8], [4])]), (115, [([0, 1, 7, 8], [4])]), (117, [([0, 4, 7, 8, 9], [0, 2, 3, 4])]), (121, [([1, 2, 5, 8, 9, 10], [1, 2, 4])]), (129, [([0, 3, 4], [2])]), (133, [([0, 5, 6, 7], [])]), (137, [([0, 1, 2, 3, 8, 9], [])]), (153, [([0, 1, 2, 6], []), ([0, 1, 2, 6, 7], [0, 1, 2, 6])]), (154, [([0, 6, 7, 8, 9], [0, 6, 7, 8]), ([0, 6, 7, 10], [])]), (155, [([0, 1, 6, 7, 8, 9], [])]), (157, [([0, 6, 7], [])]), (158, [([0, 1, 2, 7, 8], [6]), ([0, 1, 2, 7, 8], [0, 1, 2, 7, 8]), ([0, 1, 2, 7, 8, 9], [0, 1, 2, 7, 8]), ([0, 1, 2, 7, 8, 10], [0, 1, 2, 7, 8])]), (160, [([0, 1, 9, 10], [9]), ([0, 1, 9, 10], [0, 1, 9, 10]), ([0, 1, 9, 10], [0, 1, 9, 10])]), (161, [([0, 1, 10, 11], [0, 1, 10, 11]), ([0, 1, 10, 11], [0, 1, 10, 11]), ([0, 1, 10, 11], [0, 1, 11]), ([0, 1, 10, 11], [0, 1, 10, 11]), ([0, 1, 10, 11], [0, 1, 10, 11])]), (168, [([3, 12, 13, 14], [3])]), (169, [([0, 7, 39, 40], [7])]), (171, [([0, 4, 5], [4])]), (172, [([0, 3, 9, 10, 11], [0, 3]), ([6, 25, 26, 27], [6])]), (173, [([0, 2, 3, 8], [])]), (180, [([1, 5, 8, 9, 10], [5])])]).getD []
  prim f := PRIM f
noncomputable def cP (n : Nat) (f : FuncId) (ti : Bool) (args : List DV) : Option DV := callP (callG Try.prog ENV n) f ti args
noncomputable def cO (n : Nat) (f : FuncId) (args : List DV) (H : Heap) : Option DV := callO (callG Try.prog ENV n) f args H
noncomputable def cW (n : Nat) (f : FuncId) (args : List DV) (H : Heap) (fl : Nat) : R := callW (callG Try.prog ENV n) f args H fl
noncomputable def cK (n : Nat) (f : FuncId) (args : List DV) (H : Heap) (fl : Nat) : R := callG Try.prog ENV n f args H fl
noncomputable def cV (n fl : Nat) (f : DV) (args : List DV) (H : Heap) : R := callVG (callG Try.prog ENV n) ENV.md fl f args H
noncomputable def cVP (n : Nat) (f : DV) (args : List DV) : Option DV := callVP (callG Try.prog ENV n) ENV.md f args
end Go.Proofs.Ytbhnkdnfmlnajaa

/- Go functions as Lean functions on deep values; printed by a program of mine. -/
namespace Go.Proofs.Ytbhnkdnfmlnajaa
open Go
set_option maxRecDepth 100000
set_option linter.unusedVariables false
/-! triune/triunelaw13.images -/
def s_triunelaw13_images_I1 (x0 x2 x4 x8 x10 x12 x13 : DV) : List DV := [x0, .any, x2, .any, x4, .any, .any, .any, x8, .any, x10, .any, x12, x13, .any, .any, .any, .any, .any, .any, .any, .any, .any, .any, .any, .any, .any, .any, .any, .any, .any, .any, .any, .any, .any, .any, .any, .any, .any, .any, .any, .any, .any, .any, .any, .any, .any, .any, .any, .any, .any, .any, .any, .any, .any, .any, .any, .any, .any, .any, .any, .any, .any, .any, .any, .any, .any, .any, .any, .any, .any, .any, .any, .any, .any, .any, .any, .any, .any, .any, .any, .any, .any]
def s_triunelaw13_images_O1 (x0 x2 x4 x8 x10 x12 : DV) : List DV := [x0, .any, x2, .any, x4, .any, .any, .any, x8, .any, x10, .any, x12, .any, .any, .any, .any, .any, .any, .any, .any, .any, .any, .any, .any, .any, .any, .any, .any, .any, .any, .any, .any, .any, .any, .any, .any, .any, .any, .any, .any, .any, .any, .any, .any, .any, .any, .any, .any, .any, .any, .any, .any, .any, .any, .any, .any, .any, .any, .any, .any, .any, .any, .any, .any, .any, .any, .any, .any, .any, .any, .any, .any, .any, .any, .any, .any, .any, .any, .any, .any, .any, .any]
noncomputable abbrev s_triunelaw13_images_b1 (n fl : Nat) : List DV → Heap → (Ex → KF) → R := execG ⟨Try.prog, callG Try.prog ENV n, ENV.md, fl, 83⟩ n (loopAt (bodyOf Try.f45) 1) []
noncomputable def s_triunelaw13_images_B1 (n fl : Nat) (rec : DV → DV → DV → DV → DV → DV → DV → Heap → R) (k : Ex → KF) (x0 x2 x4 x8 x10 x12 x13 : DV) (H : Heap) : R :=
  bi (lenD x0) fun d0 =>
  bi (ltK .i64 x13 d0) fun d1 =>
  bi (wantF d1 true (some x13)) fun d2 =>
  bi (wantF d1 true (some x12)) fun d3 =>
  bi (wantF d1 true (idxArr 3 1 x4 d3)) fun d4 =>
  bi (wantF d1 true (loadG false 1 d4 H)) fun d5 =>
  bi (wantF d1 true (lenD d5)) fun d6 =>
  bi (wantF d1 true (ltK .i64 d2 d6)) fun d7 =>
  bi (pickD d1 d7 (Bo false)) fun d8 =>
  condR d8 (
  bi (idxArr 3 1 x4 x12) fun d9 =>
  bi (loadG false 1 d9 (H ++ [.hole])) fun d10 =>
  bi (idxSl 2 d10 x13) fun d11 =>
  bi (loadG true 2 d11 (H ++ [.hole])) fun d12 =>
  bi (allocG 121 (.agg [(I .u16 0), (I .i64 0)]) (List.length H) (H ++ [.hole])) fun h13 =>
  bi (storeG 2 (.ptr (List.length H) 0) d12 h13 fl) fun h14 =>
  bi (buildL false 1 1 (I .i64 0) [(0, x13)]) fun d15 =>
  bi (loadG false 1 (.ptr (List.length H) 0) h14) fun d16 =>
  bi (buildL false 1 1 (I .u16 0) [(0, d16)]) fun d17 =>
  bi (loadG false 1 (.ptr (List.length H) 1) h14) fun d18 =>
  bi (subK .i64 x2 d18) fun d19 =>
  bi (cW n 73 [x8, x12, d15, d17, d19] h14 fl) fun p20 =>
  bi (buildL false 1 1 (I .i64 0) [(0, x13)]) fun d21 =>
  bi (loadG false 1 (.ptr (List.length H) 0) p20.2) fun d22 =>
  bi (buildL false 1 1 (I .u16 0) [(0, d22)]) fun d23 =>
  bi (loadG false 1 (.ptr (List.length H) 1) p20.2) fun d24 =>
  bi (subK .i64 x2 d24) fun d25 =>
  bi (cW n 74 [x10, x12, d21, d23, d25] p20.2 fl) fun p26 =>
  bi (addK .i64 x13 (I .i64 1)) fun d27 =>
  rec x0 x2 x4 x8 x10 x12 d27 p26.2) (
  k (.exit 2) (s_triunelaw13_images_O1 x0 x2 x4 x8 x10 x12) H)
noncomputable def s_triunelaw13_images_L1 (n fl : Nat) (k : Ex → KF) : Nat → DV → DV → DV → DV → DV → DV → DV → Heap → R
  | 0, _, _, _, _, _, _, _, _ => none
  | m + 1, x0, x2, x4, x8, x10, x12, x13, H => s_triunelaw13_images_B1 n fl (s_triunelaw13_images_L1 n fl k m) k x0 x2 x4 x8 x10 x12 x13 H
theorem s_triunelaw13_images_S1 (n fl m : Nat) (k : Ex → KF) (x0 x2 x4 x8 x10 x12 x13 : DV) (H : Heap) : loopG [0, 2, 4, 8, 10, 12, 13] [0, 2, 4, 8, 10, 12] 83 (s_triunelaw13_images_b1 n fl) (m + 1) (s_triunelaw13_images_I1 x0 x2 x4 x8 x10 x12 x13) H k = s_triunelaw13_images_B1 n fl (fun x0 x2 x4 x8 x10 x12 x13 H => loopG [0, 2, 4, 8, 10, 12, 13] [0, 2, 4, 8, 10, 12] 83 (s_triunelaw13_images_b1 n fl) m (s_triunelaw13_images_I1 x0 x2 x4 x8 x10 x12 x13) H k) k x0 x2 x4 x8 x10 x12 x13 H := by kernel_rfl
theorem s_triunelaw13_images_L1_eq (n fl : Nat) (k : Ex → KF) : ∀ (m : Nat) (x0 x2 x4 x8 x10 x12 x13 : DV) (H : Heap), loopG [0, 2, 4, 8, 10, 12, 13] [0, 2, 4, 8, 10, 12] 83 (s_triunelaw13_images_b1 n fl) m (s_triunelaw13_images_I1 x0 x2 x4 x8 x10 x12 x13) H k = s_triunelaw13_images_L1 n fl k m x0 x2 x4 x8 x10 x12 x13 H := by
  intro m
  induction m with
  | zero => intros; rfl
  | succ m ih =>
    intro x0 x2 x4 x8 x10 x12 x13 H
    rw [s_triunelaw13_images_S1, show (fun x0 x2 x4 x8 x10 x12 x13 H => loopG [0, 2, 4, 8, 10, 12, 13] [0, 2, 4, 8, 10, 12] 83 (s_triunelaw13_images_b1 n fl) m (s_triunelaw13_images_I1 x0 x2 x4 x8 x10 x12 x13) H k) = s_triunelaw13_images_L1 n fl k m from by funext x0 x2 x4 x8 x10 x12 x13 H; exact ih _ _ _ _ _ _ _ _]
    rw [s_triunelaw13_images_L1]
def s_triunelaw13_images_I0 (x0 x2 x4 x8 x10 x12 : DV) : List DV := [x0, .any, x2, .any, x4, .any, .any, .any, x8, .any, x10, .any, x12, .any, .any, .any, .any, .any, .any, .any, .any, .any, .any, .any, .any, .any, .any, .any, .any, .any, .any, .any, .any, .any, .any, .any, .any, .any, .any, .any, .any, .any, .any, .any, .any, .any, .any, .any, .any, .any, .any, .any, .any, .any, .any, .any, .any, .any, .any, .any, .any, .any, .any, .any, .any, .any, .any, .any, .any, .any, .any, .any, .any, .any, .any, .any, .any, .any, .any, .any, .any, .any, .any]
def s_triunelaw13_images_O0 (x8 x10 : DV) : List DV := [.any, .any, .any, .any, .any, .any, .any, .any, x8, .any, x10, .any, .any, .any, .any, .any, .any, .any, .any, .any, .any, .any, .any, .any, .any, .any, .any, .any, .any, .any, .any, .any, .any, .any, .any, .any, .any, .any, .any, .any, .any, .any, .any, .any, .any, .any, .any, .any, .any, .any, .any, .any, .any, .any, .any, .any, .any, .any, .any, .any, .any, .any, .any, .any, .any, .any, .any, .any, .any, .any, .any, .any, .any, .any, .any, .any, .any, .any, .any, .any, .any, .any, .any]
noncomputable abbrev s_triunelaw13_images_b0 (n fl : Nat) : List DV → Heap → (Ex → KF) → R := execG ⟨Try.prog, callG Try.prog ENV n, ENV.md, fl, 83⟩ n (loopAt (bodyOf Try.f45) 0) [([0, 2, 4, 8, 10, 12, 13], [0, 2, 4, 8, 10, 12])]
noncomputable def s_triunelaw13_images_B0 (n fl : Nat) (rec : DV → DV → DV → DV → DV → DV → Heap → R) (k : Ex → KF) (x0 x2 x4 x8 x10 x12 : DV) (H : Heap) : R :=
  bi (ltK .i64 x12 (I .i64 3)) fun d0 =>
  condR d0 (
  loopG [0, 2, 4, 8, 10, 12, 13] [0, 2, 4, 8, 10, 12] 83 (s_triunelaw13_images_b1 n fl) n (s_triunelaw13_images_I1 x0 x2 x4 x8 x10 x12 (I .i64 0)) H fun x S1 h1 => match x with
  | .normal => none
  | .exit i1 => (
  if i1 = 2 then (
  bi (addK .i64 (S1.getD 12 .any) (I .i64 1)) fun d2 =>
  rec (S1.getD 0 .any) (S1.getD 2 .any) (S1.getD 4 .any) (S1.getD 8 .any) (S1.getD 10 .any) d2 h1) else (
  if i1 = 1 then (
  bi (addK .i64 (S1.getD 12 .any) (I .i64 1)) fun d3 =>
  rec (S1.getD 0 .any) (S1.getD 2 .any) (S1.getD 4 .any) (S1.getD 8 .any) (S1.getD 10 .any) d3 h1) else (
  k (.exit i1) (s_triunelaw13_images_O0 (S1.getD 8 .any) (S1.getD 10 .any)) h1)))
  | .ret => (
  k .ret (s_triunelaw13_images_O0 (S1.getD 8 .any) (S1.getD 10 .any)) h1)) (
  k (.exit 0) (s_triunelaw13_images_O0 x8 x10) H)
noncomputable def s_triunelaw13_images_L0 (n fl : Nat) (k : Ex → KF) : Nat → DV → DV → DV → DV → DV → DV → Heap → R
  | 0, _, _, _, _, _, _, _ => none
  | m + 1, x0, x2, x4, x8, x10, x12, H => s_triunelaw13_images_B0 n fl (s_triunelaw13_images_L0 n fl k m) k x0 x2 x4 x8 x10 x12 H
theorem s_triunelaw13_images_S0 (n fl m : Nat) (k : Ex → KF) (x0 x2 x4 x8 x10 x12 : DV) (H : Heap) : loopG [0, 2, 4, 8, 10, 12] [8, 10] 83 (s_triunelaw13_images_b0 n fl) (m + 1) (s_triunelaw13_images_I0 x0 x2 x4 x8 x10 x12) H k = s_triunelaw13_images_B0 n fl (fun x0 x2 x4 x8 x10 x12 H => loopG [0, 2, 4, 8, 10, 12] [8, 10] 83 (s_triunelaw13_images_b0 n fl) m (s_triunelaw13_images_I0 x0 x2 x4 x8 x10 x12) H k) k x0 x2 x4 x8 x10 x12 H := by kernel_rfl
theorem s_triunelaw13_images_L0_eq (n fl : Nat) (k : Ex → KF) : ∀ (m : Nat) (x0 x2 x4 x8 x10 x12 : DV) (H : Heap), loopG [0, 2, 4, 8, 10, 12] [8, 10] 83 (s_triunelaw13_images_b0 n fl) m (s_triunelaw13_images_I0 x0 x2 x4 x8 x10 x12) H k = s_triunelaw13_images_L0 n fl k m x0 x2 x4 x8 x10 x12 H := by
  intro m
  induction m with
  | zero => intros; rfl
  | succ m ih =>
    intro x0 x2 x4 x8 x10 x12 H
    rw [s_triunelaw13_images_S0, show (fun x0 x2 x4 x8 x10 x12 H => loopG [0, 2, 4, 8, 10, 12] [8, 10] 83 (s_triunelaw13_images_b0 n fl) m (s_triunelaw13_images_I0 x0 x2 x4 x8 x10 x12) H k) = s_triunelaw13_images_L0 n fl k m from by funext x0 x2 x4 x8 x10 x12 H; exact ih _ _ _ _ _ _ _]
    rw [s_triunelaw13_images_L0]
noncomputable def s_triunelaw13_images (n : Nat) (H : Heap) (fl : Nat) (a0 a1 a2 : DV) : R :=
  bi (allocG 104 a1 (List.length H) (H ++ [.hole])) fun h0 =>
  bi (lenD a0) fun d1 =>
  bi (cK n 71 [d1] h0 fl) fun p2 =>
  bi (extD 0 p2.1) fun d3 =>
  bi (extD 1 p2.1) fun d4 =>
  bi (lenD a0) fun d5 =>
  bi (cK n 72 [d5] p2.2 fl) fun p6 =>
  bi (extD 0 p6.1) fun d7 =>
  bi (extD 1 p6.1) fun d8 =>
  bi (binD Try.prog .eql 105 (.tmp 27) (.const (.pointer none)) d3 (.flat (.pointer none))) fun d9 =>
  bi (wantF d9 false (some d7)) fun d10 =>
  bi (wantF d9 false (binD Try.prog .eql 106 (.tmp 30) (.const (.pointer none)) d10 (.flat (.pointer none)))) fun d11 =>
  bi (pickD d9 (Bo true) d11) fun d12 =>
  condR d12 (
  some ((.tup [(.flat (.pointer none)), (.flat (.pointer none))]), p6.2)) (
  loopG [0, 2, 4, 8, 10, 12] [8, 10] 83 (s_triunelaw13_images_b0 n fl) n (s_triunelaw13_images_I0 a0 a2 (.ptr (List.length H) 0) d3 d7 (I .i64 0)) p6.2 fun x S13 h13 => match x with
  | .normal => none
  | .exit i13 => (
  if i13 = 0 then (
  some ((.tup [(S13.getD 8 .any), (S13.getD 10 .any)]), h13)) else (
  none))
  | .ret => (
  some ((.tup [.any, .any]), h13)))
theorem s_triunelaw13_images_eq (n : Nat) (H : Heap) (fl : Nat) (a0 a1 a2 : DV) : callG Try.prog ENV (n + 1) 45 [a0, a1, a2] H fl = s_triunelaw13_images n H fl a0 a1 a2 := by kernel_rfl

end Go.Proofs.Ytbhnkdnfmlnajaa

/- Go functions as Lean functions on deep values; printed by a program of mine. -/
namespace Go.Proofs.Ytbhnkdnfmlnajaa
open Go
set_option maxRecDepth 100000
set_option linter.unusedVariables false
/-! triune/triuneref11.New -/
def s_triuneref11_New_I0 (x0 x4 x5 : DV) : List DV := [x0, .any, .any, .any, x4, x5, .any, .any, .any, .any, .any, .any, .any, .any, .any, .any, .any, .any, .any, .any, .any, .any, .any, .any, .any, .any, .any]
def s_triuneref11_New_O0 (x4 : DV) : List DV := [.any, .any, .any, .any, x4, .any, .any, .any, .any, .any, .any, .any, .any, .any, .any, .any, .any, .any, .any, .any, .any, .any, .any, .any, .any, .any, .any]
noncomputable abbrev s_triuneref11_New_b0 (n fl : Nat) : List DV → Heap → (Ex → KF) → R := execG ⟨Try.prog, callG Try.prog ENV n, ENV.md, fl, 27⟩ n (loopAt (bodyOf Try.f72) 0) []
noncomputable def s_triuneref11_New_B0 (n fl : Nat) (rec : DV → DV → DV → Heap → R) (k : Ex → KF) (x0 x4 x5 : DV) (H : Heap) : R :=
  bi (ltK .i64 x5 (I .i64 3)) fun d0 =>
  condR d0 (
  bi (makeG true 3 24 177 (.agg [(I .u16 0), (I .i64 0), (Bo false)]) x0 x0 (List.length H) (H ++ [.hole])) fun p1 =>
  bi (nilD x4) fun d2 =>
  bi (fieldD 1 3 d2) fun d3 =>
  bi (idxArr 3 1 d3 x5) fun d4 =>
  bi (storeG 1 d4 p1.1 p1.2 fl) fun h5 =>
  bi (addK .i64 x5 (I .i64 1)) fun d6 =>
  rec x0 x4 d6 h5) (
  k (.exit 0) (s_triuneref11_New_O0 x4) H)
noncomputable def s_triuneref11_New_L0 (n fl : Nat) (k : Ex → KF) : Nat → DV → DV → DV → Heap → R
  | 0, _, _, _, _ => none
  | m + 1, x0, x4, x5, H => s_triuneref11_New_B0 n fl (s_triuneref11_New_L0 n fl k m) k x0 x4 x5 H
theorem s_triuneref11_New_S0 (n fl m : Nat) (k : Ex → KF) (x0 x4 x5 : DV) (H : Heap) : loopG [0, 4, 5] [4] 27 (s_triuneref11_New_b0 n fl) (m + 1) (s_triuneref11_New_I0 x0 x4 x5) H k = s_triuneref11_New_B0 n fl (fun x0 x4 x5 H => loopG [0, 4, 5] [4] 27 (s_triuneref11_New_b0 n fl) m (s_triuneref11_New_I0 x0 x4 x5) H k) k x0 x4 x5 H := by kernel_rfl
theorem s_triuneref11_New_L0_eq (n fl : Nat) (k : Ex → KF) : ∀ (m : Nat) (x0 x4 x5 : DV) (H : Heap), loopG [0, 4, 5] [4] 27 (s_triuneref11_New_b0 n fl) m (s_triuneref11_New_I0 x0 x4 x5) H k = s_triuneref11_New_L0 n fl k m x0 x4 x5 H := by
  intro m
  induction m with
  | zero => intros; rfl
  | succ m ih =>
    intro x0 x4 x5 H
    rw [s_triuneref11_New_S0, show (fun x0 x4 x5 H => loopG [0, 4, 5] [4] 27 (s_triuneref11_New_b0 n fl) m (s_triuneref11_New_I0 x0 x4 x5) H k) = s_triuneref11_New_L0 n fl k m from by funext x0 x4 x5 H; exact ih _ _ _ _]
    rw [s_triuneref11_New_L0]
noncomputable def s_triuneref11_New (n : Nat) (H : Heap) (fl : Nat) (a0 : DV) : R :=
  bi (ltK .i64 a0 (I .i64 1)) fun d0 =>
  bi (wantF d0 false (some a0)) fun d1 =>
  bi (wantF d0 false (gtK .i64 d1 (I .i64 48))) fun d2 =>
  bi (pickD d0 (Bo true) d2) fun d3 =>
  condR d3 (
  some ((.tup [(.flat (.pointer none)), (I .i64 1)]), H)) (
  bi (buildS (.agg [(I .i64 0), (.list 0 [] .ti), (.list 0 [] .ti), (.list 0 [] .ti)]) [(0, 1), (1, 3)] [(0, a0)]) fun d4 =>
  bi (allocG 199 d4 (List.length H) (H ++ [.hole])) fun h5 =>
  loopG [0, 4, 5] [4] 27 (s_triuneref11_New_b0 n fl) n (s_triuneref11_New_I0 a0 (.ptr (List.length H) 0) (I .i64 0)) h5 fun x S6 h6 => match x with
  | .normal => none
  | .exit i6 => (
  if i6 = 0 then (
  some ((.tup [(S6.getD 4 .any), (I .i64 0)]), h6)) else (
  none))
  | .ret => (
  some ((.tup [.any, .any]), h6)))
theorem s_triuneref11_New_eq (n : Nat) (H : Heap) (fl : Nat) (a0 : DV) : callG Try.prog ENV (n + 1) 72 [a0] H fl = s_triuneref11_New n H fl a0 := by kernel_rfl

/-! (*triune/triuneref11.Image).there -/
noncomputable def s___triuneref11_Image__there (n : Nat) (H : Heap) (fl : Nat) (a0 a1 : DV) : R :=
  bi (geK .i64 a1 (I .i64 0)) fun d0 =>
  bi (wantF d0 true (some a1)) fun d1 =>
  bi (wantF d0 true (some a0)) fun d2 =>
  bi (wantF d0 true (nilD d2)) fun d3 =>
  bi (wantF d0 true (fieldD 0 1 d3)) fun d4 =>
  bi (wantF d0 true (loadG false 1 d4 H)) fun d5 =>
  bi (wantF d0 true (ltK .i64 d1 d5)) fun d6 =>
  bi (pickD d0 d6 (Bo false)) fun d7 =>
  some (d7, H)
theorem s___triuneref11_Image__there_eq (n : Nat) (H : Heap) (fl : Nat) (a0 a1 : DV) : callG Try.prog ENV (n + 1) 104 [a0, a1] H fl = s___triuneref11_Image__there n H fl a0 a1 := by kernel_rfl

/-! (*triune/triuneref11.Image).Put -/
def s___triuneref11_Image__Put_I1 (x0 x1 x2 x3 x4 x12 : DV) : List DV := [x0, x1, x2, x3, x4, .any, .any, .any, .any, .any, .any, .any, x12, .any, .any, .any, .any, .any, .any, .any, .any, .any, .any, .any, .any, .any, .any, .any, .any, .any, .any, .any, .any, .any, .any, .any, .any, .any, .any, .any, .any, .any, .any, .any, .any, .any, .any, .any, .any, .any, .any, .any, .any, .any, .any, .any, .any, .any, .any, .any]
def s___triuneref11_Image__Put_O1 : List DV := [.any, .any, .any, .any, .any, .any, .any, .any, .any, .any, .any, .any, .any, .any, .any, .any, .any, .any, .any, .any, .any, .any, .any, .any, .any, .any, .any, .any, .any, .any, .any, .any, .any, .any, .any, .any, .any, .any, .any, .any, .any, .any, .any, .any, .any, .any, .any, .any, .any, .any, .any, .any, .any, .any, .any, .any, .any, .any, .any, .any]
noncomputable abbrev s___triuneref11_Image__Put_b1 (n fl : Nat) : List DV → Heap → (Ex → KF) → R := execG ⟨Try.prog, callG Try.prog ENV n, ENV.md, fl, 60⟩ n (loopAt (bodyOf Try.f74) 1) []
noncomputable def s___triuneref11_Image__Put_B1 (n fl : Nat) (rec : DV → DV → DV → DV → DV → DV → Heap → R) (k : Ex → KF) (x0 x1 x2 x3 x4 x12 : DV) (H : Heap) : R :=
  bi (lenD x2) fun d0 =>
  bi (ltK .i64 x12 d0) fun d1 =>
  condR d1 (
  bi (nilD x0) fun d2 =>
  bi (fieldD 1 3 d2) fun d3 =>
  bi (idxArr 3 1 d3 x1) fun d4 =>
  bi (loadG false 1 d4 H) fun d5 =>
  bi (idxSl 1 x2 x12) fun d6 =>
  bi (loadG false 1 d6 H) fun d7 =>
  bi (idxSl 1 x3 x12) fun d8 =>
  bi (loadG false 1 d8 H) fun d9 =>
  bi (buildS (.agg [(I .u16 0), (I .i64 0), (Bo false)]) [(0, 1), (1, 1), (2, 1)] [(0, d9), (1, x4), (2, (Bo true))]) fun d10 =>
  bi (idxSl 3 d5 d7) fun d11 =>
  bi (storeG 3 d11 d10 H fl) fun h12 =>
  bi (addK .i64 x12 (I .i64 1)) fun d13 =>
  rec x0 x1 x2 x3 x4 d13 h12) (
  k (.exit 2) (s___triuneref11_Image__Put_O1 ) H)
noncomputable def s___triuneref11_Image__Put_L1 (n fl : Nat) (k : Ex → KF) : Nat → DV → DV → DV → DV → DV → DV → Heap → R
  | 0, _, _, _, _, _, _, _ => none
  | m + 1, x0, x1, x2, x3, x4, x12, H => s___triuneref11_Image__Put_B1 n fl (s___triuneref11_Image__Put_L1 n fl k m) k x0 x1 x2 x3 x4 x12 H
theorem s___triuneref11_Image__Put_S1 (n fl m : Nat) (k : Ex → KF) (x0 x1 x2 x3 x4 x12 : DV) (H : Heap) : loopG [0, 1, 2, 3, 4, 12] [] 60 (s___triuneref11_Image__Put_b1 n fl) (m + 1) (s___triuneref11_Image__Put_I1 x0 x1 x2 x3 x4 x12) H k = s___triuneref11_Image__Put_B1 n fl (fun x0 x1 x2 x3 x4 x12 H => loopG [0, 1, 2, 3, 4, 12] [] 60 (s___triuneref11_Image__Put_b1 n fl) m (s___triuneref11_Image__Put_I1 x0 x1 x2 x3 x4 x12) H k) k x0 x1 x2 x3 x4 x12 H := by kernel_rfl
theorem s___triuneref11_Image__Put_L1_eq (n fl : Nat) (k : Ex → KF) : ∀ (m : Nat) (x0 x1 x2 x3 x4 x12 : DV) (H : Heap), loopG [0, 1, 2, 3, 4, 12] [] 60 (s___triuneref11_Image__Put_b1 n fl) m (s___triuneref11_Image__Put_I1 x0 x1 x2 x3 x4 x12) H k = s___triuneref11_Image__Put_L1 n fl k m x0 x1 x2 x3 x4 x12 H := by
  intro m
  induction m with
  | zero => intros; rfl
  | succ m ih =>
    intro x0 x1 x2 x3 x4 x12 H
    rw [s___triuneref11_Image__Put_S1, show (fun x0 x1 x2 x3 x4 x12 H => loopG [0, 1, 2, 3, 4, 12] [] 60 (s___triuneref11_Image__Put_b1 n fl) m (s___triuneref11_Image__Put_I1 x0 x1 x2 x3 x4 x12) H k) = s___triuneref11_Image__Put_L1 n fl k m from by funext x0 x1 x2 x3 x4 x12 H; exact ih _ _ _ _ _ _ _]
    rw [s___triuneref11_Image__Put_L1]
def s___triuneref11_Image__Put_I0 (x0 x1 x2 x3 x4 x11 : DV) : List DV := [x0, x1, x2, x3, x4, .any, .any, .any, .any, .any, .any, x11, .any, .any, .any, .any, .any, .any, .any, .any, .any, .any, .any, .any, .any, .any, .any, .any, .any, .any, .any, .any, .any, .any, .any, .any, .any, .any, .any, .any, .any, .any, .any, .any, .any, .any, .any, .any, .any, .any, .any, .any, .any, .any, .any, .any, .any, .any, .any, .any]
def s___triuneref11_Image__Put_O0 (x0 x1 x2 x3 x4 x10 : DV) : List DV := [x0, x1, x2, x3, x4, .any, .any, .any, .any, .any, x10, .any, .any, .any, .any, .any, .any, .any, .any, .any, .any, .any, .any, .any, .any, .any, .any, .any, .any, .any, .any, .any, .any, .any, .any, .any, .any, .any, .any, .any, .any, .any, .any, .any, .any, .any, .any, .any, .any, .any, .any, .any, .any, .any, .any, .any, .any, .any, .any, .any]
noncomputable abbrev s___triuneref11_Image__Put_b0 (n fl : Nat) : List DV → Heap → (Ex → KF) → R := execG ⟨Try.prog, callG Try.prog ENV n, ENV.md, fl, 60⟩ n (loopAt (bodyOf Try.f74) 0) []
noncomputable def s___triuneref11_Image__Put_B0 (n fl : Nat) (rec : DV → DV → DV → DV → DV → DV → Heap → R) (k : Ex → KF) (x0 x1 x2 x3 x4 x11 : DV) (H : Heap) : R :=
  bi (lenD x2) fun d0 =>
  bi (ltK .i64 x11 d0) fun d1 =>
  condR d1 (
  bi (idxSl 1 x2 x11) fun d2 =>
  bi (loadG false 1 d2 H) fun d3 =>
  bi (cO n 104 [x0, d3] H) fun d4 =>
  bi (notD d4) fun d5 =>
  condR d5 (
  k .ret (s___triuneref11_Image__Put_O0 x0 x1 x2 x3 x4 (I .i64 5)) H) (
  bi (addK .i64 x11 (I .i64 1)) fun d6 =>
  rec x0 x1 x2 x3 x4 d6 H)) (
  k (.exit 0) (s___triuneref11_Image__Put_O0 x0 x1 x2 x3 x4 .any) H)
noncomputable def s___triuneref11_Image__Put_L0 (n fl : Nat) (k : Ex → KF) : Nat → DV → DV → DV → DV → DV → DV → Heap → R
  | 0, _, _, _, _, _, _, _ => none
  | m + 1, x0, x1, x2, x3, x4, x11, H => s___triuneref11_Image__Put_B0 n fl (s___triuneref11_Image__Put_L0 n fl k m) k x0 x1 x2 x3 x4 x11 H
theorem s___triuneref11_Image__Put_S0 (n fl m : Nat) (k : Ex → KF) (x0 x1 x2 x3 x4 x11 : DV) (H : Heap) : loopG [0, 1, 2, 3, 4, 11] [0, 1, 2, 3, 4, 10] 60 (s___triuneref11_Image__Put_b0 n fl) (m + 1) (s___triuneref11_Image__Put_I0 x0 x1 x2 x3 x4 x11) H k = s___triuneref11_Image__Put_B0 n fl (fun x0 x1 x2 x3 x4 x11 H => loopG [0, 1, 2, 3, 4, 11] [0, 1, 2, 3, 4, 10] 60 (s___triuneref11_Image__Put_b0 n fl) m (s___triuneref11_Image__Put_I0 x0 x1 x2 x3 x4 x11) H k) k x0 x1 x2 x3 x4 x11 H := by kernel_rfl
theorem s___triuneref11_Image__Put_L0_eq (n fl : Nat) (k : Ex → KF) : ∀ (m : Nat) (x0 x1 x2 x3 x4 x11 : DV) (H : Heap), loopG [0, 1, 2, 3, 4, 11] [0, 1, 2, 3, 4, 10] 60 (s___triuneref11_Image__Put_b0 n fl) m (s___triuneref11_Image__Put_I0 x0 x1 x2 x3 x4 x11) H k = s___triuneref11_Image__Put_L0 n fl k m x0 x1 x2 x3 x4 x11 H := by
  intro m
  induction m with
  | zero => intros; rfl
  | succ m ih =>
    intro x0 x1 x2 x3 x4 x11 H
    rw [s___triuneref11_Image__Put_S0, show (fun x0 x1 x2 x3 x4 x11 H => loopG [0, 1, 2, 3, 4, 11] [0, 1, 2, 3, 4, 10] 60 (s___triuneref11_Image__Put_b0 n fl) m (s___triuneref11_Image__Put_I0 x0 x1 x2 x3 x4 x11) H k) = s___triuneref11_Image__Put_L0 n fl k m from by funext x0 x1 x2 x3 x4 x11 H; exact ih _ _ _ _ _ _ _]
    rw [s___triuneref11_Image__Put_L0]
noncomputable def s___triuneref11_Image__Put (n : Nat) (H : Heap) (fl : Nat) (a0 a1 a2 a3 a4 : DV) : R :=
  loopG [0, 1, 2, 3, 4, 11] [0, 1, 2, 3, 4, 10] 60 (s___triuneref11_Image__Put_b0 n fl) n (s___triuneref11_Image__Put_I0 a0 a1 a2 a3 a4 (I .i64 0)) H fun x S0 h0 => match x with
  | .normal => none
  | .exit i0 => (
  if i0 = 0 then (
  bi (ltK .i64 (S0.getD 1 .any) (I .i64 0)) fun d1 =>
  bi (wantF d1 false (some (S0.getD 1 .any))) fun d2 =>
  bi (wantF d1 false (gtK .i64 d2 (I .i64 2))) fun d3 =>
  bi (pickD d1 (Bo true) d3) fun d4 =>
  condR d4 (
  some ((I .i64 5), h0)) (
  bi (lenD (S0.getD 2 .any)) fun d5 =>
  bi (lenD (S0.getD 3 .any)) fun d6 =>
  bi (neK .i64 d5 d6) fun d7 =>
  condR d7 (
  some ((I .i64 1), h0)) (
  loopG [0, 1, 2, 3, 4, 12] [] 60 (s___triuneref11_Image__Put_b1 n fl) n (s___triuneref11_Image__Put_I1 (S0.getD 0 .any) (S0.getD 1 .any) (S0.getD 2 .any) (S0.getD 3 .any) (S0.getD 4 .any) (I .i64 0)) h0 fun x S8 h8 => match x with
  | .normal => none
  | .exit i8 => (
  if i8 = 2 then (
  some ((I .i64 0), h8)) else (
  none))
  | .ret => (
  some (.any, h8))))) else (
  none))
  | .ret => (
  some ((S0.getD 10 .any), h0))
theorem s___triuneref11_Image__Put_eq (n : Nat) (H : Heap) (fl : Nat) (a0 a1 a2 a3 a4 : DV) : callG Try.prog ENV (n + 1) 74 [a0, a1, a2, a3, a4] H fl = s___triuneref11_Image__Put n H fl a0 a1 a2 a3 a4 := by kernel_rfl

/-! (*triune/triuneref11.Image).Get -/
noncomputable def s___triuneref11_Image__Get (n : Nat) (H : Heap) (fl : Nat) (a0 a1 a2 : DV) : R :=
  bi (allocG 177 (.agg [(I .u16 0), (I .i64 0), (Bo false)]) (List.length H) (H ++ [.hole])) fun h0 =>
  bi (ltK .i64 a1 (I .i64 0)) fun d1 =>
  bi (wantF d1 false (some a1)) fun d2 =>
  bi (wantF d1 false (gtK .i64 d2 (I .i64 2))) fun d3 =>
  bi (pickD d1 (Bo true) d3) fun d4 =>
  bi (wantF d4 false (some a0)) fun d5 =>
  bi (wantF d4 false (some a2)) fun d6 =>
  bi (wantF d4 false (cO n 104 [d5, d6] h0)) fun d7 =>
  bi (wantF d4 false (notD d7)) fun d8 =>
  bi (pickD d4 (Bo true) d8) fun d9 =>
  condR d9 (
   bi (buildS (.agg [(I .u16 0), (I .i64 0), (Bo false)]) [(0, 1), (1, 1), (2, 1)] []) fun d10 =>
   bi (storeG 3 (.ptr (List.length H) 0) d10 h0 fl) fun h11 =>
  bi (cellR true 3 (.ptr (List.length H) 0) h11) fun r0 =>
  some ((.tup [r0, (I .i64 5)]), h11)) (
  bi (nilD a0) fun d12 =>
  bi (fieldD 1 3 d12) fun d13 =>
  bi (idxArr 3 1 d13 a1) fun d14 =>
  bi (loadG false 1 d14 h0) fun d15 =>
  bi (idxSl 3 d15 a2) fun d16 =>
  bi (loadG true 3 d16 h0) fun d17 =>
  bi (storeG 3 (.ptr (List.length H) 0) d17 h0 fl) fun h18 =>
  bi (cellR true 3 (.ptr (List.length H) 0) h18) fun r0 =>
  some ((.tup [r0, (I .i64 0)]), h18))
theorem s___triuneref11_Image__Get_eq (n : Nat) (H : Heap) (fl : Nat) (a0 a1 a2 : DV) : callG Try.prog ENV (n + 1) 88 [a0, a1, a2] H fl = s___triuneref11_Image__Get n H fl a0 a1 a2 := by kernel_rfl

/-! (*triune/triuneref11.Image).Fresh -/
def s___triuneref11_Image__Fresh_I0 (x0 x1 x2 x7 x10 x11 x12 : DV) : List DV := [x0, x1, x2, .any, .any, .any, .any, x7, .any, .any, x10, x11, x12, .any, .any, .any, .any, .any, .any, .any, .any, .any, .any, .any, .any, .any, .any, .any, .any, .any, .any, .any, .any, .any, .any, .any, .any, .any, .any, .any, .any, .any, .any, .any, .any, .any, .any, .any, .any, .any, .any, .any, .any, .any]
def s___triuneref11_Image__Fresh_O0 (x10 x11 : DV) : List DV := [.any, .any, .any, .any, .any, .any, .any, .any, .any, .any, x10, x11, .any, .any, .any, .any, .any, .any, .any, .any, .any, .any, .any, .any, .any, .any, .any, .any, .any, .any, .any, .any, .any, .any, .any, .any, .any, .any, .any, .any, .any, .any, .any, .any, .any, .any, .any, .any, .any, .any, .any, .any, .any, .any]
noncomputable abbrev s___triuneref11_Image__Fresh_b0 (n fl : Nat) : List DV → Heap → (Ex → KF) → R := execG ⟨Try.prog, callG Try.prog ENV n, ENV.md, fl, 54⟩ n (loopAt (bodyOf Try.f81) 0) []
noncomputable def s___triuneref11_Image__Fresh_B0 (n fl : Nat) (rec : DV → DV → DV → DV → DV → DV → DV → Heap → R) (k : Ex → KF) (x0 x1 x2 x7 x10 x11 x12 : DV) (H : Heap) : R :=
  bi (ltK .i64 x12 (I .i64 3)) fun d0 =>
  condR d0 (
  bi (cO n 88 [x0, x12, x1] (H ++ [.hole])) fun d1 =>
  bi (extD 0 d1) fun d2 =>
  bi (extD 1 d1) fun d3 =>
  bi (allocG 177 (.agg [(I .u16 0), (I .i64 0), (Bo false)]) (List.length H) (H ++ [.hole])) fun h4 =>
  bi (storeG 3 (.ptr (List.length H) 0) d2 h4 fl) fun h5 =>
  bi (eqK .i64 d3 (I .i64 0)) fun d6 =>
  bi (wantF d6 true (some x12)) fun d7 =>
  bi (wantF d6 true (idxArr 3 1 x7 d7)) fun d8 =>
  bi (wantF d6 true (loadG false 1 d8 h5)) fun d9 =>
  bi (pickD d6 d9 (Bo false)) fun d10 =>
  bi (wantF d10 true (some (.ptr (List.length H) 2))) fun d11 =>
  bi (wantF d10 true (loadG false 1 d11 h5)) fun d12 =>
  bi (pickD d10 d12 (Bo false)) fun d13 =>
  bi (wantF d13 true (some (.ptr (List.length H) 1))) fun d14 =>
  bi (wantF d13 true (loadG false 1 d14 h5)) fun d15 =>
  bi (wantF d13 true (some x2)) fun d16 =>
  bi (wantF d13 true (eqK .i64 d15 d16)) fun d17 =>
  bi (pickD d13 d17 (Bo false)) fun d18 =>
  condR d18 (
   bi (loadG false 1 (.ptr (List.length H) 0) h5) fun d19 =>
   bi (buildL false 1 1 (I .u16 0) [(0, d19)]) fun d20 =>
   bi (appG 75 false 1 2 x10 d20 h5 fl) fun p21 =>
   bi (buildL false 1 1 (I .i64 0) [(0, x12)]) fun d22 =>
   bi (appG 3 false 1 8 x11 d22 p21.2 fl) fun p23 =>
  bi (addK .i64 x12 (I .i64 1)) fun d24 =>
  rec x0 x1 x2 x7 p21.1 p23.1 d24 p23.2) (
  bi (addK .i64 x12 (I .i64 1)) fun d25 =>
  rec x0 x1 x2 x7 x10 x11 d25 h5)) (
  k (.exit 0) (s___triuneref11_Image__Fresh_O0 x10 x11) H)
noncomputable def s___triuneref11_Image__Fresh_L0 (n fl : Nat) (k : Ex → KF) : Nat → DV → DV → DV → DV → DV → DV → DV → Heap → R
  | 0, _, _, _, _, _, _, _, _ => none
  | m + 1, x0, x1, x2, x7, x10, x11, x12, H => s___triuneref11_Image__Fresh_B0 n fl (s___triuneref11_Image__Fresh_L0 n fl k m) k x0 x1 x2 x7 x10 x11 x12 H
theorem s___triuneref11_Image__Fresh_S0 (n fl m : Nat) (k : Ex → KF) (x0 x1 x2 x7 x10 x11 x12 : DV) (H : Heap) : loopG [0, 1, 2, 7, 10, 11, 12] [10, 11] 54 (s___triuneref11_Image__Fresh_b0 n fl) (m + 1) (s___triuneref11_Image__Fresh_I0 x0 x1 x2 x7 x10 x11 x12) H k = s___triuneref11_Image__Fresh_B0 n fl (fun x0 x1 x2 x7 x10 x11 x12 H => loopG [0, 1, 2, 7, 10, 11, 12] [10, 11] 54 (s___triuneref11_Image__Fresh_b0 n fl) m (s___triuneref11_Image__Fresh_I0 x0 x1 x2 x7 x10 x11 x12) H k) k x0 x1 x2 x7 x10 x11 x12 H := by kernel_rfl
theorem s___triuneref11_Image__Fresh_L0_eq (n fl : Nat) (k : Ex → KF) : ∀ (m : Nat) (x0 x1 x2 x7 x10 x11 x12 : DV) (H : Heap), loopG [0, 1, 2, 7, 10, 11, 12] [10, 11] 54 (s___triuneref11_Image__Fresh_b0 n fl) m (s___triuneref11_Image__Fresh_I0 x0 x1 x2 x7 x10 x11 x12) H k = s___triuneref11_Image__Fresh_L0 n fl k m x0 x1 x2 x7 x10 x11 x12 H := by
  intro m
  induction m with
  | zero => intros; rfl
  | succ m ih =>
    intro x0 x1 x2 x7 x10 x11 x12 H
    rw [s___triuneref11_Image__Fresh_S0, show (fun x0 x1 x2 x7 x10 x11 x12 H => loopG [0, 1, 2, 7, 10, 11, 12] [10, 11] 54 (s___triuneref11_Image__Fresh_b0 n fl) m (s___triuneref11_Image__Fresh_I0 x0 x1 x2 x7 x10 x11 x12) H k) = s___triuneref11_Image__Fresh_L0 n fl k m from by funext x0 x1 x2 x7 x10 x11 x12 H; exact ih _ _ _ _ _ _ _ _]
    rw [s___triuneref11_Image__Fresh_L0]
noncomputable def s___triuneref11_Image__Fresh (n : Nat) (H : Heap) (fl : Nat) (a0 a1 a2 a3 : DV) : R :=
  bi (allocG 52 a3 (List.length H) (H ++ [.hole])) fun h0 =>
  loopG [0, 1, 2, 7, 10, 11, 12] [10, 11] 54 (s___triuneref11_Image__Fresh_b0 n fl) n (s___triuneref11_Image__Fresh_I0 a0 a1 a2 (.ptr (List.length H) 0) (.list 0 [] .ti) (.list 0 [] .ti) (I .i64 0)) h0 fun x S1 h1 => match x with
  | .normal => none
  | .exit i1 => (
  if i1 = 0 then (
  some ((.tup [(S1.getD 10 .any), (S1.getD 11 .any)]), h1)) else (
  none))
  | .ret => (
  some ((.tup [.any, .any]), h1))
theorem s___triuneref11_Image__Fresh_eq (n : Nat) (H : Heap) (fl : Nat) (a0 a1 a2 a3 : DV) : callG Try.prog ENV (n + 1) 81 [a0, a1, a2, a3] H fl = s___triuneref11_Image__Fresh n H fl a0 a1 a2 a3 := by kernel_rfl

end Go.Proofs.Ytbhnkdnfmlnajaa
