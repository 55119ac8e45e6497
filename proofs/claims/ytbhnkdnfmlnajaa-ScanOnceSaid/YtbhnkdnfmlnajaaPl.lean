/- The front evaluator: the same runs in a form that prints shortly; what it answers, the deep evaluator answers. -/
import Derived.Test.YtbhnkdnfmlnajaaPk
namespace Go.Proofs.Ytbhnkdnfmlnajaa
open Go

def bi {α β : Type} (x : Option α) (k : α → Option β) : Option β := match x with | some a => k a | none => none
theorem bi_some {α β : Type} (a : α) (k : α → Option β) : bi (some a) k = k a := rfl
theorem bi_none {α β : Type} (k : α → Option β) : bi none k = none := rfl
theorem bi_eq {α β : Type} {x : Option α} {k : α → Option β} {r : β} (h : bi x k = some r) : ∃ a, x = some a ∧ k a = some r := by
  cases x with
  | none => cases h
  | some a => exact ⟨a, rfl, h⟩

/-! numbers -/
def arI (k : IntKind) (f : Int → Int → Int) (a b : DV) : Option DV := match a, b with
  | .flat (.int k1 x), .flat (.int k2 y) => if k1 = k ∧ k2 = k then some (.flat (.int k (f x y))) else none
  | _, _ => none
def cmI (k : IntKind) (f : Int → Int → Bool) (a b : DV) : Option DV := match a, b with
  | .flat (.int k1 x), .flat (.int k2 y) => if k1 = k ∧ k2 = k then some (.flat (.bool (f x y))) else none
  | _, _ => none
def divI (k : IntKind) (f : Int → Int → Int) (a b : DV) : Option DV := match a, b with
  | .flat (.int k1 x), .flat (.int k2 y) => if k1 = k ∧ k2 = k ∧ y ≠ 0 then some (.flat (.int k (f x y))) else none
  | _, _ => none
def shI (k : IntKind) (f : Int → Nat → Int) (a b : DV) : Option DV := match a, b with
  | .flat (.int k1 x), .flat (.int _ y) => if k1 = k ∧ 0 ≤ y then some (.flat (.int k (f x (min y.toNat k.bits)))) else none
  | _, _ => none
def addK (k : IntKind) := arI k fun x y => k.wrap (x + y)
def subK (k : IntKind) := arI k fun x y => k.wrap (x - y)
def mulK (k : IntKind) := arI k fun x y => k.wrap (x * y)
def andK (k : IntKind) := arI k fun x y => k.wrap (BitVec.ofInt k.bits x &&& BitVec.ofInt k.bits y).toNat
def orK (k : IntKind) := arI k fun x y => k.wrap (BitVec.ofInt k.bits x ||| BitVec.ofInt k.bits y).toNat
def xorK (k : IntKind) := arI k fun x y => k.wrap (BitVec.ofInt k.bits x ^^^ BitVec.ofInt k.bits y).toNat
def andNotK (k : IntKind) := arI k fun x y => k.wrap (BitVec.ofInt k.bits x &&& ~~~BitVec.ofInt k.bits y).toNat
def quoK (k : IntKind) := divI k fun x y => k.wrap (x.tdiv y)
def remK (k : IntKind) := divI k fun x y => x.tmod y
def shlK (k : IntKind) := shI k fun x n => k.wrap (x * 2 ^ n)
def shrK (k : IntKind) := shI k fun x n => x.fdiv (2 ^ n)
def eqK (k : IntKind) := cmI k fun x y => x == y
def neK (k : IntKind) := cmI k fun x y => x != y
def ltK (k : IntKind) := cmI k fun x y => decide (x < y)
def leK (k : IntKind) := cmI k fun x y => decide (x ≤ y)
def gtK (k : IntKind) := cmI k fun x y => decide (x > y)
def geK (k : IntKind) := cmI k fun x y => decide (x ≥ y)
def intF (k : IntKind) (op : BinOp) (a b : DV) : Option DV := match op with
  | .add => addK k a b | .sub => subK k a b | .mul => mulK k a b | .quo => quoK k a b | .rem => remK k a b
  | .and => andK k a b | .or => orK k a b | .xor => xorK k a b | .andNot => andNotK k a b | .shl => shlK k a b | .shr => shrK k a b
  | .eql => eqK k a b | .neq => neK k a b | .lss => ltK k a b | .leq => leK k a b | .gtr => gtK k a b | .geq => geK k a b
def eqB (a b : DV) : Option DV := match a, b with | .flat (.bool x), .flat (.bool y) => some (.flat (.bool (x == y))) | _, _ => none
def neB (a b : DV) : Option DV := match a, b with | .flat (.bool x), .flat (.bool y) => some (.flat (.bool (x != y))) | _, _ => none
def eqS (a b : DV) : Option DV := match a, b with | .flat (.string x), .flat (.string y) => some (.flat (.bool (x.toList == y.toList))) | _, _ => none
def neS (a b : DV) : Option DV := match a, b with | .flat (.string x), .flat (.string y) => some (.flat (.bool (!(x.toList == y.toList)))) | _, _ => none
def binF (P : Program) (op : BinOp) (t : TypeId) (x y : Operand) (a b : DV) : Option DV := match P.underlying t with
  | some (.int k) => intF k op a b
  | some .bool => (match op with | .eql => eqB a b | .neq => neB a b | op => binD P op t x y a b)
  | some .string => (match op with | .eql => eqS a b | .neq => neS a b | op => binD P op t x y a b)
  | _ => binD P op t x y a b
def notD (a : DV) : Option DV := match a with | .flat (.bool x) => some (.flat (.bool !x)) | _ => none
def unF (P : Program) (op : UnOp) (a : DV) : Option DV := match op with | .not => notD a | op => unD P op a
def cvK (k : IntKind) (a : DV) : Option DV := match a with | .flat (.int _ x) => some (.flat (.int k (k.wrap x))) | _ => none
def cvF (P : Program) (s d : TypeId) (a : DV) : Option DV := match P.underlying s, P.underlying d with
  | some (.int _), some (.int k) => cvK k a
  | _, _ => convD P s d a
def maxI (a b : DV) : Option DV := match a, b with | .flat (.int k x), .flat (.int _ y) => some (.flat (.int k (max x y))) | _, _ => none
def minI (a b : DV) : Option DV := match a, b with | .flat (.int k x), .flat (.int _ y) => some (.flat (.int k (min x y))) | _, _ => none
def builtF (P : Program) (b : Builtin) (ts : Array TypeId) (t : TypeId) (args : List DV) : Option DV := match b, args with
  | .max, [x, y] => maxI x y
  | .min, [x, y] => minI x y
  | b, args => builtD P b ts t args

/-! memory -/
def loadG (ag : Bool) (sz : Nat) (p : DV) (H : Heap) : Option DV := match p with
  | .ptr k off => (match H[k]? with | some (.cells _ cs) => partD ag sz off cs | _ => none)
  | .elem x off => partD ag sz off x.cells
  | _ => none
/-- a load off a list's element -/
def loadE (ag : Bool) (sz : Nat) (p : DV) : Option DV := match p with
  | .elem x off => partD ag sz off x.cells
  | _ => none
def isElLd (P : Program) (ops : Array Oper) (o : Oper) : Bool := match o.op with
  | .load _ (.tmp t) => ops.any fun o' => (o'.dst == some t) && (match o'.op with | .indexAddr ty _ _ => (match P.underlying ty with | some (.slice _) => true | _ => false) | _ => false)
  | _ => false
def storeG (sz : Nat) (p d : DV) (H : Heap) (fl : Nat) : Option Heap := match p with
  | .ptr k off => (match H[k]? with
    | some (.cells e cs) => if fl ≤ k ∧ d.cells.length = sz ∧ off + sz ≤ cs.length ∧ d.cells.all DV.leaf = true then some (H.set k (.cells e (splice off d.cells cs))) else none
    | _ => none)
  | _ => none
def allocG (e : TypeId) (d : DV) (nid : Nat) (H : Heap) : Option Heap := if d.cells.all DV.leaf = true then some (H.set nid (.cells e d.cells)) else none
def effH (x : EO) (H : Heap) : Option (DV × Heap) := x.map fun p => (p.1, p.2.heap H)
def appG (e : TypeId) (ag : Bool) (sz bytes : Nat) (x y : DV) (H : Heap) (fl : Nat) : Option (DV × Heap) := effH (appendD e ag sz bytes x y H fl) H
def copyG (ag : Bool) (sz : Nat) (x y : DV) (H : Heap) (fl : Nat) : Option (DV × Heap) := effH (copyD ag sz x y H fl) H
def makeG (ag : Bool) (sz bytes : Nat) (e : TypeId) (zero l c : DV) (nid : Nat) (H : Heap) : Option (DV × Heap) := effH (makeD ag sz bytes e zero l c nid) H
def callP (cf : CF) (f : FuncId) (ti : Bool) (args : List DV) : Option DV := bi (mapO argEl args) fun bs => bi (cf f bs [] 0) fun r => outD ti r.2 r.1
def callO (cf : CF) (f : FuncId) (args : List DV) (H : Heap) : Option DV := bi (cf f args H H.length) fun r => oldD H.length r.2 r.1
def callW (cf : CF) (f : FuncId) (args : List DV) (H : Heap) (fl : Nat) : Option (DV × Heap) :=
  bi (cf f args H fl) fun r => bi (oldD H.length r.2 r.1) fun d => bi (cutH H.length r.2) fun H' => some (d, H')
def callVG (cf : CF) (md : FuncId → CM) (fl : Nat) (f : DV) (args : List DV) (H : Heap) : Option (DV × Heap) := effH (callV cf md fl f args H) H

/-- are indirect calls with a result of this type to functions that are called with lists alone? (told by a mark in the table) -/
def vpu (md : FuncId → CM) (t : TypeId) : Bool := match md (1000000 + t) with | .ro => true | .pure _ => false | .rw => false | .keep => false
def callVP (cf : CF) (md : FuncId → CM) (f : DV) (args : List DV) : Option DV := match fnOf f with
  | some (g, cap) => (match md g with | .pure ti => callP cf g ti (args ++ cap) | .ro => none | .rw => none | .keep => none)
  | none => none

inductive OpR where
  | m (d : DV) | a (x : Option DV) | b (x : Option (DV × Heap)) | h (d : DV) (x : Option Heap)
def OpR.out (H : Heap) : OpR → Option (DV × Heap)
  | .m d => some (d, H)
  | .a x => x.map fun d => (d, H)
  | .b x => x
  | .h d x => x.map fun H' => (d, H')
def callR (P : Program) (cf : CF) (md : FuncId → CM) (fl : Nat) (t : TypeId) (c : Call) (ρ : Operand → DV) (H : Heap) : OpR :=
  match c.callee with
  | .builtin .len => match c.args.toList, c.argTypes.toList with
    | [x], [t] => (match P.underlying t with
      | some (.array n _) => .m (.flat (.int .i64 n))
      | some (.slice _) => .a (lenD (ρ x))
      | some .string => .a (lenStr (ρ x))
      | _ => .b none)
    | _, _ => .b none
  | .builtin .cap => match c.args.toList, c.argTypes.toList with
    | [x], [t] => (match P.underlying t with
      | some (.slice _) => .a (capD (ρ x))
      | _ => .b none)
    | _, _ => .b none
  | .builtin .append => match c.args.toList, c.argTypes.toList with
    | [x, y], [t, t'] => if t' = t then (match P.underlying t with
      | some (.slice e) => (match aggSz P e, P.info? e, zeroD P e with
        | some (ag, sz), some i, some z => if z.cells.length = sz then .b (appG e ag sz i.bytes (ρ x) (ρ y) H fl) else .b none
        | _, _, _ => .b none)
      | _ => .b none) else .b none
    | _, _ => .b none
  | .builtin .copy => match c.args.toList, c.argTypes.toList with
    | [x, y], [t, _] => (match P.underlying t with
      | some (.slice e) => (match aggSz P e with
        | some (ag, sz) => .b (copyG ag sz (ρ x) (ρ y) H fl)
        | _ => .b none)
      | _ => .b none)
    | _, _ => .b none
  | .builtin .max => .a (builtF P .max c.argTypes t (c.args.toList.map ρ))
  | .builtin .min => .a (builtF P .min c.argTypes t (c.args.toList.map ρ))
  | .value (.func f) => (match md f with
    | .pure ti => .a (callP cf f ti (c.args.toList.map ρ))
    | .ro => .a (callO cf f (c.args.toList.map ρ) H)
    | .rw => .b (callW cf f (c.args.toList.map ρ) H fl)
    | .keep => .b (cf f (c.args.toList.map ρ) H fl))
  | .value (.tmp k) => (match vpu md t with
    | true => .a (callVP cf md (ρ (.tmp k)) (c.args.toList.map ρ))
    | false => .b (callVG cf md fl (ρ (.tmp k)) (c.args.toList.map ρ) H))
  | .value f => .b (callVG cf md fl (ρ f) (c.args.toList.map ρ) H)
  | _ => .b none
def opR (X : Ctx) (st : Bool) (nid : Nat) (o : Oper) (slots : List DV) (H : Heap) : OpR :=
  let ρ := evalD slots
  let P := X.P
  match o.op with
  | .move x | .assign x => .m (ρ x)
  | .pick c a b => .a (pickD (ρ c) (ρ a) (ρ b))
  | .alloc e => (match zeroD P e with | some d => .h (.ptr nid 0) (allocG e d nid H) | none => .b none)
  | .box e x => .h (.ptr nid 0) (allocG e (ρ x) nid H)
  | .build t parts => (match P.underlying t, (zeroD P t).filter (fun z => z.cells.all DV.leaf) with
    | some (.struct fs), some z => (match placesD P fs.toList with
      | some pl => .a (buildS z pl (parts.toList.map fun p => (p.1, ρ p.2)))
      | none => .b none)
    | some (.array _ e), some z => (match P.info? e with
      | some i => .a (buildA z i.size (parts.toList.map fun p => (p.1, ρ p.2)))
      | none => .b none)
    | _, _ => .b none)
  | .buildSlice t len parts => (match P.underlying t with
    | some (.slice e) => (match aggSz P e, zeroD P e with
      | some (ag, sz), some z => .a (buildL ag sz len z (parts.toList.map fun p => (p.1, ρ p.2)))
      | _, _ => .b none)
    | _ => .b none)
  | .load t a => (match aggSz P t with
    | some (ag, sz) => (match st with | true => .a (loadE ag sz (ρ a)) | false => .a (loadG ag sz (ρ a) H))
    | none => .b none)
  | .store t a x => (match aggSz P t with
    | some (_, sz) => .h (.flat undef) (storeG sz (ρ a) (ρ x) H X.fl)
    | none => .b none)
  | .nilCheck x => .a (nilD (ρ x))
  | .binOp op t x y _ => .a (binF P op t x y (ρ x) (ρ y))
  | .unOp op _ x => .a (unF P op (ρ x))
  | .convert s d x => .a (cvF P s d (ρ x))
  | .makeInterface t x => (match P.underlying t with
    | some (.interface _) => .b none
    | some _ => .m (.iface t (ρ x))
    | none => .b none)
  | .makeFunc fn first cap => .m (.clo fn (first.toList.map ρ) (cap.toList.map ρ))
  | .makeSlice t l c => (match P.underlying t with
    | some (.slice e) => (match aggSz P e, P.info? e, zeroD P e with
      | some (ag, sz), some i, some z => .b (makeG ag sz i.bytes e z (ρ l) (ρ c) nid H)
      | _, _, _ => .b none)
    | _ => .b none)
  | .slice t x lo hi mx => (match P.underlying t with
    | some (.slice e) => (match aggSz P e with
      | some (_, sz) => .a (slX sz (ρ x) (lo.map ρ) (hi.map ρ) (mx.map ρ))
      | none => .b none)
    | some (.array n e) => (match aggSz P e with
      | some (ag, sz) => .a (saX ag n sz (ρ x) (lo.map ρ) (hi.map ρ) (mx.map ρ))
      | none => .b none)
    | _ => .b none)
  | .fieldAddr s x f => (match P.underlying s with
    | some (.struct fs) => (match fs[f]? with
      | some fd => (match P.info? fd.type with
        | some i => .a (fieldD fd.offset i.size (ρ x))
        | none => .b none)
      | none => .b none)
    | _ => .b none)
  | .field t x f => (match P.underlying t with
    | some (.struct fs) => (match fs[f]? with
      | some fd => (match aggSz P fd.type with
        | some (ag, sz) => .a (fldD ag sz fd.offset (ρ x))
        | none => .b none)
      | none => .b none)
    | _ => .b none)
  | .indexAddr t x i => (match P.underlying t with
    | some (.array len e) => (match P.info? e with
      | some ie => .a (idxArr len ie.size (ρ x) (ρ i))
      | none => .b none)
    | some (.slice e) => (match P.info? e with
      | some ie => .a (idxSl ie.size (ρ x) (ρ i))
      | none => .b none)
    | _ => .b none)
  | .index t x i => (match P.underlying t with
    | some (.array len e) => (match aggSz P e with
      | some (ag, sz) => .a (idxV ag sz len (ρ x) (ρ i))
      | none => .b none)
    | _ => .b none)
  | .extract t i => .a (extD i (ρ t))
  | .call c => callR P X.cf X.md X.fl o.type c ρ H
  | _ => .b none
/-- an operation's class, as far as the text tells -/
def sCls (md : FuncId → CM) (st : Bool) (o : Oper) : Nat := match o.op with
  | .alloc _ | .box .. | .makeSlice .. => 3
  | .load .. => (match st with | true => 0 | false => 1)
  | .store .. => 2
  | .call c => (match c.callee with
    | .builtin .append => 5
    | .builtin .copy => 2
    | .builtin _ => 0
    | .value (.func f) => (match md f with | .pure _ => 0 | .ro => 4 | _ => 2)
    | .value (.tmp _) => (match vpu md o.type with | true => 0 | false => 2)
    | _ => 2)
  | _ => 0
def wantF (c : DV) (w : Bool) (x : Option DV) : Option DV := match guardD c w with
  | some true => x
  | some false => some (.flat undef)
  | none => none
def wantH (c : DV) (w : Bool) (H : Heap) (x : Option (DV × Heap)) : Option (DV × Heap) := match guardD c w with
  | some true => x
  | some false => some (.flat undef, H)
  | none => none
def stepG (g : Option (DV × Bool)) (r : OpR) (H : Heap) (k : DV → Heap → R) : R := match g with
  | none => (match r with
    | .m d => k d H
    | .a x => bi x fun d => k d H
    | .b x => bi x fun p => k p.1 p.2
    | .h d x => bi x fun H' => k d H')
  | some (c, w) => (match r with
    | .m d => bi (wantF c w (some d)) fun d => k d H
    | .a x => bi (wantF c w x) fun d => k d H
    | .b x => bi (wantH c w H x) fun p => k p.1 p.2
    | .h d x => bi (wantH c w H (x.map fun H' => (d, H'))) fun p => k p.1 p.2)
def guardOf (ops : Array Oper) (o : Oper) (s : List DV) : Option (Option (DV × Bool)) := match o.guard with
  | none => some none
  | some (j, w) => (match ((ops[j]?).bind (·.dst)) with | some t => some (some (s.getD t .any, w)) | none => none)
def opsG (X : Ctx) (st : Bool) (ops : Array Oper) : List Oper → Nat → List DV → Heap → KF → R
  | [], _, s, H, k => k s H
  | o :: l, nid, s, H, k => match moveOf o with
    | some x => evalK s x fun d => forceL (putD s o.dst d) fun s' => opsG X st ops l nid s' H k
    | none => match guardOf ops o s with
      | none => none
      | some g => stepG g (opR X (st && isElLd X.P ops o) nid o s H) H fun d H' => forceL (putD s o.dst d) fun s' => match isAl o with
        | true => opsG X st ops l (nid + 1) s' H' k
        | false => opsG X st ops l nid s' H' k
def loopG (keep out : List Nat) (N : Nat) (body : List DV → Heap → (Ex → KF) → R) : Nat → List DV → Heap → (Ex → KF) → R
  | 0, _, _, _ => none
  | m + 1, s, H, k => body s H fun x s H => match x with
    | .normal => forceL (forget keep N s) fun s => loopG keep out N body m s H k
    | .exit i => forceL (forget out N s) fun s => k (.exit i) s H
    | .ret => forceL (forget out N s) fun s => k .ret s H
def execG (X : Ctx) (n : Nat) : Code → List (List Nat × List Nat) → List DV → Heap → (Ex → KF) → R
  | .skip, _, s, H, k => k .normal s H
  | .region _ ops draw, _, s, H, k => match draw && !drawOk ops (ops.toList.map (sCls X.md false)) with
    | false => holesF (holes ops.toList) H fun H' => opsG X false ops ops.toList H.length s H' fun s' H' => k .normal s' H'
    | true => match drawOk ops (ops.toList.map fun o => sCls X.md (isElLd X.P ops o) o) with
      | true => holesF (holes ops.toList) H fun H' => opsG X true ops ops.toList H.length s H' fun s' H' => k .normal s' H'
      | false => none
  | .seq a b, ks, s, H, k => execG X n a (ks.take (nloops a)) s H fun x s' H' => match x with | .normal => execG X n b (ks.drop (nloops a)) s' H' k | .exit i => k (.exit i) s' H' | .ret => k .ret s' H'
  | .cond c a b, ks, s, H, k => condR (evalD s c) (execG X n a (ks.take (nloops a)) s H k) (execG X n b (ks.drop (nloops a)) s H k)
  | .block id b, ks, s, H, k => execG X n b ks s H fun x s' H' => match x with | .normal => k .normal s' H' | .exit i => if i = id then k .normal s' H' else k (.exit i) s' H' | .ret => k .ret s' H'
  | .loop b, ks, s, H, k => forceL (forget (ks.headD ([], [])).1 X.N s) fun s' => loopG (ks.headD ([], [])).1 (ks.headD ([], [])).2 X.N (execG X n b ks.tail) n s' H fun x s' H' => match x with | .normal => none | .exit i => forceL (forget (ks.headD ([], [])).2 X.N s') (fun s'' => k (.exit i) s'' H') | .ret => forceL (forget (ks.headD ([], [])).2 X.N s') fun s'' => k .ret s'' H'
  | .scope b, ks, s, H, k => execG X n b ks s H k
  | .exit id, _, s, H, k => k (.exit id) s H
  | .ret, _, s, H, k => k .ret s H
  | _, _, _, _, _ => none
abbrev I (k : IntKind) (n : Int) : DV := .flat (.int k n)
abbrev Bo (b : Bool) : DV := .flat (.bool b)
def resK (P : Program) (s : List DV) (H : Heap) : List ResultVar → (List DV → R) → R
  | [], k => k []
  | .tmp t :: rs, k => resK P s H rs fun ds => k (s.getD t .any :: ds)
  | .cell a t :: rs, k => match aggSz P t with
    | some (ag, sz) => bi (cellR ag sz (s.getD a .any) H) fun d => resK P s H rs fun ds => k (d :: ds)
    | none => none
/-- one call, by a way to call others -/
def bodyG (P : Program) (E : Env) (n : Nat) (cf : CF) : CF := fun f args H fl =>
    match E.prim f with
    | some g => g args H
    | none => match P.funcs[f]? with
      | some fn => match fn.body with
        | some c => if fn.ntmps < args.length then none else forceL (args ++ List.replicate (fn.ntmps - args.length) (.flat undef)) fun s => execG ⟨P, cf, E.md, fl, fn.ntmps⟩ n c (E.ks f) s H fun x s H =>
            match x with
            | .exit _ => none
            | .normal => resK P s H fn.results.toList fun ds => some (tupD ds, H)
            | .ret => resK P s H fn.results.toList fun ds => some (tupD ds, H)
        | none => none
      | none => none
def callG (P : Program) (E : Env) : Nat → CF
  | 0 => fun _ _ _ _ => none
  | n + 1 => bodyG P E n (callG P E n)
theorem callG_eq (P : Program) (E : Env) (n : Nat) (f : FuncId) (args : List DV) (H : Heap) (fl : Nat) : callG P E (n + 1) f args H fl = bodyG P E n (callG P E n) f args H fl := rfl
theorem loopG_succ (keep out : List Nat) (N : Nat) (body : List DV → Heap → (Ex → KF) → R) (m : Nat) (s : List DV) (H : Heap) (k : Ex → KF) :
    loopG keep out N body (m + 1) s H k = body s H fun x s H => match x with
    | .normal => forceL (forget keep N s) fun s => loopG keep out N body m s H k
    | .exit i => forceL (forget out N s) fun s => k (.exit i) s H
    | .ret => forceL (forget out N s) fun s => k .ret s H := rfl
end Go.Proofs.Ytbhnkdnfmlnajaa
