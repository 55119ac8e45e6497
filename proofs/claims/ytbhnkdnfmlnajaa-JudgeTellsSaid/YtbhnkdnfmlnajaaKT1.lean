/- Texts of mine, laid together: Pi, Pr, Pm, Po, Pq, Ps, Pt, Pu. -/
import Derived.Test.YtbhnkdnfmlnajaaProg
import Derived.Calls
import Derived.KernelRfl
import Derived.WalkKit
import Derived.Laws.BytesString
import Derived.Laws.IdiomStrings
/- Deep values: a run of Go code over plain lists, without memory of its own order: definitions. -/
namespace Go.Proofs.Ytbhnkdnfmlnajaa
open Go

/-- how a list's row ends: it may be shared; it has no room behind it; its room is held by the token k -/
inductive Tag where
  | sh | ti | own (k : Nat)
  deriving Inhabited, DecidableEq
/-- a deep value -/
inductive DV where
  | any
  | flat (v : Value)
  | agg (cs : List DV)
  | tup (cs : List DV)
  | list (sz : Nat) (xs : List DV) (t : Tag)
  | ptr (k off : Nat)
  | row (ag : Bool) (sz k off n c : Nat)
  | elem (x : DV) (off : Nat)
  | clo (fn : Fn) (first cap : List DV)
  | iface (t : TypeId) (d : DV)
  deriving Inhabited
inductive DBlk where
  | hole
  | cells (e : TypeId) (cs : List DV)
  | token (e : TypeId) (sz n : Nat)
  deriving Inhabited
abbrev Heap := List DBlk
abbrev R := Option (DV × Heap)
/-- what an operation does to the heap: it does not look at it; it loads; it lets a function look; it fills a hole; it turns it into H -/
inductive Eff where
  | q | rd | ro | al (k : Nat) (b : DBlk) | ch (H : Heap) | tk (H : Heap)
def Eff.heap : Eff → Heap → Heap
  | .ch H, _ => H
  | .tk H, _ => H
  | .al k b, H => H.set k b
  | _, H => H
def Eff.cls : Eff → Nat
  | .q => 0 | .rd => 1 | .ch _ => 2 | .al .. => 3 | .ro => 4 | .tk _ => 5
/-- does it write? -/
def Eff.wr (e : Eff) : Prop := e.cls = 2 ∨ e.cls = 5
/-- the heap that it leaves, whatever was there -/
def Eff.abs : Eff → Option Heap
  | .ch H => some H
  | .tk H => some H
  | _ => none
abbrev EO := Option (DV × Eff)
def qv (x : Option DV) : EO := x.map fun d => (d, .q)
def rv (x : Option DV) : EO := x.map fun d => (d, .rd)
def ov (x : Option DV) : EO := x.map fun d => (d, .ro)

def isOne : Value → Bool
  | .agg _ | .tuple _ => false
  | _ => true
def DV.leaf : DV → Bool
  | .flat v => isOne v
  | .list .. | .ptr .. | .row .. | .elem .. | .clo .. | .iface .. => true
  | _ => false
def DV.cells : DV → List DV
  | .agg cs => cs
  | d => [d]
def mkl (sz : Nat) (xs : List DV) (t : Tag) : DV := match xs with | [] => .list 0 [] t | _ => .list sz xs t
def leafOf : Value → DV
  | .slice none 0 0 => .list 0 [] .ti
  | v => .flat v
def ofVal1 : Value → DV
  | .agg cs => .agg (cs.toList.map leafOf)
  | v => leafOf v
def ofVal : Value → DV
  | .tuple cs => if cs.size = 0 then .flat (.tuple cs) else .tup (cs.toList.map ofVal1)
  | v => ofVal1 v
def flatV : DV → Option Value
  | .flat v => some v
  | _ => none
def mapO {α β : Type} (f : α → Option β) : List α → Option (List β)
  | [] => some []
  | x :: l => match f x with
    | some y => match mapO f l with
      | some r => some (y :: r)
      | none => none
    | none => none
/-- the one value that a deep value stands for, if it holds no list and no address -/
def toVal : DV → Option Value
  | .flat v => some v
  | .agg cs => (mapO flatV cs).map fun vs => .agg vs.toArray
  | _ => none
def pureRun {α : Type} (P : Program) : Sem α → Option α
  | .pure a => some a
  | .program k => pureRun P (k P)
  | .mark _ k => pureRun P k
  | _ => none
def pureV (P : Program) (s : Sem Value) : Option DV := (pureRun P s).map ofVal
def evalD (slots : List DV) : Operand → DV
  | .tmp t => slots.getD t .any
  | .const v => ofVal v
  | .global g => .flat (.pointer (some ⟨g, 0, none⟩))
  | .func f => .flat (.func (.func f) #[] #[])
def aggSz (P : Program) (t : TypeId) : Option (Bool × Nat) :=
  match P.underlying t, P.info? t with
  | some d, some i => some (match d with | .struct _ | .array _ _ => true | _ => false, i.size)
  | _, _ => none
def zeroD (P : Program) (t : TypeId) : Option DV := ((P.info? t).bind (·.zero)).map ofVal1
def partD (ag : Bool) (sz off : Nat) (cs : List DV) : Option DV :=
  if ag then (if off + sz ≤ cs.length then some (.agg ((cs.drop off).take sz)) else none) else cs[off]?
def splice (off : Nat) (new old : List DV) : List DV := old.take off ++ new ++ old.drop (off + new.length)
def fillD (place : Nat → Option (Nat × Nat)) (cells : List DV) : List (Nat × DV) → Option (List DV)
  | [] => some cells
  | (i, d) :: rest => match place i with
    | none => none
    | some (off, size) => if d.cells.length ≠ size ∨ off + d.cells.length > cells.length ∨ d.cells.all DV.leaf = false then none else fillD place (splice off d.cells cells) rest
def placesD (P : Program) (fs : List Field) : Option (List (Nat × Nat)) := mapO (fun f => (P.info? f.type).map fun i => (f.offset, i.size)) fs
def buildS (zero : DV) (pl : List (Nat × Nat)) (parts : List (Nat × DV)) : Option DV := (fillD (pl[·]?) zero.cells parts).map .agg
def buildA (zero : DV) (size : Nat) (parts : List (Nat × DV)) : Option DV := (fillD (fun i => some (i * size, size)) zero.cells parts).map .agg
def chunk (ag : Bool) (sz : Nat) : Nat → List DV → List DV
  | 0, _ => []
  | n + 1, cs => (if ag then DV.agg (cs.take sz) else cs.headD .any) :: chunk ag sz n (cs.drop sz)
def chunkOk (ag : Bool) (sz n : Nat) : Bool := decide (0 < sz) && (ag || sz == 1) && decide (n ≤ 140737488355328)
/-- a value as it may be handed out of a heap: rows become lists, tokens go, addresses from n0 on are refused -/
def shareL (f : DV → Option DV) : List DV → Option (List DV) := mapO f
def shTag (ti : Bool) : Tag → Tag
  | .ti => if ti then .ti else .sh
  | _ => .sh
def rowCells (H : Heap) (k off len : Nat) : Option (List DV) :=
  match H[k]? with
  | some (.cells _ cs) => if off + len ≤ cs.length then some ((cs.drop off).take len) else none
  | _ => none
/-- a leaf that holds no address of a heap -/
def plainLeaf : DV → Option DV
  | .flat v => if isOne v then some (.flat v) else none
  | .list sz xs .ti => some (.list sz xs .ti)
  | .list sz xs _ => some (.list sz xs .sh)
  | _ => none
def plainEl : DV → Option DV
  | .agg cs => (mapO plainLeaf cs).map .agg
  | d => plainLeaf d
/-- a slice literal's row -/
def buildL (ag : Bool) (sz len : Nat) (zero : DV) (parts : List (Nat × DV)) : Option DV :=
  if len * sz > 2 ^ 24 then none else
  if zero.cells.length = sz ∧ chunkOk ag sz len = true ∧ zero.cells.all DV.leaf = true then
  match fillD (fun i => some (i * sz, sz)) (List.replicate len zero.cells).flatten parts with
  | some cs => (mapO plainEl (chunk ag sz len cs)).map fun xs => mkl sz xs .ti
  | none => none
  else none
def loadD (ag : Bool) (sz : Nat) (p : DV) (H : Heap) : EO :=
  match p with
  | .ptr k off => match H[k]? with
    | some (.cells _ cs) => rv (partD ag sz off cs)
    | _ => none
  | .elem x off => qv (partD ag sz off x.cells)
  | _ => none
def storeD (sz : Nat) (p d : DV) (H : Heap) (fl : Nat) : EO :=
  match p with
  | .ptr k off => match H[k]? with
    | some (.cells e cs) =>
      if fl ≤ k ∧ d.cells.length = sz ∧ off + sz ≤ cs.length ∧ d.cells.all DV.leaf = true then some (.flat undef, .ch (H.set k (.cells e (splice off d.cells cs)))) else none
    | _ => none
  | _ => none
def allocD (e : TypeId) (d : DV) (nid : Nat) : EO :=
  if d.cells.all DV.leaf = true then some (.ptr nid 0, .al nid (.cells e d.cells)) else none
def intD : DV → Option Int
  | .flat (.int _ n) => some n
  | _ => none
def optD : Option DV → Option (Option Int)
  | none => some none
  | some d => (intD d).map some
def fieldD (fo sz : Nat) (x : DV) : Option DV :=
  if sz = 0 then none else
  match x with
  | .ptr k off => some (.ptr k (off + fo))
  | .elem x off => some (.elem x (off + fo))
  | _ => none
def idxArr (len sz : Nat) (x i : DV) : Option DV :=
  match intD i with
  | some n => if 0 ≤ n ∧ n < len then
      match x with
      | .ptr k off => some (.ptr k (off + n.toNat * sz))
      | .elem x off => some (.elem x (off + n.toNat * sz))
      | _ => none
    else none
  | none => none
def idxSl (sz : Nat) (x i : DV) : Option DV :=
  match intD i with
  | some n => if 0 ≤ n then
      match x with
      | .list s xs _ => if s = sz then (xs[n.toNat]?).map fun e => .elem e 0 else none
      | .row _ s k off len _ => if s = sz ∧ n < len then some (.ptr k (off + n.toNat * sz)) else none
      | _ => none
    else none
  | none => none
def boundsD (isList : Bool) (len cap : Nat) (lo hi mx : Option Int) : Option (Nat × Nat × Nat) :=
  let m : Int := mx.getD (cap : Int)
  let h : Int := hi.getD (len : Int)
  let l : Int := lo.getD 0
  if 0 ≤ l ∧ l ≤ h ∧ h ≤ m ∧ (h ≤ len) ∧ (mx.isNone ∨ m ≤ len) ∧ m ≤ cap ∧ (isList = false ∨ mx.isNone ∨ hi.isSome) ∧ (mx.isNone ∨ hi.isSome) then some (l.toNat, h.toNat, m.toNat) else none
def sliceL (sz : Nat) (xs : List DV) (t : Tag) (lo hi mx : Option Int) : Option DV :=
  match boundsD true xs.length xs.length lo hi mx with
  | some (l, h, m) => some (mkl sz ((xs.take h).drop l) (if mx.isSome ∧ m = h then .ti else if mx.isNone ∧ h = xs.length ∧ t = .ti then .ti else .sh))
  | none => none
def sliceSl (ts : Nat) (x : DV) (lo hi mx : Option Int) : Option DV :=
  match x with
  | .list sz xs t => if (xs.isEmpty || sz == ts) = true then sliceL ts xs t lo hi mx else none
  | .row ag sz k off n c => if sz ≠ ts ∨ c < n then none else match boundsD false n c lo hi mx with
    | some (l, h, m) => some (.row ag sz k (if m = l then off else off + l * sz) (h - l) (m - l))
    | none => none
  | _ => none
def sliceAr (ag : Bool) (n sz : Nat) (x : DV) (lo hi mx : Option Int) : Option DV :=
  match x with
  | .ptr k off => match boundsD false n n lo hi mx with
    | some (l, h, m) => some (.row ag sz k (if m = l then off else off + l * sz) (h - l) (m - l))
    | none => none
  | _ => none
def lenD : DV → Option DV
  | .list _ xs _ => some (.flat (.int .i64 xs.length))
  | .row _ _ _ _ n _ => some (.flat (.int .i64 n))
  | _ => none
def lenStr : DV → Option DV
  | .flat (.string s) => some (.flat (.int .i64 s.size))
  | _ => none
def capD : DV → Option DV
  | .list _ xs .ti => some (.flat (.int .i64 xs.length))
  | .row _ _ _ _ _ c => some (.flat (.int .i64 c))
  | _ => none
/-- the elements that a source of append or copy has -/
def srcD (ag : Bool) (sz : Nat) (y : DV) (H : Heap) : Option (List DV) :=
  match y with
  | .list s ys _ => if ys.isEmpty || s == sz then some ys else none
  | .row a s k off n _ => if a = ag ∧ s = sz ∧ chunkOk ag sz n = true then (rowCells H k off (n * sz)).bind fun cs => mapO plainEl (chunk ag sz n cs) else none
  | _ => none
def appendD (e : TypeId) (ag : Bool) (sz bytes : Nat) (x y : DV) (H : Heap) (fl : Nat) : EO :=
  match x, srcD ag sz y H with
  | .list s xs t, some ys =>
    match ys with
    | [] => some (x, .tk H)
    | _ =>
      if (xs.isEmpty || s == sz) = true ∧ chunkOk ag sz 0 = true ∧ (xs.length + ys.length) * bytes ≤ 140737488355328 ∧ xs.length + ys.length ≤ 140737488355328 then
        match t with
        | .ti => some (.list sz (xs ++ ys) (.own H.length), .tk (H ++ [.token e sz (xs.length + ys.length)]))
        | .own k => match H[k]? with
          | some (.token e' s' n) => if e' = e ∧ s' = sz ∧ n = xs.length ∧ fl ≤ k then some (.list sz (xs ++ ys) (.own k), .tk (H.set k (.token e sz (n + ys.length)))) else none
          | _ => none
        | .sh => none
      else none
  | _, _ => none
def copyD (ag : Bool) (sz : Nat) (x y : DV) (H : Heap) (fl : Nat) : EO :=
  match x, srcD ag sz y H with
  | .row a s k off n _, some ys =>
    if a = ag ∧ s = sz ∧ fl ≤ k then
      match H[k]? with
      | some (.cells e cs) =>
        let m := min ys.length n
        let new := ((ys.take m).map DV.cells).flatten
        if off + m * sz ≤ cs.length ∧ new.length = m * sz then some (.flat (.int .i64 m), .ch (H.set k (.cells e (splice off new cs)))) else none
      | _ => none
    else none
  | _, _ => none
def makeD (ag : Bool) (sz bytes : Nat) (e : TypeId) (zero l c : DV) (nid : Nat) : EO :=
  match intD l, intD c with
  | some l, some c => if l = c ∧ 0 ≤ l ∧ l * bytes ≤ 140737488355328 ∧ l ≤ 140737488355328 ∧ zero.cells.length = sz ∧ 0 < sz ∧ zero.cells.all DV.leaf = true then
      some (.row ag sz nid 0 l.toNat l.toNat, .al nid (.cells e (List.replicate l.toNat zero.cells).flatten)) else none
  | _, _ => none
/-- is a nil of its type compared with what is none? -/
def nilEq (P : Program) (t : TypeId) (a : DV) (v : Value) : Bool :=
  match P.underlying t, a, v with
  | some (.pointer _), .ptr .., .pointer none => true
  | some (.pointer _), .elem .., .pointer none => true
  | some (.interface _), .iface .., .nilIface => true
  | some (.func ..), .clo .., .nilFunc => true
  | some (.slice _), .list _ (_ :: _) _, .slice none 0 0 => true
  | _, _, _ => false
def eqRes (op : BinOp) : Option DV :=
  match op with
  | .eql => some (.flat (.bool false))
  | .neq => some (.flat (.bool true))
  | _ => none
def arD (P : Program) (op : BinOp) (t : TypeId) (a b : DV) : Option DV :=
  match toVal a, toVal b with
  | some va, some vb => pureV P (binOp op t va vb)
  | _, _ => none
def eqD (P : Program) (op : BinOp) (t : TypeId) (x y : Operand) (a b : DV) : Option DV :=
  match toVal a, toVal b with
  | some va, some vb => pureV P (do eqGuard op t x y va vb; binOp op t va vb)
  | none, some vb => if nilEq P t a vb then eqRes op else none
  | none, none => (match y with
    | .const v => if nilEq P t a v then eqRes op else none
    | _ => none)
  | _, _ => none
def binD (P : Program) (op : BinOp) (t : TypeId) (x y : Operand) (a b : DV) : Option DV :=
  match op with
  | .eql => eqD P .eql t x y a b
  | .neq => eqD P .neq t x y a b
  | op => arD P op t a b
def unD (P : Program) (op : UnOp) (a : DV) : Option DV := (toVal a).bind fun va => pureV P (Op.unary op va)
def byteOf : DV → Option UInt8
  | .flat (.int .u8 n) => if 0 ≤ n ∧ n < 256 then some (UInt8.ofNat n.toNat) else none
  | _ => none
/-- a list of bytes as a string -/
def strD (P : Program) (s d : TypeId) (xs : List DV) : Option DV := match P.underlying s, P.underlying d with
  | some (.slice e), some .string => (match P.underlying e with
    | some (.int .u8) => (mapO byteOf xs).map fun l => .flat (.string ⟨l.toArray⟩)
    | _ => none)
  | _, _ => none
def convD (P : Program) (s d : TypeId) (a : DV) : Option DV := match a with
  | .list _ xs _ => strD P s d xs
  | a => (toVal a).bind fun va => pureV P (convert s d va)
def pickD (c a b : DV) : Option DV :=
  match c with
  | .flat (.bool t) => some (if t then a else b)
  | _ => none
def nilD (a : DV) : Option DV :=
  match a with
  | .ptr k off => some (.ptr k off)
  | .elem x off => some (.elem x off)
  | .clo (.func f) x y => some (.clo (.func f) x y)
  | .flat (.func (.func f) x y) => some (.flat (.func (.func f) x y))
  | _ => none
def extD (i : Nat) (a : DV) : Option DV :=
  match a with
  | .tup cs => cs[i]?
  | _ => none
def builtD (P : Program) (b : Builtin) (ts : Array TypeId) (t : TypeId) (args : List DV) : Option DV :=
  (mapO toVal args).bind fun vs => match b with
    | .max => pureV P (Builtin.max_ ts t vs.toArray)
    | .min => pureV P (Builtin.min_ ts t vs.toArray)
    | _ => none

/-- how a function is called: with lists alone; it only looks at the heap; it may write the heap, and what it makes goes; what it makes stays -/
inductive CM where
  | pure (ti : Bool) | ro | rw | keep
/-- a value as a pure call hands it out -/
def outLeaf (ti : Bool) (H : Heap) : DV → Option DV
  | .flat v => if isOne v then some (.flat v) else none
  | .list sz xs t => some (.list sz xs (shTag ti t))
  | .row ag sz k off n c => if chunkOk ag sz n = true ∧ n ≤ c then ((rowCells H k off (n * sz)).bind fun cs => mapO plainEl (chunk ag sz n cs)).map fun xs => mkl sz xs (if ti && n == c then .ti else .sh) else none
  | _ => none
def outEl (ti : Bool) (H : Heap) : DV → Option DV
  | .agg cs => (mapO (outLeaf ti H) cs).map .agg
  | .flat v => some (.flat v)
  | d => outLeaf ti H d
def outD (ti : Bool) (H : Heap) : DV → Option DV
  | .tup cs => (mapO (outEl ti H) cs).map .tup
  | d => outEl ti H d
mutual
/-- does a value name no block from n0 on? -/
def inSc (n0 : Nat) : DV → Bool
  | .agg cs => inScL n0 cs
  | .tup cs => inScL n0 cs
  | .list _ _ (.own k) => decide (k < n0)
  | .ptr k _ => decide (k < n0)
  | .row _ _ k _ _ _ => decide (k < n0)
  | .clo _ f c => inScL n0 f && inScL n0 c
  | .iface _ d => inSc n0 d
  | _ => true
def inScL (n0 : Nat) : List DV → Bool
  | [] => true
  | d :: l => inSc n0 d && inScL n0 l
end
/-- what a call that makes blocks leaves in the old heap -/
def oldLeaf (n0 : Nat) (H : Heap) (d : DV) : Option DV :=
  if d.leaf && inSc n0 d then some d else
  match d with
  | .list sz xs _ => some (.list sz xs .sh)
  | .row ag sz k off n c => if n0 ≤ k then outLeaf true H (.row ag sz k off n c) else none
  | _ => none
def oldEl (n0 : Nat) (H : Heap) : DV → Option DV
  | .agg cs => (mapO (oldLeaf n0 H) cs).map .agg
  | .flat v => some (.flat v)
  | d => oldLeaf n0 H d
def oldD (n0 : Nat) (H : Heap) : DV → Option DV
  | .tup cs => (mapO (oldEl n0 H) cs).map .tup
  | d => oldEl n0 H d
def oldBlk (n0 : Nat) (H : Heap) : DBlk → Option DBlk
  | .cells e cs => (mapO (oldLeaf n0 H) cs).map (.cells e)
  | b => some b
def cutH (n0 : Nat) (H : Heap) : Option Heap := mapO (oldBlk n0 H) (H.take n0)
/-- an argument of a pure call -/
def argEl (d : DV) : Option DV := outEl false [] d
abbrev CF := FuncId → List DV → Heap → Nat → R
def callD (cf : CF) (m : CM) (fl : Nat) (f : FuncId) (args : List DV) (H : Heap) : EO :=
  match m with
  | .pure ti => (mapO argEl args).bind fun bs => (cf f bs [] 0).bind fun r => qv (outD ti r.2 r.1)
  | .ro => (cf f args H H.length).bind fun r => ov (oldD H.length r.2 r.1)
  | .rw => (cf f args H fl).bind fun r => (oldD H.length r.2 r.1).bind fun d => (cutH H.length r.2).map fun H' => (d, .ch H')
  | .keep => (cf f args H fl).map fun r => (r.1, .ch r.2)
def fnOf (d : DV) : Option (FuncId × List DV) :=
  match d with
  | .flat (.func (.func f) first cap) => if first.size = 0 ∧ cap.size = 0 then some (f, []) else none
  | .clo (.func f) [] cap => some (f, cap)
  | _ => none
def callV (cf : CF) (md : FuncId → CM) (fl : Nat) (f : DV) (args : List DV) (H : Heap) : EO :=
  match fnOf f with
  | some (g, cap) => callD cf (md g) fl g (args ++ cap) H
  | none => none
def callOp (P : Program) (cf : CF) (md : FuncId → CM) (fl : Nat) (o : Oper) (c : Call) (ρ : Operand → DV) (H : Heap) : EO :=
  match c.callee with
  | .builtin .len => match c.args.toList, c.argTypes.toList with
    | [x], [t] => qv (match P.underlying t with
      | some (.array n _) => some (.flat (.int .i64 n))
      | some (.slice _) => lenD (ρ x)
      | some .string => lenStr (ρ x)
      | _ => none)
    | _, _ => none
  | .builtin .cap => match c.args.toList, c.argTypes.toList with
    | [x], [t] => qv (match P.underlying t with
      | some (.slice _) => capD (ρ x)
      | _ => none)
    | _, _ => none
  | .builtin .append => match c.args.toList, c.argTypes.toList with
    | [x, y], [t, t'] => if t' = t then match P.underlying t with
      | some (.slice e) => match aggSz P e, P.info? e, zeroD P e with
        | some (ag, sz), some i, some z => if z.cells.length = sz then appendD e ag sz i.bytes (ρ x) (ρ y) H fl else none
        | _, _, _ => none
      | _ => none else none
    | _, _ => none
  | .builtin .copy => match c.args.toList, c.argTypes.toList with
    | [x, y], [t, _] => match P.underlying t with
      | some (.slice e) => match aggSz P e with
        | some (ag, sz) => copyD ag sz (ρ x) (ρ y) H fl
        | _ => none
      | _ => none
    | _, _ => none
  | .builtin b => qv (builtD P b c.argTypes o.type (c.args.toList.map ρ))
  | .value f => callV cf md fl (ρ f) (c.args.toList.map ρ) H
  | _ => none
def slX (ts : Nat) (x : DV) (lo hi mx : Option DV) : Option DV :=
  match optD lo, optD hi, optD mx with
  | some l, some h, some m => sliceSl ts x l h m
  | _, _, _ => none
def saX (ag : Bool) (n sz : Nat) (x : DV) (lo hi mx : Option DV) : Option DV :=
  match optD lo, optD hi, optD mx with
  | some l, some h, some m => sliceAr ag n sz x l h m
  | _, _, _ => none
def fldD (ag : Bool) (sz off : Nat) (x : DV) : Option DV :=
  match x with
  | .agg cs => partD ag sz off cs
  | _ => none
def idxV (ag : Bool) (sz len : Nat) (x i : DV) : Option DV :=
  match intD i, x with
  | some n, .agg cs => if 0 ≤ n ∧ n < len then partD ag sz (n.toNat * sz) cs else none
  | _, _ => none
/-- one operation -/
def evalO (P : Program) (cf : CF) (md : FuncId → CM) (fl nid : Nat) (o : Oper) (slots : List DV) (H : Heap) : EO :=
  let ρ := evalD slots
  match o.op with
  | .move x | .assign x => some (ρ x, .q)
  | .pick c a b => qv (pickD (ρ c) (ρ a) (ρ b))
  | .alloc e => (zeroD P e).bind fun d => allocD e d nid
  | .box e x => allocD e (ρ x) nid
  | .build t parts => match P.underlying t, (zeroD P t).filter (fun z => z.cells.all DV.leaf) with
    | some (.struct fs), some z => match placesD P fs.toList with
      | some pl => qv (buildS z pl (parts.toList.map fun p => (p.1, ρ p.2)))
      | none => none
    | some (.array _ e), some z => match P.info? e with
      | some i => qv (buildA z i.size (parts.toList.map fun p => (p.1, ρ p.2)))
      | none => none
    | _, _ => none
  | .buildSlice t len parts => match P.underlying t with
    | some (.slice e) => match aggSz P e, zeroD P e with
      | some (ag, sz), some z => qv (buildL ag sz len z (parts.toList.map fun p => (p.1, ρ p.2)))
      | _, _ => none
    | _ => none
  | .load t a => match aggSz P t with
    | some (ag, sz) => loadD ag sz (ρ a) H
    | none => none
  | .store t a x => match aggSz P t with
    | some (_, sz) => storeD sz (ρ a) (ρ x) H fl
    | none => none
  | .nilCheck x => qv (nilD (ρ x))
  | .binOp op t x y _ => qv (binD P op t x y (ρ x) (ρ y))
  | .unOp op _ x => qv (unD P op (ρ x))
  | .convert s d x => qv (convD P s d (ρ x))
  | .makeInterface t x => match P.underlying t with
    | some (.interface _) => none
    | some _ => some (.iface t (ρ x), .q)
    | none => none
  | .makeFunc fn first cap => some (.clo fn (first.toList.map ρ) (cap.toList.map ρ), .q)
  | .makeSlice t l c => match P.underlying t with
    | some (.slice e) => match aggSz P e, P.info? e, zeroD P e with
      | some (ag, sz), some i, some z => makeD ag sz i.bytes e z (ρ l) (ρ c) nid
      | _, _, _ => none
    | _ => none
  | .slice t x lo hi mx => match P.underlying t with
    | some (.slice e) => match aggSz P e with
      | some (_, sz) => qv (slX sz (ρ x) (lo.map ρ) (hi.map ρ) (mx.map ρ))
      | none => none
    | some (.array n e) => match aggSz P e with
      | some (ag, sz) => qv (saX ag n sz (ρ x) (lo.map ρ) (hi.map ρ) (mx.map ρ))
      | none => none
    | _ => none
  | .fieldAddr s x f => match P.underlying s with
    | some (.struct fs) => match fs[f]? with
      | some fd => match P.info? fd.type with
        | some i => qv (fieldD fd.offset i.size (ρ x))
        | none => none
      | none => none
    | _ => none
  | .field t x f => match P.underlying t with
    | some (.struct fs) => match fs[f]? with
      | some fd => match aggSz P fd.type with
        | some (ag, sz) => qv (fldD ag sz fd.offset (ρ x))
        | none => none
      | none => none
    | _ => none
  | .indexAddr t x i => match P.underlying t with
    | some (.array len e) => match P.info? e with
      | some ie => qv (idxArr len ie.size (ρ x) (ρ i))
      | none => none
    | some (.slice e) => match P.info? e with
      | some ie => qv (idxSl ie.size (ρ x) (ρ i))
      | none => none
    | _ => none
  | .index t x i => match P.underlying t with
    | some (.array len e) => match aggSz P e with
      | some (ag, sz) => qv (idxV ag sz len (ρ x) (ρ i))
      | none => none
    | _ => none
  | .extract t i => qv (extD i (ρ t))
  | .call c => callOp P cf md fl o c ρ H
  | _ => none

structure St where
  slots : List DV
  heap : Heap
def putD (slots : List DV) (dst : Option Tmp) (d : DV) : List DV :=
  match dst with
  | some t => slots.set t d
  | none => slots
def guardD (d : DV) (want : Bool) : Option Bool :=
  match d with
  | .flat (.bool b) => some (b == want)
  | .flat (.tuple _) => some false
  | _ => none
def wantE (w : Option Bool) (x : EO) : EO :=
  match w with
  | none => none
  | some true => x
  | some false => some (.flat undef, .q)
/-- is an operation wanted? none: that is not known -/
def wantD (ops : Array Oper) (o : Oper) (slots : List DV) : Option Bool :=
  match o.guard with
  | none => some true
  | some (j, want) => match ((ops[j]?).bind (·.dst)) with
    | some t => guardD (slots.getD t .any) want
    | none => none
structure Ctx where
  P : Program
  cf : CF
  md : FuncId → CM
  fl : Nat
  N : Nat
def isAl (o : Oper) : Bool := match o.op with | .alloc _ | .box .. | .makeSlice .. => true | _ => false
def opK (X : Ctx) (ops : Array Oper) (nid : Nat) (o : Oper) (S : St) (k : Nat → St → R) : R :=
  (wantE (wantD ops o S.slots) (evalO X.P X.cf X.md X.fl nid o S.slots S.heap)).bind fun p => k p.2.cls ⟨putD S.slots o.dst p.1, p.2.heap S.heap⟩
/-- a region in the order of the text; the classes of its operations are listed, the last first -/
def opsK (X : Ctx) (ops : Array Oper) : List Oper → Nat → List Nat → St → (List Nat → St → R) → R
  | [], _, cs, S, k => k cs S
  | o :: l, nid, cs, S, k => opK X ops nid o S fun c S' => opsK X ops l (if isAl o then nid + 1 else nid) (c :: cs) S' k
def holes (ops : List Oper) : Heap := (ops.filter isAl).map fun _ => .hole
def addHoles (ops : List Oper) (H : Heap) : Heap := match holes ops with | [] => H | hs => H ++ hs
def condR (d : DV) (x y : R) : R := match d with | .flat (.bool true) => x | .flat (.bool false) => y | _ => none
/-- each operation's forerunners, as bits -/
def maskOf (o : Oper) (acc : List Nat) : Nat :=
  o.after.toList.foldl (fun s e => if Region.binds .any e then s ||| (2 ^ e.on ||| acc.getD e.on 0) else s) 0
def masks : List Oper → List Nat → List Nat
  | [], acc => acc
  | o :: l, acc => masks l (acc ++ [maskOf o acc])
def namesOf (ops : Array Oper) (o : Oper) : List Tmp :=
  o.dst.toList ++ (o.op.operands.toList.filterMap fun | .tmp t => some t | _ => none) ++ (match o.guard with | some (j, _) => ((ops[j]?).bind (·.dst)).toList | none => [])
def clash (ops : Array Oper) (a b : Oper) (ca cb : Nat) : Bool :=
  (ca == 2 && cb != 0) || (cb == 2 && ca != 0) || (ca == 5 && decide (2 ≤ cb)) || (cb == 5 && ca != 0) || (ca == 3 && cb == 4) || (ca == 4 && cb == 3) || a.dst.any (namesOf ops b).contains || b.dst.any (namesOf ops a).contains
/-- may a region's operations come in any order that its edges allow? -/
def drawOk (ops : Array Oper) (cs : List Nat) : Bool :=
  let l := ops.toList
  let m := masks l []
  (List.range l.length).all fun j => ((l.getD j default).after.toList.all fun e => !Region.binds .any e || decide (e.on < j)) && (List.range j).all fun i =>
    !clash ops (l.getD i default) (l.getD j default) (cs.getD i 2) (cs.getD j 2) || (m.getD j 0).testBit i
def noSel (ops : Array Oper) : Bool := ops.all fun o => match o.op with | .select .. => false | _ => true
inductive Ex where
  | normal | exit (id : Nat) | ret
  deriving DecidableEq
def forget (keep : List Nat) (N : Nat) (slots : List DV) : List DV := (List.range N).map fun i => if keep.contains i then slots.getD i .any else .any
/-- a loop: what is kept from round to round, and behind it -/
def loopN (keep out : List Nat) (N : Nat) (body : St → (Ex → St → R) → R) : Nat → St → (Ex → St → R) → R
  | 0, _, _ => none
  | n + 1, S, k => body S fun x S' => match x with
    | .normal => loopN keep out N body n ⟨forget keep N S'.slots, S'.heap⟩ k
    | x => k x ⟨forget out N S'.slots, S'.heap⟩
def drawK (draw : Bool) (ops : Array Oper) (cs : List Nat) (x : R) : R := if draw && !drawOk ops cs.reverse then none else x
/-- how many loops a code holds -/
def nloops : Code → Nat
  | .seq a b => nloops a + nloops b
  | .cond _ a b => nloops a + nloops b
  | .block _ b => nloops b
  | .loop b => nloops b + 1
  | .scope b => nloops b
  | _ => 0
def execD (X : Ctx) (n : Nat) : Code → List (List Nat × List Nat) → St → (Ex → St → R) → R
  | .skip, _, S, k => k .normal S
  | .region _ ops draw, _, S, k =>
    opsK X ops ops.toList S.heap.length [] ⟨S.slots, addHoles ops.toList S.heap⟩ fun cs S' => drawK draw ops cs (k .normal S')
  | .seq a b, ks, S, k => execD X n a (ks.take (nloops a)) S fun x S' => match x with | .normal => execD X n b (ks.drop (nloops a)) S' k | x => k x S'
  | .cond c a b, ks, S, k => condR (evalD S.slots c) (execD X n a (ks.take (nloops a)) S k) (execD X n b (ks.drop (nloops a)) S k)
  | .block id b, ks, S, k => execD X n b ks S fun x S' => match x with | .exit i => if i = id then k .normal S' else k x S' | x => k x S'
  | .loop b, ks, S, k => loopN (ks.headD ([], [])).1 (ks.headD ([], [])).2 X.N (execD X n b ks.tail) n ⟨forget (ks.headD ([], [])).1 X.N S.slots, S.heap⟩ fun x S' => match x with | .normal => none | x => k x ⟨forget (ks.headD ([], [])).2 X.N S'.slots, S'.heap⟩
  | .scope b, ks, S, k => execD X n b ks S k
  | .exit id, _, S, k => k (.exit id) S
  | .ret, _, S, k => k .ret S
  | _, _, _, _ => none
def cellR (ag : Bool) (sz : Nat) (p : DV) (H : Heap) : Option DV :=
  match p with
  | .ptr k off => match H[k]? with
    | some (.cells _ cs) => partD ag sz off cs
    | _ => none
  | _ => none
def resOne (P : Program) (S : St) : ResultVar → Option DV
  | .tmp t => some (S.slots.getD t .any)
  | .cell a t => match aggSz P t with
    | some (ag, sz) => cellR ag sz (S.slots.getD a .any) S.heap
    | none => none
def seqO : List (Option DV) → Option (List DV)
  | [] => some []
  | x :: l => x.bind fun d => (seqO l).map fun ds => d :: ds
def tupD : List DV → DV
  | [d] => d
  | ds => .tup ds
def resD (P : Program) (rs : List ResultVar) (S : St) : Option DV := (seqO (rs.map (resOne P S))).map tupD
/-- the i-th loop's body of a code -/
def loopAt : Code → Nat → Code
  | .seq a b, i => if i < nloops a then loopAt a i else loopAt b (i - nloops a)
  | .cond _ a b, i => if i < nloops a then loopAt a i else loopAt b (i - nloops a)
  | .block _ b, i => loopAt b i
  | .loop b, 0 => b
  | .loop b, i + 1 => loopAt b i
  | .scope b, i => loopAt b i
  | c, _ => c
/-- the region of a number in a code -/
def regAt (id : Nat) : Code → Option (Array Oper)
  | .region i ops _ => if i = id then some ops else none
  | .seq a b => (regAt id a).or (regAt id b)
  | .cond _ a b => (regAt id a).or (regAt id b)
  | .block _ b => regAt id b
  | .loop b => regAt id b
  | .scope b => regAt id b
  | _ => none
def bodyOf (fn : Func) : Code := fn.body.getD .skip
structure Env where
  md : FuncId → CM
  ks : FuncId → List (List Nat × List Nat)
  prim : FuncId → Option (List DV → Heap → R)
def callN (P : Program) (E : Env) : Nat → CF
  | 0 => fun _ _ _ _ => none
  | n + 1 => fun f args H fl =>
    match E.prim f with
    | some g => g args H
    | none => match P.funcs[f]? with
      | some fn => match fn.body with
        | some c => if fn.ntmps < args.length then none else execD ⟨P, callN P E n, E.md, fl, fn.ntmps⟩ n c (E.ks f) ⟨args ++ List.replicate (fn.ntmps - args.length) (.flat undef), H⟩ fun x S =>
            match x with
            | .exit _ => none
            | _ => (resD P fn.results.toList S).map fun d => (d, S.heap)
        | none => none
      | none => none
end Go.Proofs.Ytbhnkdnfmlnajaa

/- Deep values: what a deep value stands for in memory, and how that is kept. -/
namespace Go.Proofs.Ytbhnkdnfmlnajaa
open Go Go.RowKit

/-- what a block of the deep heap is in memory -/
inductive GK where
  | hole
  | cel (b : Nat)
  | own (b sz cap hw : Nat)
abbrev Gh := List GK
def ImmB (B : Nat → Nat → Prop) (G : Gh) (b j : Nat) : Prop :=
  B b j ∧ (∀ k : Nat, G[k]? ≠ some (GK.cel b)) ∧ ∀ k sz cap hw : Nat, G[k]? = some (GK.own b sz cap hw) → j < hw * sz
def CellsAt (I : Nat → Nat → Prop) (w : World) (b o : Nat) (vs : List Value) : Prop :=
  ∀ j v, vs[j]? = some v → w.cell? ⟨b, o + j, none⟩ = some v ∧ I b (o + j) ∧ isOne v = true
def TagOk (G : Gh) (sz n : Nat) (A : Option Addr) (c : Nat) : Tag → Prop
  | .sh => True
  | .ti => c = n
  | .own k => ∃ b s cap hw, G[k]? = some (GK.own b s cap hw) ∧ n ≤ hw ∧ (hw = n → A = some ⟨b, 0, none⟩ ∧ c = cap ∧ s = sz)
mutual
def Rep (I : Nat → Nat → Prop) (w : World) (G : Gh) : DV → Value → Prop
  | .any, _ => True
  | .flat v, V => V = v
  | .agg cs, V => ∃ vs, V = .agg vs ∧ RepL I w G cs vs.toList
  | .tup cs, V => ∃ vs, V = .tuple vs ∧ RepL I w G cs vs.toList
  | .list sz xs t, V => ∃ A c, V = .slice A xs.length c ∧ xs.length ≤ c ∧ xs.length ≤ 140737488355328 ∧
      (xs = [] ∨ ∃ b o, A = some ⟨b, o, none⟩ ∧ RepE I w sz xs b o) ∧ TagOk G sz xs.length A c t
  | .ptr k off, V => ∃ b, G[k]? = some (GK.cel b) ∧ V = .pointer (some ⟨b, off, none⟩)
  | .row _ _ k off n c, V => ∃ b, G[k]? = some (GK.cel b) ∧ V = .slice (some ⟨b, off, none⟩) n c
  | .elem x off, V => x.cells.all DV.leaf = true ∧ ∃ b o E, V = .pointer (some ⟨b, o + off, none⟩) ∧ Rep I w [] x E ∧ CellsAt I w b o E.cells.toList
  | .clo fn first cap, V => ∃ f c, V = .func fn f c ∧ RepL I w G first f.toList ∧ RepL I w G cap c.toList
  | .iface t d, V => ∃ v, V = .iface t v ∧ Rep I w G d v
def RepL (I : Nat → Nat → Prop) (w : World) (G : Gh) : List DV → List Value → Prop
  | [], vs => vs = []
  | d :: ds, vs => ∃ v r, vs = v :: r ∧ Rep I w G d v ∧ RepL I w G ds r
def RepE (I : Nat → Nat → Prop) (w : World) (sz : Nat) : List DV → Nat → Nat → Prop
  | [], _, _ => True
  | x :: xs, b, o => (x.cells.all DV.leaf = true ∧ ∃ V, Rep I w [] x V ∧ V.cells.size = sz ∧ CellsAt I w b o V.cells.toList) ∧ RepE I w sz xs b (o + sz)
end
def evol : GK → GK → Prop
  | .hole, _ => True
  | .cel b, g => g = .cel b
  | .own b sz cap hw, g => ∃ b' cap' hw', g = .own b' sz cap' hw' ∧ hw ≤ hw' ∧ (hw' = hw → b' = b ∧ cap' = cap)
def Evol (G G' : Gh) : Prop := ∀ (k : Nat) (g : GK), G[k]? = some g → ∃ g', G'[k]? = some g' ∧ evol g g'
theorem evol_refl (g : GK) : evol g g := by
  cases g with
  | own b sz cap hw => exact ⟨_, _, _, rfl, Nat.le_refl _, fun _ => ⟨rfl, rfl⟩⟩
  | _ => simp [evol]
theorem Evol.refl (G : Gh) : Evol G G := fun _ g h => ⟨g, h, evol_refl g⟩
theorem Evol.nil (G : Gh) : Evol [] G := fun _ _ h => by simp at h
theorem evol_trans {a b c : GK} (h : evol a b) (k : evol b c) : evol a c := by
  cases a with
  | hole => trivial
  | cel x => simp only [evol] at h; subst h; exact k
  | own x sz cap hw =>
    obtain ⟨b', c', h', rfl, h1, h2⟩ := h
    obtain ⟨b2, c2, h2', rfl, k1, k2⟩ := k
    refine ⟨b2, c2, h2', rfl, by omega, fun e => ?_⟩
    have e1 : h2' = h' := by omega
    have e2 : h' = hw := by omega
    exact ⟨(k2 e1).1.trans (h2 e2).1, (k2 e1).2.trans (h2 e2).2⟩
theorem Evol.trans {G G' G'' : Gh} (h : Evol G G') (k : Evol G' G'') : Evol G G'' := fun i g hg =>
  let ⟨g', hg', e⟩ := h i g hg; let ⟨g'', hg'', e'⟩ := k i g' hg'; ⟨g'', hg'', evol_trans e e'⟩
theorem TagOk.evol {G G' : Gh} (hG : Evol G G') {sz n c : Nat} {A : Option Addr} {t : Tag} (h : TagOk G sz n A c t) : TagOk G' sz n A c t := by
  cases t with
  | sh => trivial
  | ti => exact h
  | own k =>
    obtain ⟨b, s, cap, hw, hg, h0, h1⟩ := h
    obtain ⟨g', hg', b', cap', hw', rfl, h2, h3⟩ := hG k _ hg
    refine ⟨b', s, cap', hw', hg', by omega, fun e => ?_⟩
    have e2 : hw' = hw := by omega
    obtain ⟨rfl, rfl⟩ := h3 e2
    exact h1 (by omega)
/-- what stays of the readings of cells -/
def Stay (I I' : Nat → Nat → Prop) (w w' : World) : Prop := ∀ b j v, I b j → w.cell? ⟨b, j, none⟩ = some v → w'.cell? ⟨b, j, none⟩ = some v ∧ I' b j
theorem CellsAt.stay {I I' : Nat → Nat → Prop} {w w' : World} (h : Stay I I' w w') {b o : Nat} {vs : List Value} (hc : CellsAt I w b o vs) : CellsAt I' w' b o vs := fun j v hj => by
  obtain ⟨h1, h2, h3⟩ := hc j v hj
  obtain ⟨h4, h5⟩ := h _ _ _ h2 h1
  exact ⟨h4, h5, h3⟩
mutual
theorem Rep.stay {I I' : Nat → Nat → Prop} {w w' : World} (h : Stay I I' w w') {G G' : Gh} (hG : Evol G G') : ∀ (d : DV) (V : Value), Rep I w G d V → Rep I' w' G' d V
  | .any, _, _ => by simp [Rep]
  | .flat v, V, k => by simpa only [Rep] using k
  | .agg cs, V, k => by
    simp only [Rep] at k ⊢
    obtain ⟨vs, e, k⟩ := k
    exact ⟨vs, e, RepL.stay h hG cs _ k⟩
  | .tup cs, V, k => by
    simp only [Rep] at k ⊢
    obtain ⟨vs, e, k⟩ := k
    exact ⟨vs, e, RepL.stay h hG cs _ k⟩
  | .list sz xs t, V, k => by
    simp only [Rep] at k ⊢
    obtain ⟨A, c, e, k1, k2, k3, k4⟩ := k
    refine ⟨A, c, e, k1, k2, k3.imp id ?_, k4.evol hG⟩
    rintro ⟨b, o, e, k⟩
    exact ⟨b, o, e, RepE.stay h sz xs b o k⟩
  | .ptr k off, V, r => by
    simp only [Rep] at r ⊢
    obtain ⟨b, hg, e⟩ := r
    obtain ⟨g', hg', he⟩ := hG k _ hg
    simp only [evol] at he
    subst he
    exact ⟨b, hg', e⟩
  | .row _ _ k off n c, V, r => by
    simp only [Rep] at r ⊢
    obtain ⟨b, hg, e⟩ := r
    obtain ⟨g', hg', he⟩ := hG k _ hg
    simp only [evol] at he
    subst he
    exact ⟨b, hg', e⟩
  | .elem x off, V, k => by
    simp only [Rep] at k ⊢
    obtain ⟨k0, b, o, E, e, k1, k2⟩ := k
    exact ⟨k0, b, o, E, e, Rep.stay h (Evol.nil []) x E k1, k2.stay h⟩
  | .clo fn first cap, V, k => by
    simp only [Rep] at k ⊢
    obtain ⟨f, c, e, k1, k2⟩ := k
    exact ⟨f, c, e, RepL.stay h hG first _ k1, RepL.stay h hG cap _ k2⟩
  | .iface t d, V, k => by
    simp only [Rep] at k ⊢
    obtain ⟨v, e, k⟩ := k
    exact ⟨v, e, Rep.stay h hG d v k⟩
theorem RepL.stay {I I' : Nat → Nat → Prop} {w w' : World} (h : Stay I I' w w') {G G' : Gh} (hG : Evol G G') : ∀ (ds : List DV) (vs : List Value), RepL I w G ds vs → RepL I' w' G' ds vs
  | [], vs, k => by simpa only [RepL] using k
  | d :: ds, vs, k => by
    simp only [RepL] at k ⊢
    obtain ⟨v, r, e, k1, k2⟩ := k
    exact ⟨v, r, e, Rep.stay h hG d v k1, RepL.stay h hG ds r k2⟩
theorem RepE.stay {I I' : Nat → Nat → Prop} {w w' : World} (h : Stay I I' w w') (sz : Nat) : ∀ (xs : List DV) (b o : Nat), RepE I w sz xs b o → RepE I' w' sz xs b o
  | [], _, _, _ => by simp [RepE]
  | x :: xs, b, o, k => by
    simp only [RepE] at k ⊢
    obtain ⟨⟨k0, V, k1, k2, k3⟩, k4⟩ := k
    exact ⟨⟨k0, V, Rep.stay h (Evol.nil []) x V k1, k2, k3.stay h⟩, RepE.stay h sz xs b (o + sz) k4⟩
end
def liveAt (G : Gh) (k b : Nat) : Prop := G[k]? = some (GK.cel b) ∨ ∃ sz cap hw, G[k]? = some (GK.own b sz cap hw)
def Dist (G : Gh) : Prop := ∀ k k' b, liveAt G k b → liveAt G k' b → k = k'
def BlkRep (I : Nat → Nat → Prop) (w : World) (G : Gh) : DBlk → GK → Prop
  | .hole, .hole => True
  | .cells e cs, .cel b => ∃ C, w.heap[b]? = some (.cells C e (0, 0)) ∧ RepL I w G cs C.toList ∧ ∀ v ∈ C.toList, isOne v = true
  | .token e sz n, .own b s cap hw => s = sz ∧ hw = n ∧ n ≤ cap ∧ 0 < sz ∧ n ≤ 140737488355328 ∧ ∃ C, w.heap[b]? = some (.cells C e (0, 0)) ∧ C.size = cap * sz
  | _, _ => False
structure HR (B : Nat → Nat → Prop) (G : Gh) (w : World) (H : Heap) : Prop where
  len : H.length = G.length
  dist : Dist G
  blk : ∀ (k : Nat) (b : DBlk) (g : GK), H[k]? = some b → G[k]? = some g → BlkRep (ImmB B G) w G b g
  bb : ∀ k b, liveAt G k b → ∀ j, B b j
structure Keep (G : Gh) (w : World) (G' : Gh) (w' : World) : Prop where
  os : w'.os = w.os
  tape : w'.tape = w.tape
  output : w'.output = w.output
  size : w.heap.size ≤ w'.heap.size
  blk : ∀ b, b < w.heap.size → (∀ k, ¬ liveAt G k b) → w'.heap[b]? = w.heap[b]?
  own : ∀ k b sz cap hw : Nat, G[k]? = some (GK.own b sz cap hw) → b < w.heap.size → ∀ j, j < hw * sz → w'.cell? ⟨b, j, none⟩ = w.cell? ⟨b, j, none⟩
  evol : Evol G G'
  fresh : ∀ k b : Nat, b < w.heap.size → G'[k]? = some (GK.cel b) → G[k]? = some (GK.cel b)
  freshO : ∀ k b sz cap' hw' : Nat, b < w.heap.size → G'[k]? = some (GK.own b sz cap' hw') → ∃ cap hw, G[k]? = some (GK.own b sz cap hw) ∧ hw ≤ hw'
theorem Keep.refl (G : Gh) (w : World) : Keep G w G w :=
  ⟨rfl, rfl, rfl, Nat.le_refl _, fun _ _ _ => rfl, fun _ _ _ _ _ _ _ _ _ => rfl, Evol.refl G, fun _ _ _ h => h, fun _ _ _ cap hw _ h => ⟨cap, hw, h, Nat.le_refl _⟩⟩
theorem Keep.live {G G' : Gh} {w w' : World} (h : Keep G w G' w') {k b : Nat} (hb : b < w.heap.size) (hl : liveAt G' k b) : liveAt G k b := by
  rcases hl with hl | ⟨sz, cap, hw, hl⟩
  · exact .inl (h.fresh k b hb hl)
  · obtain ⟨cap, hw, hg, _⟩ := h.freshO k b sz cap hw hb hl
    exact .inr ⟨sz, cap, hw, hg⟩
theorem cell_of_blk {w w' : World} {b : Nat} (h : w'.heap[b]? = w.heap[b]?) (j : Nat) : w'.cell? ⟨b, j, none⟩ = w.cell? ⟨b, j, none⟩ := by
  simp only [World.cell?, h]
theorem Keep.trans {G G' G'' : Gh} {w w' w'' : World} (hD : Dist G) (h : Keep G w G' w') (k : Keep G' w' G'' w'') : Keep G w G'' w'' := by
  refine ⟨k.os.trans h.os, k.tape.trans h.tape, k.output.trans h.output, Nat.le_trans h.size k.size, ?_, ?_, h.evol.trans k.evol, ?_, ?_⟩
  · intro b hb hl
    rw [k.blk b (Nat.lt_of_lt_of_le hb h.size) (fun i hi => hl i (h.live hb hi)), h.blk b hb hl]
  · intro i b sz cap hw hg hb j hj
    rw [← h.own i b sz cap hw hg hb j hj]
    have hb' := Nat.lt_of_lt_of_le hb h.size
    by_cases hl : ∃ i', liveAt G' i' b
    · obtain ⟨i', hl⟩ := hl
      have : i' = i := hD i' i b (h.live hb hl) (.inr ⟨sz, cap, hw, hg⟩)
      subst this
      rcases hl with hl | ⟨sz', cap', hw', hl⟩
      · have := h.fresh _ _ hb hl
        rw [hg] at this; simp at this
      · obtain ⟨c0, h0, hg0, hle⟩ := h.freshO _ _ _ _ _ hb hl
        rw [hg] at hg0
        injection hg0 with hg0
        injection hg0 with e1 e2 e3 e4
        subst e2 e4
        exact k.own _ _ _ _ _ hl hb' j (Nat.lt_of_lt_of_le hj (Nat.mul_le_mul_right _ hle))
    · exact cell_of_blk (k.blk b hb' (fun i' hi' => hl ⟨i', hi'⟩)) j
  · intro i b hb hg
    exact h.fresh i b hb (k.fresh i b (Nat.lt_of_lt_of_le hb h.size) hg)
  · intro i b sz cap' hw' hb hg
    obtain ⟨c1, h1, hg1, hle1⟩ := k.freshO i b sz cap' hw' (Nat.lt_of_lt_of_le hb h.size) hg
    obtain ⟨c0, h0, hg0, hle0⟩ := h.freshO i b sz c1 h1 hb hg1
    exact ⟨c0, h0, hg0, Nat.le_trans hle0 hle1⟩
theorem cell_lt {w : World} {b j : Nat} {v : Value} (h : w.cell? ⟨b, j, none⟩ = some v) : b < w.heap.size := World.block_lt_of_cell? (a := ⟨b, j, none⟩) _ h
theorem Keep.stay {B : Nat → Nat → Prop} {G G' : Gh} {w w' : World} (h : Keep G w G' w') : Stay (ImmB B G) (ImmB B G') w w' := by
  intro b j v hI hc
  have hb := cell_lt hc
  obtain ⟨h0, h1, h2⟩ := hI
  refine ⟨?_, h0, fun k hk => h1 k (h.fresh k b hb hk), fun k sz cap hw hk => ?_⟩
  · by_cases hl : ∃ i, liveAt G i b
    · obtain ⟨i, hl | ⟨sz, cap, hw, hl⟩⟩ := hl
      · exact absurd hl (h1 i)
      · rw [h.own i b sz cap hw hl hb j (h2 i sz cap hw hl)]; exact hc
    · rw [cell_of_blk (h.blk b hb (fun i hi => hl ⟨i, hi⟩)) j]; exact hc
  · obtain ⟨c0, h0', hg0, hle⟩ := h.freshO k b sz cap hw hb hk
    exact Nat.lt_of_lt_of_le (h2 k sz c0 h0' hg0) (Nat.mul_le_mul_right _ hle)
theorem Rep.keep {B : Nat → Nat → Prop} {G G' : Gh} {w w' : World} (h : Keep G w G' w') {d : DV} {V : Value} (hr : Rep (ImmB B G) w G d V) : Rep (ImmB B G') w' G' d V :=
  Rep.stay h.stay h.evol d V hr
theorem RepL.keep {B : Nat → Nat → Prop} {G G' : Gh} {w w' : World} (h : Keep G w G' w') {d : List DV} {V : List Value} (hr : RepL (ImmB B G) w G d V) : RepL (ImmB B G') w' G' d V :=
  RepL.stay h.stay h.evol d V hr
/-- a draw turns nothing -/
theorem Keep.draw (G : Gh) (w : World) (n : Nat) : Keep G w G { w with drawn := n } :=
  ⟨rfl, rfl, rfl, Nat.le_refl _, fun _ _ _ => rfl, fun _ _ _ _ _ _ _ _ _ => rfl, Evol.refl G, fun _ _ _ h => h, fun _ _ _ cap hw _ h => ⟨cap, hw, h, Nat.le_refl _⟩⟩
theorem HR.draw {B : Nat → Nat → Prop} {G : Gh} {w : World} {H : Heap} (h : HR B G w H) (n : Nat) : HR B G { w with drawn := n } H := by
  refine ⟨h.len, h.dist, fun k b g hb hg => ?_, h.bb⟩
  have := h.blk k b g hb hg
  cases b <;> cases g <;> simp only [BlkRep] at this ⊢
  · obtain ⟨C, h1, h2, h3⟩ := this
    exact ⟨C, h1, RepL.keep (Keep.draw G w n) h2, h3⟩
  · exact this
end Go.Proofs.Ytbhnkdnfmlnajaa

/- Deep values: memory's steps (a new block, a block written, a row grown), and what they keep. -/
namespace Go.Proofs.Ytbhnkdnfmlnajaa
open Go Go.RowKit

theorem isOne_eq (v : Value) : isOne v = v.oneCell' := by cases v <;> rfl
theorem RepL.length {I : Nat → Nat → Prop} {w : World} {G : Gh} : ∀ {ds : List DV} {vs : List Value}, RepL I w G ds vs → vs.length = ds.length
  | [], vs, h => by simp only [RepL] at h; simp [h]
  | d :: ds, vs, h => by
    simp only [RepL] at h
    obtain ⟨v, r, rfl, _, h⟩ := h
    simp [RepL.length h]
theorem RepL.get {I : Nat → Nat → Prop} {w : World} {G : Gh} : ∀ {ds : List DV} {vs : List Value}, RepL I w G ds vs → ∀ (i : Nat) (d : DV), ds[i]? = some d → ∃ v, vs[i]? = some v ∧ Rep I w G d v
  | [], vs, _, i, d, h => by simp at h
  | d :: ds, vs, h, i, x, hx => by
    simp only [RepL] at h
    obtain ⟨v, r, rfl, h1, h2⟩ := h
    cases i with
    | zero => simp at hx; subst hx; exact ⟨v, rfl, h1⟩
    | succ i => exact RepL.get h2 i x hx
theorem RepL.of {I : Nat → Nat → Prop} {w : World} {G : Gh} : ∀ {ds : List DV} {vs : List Value}, vs.length = ds.length → (∀ (i : Nat) (d : DV) (v : Value), ds[i]? = some d → vs[i]? = some v → Rep I w G d v) → RepL I w G ds vs
  | [], vs, h, _ => by simp only [RepL]; simpa using h
  | d :: ds, [], h, _ => by simp at h
  | d :: ds, v :: r, h, k => by
    simp only [RepL]
    exact ⟨v, r, rfl, k 0 d v rfl rfl, RepL.of (by simpa using h) (fun i x y hx hy => k (i + 1) x y (by simpa using hx) (by simpa using hy))⟩
theorem RepL.app {I : Nat → Nat → Prop} {w : World} {G : Gh} {ds es : List DV} {vs us : List Value} (h : RepL I w G ds vs) (k : RepL I w G es us) : RepL I w G (ds ++ es) (vs ++ us) := by
  refine RepL.of (by simp [h.length, k.length]) fun i d v hd hv => ?_
  have hl := h.length
  rcases Nat.lt_or_ge i ds.length with hi | hi
  · rw [List.getElem?_append_left hi] at hd
    rw [List.getElem?_append_left (by omega)] at hv
    obtain ⟨v', hv', hr⟩ := h.get i d hd
    rw [hv'] at hv; cases hv; exact hr
  · rw [List.getElem?_append_right hi] at hd
    rw [List.getElem?_append_right (by omega)] at hv
    obtain ⟨v', hv', hr⟩ := k.get _ d hd
    rw [← hl] at hv'
    rw [hv'] at hv; cases hv; exact hr
theorem RepL.take {I : Nat → Nat → Prop} {w : World} {G : Gh} {ds : List DV} {vs : List Value} (h : RepL I w G ds vs) (n : Nat) : RepL I w G (ds.take n) (vs.take n) := by
  refine RepL.of (by simp [h.length]) fun i d v hd hv => ?_
  rcases Nat.lt_or_ge i n with hi | hi
  · rw [List.getElem?_take_of_lt hi] at hd hv
    obtain ⟨v', hv', hr⟩ := h.get i d hd
    rw [hv'] at hv; cases hv; exact hr
  · simp [List.getElem?_take, Nat.not_lt.2 hi] at hd
theorem RepL.drop {I : Nat → Nat → Prop} {w : World} {G : Gh} {ds : List DV} {vs : List Value} (h : RepL I w G ds vs) (n : Nat) : RepL I w G (ds.drop n) (vs.drop n) := by
  refine RepL.of (by simp [h.length]) fun i d v hd hv => ?_
  rw [List.getElem?_drop] at hd hv
  obtain ⟨v', hv', hr⟩ := h.get _ d hd
  rw [hv'] at hv; cases hv; exact hr
theorem RepL.set {I : Nat → Nat → Prop} {w : World} {G : Gh} {ds : List DV} {vs : List Value} (h : RepL I w G ds vs) (t : Nat) {d : DV} {v : Value} (k : Rep I w G d v) : RepL I w G (ds.set t d) (vs.set t v) := by
  refine RepL.of (by simp [h.length]) fun i x y hx hy => ?_
  by_cases hi : t = i
  · subst hi
    have hlt : t < ds.length := by
      rcases Nat.lt_or_ge t ds.length with h | h
      · exact h
      · simp [List.getElem?_eq_none (by simpa using h : (ds.set t d).length ≤ t)] at hx
    rw [List.getElem?_set_self hlt] at hx
    rw [List.getElem?_set_self (by rw [h.length]; exact hlt)] at hy
    cases hx; cases hy; exact k
  · rw [List.getElem?_set_ne hi] at hx hy
    obtain ⟨v', hv', hr⟩ := h.get _ x hx
    rw [hv'] at hy; cases hy; exact hr
theorem RepL.getD {I : Nat → Nat → Prop} {w : World} {G : Gh} {ds : List DV} {vs : List Value} (h : RepL I w G ds vs) (t : Nat) (u : Value) : Rep I w G (ds.getD t .any) (vs.getD t u) := by
  cases hd : ds[t]? with
  | none => simp [List.getD, hd, Rep]
  | some d =>
    obtain ⟨v, hv, hr⟩ := h.get t d hd
    simpa [List.getD, hd, hv] using hr
theorem rep_leafOf {I : Nat → Nat → Prop} {w : World} {G : Gh} (v : Value) : Rep I w G (leafOf v) v := by
  unfold leafOf
  split
  · simp [Rep, TagOk]
  · simp [Rep]
theorem repL_map {I : Nat → Nat → Prop} {w : World} {G : Gh} (f : Value → DV) (hf : ∀ v, Rep I w G (f v) v) (l : List Value) : RepL I w G (l.map f) l :=
  RepL.of (by simp) fun i d v hd hv => by
    simp [hv] at hd
    subst hd; exact hf v
theorem rep_ofVal1 {I : Nat → Nat → Prop} {w : World} {G : Gh} (v : Value) : Rep I w G (ofVal1 v) v := by
  unfold ofVal1
  split
  · simp only [Rep]; exact ⟨_, rfl, repL_map _ rep_leafOf _⟩
  · exact rep_leafOf v
theorem rep_ofVal {I : Nat → Nat → Prop} {w : World} {G : Gh} (v : Value) : Rep I w G (ofVal v) v := by
  unfold ofVal
  split
  · split
    · simp [Rep]
    · simp only [Rep]; exact ⟨_, rfl, repL_map _ rep_ofVal1 _⟩
  · exact rep_ofVal1 v
/-- the slots of a frame -/
def SR (I : Nat → Nat → Prop) (w : World) (G : Gh) (slots : List DV) (a : Act) : Prop := a.defers = [] ∧ RepL I w G slots a.tmps.toList
theorem SR.eval {I : Nat → Nat → Prop} {w : World} {G : Gh} {slots : List DV} {a : Act} (h : SR I w G slots a) (x : Operand) : Rep I w G (evalD slots x) (a.eval x) := by
  cases x with
  | tmp t =>
    have := h.2.getD t undef
    simpa [evalD, Act.eval] using this
  | const v => exact rep_ofVal v
  | global g => simp [evalD, Act.eval, Rep]
  | func f => simp [evalD, Act.eval, Rep]
theorem SR.put {I : Nat → Nat → Prop} {w : World} {G : Gh} {slots : List DV} {a : Act} (h : SR I w G slots a) (dst : Option Tmp) {d : DV} {v : Value} (k : Rep I w G d v) : SR I w G (putD slots dst d) (a.put dst v) := by
  cases dst with
  | none => exact h
  | some t =>
    refine ⟨h.1, ?_⟩
    have := h.2.set t k
    simpa [putD, Act.put] using this
theorem SR.keep {B : Nat → Nat → Prop} {G G' : Gh} {w w' : World} (h : Keep G w G' w') {slots : List DV} {a : Act} (k : SR (ImmB B G) w G slots a) : SR (ImmB B G') w' G' slots a := ⟨k.1, k.2.keep h⟩
/-- live blocks are blocks -/
theorem HR.lt {B : Nat → Nat → Prop} {G : Gh} {w : World} {H : Heap} (h : HR B G w H) {k b : Nat} (hl : liveAt G k b) : b < w.heap.size := by
  have hk : k < G.length := by
    rcases hl with hl | ⟨_, _, _, hl⟩ <;> exact (List.getElem?_eq_some_iff.1 hl).1
  have hb := List.getElem?_eq_getElem (show k < H.length by rw [h.len]; exact hk)
  rcases hl with hl | ⟨_, _, _, hl⟩
  · have := h.blk _ _ _ hb hl
    cases hB : H[k]'(by rw [h.len]; exact hk) <;> rw [hB] at this <;> simp only [BlkRep] at this
    obtain ⟨C, h1, _⟩ := this
    exact (Array.getElem?_eq_some_iff.1 h1).1
  · have := h.blk _ _ _ hb hl
    cases hB : H[k]'(by rw [h.len]; exact hk) <;> rw [hB] at this <;> simp only [BlkRep] at this
    obtain ⟨_, _, _, _, _, C, h1, _⟩ := this
    exact (Array.getElem?_eq_some_iff.1 h1).1
theorem HR.cells {B : Nat → Nat → Prop} {G : Gh} {w : World} {H : Heap} (h : HR B G w H) {k b : Nat} {e : TypeId} {cs : List DV} (hH : H[k]? = some (.cells e cs)) (hG : G[k]? = some (GK.cel b)) :
    ∃ C, w.heap[b]? = some (.cells C e (0, 0)) ∧ RepL (ImmB B G) w G cs C.toList ∧ ∀ v ∈ C.toList, isOne v = true := by
  have := h.blk _ _ _ hH hG
  simpa only [BlkRep] using this
/-- a pointer to a block of cells -/
theorem HR.ptr {B : Nat → Nat → Prop} {G : Gh} {w : World} {H : Heap} (h : HR B G w H) {k : Nat} {e : TypeId} {cs : List DV} (hH : H[k]? = some (.cells e cs)) :
    ∃ b, G[k]? = some (GK.cel b) := by
  have hk : k < H.length := (List.getElem?_eq_some_iff.1 hH).1
  have hg := List.getElem?_eq_getElem (show k < G.length by rw [← h.len]; exact hk)
  have := h.blk _ _ _ hH hg
  cases hB : G[k]'(by rw [← h.len]; exact hk) <;> rw [hB] at this <;> simp only [BlkRep] at this
  exact ⟨_, by rw [hg, hB]⟩
theorem blk_keep {B : Nat → Nat → Prop} {G G' : Gh} {w w' : World} (hK : Keep G w G' w') {x : DBlk} {g : GK} (h : BlkRep (ImmB B G) w G x g)
    (hb : ∀ b, (g = .cel b ∨ ∃ s c n, g = .own b s c n) → w'.heap[b]? = w.heap[b]?) : BlkRep (ImmB B G') w' G' x g := by
  cases x <;> cases g <;> simp only [BlkRep] at h ⊢
  · obtain ⟨C, h1, h2, h3⟩ := h
    exact ⟨C, by rw [hb _ (.inl rfl)]; exact h1, RepL.keep hK h2, h3⟩
  · obtain ⟨h0, h1, h2, h3, h4, C, h5, h6⟩ := h
    exact ⟨h0, h1, h2, h3, h4, C, by rw [hb _ (.inr ⟨_, _, _, rfl⟩)]; exact h5, h6⟩
/-- worlds that are alike but for one block -/
structure But (b : Nat) (w w' : World) : Prop where
  os : w'.os = w.os
  tape : w'.tape = w.tape
  output : w'.output = w.output
  size : w'.heap.size = w.heap.size
  blk : ∀ i, i ≠ b → w'.heap[i]? = w.heap[i]?
theorem but_setRow (w : World) (b : Nat) (C : Array Value) : But b w (w.setRow b C) := by
  refine ⟨rfl, rfl, rfl, by simp [World.setRow], fun i hi => ?_⟩
  simp only [World.setRow, Array.getElem?_modify]
  rw [if_neg (by omega)]
/-- a block of cells is written -/
theorem step_set {B : Nat → Nat → Prop} {G : Gh} {w w' : World} {H : Heap} (h : HR B G w H) {k b : Nat} {e : TypeId} {C' : Array Value} {cs' : List DV} (hG : G[k]? = some (GK.cel b))
    (hb : But b w w') (hC : w'.heap[b]? = some (.cells C' e (0, 0))) (hr : RepL (ImmB B G) w G cs' C'.toList) (h1 : ∀ v ∈ C'.toList, isOne v = true) :
    Keep G w G w' ∧ HR B G w' (H.set k (.cells e cs')) := by
  have hK : Keep G w G w' := by
    refine ⟨hb.os, hb.tape, hb.output, Nat.le_of_eq hb.size.symm, fun i _ hl => hb.blk i (fun e => hl k (by subst e; exact .inl hG)), fun i b' sz cap hw hg _ j _ => ?_, Evol.refl G, fun _ _ _ h => h, fun _ _ _ cap hw _ h => ⟨cap, hw, h, Nat.le_refl _⟩⟩
    refine cell_of_blk (hb.blk b' fun e => ?_) j
    subst e
    have := h.dist i k _ (.inr ⟨_, _, _, hg⟩) (.inl hG)
    subst this
    rw [hG] at hg; simp at hg
  refine ⟨hK, by simp [h.len], h.dist, fun i x g hx hg => ?_, h.bb⟩
  by_cases hi : k = i
  · subst hi
    rw [hG] at hg
    have hlt : k < H.length := by rw [h.len]; exact (List.getElem?_eq_some_iff.1 hG).1
    rw [List.getElem?_set_self hlt] at hx
    cases hx; cases hg
    simp only [BlkRep]
    exact ⟨C', hC, RepL.keep hK hr, h1⟩
  · rw [List.getElem?_set_ne hi] at hx
    refine blk_keep hK (h.blk i x g hx hg) fun b' hb' => hb.blk b' fun e => hi ?_
    subst e
    refine h.dist k i _ (.inl hG) ?_
    rcases hb' with rfl | ⟨s, c, n, rfl⟩
    · exact .inl hg
    · exact .inr ⟨s, c, n, hg⟩
/-- worlds with one block more -/
structure More (o : Obj) (w w' : World) : Prop where
  os : w'.os = w.os
  tape : w'.tape = w.tape
  output : w'.output = w.output
  heap : w'.heap = w.heap.push o
theorem More.old {o : Obj} {w w' : World} (h : More o w w') {b : Nat} (hb : b < w.heap.size) : w'.heap[b]? = w.heap[b]? := by
  rw [h.heap, Array.getElem?_push, if_neg (by omega)]
theorem More.new {o : Obj} {w w' : World} (h : More o w w') : w'.heap[w.heap.size]? = some o := by rw [h.heap]; simp
theorem More.size {o : Obj} {w w' : World} (h : More o w w') : w'.heap.size = w.heap.size + 1 := by rw [h.heap]; simp
/-- a new block that nobody writes -/
theorem step_new {B : Nat → Nat → Prop} {G : Gh} {w w' : World} {H : Heap} (h : HR B G w H) {o : Obj} (hm : More o w w') : Keep G w G w' ∧ HR B G w' H := by
  have hK : Keep G w G w' := ⟨hm.os, hm.tape, hm.output, by rw [hm.size]; omega, fun i hi _ => hm.old hi, fun i b' sz cap hw _ hb j _ => cell_of_blk (hm.old hb) j, Evol.refl G, fun _ _ _ h => h, fun _ _ _ cap hw _ h => ⟨cap, hw, h, Nat.le_refl _⟩⟩
  refine ⟨hK, h.len, h.dist, fun i x g hx hg => blk_keep hK (h.blk i x g hx hg) fun b' hb' => hm.old (h.lt (k := i) ?_), h.bb⟩
  rcases hb' with rfl | ⟨s, c, n, rfl⟩
  · exact .inl hg
  · exact .inr ⟨s, c, n, hg⟩
theorem evol_set {G : Gh} {k : Nat} {g g' : GK} (hg : G[k]? = some g) (he : evol g g') : Evol G (G.set k g') := fun i x hx => by
  by_cases hi : k = i
  · subst hi
    rw [hg] at hx; cases hx
    exact ⟨g', List.getElem?_set_self (List.getElem?_eq_some_iff.1 hg).1, he⟩
  · exact ⟨x, by rw [List.getElem?_set_ne hi]; exact hx, evol_refl x⟩
theorem get_set {α : Type} {G : List α} {k i : Nat} {g g' : α} (h : (G.set k g')[i]? = some g) : (i = k ∧ g = g' ∧ k < G.length) ∨ (i ≠ k ∧ G[i]? = some g) := by
  by_cases hi : k = i
  · subst hi
    have hlt : k < G.length := by
      rcases Nat.lt_or_ge k G.length with h' | h'
      · exact h'
      · simp [List.getElem?_eq_none (by simpa using h' : (G.set k g').length ≤ k)] at h
    rw [List.getElem?_set_self hlt] at h
    exact .inl ⟨rfl, by cases h; rfl, hlt⟩
  · rw [List.getElem?_set_ne hi] at h
    exact .inr ⟨fun e => hi e.symm, h⟩
/-- a hole is filled by a new block -/
theorem step_fill {B : Nat → Nat → Prop} {G : Gh} {w w' : World} {H : Heap} (h : HR B G w H) {k : Nat} {e : TypeId} {C : Array Value} {cs : List DV} (hG : G[k]? = some GK.hole) (hB : ∀ b j, w.heap.size ≤ b → B b j)
    (hm : More (.cells C e (0, 0)) w w') (hr : RepL (ImmB B G) w G cs C.toList) (h1 : ∀ v ∈ C.toList, isOne v = true) :
    Keep G w (G.set k (.cel w.heap.size)) w' ∧ HR B (G.set k (.cel w.heap.size)) w' (H.set k (.cells e cs)) := by
  have hk : k < G.length := (List.getElem?_eq_some_iff.1 hG).1
  have hK : Keep G w (G.set k (.cel w.heap.size)) w' := by
    refine ⟨hm.os, hm.tape, hm.output, by rw [hm.size]; omega, fun i hi _ => hm.old hi, fun i b' sz cap hw _ hb j _ => cell_of_blk (hm.old hb) j, evol_set hG trivial, fun i b hb hg => ?_, fun i b sz cap hw hb hg => ?_⟩
    · rcases get_set hg with ⟨_, e, _⟩ | ⟨_, hg⟩
      · injection e with e; omega
      · exact hg
    · rcases get_set hg with ⟨_, e, _⟩ | ⟨_, hg⟩
      · cases e
      · exact ⟨cap, hw, hg, Nat.le_refl _⟩
  have key : ∀ b j, liveAt (G.set k (.cel w.heap.size)) j b → (j = k ∧ b = w.heap.size) ∨ (liveAt G j b) := by
    rintro b j (hj | ⟨sz, cap, hw, hj⟩)
    · rcases get_set hj with ⟨rfl, e, _⟩ | ⟨_, hj⟩
      · injection e with e; exact .inl ⟨rfl, e⟩
      · exact .inr (.inl hj)
    · rcases get_set hj with ⟨rfl, e, _⟩ | ⟨_, hj⟩
      · cases e
      · exact .inr (.inr ⟨sz, cap, hw, hj⟩)
  refine ⟨hK, by simp [h.len], fun i i' b hi hi' => ?_, fun i x g hx hg => ?_, fun i b hi j => by rcases key b i hi with ⟨_, rfl⟩ | hi'; exact hB _ _ (Nat.le_refl _); exact h.bb i b hi' j⟩
  · replace key := key b
    rcases key i hi with ⟨rfl, rfl⟩ | hi1 <;> rcases key i' hi' with ⟨rfl, h2⟩ | hi2
    · rfl
    · have := h.lt hi2; omega
    · have := h.lt hi1; omega
    · exact h.dist i i' b hi1 hi2
  · rcases get_set hg with ⟨rfl, rfl, _⟩ | ⟨hne, hg⟩
    · rw [List.getElem?_set_self (by rw [h.len]; exact hk)] at hx
      cases hx
      simp only [BlkRep]
      exact ⟨C, hm.new, RepL.keep hK hr, h1⟩
    · rw [List.getElem?_set_ne (Ne.symm hne)] at hx
      refine blk_keep hK (h.blk i x g hx hg) fun b' hb' => hm.old (h.lt (k := i) ?_)
      rcases hb' with rfl | ⟨s, c, n, rfl⟩
      · exact .inl hg
      · exact .inr ⟨s, c, n, hg⟩
theorem get_push {α : Type} {G : List α} {i : Nat} {g g' : α} (h : (G ++ [g'])[i]? = some g) : (i = G.length ∧ g = g') ∨ (i < G.length ∧ G[i]? = some g) := by
  rcases Nat.lt_or_ge i G.length with hi | hi
  · rw [List.getElem?_append_left hi] at h; exact .inr ⟨hi, h⟩
  · rw [List.getElem?_append_right hi] at h
    have : i - G.length = 0 := by
      rcases Nat.eq_zero_or_pos (i - G.length) with h0 | h0
      · exact h0
      · rw [List.getElem?_eq_none (by simp; omega)] at h; cases h
    rw [this] at h
    exact .inl ⟨by omega, by simpa using h.symm⟩
/-- a new row, held by a new token -/
theorem step_token {B : Nat → Nat → Prop} {G : Gh} {w w' : World} {H : Heap} (h : HR B G w H) {e : TypeId} {C : Array Value} {sz n cap : Nat}
    (hB : ∀ b j, w.heap.size ≤ b → B b j) (hm : More (.cells C e (0, 0)) w w') (h1 : n ≤ cap) (h2 : 0 < sz) (h3 : n ≤ 140737488355328) (h4 : C.size = cap * sz) :
    Keep G w (G ++ [.own w.heap.size sz cap n]) w' ∧ HR B (G ++ [.own w.heap.size sz cap n]) w' (H ++ [.token e sz n]) := by
  have hK : Keep G w (G ++ [.own w.heap.size sz cap n]) w' := by
    refine ⟨hm.os, hm.tape, hm.output, by rw [hm.size]; omega, fun i hi _ => hm.old hi, fun i b' sz cap hw _ hb j _ => cell_of_blk (hm.old hb) j, fun i g hg => ⟨g, by rw [List.getElem?_append_left (List.getElem?_eq_some_iff.1 hg).1]; exact hg, evol_refl g⟩, fun i b hb hg => ?_, fun i b sz' cap' hw hb hg => ?_⟩
    · rcases get_push hg with ⟨_, e⟩ | ⟨_, hg⟩
      · cases e
      · exact hg
    · rcases get_push hg with ⟨_, e⟩ | ⟨_, hg⟩
      · injection e with e; omega
      · exact ⟨cap', hw, hg, Nat.le_refl _⟩
  have key : ∀ b j, liveAt (G ++ [.own w.heap.size sz cap n]) j b → (j = G.length ∧ b = w.heap.size) ∨ (liveAt G j b) := by
    rintro b j (hj | ⟨sz', cap', hw, hj⟩)
    · rcases get_push hj with ⟨_, e⟩ | ⟨_, hj⟩
      · cases e
      · exact .inr (.inl hj)
    · rcases get_push hj with ⟨h0, e⟩ | ⟨_, hj⟩
      · injection e with e; exact .inl ⟨h0, e⟩
      · exact .inr (.inr ⟨sz', cap', hw, hj⟩)
  refine ⟨hK, by simp [h.len], fun i i' b hi hi' => ?_, fun i x g hx hg => ?_, fun i b hi j => by rcases key b i hi with ⟨_, rfl⟩ | hi'; exact hB _ _ (Nat.le_refl _); exact h.bb i b hi' j⟩
  · replace key := key b
    rcases key i hi with ⟨h1, rfl⟩ | hi1 <;> rcases key i' hi' with ⟨h2, h3⟩ | hi2
    · omega
    · have := h.lt hi2; omega
    · have := h.lt hi1; omega
    · exact h.dist i i' b hi1 hi2
  · rcases get_push hg with ⟨h0, rfl⟩ | ⟨hlt, hg⟩
    · rw [h0, ← h.len, List.getElem?_append_right (Nat.le_refl _)] at hx
      simp at hx
      subst hx
      simp only [BlkRep]
      exact ⟨trivial, trivial, h1, h2, h3, C, hm.new, h4⟩
    · rw [List.getElem?_append_left (by rw [h.len]; exact hlt)] at hx
      refine blk_keep hK (h.blk i x g hx hg) fun b' hb' => hm.old (h.lt (k := i) ?_)
      rcases hb' with rfl | ⟨s, c, n, rfl⟩
      · exact .inl hg
      · exact .inr ⟨s, c, n, hg⟩
/-- a token's row grows: in its place, or into a new one -/
theorem step_grow {B : Nat → Nat → Prop} {G : Gh} {w w' : World} {H : Heap} (h : HR B G w H) {k b sz cap n b' cap' n' : Nat} {e : TypeId} {C' : Array Value} (hG : G[k]? = some (GK.own b sz cap n)) (hB : ∀ b j, w.heap.size ≤ b → B b j)
    (hn : n < n') (h1 : n' ≤ cap') (h2 : 0 < sz) (h3 : n' ≤ 140737488355328) (hC : w'.heap[b']? = some (.cells C' e (0, 0))) (h4 : C'.size = cap' * sz)
    (hw : (b' = b ∧ But b w w' ∧ ∀ j, j < n * sz → w'.cell? ⟨b, j, none⟩ = w.cell? ⟨b, j, none⟩) ∨ (b' = w.heap.size ∧ More (.cells C' e (0, 0)) w w')) :
    Keep G w (G.set k (.own b' sz cap' n')) w' ∧ HR B (G.set k (.own b' sz cap' n')) w' (H.set k (.token e sz n')) := by
  have hk : k < G.length := (List.getElem?_eq_some_iff.1 hG).1
  have hb := h.lt (.inr ⟨_, _, _, hG⟩ : liveAt G k b)
  have hsz : w.heap.size ≤ w'.heap.size := by
    rcases hw with ⟨_, hw, _⟩ | ⟨_, hw⟩
    · exact Nat.le_of_eq hw.size.symm
    · rw [hw.size]; omega
  have hold : ∀ i, i < w.heap.size → i ≠ b → w'.heap[i]? = w.heap[i]? := by
    intro i hi hne
    rcases hw with ⟨_, hw, _⟩ | ⟨_, hw⟩
    · exact hw.blk i hne
    · exact hw.old hi
  have hK : Keep G w (G.set k (.own b' sz cap' n')) w' := by
    refine ⟨by rcases hw with ⟨_, hw, _⟩ | ⟨_, hw⟩ <;> exact hw.os, by rcases hw with ⟨_, hw, _⟩ | ⟨_, hw⟩ <;> exact hw.tape, by rcases hw with ⟨_, hw, _⟩ | ⟨_, hw⟩ <;> exact hw.output, hsz,
      fun i hi hl => hold i hi (fun e => hl k (by subst e; exact .inr ⟨_, _, _, hG⟩)), fun i b2 sz2 cap2 hw2 hg hlt j hj => ?_, evol_set hG ⟨b', cap', n', rfl, by omega, fun e => by omega⟩, fun i b2 hb2 hg => ?_, fun i b2 sz2 cap2 hw2 hb2 hg => ?_⟩
    · by_cases e : b2 = b
      · subst e
        have := h.dist i k b2 (.inr ⟨_, _, _, hg⟩) (.inr ⟨_, _, _, hG⟩)
        subst this
        rw [hG] at hg; cases hg
        rcases hw with ⟨_, _, hw⟩ | ⟨_, hw⟩
        · exact hw j hj
        · exact cell_of_blk (hw.old hb) j
      · exact cell_of_blk (hold b2 hlt e) j
    · rcases get_set hg with ⟨_, e, _⟩ | ⟨_, hg⟩
      · cases e
      · exact hg
    · rcases get_set hg with ⟨rfl, e, _⟩ | ⟨_, hg⟩
      · injection e with e1 e2 e3 e4
        subst e1 e2 e3 e4
        rcases hw with ⟨rfl, _⟩ | ⟨rfl, _⟩
        · exact ⟨cap, n, hG, by omega⟩
        · omega
      · exact ⟨cap2, hw2, hg, Nat.le_refl _⟩
  have key : ∀ b2 j, liveAt (G.set k (.own b' sz cap' n')) j b2 → (j = k ∧ b2 = b') ∨ (j ≠ k ∧ liveAt G j b2) := by
    rintro b2 j (hj | ⟨sz2, cap2, hw2, hj⟩)
    · rcases get_set hj with ⟨_, e, _⟩ | ⟨h0, hj⟩
      · cases e
      · exact .inr ⟨h0, .inl hj⟩
    · rcases get_set hj with ⟨rfl, e, _⟩ | ⟨h0, hj⟩
      · injection e with e; exact .inl ⟨rfl, e⟩
      · exact .inr ⟨h0, .inr ⟨sz2, cap2, hw2, hj⟩⟩
  refine ⟨hK, by simp [h.len], fun i i' b2 hi hi' => ?_, fun i x g hx hg => ?_, fun i b2 hi j => ?_⟩
  rotate_right
  · rcases key b2 i hi with ⟨_, rfl⟩ | ⟨_, hi'⟩
    · rcases hw with ⟨rfl, _⟩ | ⟨rfl, _⟩
      · exact h.bb k _ (.inr ⟨_, _, _, hG⟩) j
      · exact hB _ _ (Nat.le_refl _)
    · exact h.bb i b2 hi' j
  · replace key := key b2
    have no : ∀ j, j ≠ k → liveAt G j b' → False := by
      intro j hj hl
      rcases hw with ⟨rfl, _⟩ | ⟨rfl, _⟩
      · exact hj (h.dist j k _ hl (.inr ⟨_, _, _, hG⟩))
      · have := h.lt hl; omega
    rcases key i hi with ⟨rfl, rfl⟩ | ⟨hne, hi1⟩ <;> rcases key i' hi' with ⟨rfl, h2⟩ | ⟨hne', hi2⟩
    · rfl
    · exact (no _ hne' hi2).elim
    · subst h2; exact (no _ hne hi1).elim
    · exact h.dist i i' b2 hi1 hi2
  · rcases get_set hg with ⟨rfl, rfl, _⟩ | ⟨hne, hg⟩
    · rw [List.getElem?_set_self (by rw [h.len]; exact hk)] at hx
      cases hx
      simp only [BlkRep]
      exact ⟨trivial, trivial, h1, h2, h3, C', hC, h4⟩
    · rw [List.getElem?_set_ne (Ne.symm hne)] at hx
      refine blk_keep hK (h.blk i x g hx hg) fun b2 hb2 => ?_
      have hl : liveAt G i b2 := by
        rcases hb2 with rfl | ⟨s, c, n, rfl⟩
        · exact .inl hg
        · exact .inr ⟨s, c, n, hg⟩
      exact hold b2 (h.lt hl) fun e => hne (h.dist i k b2 hl (by subst e; exact .inr ⟨_, _, _, hG⟩))
end Go.Proofs.Ytbhnkdnfmlnajaa

/- Deep values: each operation's step is what the machine does (first part: what makes and reads values). -/
namespace Go.Proofs.Ytbhnkdnfmlnajaa
open Go Go.RowKit

variable {P : Program}
theorem pureRun_run {α : Type} (s : Sem α) : ∀ (x : α), pureRun P s = some x → ∀ w, s.run P w = .ok x w := by
  induction s with
  | pure a => intro x h w; simp only [pureRun] at h; cases h; rfl
  | program k ih => intro x h w; simp only [pureRun] at h; exact ih P x h w
  | mark m k ih => intro x h w; simp only [pureRun] at h; exact ih x h w
  | _ => intro x h w; simp [pureRun] at h
theorem pureV_run {s : Sem Value} {d : DV} (h : pureV P s = some d) : ∃ v, d = ofVal v ∧ ∀ w, s.run P w = .ok v w := by
  unfold pureV at h
  cases hs : pureRun P s with
  | none => simp [hs] at h
  | some v => simp [hs] at h; exact ⟨v, h.symm, fun w => pureRun_run s v hs w⟩
theorem mapO_some {α β : Type} {f : α → Option β} : ∀ {l : List α} {r : List β}, mapO f l = some r → r.length = l.length ∧ ∀ (i : Nat) (x : α), l[i]? = some x → ∃ y, r[i]? = some y ∧ f x = some y
  | [], r, h => by simp only [mapO] at h; cases h; simp
  | x :: l, r, h => by
    simp only [mapO] at h
    split at h
    · rename_i y hy
      split at h
      · rename_i r' hr
        cases h
        obtain ⟨h1, h2⟩ := mapO_some hr
        refine ⟨by simp [h1], fun i z hz => ?_⟩
        cases i with
        | zero => simp at hz; subst hz; exact ⟨y, rfl, hy⟩
        | succ i => simpa using h2 i z (by simpa using hz)
      · cases h
    · cases h
section
variable {I : Nat → Nat → Prop} {w : World} {G : Gh}
theorem rep_flatV {d : DV} {v V : Value} (h : flatV d = some v) (k : Rep I w G d V) : V = v := by
  unfold flatV at h
  split at h
  · cases h; simpa only [Rep] using k
  · cases h
theorem rep_toVal {d : DV} {v V : Value} (h : toVal d = some v) (k : Rep I w G d V) : V = v := by
  unfold toVal at h
  split at h
  · cases h; simpa only [Rep] using k
  · rename_i cs
    cases hm : mapO flatV cs with
    | none => simp [hm] at h
    | some vs =>
      simp [hm] at h
      subst h
      simp only [Rep] at k
      obtain ⟨us, rfl, k⟩ := k
      congr 1
      apply Array.ext'
      obtain ⟨h1, h2⟩ := mapO_some hm
      refine List.ext_getElem? fun i => ?_
      cases hc : cs[i]? with
      | none =>
        have := List.getElem?_eq_none_iff.1 hc
        rw [List.getElem?_eq_none (by rw [k.length]; exact this), List.getElem?_eq_none (by simp [h1]; exact this)]
      | some d =>
        obtain ⟨v, hv, hr⟩ := k.get i d hc
        obtain ⟨y, hy, hf⟩ := h2 i d hc
        rw [hv]; simp only [hy]
        rw [rep_flatV hf hr]
  · cases h
theorem Rep.nil {d : DV} {V : Value} (h : Rep I w [] d V) : Rep I w G d V := Rep.stay (fun _ _ _ hi hc => ⟨hc, hi⟩) (Evol.nil G) d V h
theorem RepL.nil' {d : List DV} {V : List Value} (h : RepL I w [] d V) : RepL I w G d V := RepL.stay (fun _ _ _ hi hc => ⟨hc, hi⟩) (Evol.nil G) d V h
/-- a leaf is one cell -/
theorem rep_leaf {d : DV} {V : Value} (h : d.leaf = true) (k : Rep I w G d V) : isOne V = true := by
  cases d with
  | flat v => simp only [Rep] at k; subst k; exact h
  | list sz xs t => simp only [Rep] at k; obtain ⟨A, c, rfl, _⟩ := k; rfl
  | ptr k' off => simp only [Rep] at k; obtain ⟨b, _, rfl⟩ := k; rfl
  | row ag sz k' off n c => simp only [Rep] at k; obtain ⟨b, _, rfl⟩ := k; rfl
  | elem x off => simp only [Rep] at k; obtain ⟨_, b, o, E, rfl, _⟩ := k; rfl
  | clo fn f c => simp only [Rep] at k; obtain ⟨f, c, rfl, _⟩ := k; rfl
  | iface t d => simp only [Rep] at k; obtain ⟨v, rfl, _⟩ := k; rfl
  | any => simp [DV.leaf] at h
  | agg cs => simp [DV.leaf] at h
  | tup cs => simp [DV.leaf] at h
theorem isOne_cells {V : Value} (h : isOne V = true) : V.cells = #[V] := by cases V <;> simp_all [isOne, Value.cells]
theorem rep_cells {d : DV} {V : Value} (h : d.cells.all DV.leaf = true) (k : Rep I w G d V) : RepL I w G d.cells V.cells.toList ∧ ∀ v ∈ V.cells.toList, isOne v = true := by
  have key : ∀ d : DV, d.leaf = true → d.cells = [d] → Rep I w G d V → RepL I w G d.cells V.cells.toList ∧ ∀ v ∈ V.cells.toList, isOne v = true := by
    intro d hl hc k
    have h1 := rep_leaf hl k
    rw [hc, isOne_cells h1]
    refine ⟨?_, by simpa using h1⟩
    simp only [RepL]
    exact ⟨V, [], rfl, k, rfl⟩
  cases d with
  | agg cs =>
    simp only [Rep] at k
    obtain ⟨vs, rfl, k⟩ := k
    refine ⟨k, fun v hv => ?_⟩
    obtain ⟨i, hi⟩ := List.mem_iff_getElem?.1 hv
    have hlt : i < cs.length := by rw [← k.length]; exact (List.getElem?_eq_some_iff.1 hi).1
    obtain ⟨v', hv', hr⟩ := k.get i _ (List.getElem?_eq_getElem hlt)
    simp only [Value.cells] at hi
    rw [hv'] at hi; cases hi
    refine rep_leaf ?_ hr
    simp only [DV.cells, List.all_eq_true] at h
    exact h _ (List.getElem_mem hlt)
  | any => simp [DV.cells, DV.leaf] at h
  | tup cs => simp [DV.cells, DV.leaf] at h
  | flat v => exact key _ (by simpa [DV.cells] using h) rfl k
  | list sz xs t => exact key _ rfl rfl k
  | ptr k' off => exact key _ rfl rfl k
  | row ag sz k' off n c => exact key _ rfl rfl k
  | elem x off => exact key _ rfl rfl k
  | clo fn f c => exact key _ rfl rfl k
  | iface t d => exact key _ rfl rfl k
end
/-- what is to be shown of an operation -/
def OpOk (P : Program) (B : Nat → Nat → Prop) (G : Gh) (w : World) (Hr : Heap) (o : Oper) (a : Act) (d : DV) (e : Eff) : Prop :=
  ∀ (K : Act → World → Prop) (Q : Exit → Act → World → Prop),
    (∀ V w' G', Keep G w G' w' → HR B G' w' (e.heap Hr) → Rep (ImmB B G') w' G' d V → K (a.put o.dst V) w') → o.wp P a w K Q
section
variable {B : Nat → Nat → Prop} {G G' : Gh} {w w' : World} {Hr : Heap} {o : Oper} {a : Act} {d : DV} {e : Eff} {V : Value}
theorem OpOk.val (hrun : (execOp a.eval o).run P w = .ok (.value V) w') (hK : Keep G w G' w') (hH : HR B G' w' (e.heap Hr)) (hd : Rep (ImmB B G') w' G' d V) : OpOk P B G w Hr o a d e := by
  intro K Q h
  unfold Oper.wp
  rw [hrun]
  exact h V w' G' hK hH hd
theorem OpOk.skip (hrun : (execOp a.eval o).run P w = .ok .skip w') (hK : Keep G w G' w') (hH : HR B G' w' (e.heap Hr)) : OpOk P B G w Hr o a (.flat undef) e := by
  intro K Q h
  unfold Oper.wp
  rw [hrun]
  exact h undef w' G' hK hH (by simp [Rep])
theorem OpOk.still (hH : HR B G w Hr) (hrun : (execOp a.eval o).run P w = .ok (.value V) w) (hd : Rep (ImmB B G) w G d V) (he : e.heap Hr = Hr) : OpOk P B G w Hr o a d e :=
  OpOk.val hrun (Keep.refl G w) (he.symm ▸ hH) hd
end
theorem qv_some {x : Option DV} {d : DV} {e : Eff} (h : qv x = some (d, e)) : x = some d ∧ e = .q := by
  unfold qv at h
  cases x with
  | none => simp at h
  | some y => simp at h; exact ⟨by rw [h.1], h.2.symm⟩
theorem rv_some {x : Option DV} {d : DV} {e : Eff} (h : rv x = some (d, e)) : x = some d ∧ e = .rd := by
  unfold rv at h
  cases x with
  | none => simp at h
  | some y => simp at h; exact ⟨by rw [h.1], h.2.symm⟩
theorem aggSz_some {t : TypeId} {ag : Bool} {sz : Nat} (h : aggSz P t = some (ag, sz)) : ∃ i, P.info? t = some i ∧ i.size = sz ∧ ∀ w, (isAgg t).run P w = .ok ag w := by
  unfold aggSz at h
  split at h
  · rename_i d i hu hi
    injection h with h
    injection h with h1 h2
    refine ⟨i, hi, h2, fun w => ?_⟩
    unfold isAgg
    simp only [Sem.run_bind, run_underlying hu, Result.andThen_ok]
    cases d <;> simp_all
  · cases h
theorem size_run {t : TypeId} {i : TypeInfo} (h : P.info? t = some i) (w : World) : (sizeOf t).run P w = .ok i.size w := by
  simp [sizeOf, run_typeInfo w h]
theorem zeroD_some {t : TypeId} {d : DV} (h : zeroD P t = some d) : ∃ z, d = ofVal1 z ∧ ∀ w, (zeroValue t).run P w = .ok z w := by
  unfold zeroD at h
  cases hi : P.info? t with
  | none => simp [hi] at h
  | some i =>
    simp only [hi, Option.bind_some] at h
    cases hz : i.zero with
    | none => simp [hz] at h
    | some z =>
      simp [hz] at h
      exact ⟨z, h.symm, fun w => by simp [zeroValue, run_typeInfo w hi, hz]⟩
theorem addr_at (b o j : Nat) : (⟨b, o, none⟩ : Addr).add j = ⟨b, o + j, none⟩ := by
  unfold Addr.add; split <;> simp_all
theorem loadCells_run {w : World} {b o n : Nat} {vs : List Value} (hn : vs.length = n) (h : ∀ (j : Nat) (v : Value), vs[j]? = some v → w.cell? ⟨b, o + j, none⟩ = some v) : (loadCells ⟨b, o, none⟩ n).run P w = .ok vs.toArray w := by
  subst hn
  exact run_loadCells_list w _ vs fun j v hj => by rw [addr_at]; exact h j v hj
/-- a value is loaded out of cells -/
theorem loadVar_run {w : World} {I : Nat → Nat → Prop} {G : Gh} {t : TypeId} {ag : Bool} {sz b o off : Nat} {cs : List DV} {vs : List Value} {d : DV} (ht : aggSz P t = some (ag, sz))
    (hr : RepL I w G cs vs) (hc : ∀ (j : Nat) (v : Value), vs[j]? = some v → w.cell? ⟨b, o + j, none⟩ = some v) (hp : partD ag sz off cs = some d) :
    ∃ V, (loadVar t ⟨b, o + off, none⟩).run P w = .ok V w ∧ Rep I w G d V := by
  obtain ⟨i, hi, rfl, hag⟩ := aggSz_some ht
  unfold loadVar
  simp only [Sem.run_bind, hag, Result.andThen_ok]
  cases ag with
  | false =>
    simp only [partD, Bool.false_eq_true, if_false] at hp ⊢
    obtain ⟨v, hv, hd⟩ := hr.get off d hp
    refine ⟨v, ?_, hd⟩
    have := hc off v hv
    simp [this]
  | true =>
    simp only [partD, if_true] at hp ⊢
    split at hp
    · rename_i hle
      cases hp
      simp only [Sem.run_bind, size_run hi, Result.andThen_ok]
      rw [loadCells_run (vs := (vs.drop off).take i.size) (by simp [hr.length]; omega)]
      · refine ⟨_, rfl, ?_⟩
        simp only [Rep]
        exact ⟨_, rfl, by simpa using (hr.drop off).take i.size⟩
      · intro j v hj
        have : vs[off + j]? = some v := by
          rw [List.getElem?_take] at hj
          split at hj
          · rwa [List.getElem?_drop] at hj
          · cases hj
        rw [Nat.add_assoc]
        exact hc _ v this
    · cases hp
theorem cells_at {w : World} {b : Nat} {C : Array Value} {e : TypeId} {f : Nat × Nat} (h : w.heap[b]? = some (.cells C e f)) (j : Nat) (v : Value) (hv : C.toList[j]? = some v) : w.cell? ⟨b, 0 + j, none⟩ = some v := by
  simp only [World.cell?, h, Nat.zero_add]
  simpa using hv
/-- how the heap that an operation was reckoned with is to the heap that it meets -/
def Agree (e : Eff) (H Hr : Heap) : Prop :=
  match e with
  | .q => True
  | .rd => ∀ (k : Nat) (t : TypeId) (cs : List DV), H[k]? = some (.cells t cs) → Hr[k]? = some (.cells t cs) ∨ Hr[k]? = some .hole
  | .ro => Hr = H
  | .ch _ => Hr = H
  | .tk _ => Hr = H
  | .al k _ => Hr[k]? = some .hole
theorem Agree.refl_rd (H : Heap) : Agree .rd H H := fun _ _ _ h => .inl h
end Go.Proofs.Ytbhnkdnfmlnajaa

/- Deep values: each operation's step is what the machine does (second part). -/
namespace Go.Proofs.Ytbhnkdnfmlnajaa
open Go Go.RowKit

variable {P : Program} {B : Nat → Nat → Prop} {G : Gh} {w : World} {H Hr : Heap} {o : Oper} {a : Act} {slots : List DV} {d : DV} {e : Eff}

theorem op_move {x : Operand} (ho : o.op = .move x ∨ o.op = .assign x) (h : some (evalD slots x, Eff.q) = some (d, e)) (hH : HR B G w Hr) (hs : SR (ImmB B G) w G slots a) : OpOk P B G w Hr o a d e := by
  cases h
  refine OpOk.still hH (V := a.eval x) ?_ (hs.eval x) rfl
  rcases ho with ho | ho <;> simp [execOp, ho]
theorem op_pick {c x y : Operand} (ho : o.op = .pick c x y) (h : qv (pickD (evalD slots c) (evalD slots x) (evalD slots y)) = some (d, e)) (hH : HR B G w Hr) (hs : SR (ImmB B G) w G slots a) : OpOk P B G w Hr o a d e := by
  obtain ⟨hp, rfl⟩ := qv_some h; replace h := hp; clear hp
  unfold pickD at h
  split at h
  · rename_i t ht
    cases h
    have hc := hs.eval c
    rw [ht] at hc
    simp only [Rep] at hc
    cases t with
    | true =>
      refine OpOk.still hH (V := a.eval x) ?_ (hs.eval x) rfl
      simp [execOp, ho, hc, asBool]
    | false =>
      refine OpOk.still hH (V := a.eval y) ?_ (hs.eval y) rfl
      simp [execOp, ho, hc, asBool]
  · cases h
theorem op_load {t : TypeId} {x : Operand} {ag : Bool} {sz : Nat} (ho : o.op = .load t x) (ht : aggSz P t = some (ag, sz)) (h : loadD ag sz (evalD slots x) H = some (d, e))
    (hH : HR B G w Hr) (hs : SR (ImmB B G) w G slots a) (hag : Agree e H Hr) : OpOk P B G w Hr o a d e := by
  have hx := hs.eval x
  unfold loadD at h
  split at h
  · rename_i k off hk
    rw [hk] at hx
    simp only [Rep] at hx
    obtain ⟨b, hG, hx⟩ := hx
    split at h
    · rename_i e' cs hc
      obtain ⟨hp, rfl⟩ := rv_some h; replace h := hp; clear hp
      have hc' : Hr[k]? = some (.cells e' cs) := by
        rcases hag k _ _ hc with h' | h'
        · exact h'
        · have := hH.blk _ _ _ h' hG
          simp [BlkRep] at this
      obtain ⟨C, h1, h2, h3⟩ := hH.cells hc' hG
      obtain ⟨V, hrun, hd⟩ := loadVar_run ht h2 (fun j v hj => cells_at h1 j v hj) h
      refine OpOk.still hH (V := V) ?_ hd rfl
      rw [Nat.zero_add] at hrun
      simp [execOp, ho, hx, Instr.loadAt, Instr.sureAddr, hrun]
    · cases h
  · rename_i y off hy
    rw [hy] at hx
    simp only [Rep] at hx
    obtain ⟨hl, b, oo, E, hx, h1, h2⟩ := hx
    obtain ⟨hp, rfl⟩ := qv_some h
    obtain ⟨h3, h4⟩ := rep_cells hl h1
    obtain ⟨V, hrun, hd⟩ := loadVar_run ht h3 (fun j v hj => (h2 j v hj).1) hp
    refine OpOk.still hH (V := V) ?_ (Rep.nil hd) rfl
    simp [execOp, ho, hx, Instr.loadAt, Instr.sureAddr, hrun]
  · cases h
theorem all_one {vs : List Value} (h : ∀ v ∈ vs, isOne v = true) : ∀ v ∈ vs, v.oneCell' = true := fun v hv => by rw [← isOne_eq]; exact h v hv
theorem splice_toList (C : Array Value) (o : Nat) (vs : List Value) : (C.toList.take o ++ vs ++ C.toList.drop (o + vs.length)).toArray.toList = C.toList.take o ++ vs ++ C.toList.drop (o + vs.length) := rfl
theorem repL_splice {I : Nat → Nat → Prop} {cs ds : List DV} {us vs : List Value} (h : RepL I w G cs us) (k : RepL I w G ds vs) (o : Nat) :
    RepL I w G (splice o ds cs) (us.take o ++ vs ++ us.drop (o + vs.length)) := by
  unfold splice
  rw [k.length]
  exact ((h.take o).app k).app (h.drop _)
theorem one_splice {us vs : List Value} (h : ∀ v ∈ us, isOne v = true) (k : ∀ v ∈ vs, isOne v = true) (o : Nat) : ∀ v ∈ us.take o ++ vs ++ us.drop (o + vs.length), isOne v = true := by
  intro v hv
  simp only [List.mem_append] at hv
  rcases hv with (hv | hv) | hv
  · exact h v (List.mem_of_mem_take hv)
  · exact k v hv
  · exact h v (List.mem_of_mem_drop hv)
theorem op_store {t : TypeId} {x y : Operand} {ag : Bool} {sz fl : Nat} (ho : o.op = .store t x y) (ht : aggSz P t = some (ag, sz)) (h : storeD sz (evalD slots x) (evalD slots y) H fl = some (d, e))
    (hH : HR B G w Hr) (hs : SR (ImmB B G) w G slots a) (hag : Agree e H Hr) : OpOk P B G w Hr o a d e ∧ (∀ k, k < fl → (e.heap H)[k]? = H[k]?) := by
  have hx := hs.eval x
  have hy := hs.eval y
  unfold storeD at h
  split at h
  · rename_i k off hk
    rw [hk] at hx
    simp only [Rep] at hx
    obtain ⟨b, hG, hx⟩ := hx
    split at h
    · rename_i e' cs hc
      split at h
      · rename_i hcond
        obtain ⟨q1, q2, q3, q4⟩ := hcond
        cases h
        have hag : Hr = H := hag
        subst hag
        obtain ⟨C, h1, h2, h3⟩ := hH.cells hc hG
        obtain ⟨k1, k2⟩ := rep_cells q4 hy
        obtain ⟨i, hi, hsz, _⟩ := aggSz_some ht
        have hlen : (a.eval y).cells.size = sz := by
          have := k1.length
          simp at this
          rw [this, q2]
        have hrun := run_storeCells_at (P := P) b off e' (a.eval y).cells.toList 0 C w h1 (by have := h2.length; simp at this ⊢; omega) (all_one k2)
        rw [Nat.add_zero] at hrun
        obtain ⟨C', hC'⟩ : ∃ C' : Array Value, (C.toList.take off ++ (a.eval y).cells.toList ++ C.toList.drop (off + (a.eval y).cells.toList.length)).toArray = C' := ⟨_, rfl⟩
        rw [hC'] at hrun
        obtain ⟨hK, hH'⟩ := step_set hH hG (but_setRow w b C') (setRow_heap w b C _ e' (0, 0) h1) (cs' := splice off (evalD slots y).cells cs) (by
          rw [← hC']; exact repL_splice h2 k1 off) (by
          rw [← hC']; exact one_splice h3 k2 off)
        refine ⟨OpOk.skip ?_ hK hH', fun i hi => ?_⟩
        · simp only [execOp, ho, hx, Instr.storeAt, Instr.sureAddr, storeVar, Sem.run_bind, Sem.run_pure, Result.andThen_ok, size_run hi]
          simp [hlen, hsz, hrun]
        · simp only [Eff.heap]; exact List.getElem?_set_ne (by omega)
      · cases h
    · cases h
  · cases h
theorem newVar_run (v : Value) (t : TypeId) (w : World) : (newVar t v).run P w = .ok ⟨w.heap.size, 0, none⟩ (w.alloc (.cells v.cells t)) := by
  simp [newVar, newRow]
theorem more_alloc (w : World) (ob : Obj) : More ob w (w.alloc ob) := ⟨rfl, rfl, rfl, rfl⟩
theorem more_draw {w w' : World} {ob : Obj} {n : Nat} (h : More ob { w with drawn := n } w') : More ob w w' := ⟨h.os, h.tape, h.output, h.heap⟩
theorem op_box {et : TypeId} {x : DV} {V : Value} {nid : Nat} (h : allocD et x nid = some (d, e)) (hrun : (execOp a.eval o).run P w = .ok (.value (.pointer (some ⟨w.heap.size, 0, none⟩))) (w.alloc (.cells V.cells et)))
    (hx : Rep (ImmB B G) w G x V) (hB : ∀ b j, w.heap.size ≤ b → B b j) (hH : HR B G w Hr) (hag : Agree e H Hr) : OpOk P B G w Hr o a d e := by
  unfold allocD at h
  split at h
  · rename_i hl
    cases h
    have hag : Hr[nid]? = some .hole := hag
    obtain ⟨k1, k2⟩ := rep_cells hl hx
    have hlt : nid < Hr.length := (List.getElem?_eq_some_iff.1 hag).1
    have hg := List.getElem?_eq_getElem (show nid < G.length by rw [← hH.len]; exact hlt)
    have hG : G[nid]? = some GK.hole := by
      have := hH.blk _ _ _ hag hg
      cases hB : G[nid]'(by rw [← hH.len]; exact hlt) <;> rw [hB] at this <;> simp only [BlkRep] at this
      rw [hg, hB]
    obtain ⟨hK, hH'⟩ := step_fill hH hG hB (more_alloc w (.cells V.cells et)) k1 k2
    refine OpOk.val hrun hK hH' ?_
    simp only [Rep]
    exact ⟨_, List.getElem?_set_self (by rw [← hH.len]; exact hlt), rfl⟩
  · cases h
theorem op_nil {x : Operand} (ho : o.op = .nilCheck x) (h : qv (nilD (evalD slots x)) = some (d, e)) (hH : HR B G w Hr) (hs : SR (ImmB B G) w G slots a) : OpOk P B G w Hr o a d e := by
  obtain ⟨hp, rfl⟩ := qv_some h; replace h := hp; clear hp
  have hx := hs.eval x
  unfold nilD at h
  split at h
  · rename_i k off hk
    cases h
    rw [hk] at hx
    refine OpOk.still hH (V := a.eval x) ?_ hx rfl
    simp only [Rep] at hx
    obtain ⟨b, _, hx⟩ := hx
    simp [execOp, ho, hx]
  · rename_i y off hk
    cases h
    rw [hk] at hx
    refine OpOk.still hH (V := a.eval x) ?_ hx rfl
    simp only [Rep] at hx
    obtain ⟨_, b, o', E, hx, _⟩ := hx
    simp [execOp, ho, hx]
  · rename_i f y z hk
    cases h
    rw [hk] at hx
    refine OpOk.still hH (V := a.eval x) ?_ hx rfl
    simp only [Rep] at hx
    obtain ⟨f', c', hx, _⟩ := hx
    simp [execOp, ho, hx]
  · rename_i f y z hk
    cases h
    rw [hk] at hx
    refine OpOk.still hH (V := a.eval x) ?_ hx rfl
    simp only [Rep] at hx
    simp [execOp, ho, hx]
  · cases h
theorem op_pure {s : Sem Value} (hs : pureV P s = some d) (hrun : ∀ v, s.run P w = .ok v w → (execOp a.eval o).run P w = .ok (.value v) w) (hH : HR B G w Hr) : OpOk P B G w Hr o a d .q := by
  obtain ⟨v, rfl, h⟩ := pureV_run hs
  exact OpOk.still hH (hrun v (h w)) (rep_ofVal v) rfl
theorem eqIn_ptr {t et : TypeId} (hu : P.underlying t = some (.pointer et)) (n : Nat) (b : Addr) : (Op.equalIn (n + 1) t (.pointer (some b)) (.pointer none)).run P w = .ok false w := by
  simp [Op.equalIn, run_underlying hu]
theorem eqIn_iface {t t' : TypeId} {ms : Array (String × TypeId)} (hu : P.underlying t = some (.interface ms)) (n : Nat) (v : Value) : (Op.equalIn (n + 1) t (.iface t' v) .nilIface).run P w = .ok false w := by
  simp [Op.equalIn, run_underlying hu]
theorem eqIn_func {t : TypeId} {x y : Array TypeId} {b : Bool} (hu : P.underlying t = some (.func x y b)) (n : Nat) (f : Fn) (c c' : Array Value) : (Op.equalIn (n + 1) t (.func f c c') .nilFunc).run P w = .ok false w := by
  simp [Op.equalIn, run_underlying hu]
theorem eqIn_slice {t et : TypeId} (hu : P.underlying t = some (.slice et)) (n : Nat) (b : Addr) (l c : Nat) : (Op.equalIn (n + 1) t (.slice (some b) l c) (.slice none 0 0)).run P w = .ok false w := by
  simp [Op.equalIn, run_underlying hu]
/-- the bytes that a list of bytes stands for -/
theorem bytes_at {I : Nat → Nat → Prop} {sz b : Nat} : ∀ (xs : List DV) (o : Nat) (l : List UInt8), mapO byteOf xs = some l → RepE I w sz xs b o → l.length = xs.length ∧ (xs ≠ [] → sz = 1) ∧ ∀ j (hj : j < l.length), w.cell? ⟨b, o + j, none⟩ = some (.int .u8 (l[j].toNat : Int))
  | [], o, l, h, _ => by cases h; exact ⟨rfl, fun h => absurd rfl h, fun j hj => by simp at hj⟩
  | x :: xs, o, l, h, k => by
    simp only [mapO] at h
    cases hx : byteOf x with
    | none => simp [hx] at h
    | some y =>
      cases hr : mapO byteOf xs with
      | none => simp [hx, hr] at h
      | some r =>
        simp [hx, hr] at h
        subst h
        simp only [RepE] at k
        obtain ⟨hk0, V, k1, k2, k3⟩ := k.1
        have k4 := k.2
        clear k hk0
        unfold byteOf at hx
        split at hx
        · rename_i n
          split at hx
          · rename_i hn
            cases hx
            simp only [Rep] at k1
            subst k1
            have hsz : sz = 1 := by rw [← k2]; rfl
            subst hsz
            obtain ⟨e1, _, e3⟩ := bytes_at xs (o + 1) r hr k4
            refine ⟨by simp [e1], fun _ => rfl, fun j hj => ?_⟩
            cases j with
            | zero =>
              have := (k3 0 (.int .u8 n) rfl).1
              rw [this]
              have : ((UInt8.ofNat n.toNat).toNat : Int) = n := by rw [UInt8.toNat_ofNat']; omega
              simp only [List.getElem_cons_zero, this]
            | succ j =>
              have := e3 j (by simpa using hj)
              rw [show o + (j + 1) = o + 1 + j by omega, this]
              rfl
          · cases hx
        · cases hx
theorem equal_nil {t : TypeId} {d : DV} {V v : Value} {I : Nat → Nat → Prop} (h : nilEq P t d v = true) (k : Rep I w G d V) :
    (∀ x y, (eqGuard .eql t x y V v).run P w = .ok () w ∧ (eqGuard .neq t x y V v).run P w = .ok () w) ∧ (binOp .eql t V v).run P w = .ok (.bool false) w ∧ (binOp .neq t V v).run P w = .ok (.bool true) w := by
  have key : (Op.equalIn (9999 + 1) t V v).run P w = .ok false w → (binOp .eql t V v = do pure (.bool (← Op.equalIn (9999 + 1) t V v))) → (binOp .neq t V v = do pure (.bool (!(← Op.equalIn (9999 + 1) t V v)))) → (binOp .eql t V v).run P w = .ok (.bool false) w ∧ (binOp .neq t V v).run P w = .ok (.bool true) w := by
    intro h1 h2 h3
    rw [h2, h3]
    simp [h1]
  unfold nilEq at h
  split at h
  · rename_i hu
    simp only [Rep] at k
    obtain ⟨b, _, rfl⟩ := k
    exact ⟨fun x y => ⟨rfl, rfl⟩, key (eqIn_ptr hu _ _) rfl rfl⟩
  · rename_i hu
    simp only [Rep] at k
    obtain ⟨_, b, _, _, rfl, _⟩ := k
    exact ⟨fun x y => ⟨rfl, rfl⟩, key (eqIn_ptr hu _ _) rfl rfl⟩
  · rename_i hu
    simp only [Rep] at k
    obtain ⟨v, rfl, _⟩ := k
    exact ⟨fun x y => ⟨rfl, rfl⟩, key (eqIn_iface hu _ _) rfl rfl⟩
  · rename_i hu
    simp only [Rep] at k
    obtain ⟨_, _, rfl, _⟩ := k
    exact ⟨fun x y => ⟨rfl, rfl⟩, key (eqIn_func hu _ _ _ _) rfl rfl⟩
  · rename_i hu
    simp only [Rep] at k
    obtain ⟨A, c, rfl, _, _, k, _⟩ := k
    rcases k with k | ⟨b, o, rfl, _⟩
    · cases k
    · exact ⟨fun x y => ⟨rfl, rfl⟩, key (eqIn_slice hu _ _ _ _) rfl rfl⟩
  · cases h
theorem op_bin {op : BinOp} {t yt : TypeId} {x y : Operand} (ho : o.op = .binOp op t x y yt) (h : qv (binD P op t x y (evalD slots x) (evalD slots y)) = some (d, e)) (hH : HR B G w Hr) (hs : SR (ImmB B G) w G slots a) : OpOk P B G w Hr o a d e := by
  obtain ⟨hp, rfl⟩ := qv_some h; replace h := hp; clear hp
  have hx := hs.eval x
  have hy := hs.eval y
  have eq : ∀ op', op = op' → eqD P op' t x y (evalD slots x) (evalD slots y) = some d → OpOk P B G w Hr o a d .q := by
    intro op' e h
    subst e
    unfold eqD at h
    split at h
    · rename_i va vb h1 h2
      have e1 := rep_toVal h1 hx
      have e2 := rep_toVal h2 hy
      refine op_pure h (fun v hv => ?_) hH
      simp only [execOp, ho, Sem.run_bind, e1, e2] at hv ⊢
      rw [hv]; rfl
    · rename_i vb h1 h2
      have e2 := rep_toVal h2 hy
      split at h
      · rename_i hn
        obtain ⟨hg, h3, h4⟩ := equal_nil (w := w) hn hx
        unfold eqRes at h
        split at h
        · cases h
          refine OpOk.still hH (V := .bool false) ?_ (by simp [Rep]) rfl
          simp only [execOp, ho, Sem.run_bind, e2, (hg x y).1, Result.andThen_ok, h3]; rfl
        · cases h
          refine OpOk.still hH (V := .bool true) ?_ (by simp [Rep]) rfl
          simp only [execOp, ho, Sem.run_bind, e2, (hg x y).2, Result.andThen_ok, h4]; rfl
        · cases h
      · cases h
    · split at h
      · rename_i vb _ _
        have e2 : a.eval (.const vb) = vb := rfl
        split at h
        · rename_i hn
          obtain ⟨hg, h3, h4⟩ := equal_nil (w := w) hn hx
          unfold eqRes at h
          split at h
          · cases h
            refine OpOk.still hH (V := .bool false) ?_ (by simp [Rep]) rfl
            simp only [execOp, ho, Sem.run_bind, e2, (hg x _).1, Result.andThen_ok, h3]; rfl
          · cases h
            refine OpOk.still hH (V := .bool true) ?_ (by simp [Rep]) rfl
            simp only [execOp, ho, Sem.run_bind, e2, (hg x _).2, Result.andThen_ok, h4]; rfl
          · cases h
        · cases h
      · cases h
    · cases h
  have ar : op ≠ .eql → op ≠ .neq → arD P op t (evalD slots x) (evalD slots y) = some d → OpOk P B G w Hr o a d .q := by
    intro h1 h2 h
    unfold arD at h
    split at h
    · rename_i va vb h3 h4
      have e1 := rep_toVal h3 hx
      have e2 := rep_toVal h4 hy
      refine op_pure h (fun v hv => ?_) hH
      have hg : eqGuard op t x y va vb = pure () := by
        unfold eqGuard
        cases op <;> first | exact absurd rfl h1 | exact absurd rfl h2 | rfl
      simp only [execOp, ho, Sem.run_bind, e1, e2, hg, Sem.run_pure, Result.andThen_ok, hv]
    · cases h
  clear hx hy
  revert h eq ar
  cases op <;> intro h eq ar <;> first | exact eq _ rfl h | exact ar (by simp) (by simp) h
theorem op_un {op : UnOp} {t : TypeId} {x : Operand} (ho : o.op = .unOp op t x) (h : qv (unD P op (evalD slots x)) = some (d, e)) (hH : HR B G w Hr) (hs : SR (ImmB B G) w G slots a) : OpOk P B G w Hr o a d e := by
  obtain ⟨hp, rfl⟩ := qv_some h; replace h := hp; clear hp
  unfold unD at h
  cases hv : toVal (evalD slots x) with
  | none => simp [hv] at h
  | some va =>
    simp only [hv, Option.bind_some] at h
    have e1 := rep_toVal hv (hs.eval x)
    refine op_pure h (fun v hv => ?_) hH
    simp only [execOp, ho, Sem.run_bind, e1, hv]; rfl
theorem op_conv {s t : TypeId} {x : Operand} (ho : o.op = .convert s t x) (h : qv (convD P s t (evalD slots x)) = some (d, e)) (hH : HR B G w Hr) (hs : SR (ImmB B G) w G slots a) : OpOk P B G w Hr o a d e := by
  obtain ⟨hp, rfl⟩ := qv_some h; replace h := hp; clear hp
  unfold convD at h
  split at h
  · rename_i sz xs tg hxs
    unfold strD at h
    split at h
    · rename_i et hu1 hu2
      split at h
      · rename_i hu3
        cases hm : mapO byteOf xs with
        | none => simp [hm] at h
        | some l =>
          simp [hm] at h
          subst h
          have hx := hs.eval x
          rw [hxs] at hx
          simp only [Rep] at hx
          obtain ⟨A, c, hV, h1, h2, h3, _⟩ := hx
          refine OpOk.still hH (V := .string ⟨l.toArray⟩) ?_ (by simp [Rep]) rfl
          have key : (convert s t (a.eval x)).run P w = .ok (.string ⟨l.toArray⟩) w := by
            rw [hV]
            rcases h3 with rfl | ⟨b, o, rfl, h3⟩
            · cases hm
              cases A with
              | none =>
                rw [run_convert_bytes_string w s t et none _ c hu1 hu3 hu2]
                simp [Conv.bytesToString]
                rfl
              | some ad => exact run_convert_bytes_back w s t et ad c [] hu1 hu3 hu2 fun j hj => by simp at hj
            · obtain ⟨e1, _, e3⟩ := bytes_at xs o l hm h3
              rw [← e1]
              refine run_convert_bytes_back w s t et ⟨b, o, none⟩ c l hu1 hu3 hu2 fun j hj => ?_
              have : (⟨b, o, none⟩ : Addr).add j = ⟨b, o + j, none⟩ := by unfold Addr.add; split <;> simp_all
              rw [this, e3 j hj]
          simp only [execOp, ho, Sem.run_bind, key]; rfl
      · cases h
    · cases h
  cases hv : toVal (evalD slots x) with
  | none => simp [hv] at h
  | some va =>
    simp only [hv, Option.bind_some] at h
    have e1 := rep_toVal hv (hs.eval x)
    refine op_pure h (fun v hv => ?_) hH
    simp only [execOp, ho, Sem.run_bind, e1, hv]; rfl
theorem op_ext {t : Operand} {i : Nat} (ho : o.op = .extract t i) (h : qv (extD i (evalD slots t)) = some (d, e)) (hH : HR B G w Hr) (hs : SR (ImmB B G) w G slots a) : OpOk P B G w Hr o a d e := by
  obtain ⟨hp, rfl⟩ := qv_some h; replace h := hp; clear hp
  have hx := hs.eval t
  unfold extD at h
  split at h
  · rename_i cs hc
    rw [hc] at hx
    simp only [Rep] at hx
    obtain ⟨vs, hx, hr⟩ := hx
    obtain ⟨v, hv, hd⟩ := hr.get i d h
    refine OpOk.still hH (V := v) ?_ hd rfl
    simp only [Array.getElem?_toList] at hv
    simp [execOp, ho, hx, Instr.extract, hv]
  · cases h
theorem op_func {fn : Fn} {first cap : Array Operand} (ho : o.op = .makeFunc fn first cap) (h : some (DV.clo fn (first.toList.map (evalD slots)) (cap.toList.map (evalD slots)), Eff.q) = some (d, e)) (hH : HR B G w Hr) (hs : SR (ImmB B G) w G slots a) : OpOk P B G w Hr o a d e := by
  cases h
  have key : ∀ l : Array Operand, RepL (ImmB B G) w G (l.toList.map (evalD slots)) (l.map a.eval).toList := by
    intro l
    refine RepL.of (by simp) fun i d v hd hv => ?_
    simp only [Array.toList_map, List.getElem?_map] at hv hd
    cases hx : l.toList[i]? with
    | none => rw [hx] at hd; cases hd
    | some x =>
      rw [hx] at hd hv
      simp at hd hv
      subst hd; subst hv
      exact hs.eval x
  refine OpOk.still hH (V := .func fn (first.map a.eval) (cap.map a.eval)) ?_ ?_ rfl
  · simp [execOp, ho, Instr.makeFunc]
  · simp only [Rep]
    exact ⟨_, _, rfl, key first, key cap⟩
theorem op_iface {t : TypeId} {x : Operand} {td : TypeDesc} (ho : o.op = .makeInterface t x) (hu : P.underlying t = some td) (hn : ∀ m, td ≠ .interface m) (h : some (DV.iface t (evalD slots x), Eff.q) = some (d, e)) (hH : HR B G w Hr) (hs : SR (ImmB B G) w G slots a) : OpOk P B G w Hr o a d e := by
  cases h
  refine OpOk.still hH (V := .iface t (a.eval x)) ?_ ?_ rfl
  · simp only [execOp, ho, Instr.makeInterface, Sem.run_bind, run_underlying hu, Result.andThen_ok]
    cases td <;> first | rfl | exact absurd rfl (hn _)
  · simp only [Rep]
    exact ⟨_, rfl, hs.eval x⟩
end Go.Proofs.Ytbhnkdnfmlnajaa

/- Deep values: each operation's step is what the machine does (third part: fields, elements, lengths, parts of lists). -/
namespace Go.Proofs.Ytbhnkdnfmlnajaa
open Go Go.RowKit

variable {P : Program} {B : Nat → Nat → Prop} {G : Gh} {w : World} {H Hr : Heap} {o : Oper} {a : Act} {slots : List DV} {d : DV} {e : Eff}

/-- elements in cells: what they hold is kept by I, the cells themselves by J -/
def RepX (I J : Nat → Nat → Prop) (w : World) (sz : Nat) : List DV → Nat → Nat → Prop
  | [], _, _ => True
  | x :: xs, b, o => (x.cells.all DV.leaf = true ∧ ∃ V, Rep I w [] x V ∧ V.cells.size = sz ∧ CellsAt J w b o V.cells.toList) ∧ RepX I J w sz xs b (o + sz)
theorem repX_of {I : Nat → Nat → Prop} {sz : Nat} : ∀ {xs : List DV} {b o' : Nat}, RepE I w sz xs b o' → RepX I I w sz xs b o'
  | [], _, _, _ => by simp [RepX]
  | x :: xs, b, o', h => by
    simp only [RepE] at h
    simp only [RepX]
    exact ⟨h.1, repX_of h.2⟩
theorem repX_to {I : Nat → Nat → Prop} {sz : Nat} : ∀ {xs : List DV} {b o' : Nat}, RepX I I w sz xs b o' → RepE I w sz xs b o'
  | [], _, _, _ => by simp [RepE]
  | x :: xs, b, o', h => by
    simp only [RepX] at h
    simp only [RepE]
    exact ⟨h.1, repX_to h.2⟩
theorem CellsAt.any {I : Nat → Nat → Prop} {b o' : Nat} {vs : List Value} (h : CellsAt I w b o' vs) : CellsAt (fun _ _ => True) w b o' vs := fun j v hj => ⟨(h j v hj).1, trivial, (h j v hj).2.2⟩
theorem RepX.any {I J : Nat → Nat → Prop} {sz : Nat} : ∀ {xs : List DV} {b o' : Nat}, RepX I J w sz xs b o' → RepX I (fun _ _ => True) w sz xs b o'
  | [], _, _, _ => by simp [RepX]
  | x :: xs, b, o', h => by
    simp only [RepX] at h ⊢
    obtain ⟨⟨h0, V, h1, h2, h3⟩, h4⟩ := h
    exact ⟨⟨h0, V, h1, h2, h3.any⟩, RepX.any h4⟩
theorem RepX.get {I J : Nat → Nat → Prop} {sz : Nat} : ∀ {xs : List DV} {b o' : Nat}, RepX I J w sz xs b o' → ∀ (i : Nat) (x : DV), xs[i]? = some x → x.cells.all DV.leaf = true ∧ ∃ V, Rep I w [] x V ∧ V.cells.size = sz ∧ CellsAt J w b (o' + i * sz) V.cells.toList
  | [], _, _, _, i, x, hx => by simp at hx
  | y :: xs, b, o', h, i, x, hx => by
    simp only [RepX] at h
    cases i with
    | zero => simp at hx; subst hx; simpa using h.1
    | succ i =>
      have := RepX.get h.2 i x (by simpa using hx)
      rw [show o' + (i + 1) * sz = o' + sz + i * sz by rw [Nat.add_mul]; omega]
      exact this
theorem RepX.of {I J : Nat → Nat → Prop} {sz : Nat} : ∀ {xs : List DV} {b o' : Nat}, (∀ (i : Nat) (x : DV), xs[i]? = some x → x.cells.all DV.leaf = true ∧ ∃ V, Rep I w [] x V ∧ V.cells.size = sz ∧ CellsAt J w b (o' + i * sz) V.cells.toList) → RepX I J w sz xs b o'
  | [], _, _, _ => by simp [RepX]
  | y :: xs, b, o', h => by
    simp only [RepX]
    refine ⟨by simpa using h 0 y rfl, RepX.of fun i x hx => ?_⟩
    have := h (i + 1) x (by simpa using hx)
    rw [show o' + sz + i * sz = o' + (i + 1) * sz by rw [Nat.add_mul]; omega]
    exact this
theorem RepX.part {I J : Nat → Nat → Prop} {sz : Nat} {xs : List DV} {b o' : Nat} (h : RepX I J w sz xs b o') (l k : Nat) : RepX I J w sz ((xs.take k).drop l) b (o' + l * sz) := by
  refine RepX.of fun i x hx => ?_
  rw [List.getElem?_drop, List.getElem?_take] at hx
  split at hx
  · have := h.get (l + i) x hx
    rw [show o' + l * sz + i * sz = o' + (l + i) * sz by rw [Nat.add_mul]; omega]
    exact this
  · cases hx
theorem CellsAt.move {I J : Nat → Nat → Prop} {w' : World} {b o' b' o2 n : Nat} {vs : List Value} (h : CellsAt I w b o' vs) (hn : vs.length ≤ n) (hm : ∀ j, j < n → w'.cell? ⟨b', o2 + j, none⟩ = w.cell? ⟨b, o' + j, none⟩ ∧ J b' (o2 + j)) : CellsAt J w' b' o2 vs := fun j v hj => by
  have hlt := (List.getElem?_eq_some_iff.1 hj).1
  obtain ⟨h1, h2⟩ := hm j (by omega)
  exact ⟨h1.trans (h j v hj).1, h2, (h j v hj).2.2⟩
/-- elements that are copied -/
theorem RepX.move {I I' J J' : Nat → Nat → Prop} {w' : World} {sz b o' b' o2 : Nat} {xs : List DV} (h : RepX I J w sz xs b o') (hs : Stay I I' w w')
    (hm : ∀ j, j < xs.length * sz → w'.cell? ⟨b', o2 + j, none⟩ = w.cell? ⟨b, o' + j, none⟩ ∧ J' b' (o2 + j)) : RepX I' J' w' sz xs b' o2 := by
  refine RepX.of fun i x hx => ?_
  obtain ⟨h0, V, h1, h2, h3⟩ := h.get i x hx
  have hi := (List.getElem?_eq_some_iff.1 hx).1
  refine ⟨h0, V, Rep.stay hs (Evol.nil []) x V h1, h2, h3.move (n := sz) (by simp [h2]) fun j hj => ?_⟩
  have : i * sz + j < xs.length * sz := by
    have := Nat.mul_le_mul_right sz (show i + 1 ≤ xs.length from hi)
    rw [Nat.add_mul] at this; omega
  have := hm (i * sz + j) this
  rwa [← Nat.add_assoc, ← Nat.add_assoc] at this
theorem RepX.app {I J : Nat → Nat → Prop} {sz b o' : Nat} {xs ys : List DV} (h : RepX I J w sz xs b o') (k : RepX I J w sz ys b (o' + xs.length * sz)) : RepX I J w sz (xs ++ ys) b o' := by
  refine RepX.of fun i x hx => ?_
  rcases Nat.lt_or_ge i xs.length with hi | hi
  · rw [List.getElem?_append_left hi] at hx; exact h.get i x hx
  · rw [List.getElem?_append_right hi] at hx
    have := k.get _ x hx
    rwa [Nat.add_assoc, ← Nat.add_mul, Nat.add_sub_cancel' hi] at this
/-- the cells of elements -/
theorem RepX.vals {I J : Nat → Nat → Prop} {sz : Nat} : ∀ {xs : List DV} {b o' : Nat}, RepX I J w sz xs b o' → ∃ us : List Value, us.length = xs.length * sz ∧ CellsAt J w b o' us ∧ RepL I w [] ((xs.map DV.cells).flatten) us
  | [], _, _, _ => ⟨[], by simp, fun j v hj => by simp at hj, by simp [RepL]⟩
  | x :: xs, b, o', h => by
    simp only [RepX] at h
    obtain ⟨⟨h0, V, h1, h2, h3⟩, h4⟩ := h
    obtain ⟨us, k1, k2, k3⟩ := RepX.vals h4
    obtain ⟨r1, _⟩ := rep_cells h0 h1
    refine ⟨V.cells.toList ++ us, by simp [h2, k1, Nat.add_mul]; omega, fun j v hj => ?_, by simpa using r1.app k3⟩
    rcases Nat.lt_or_ge j V.cells.toList.length with hj' | hj'
    · rw [List.getElem?_append_left hj'] at hj; exact h3 j v hj
    · rw [List.getElem?_append_right hj'] at hj
      have := k2 _ v hj
      simp only [Array.length_toList, h2] at this hj'
      rwa [Nat.add_assoc, Nat.add_sub_cancel' hj'] at this
theorem repX_val {G : Gh} {I : Nat → Nat → Prop} {sz : Nat} {xs : List DV} {t : Tag} {V : Value} (h : Rep I w G (.list sz xs t) V) :
    ∃ A c, V = .slice A xs.length c ∧ xs.length ≤ c ∧ xs.length ≤ 140737488355328 ∧ (xs = [] ∨ ∃ b o, A = some ⟨b, o, none⟩ ∧ RepX I I w sz xs b o) ∧ TagOk G sz xs.length A c t := by
  simp only [Rep] at h
  obtain ⟨A, c, e, h1, h2, h3, h4⟩ := h
  exact ⟨A, c, e, h1, h2, h3.imp id fun ⟨b, o, e, h⟩ => ⟨b, o, e, repX_of h⟩, h4⟩
theorem repX_mk {G : Gh} {I : Nat → Nat → Prop} {sz : Nat} {xs : List DV} {t : Tag} {A : Option Addr} {c : Nat} (h1 : xs.length ≤ c) (h2 : xs.length ≤ 140737488355328) (h3 : xs = [] ∨ ∃ b o, A = some ⟨b, o, none⟩ ∧ RepX I I w sz xs b o)
    (h4 : TagOk G sz xs.length A c t) : Rep I w G (.list sz xs t) (.slice A xs.length c) := by
  simp only [Rep]
  exact ⟨A, c, rfl, h1, h2, h3.imp id fun ⟨b, o, e, h⟩ => ⟨b, o, e, repX_to h⟩, h4⟩
theorem rep_mkl {G : Gh} {I : Nat → Nat → Prop} {sz : Nat} {xs : List DV} {t : Tag} {V : Value} (ht : ∀ k, t ≠ .own k) (h : Rep I w G (.list sz xs t) V) : Rep I w G (mkl sz xs t) V := by
  unfold mkl
  split
  · simp only [Rep] at h ⊢
    obtain ⟨A, c, e, h1, h2, h3, h4⟩ := h
    refine ⟨A, c, e, h1, h2, .inl trivial, ?_⟩
    cases t with
    | own k => exact absurd rfl (ht k)
    | _ => exact h4
  · exact h

theorem int_val {I : Nat → Nat → Prop} {x : DV} {n : Int} {V : Value} (h : intD x = some n) (k : Rep I w G x V) : ∃ kd, V = .int kd n := by
  unfold intD at h
  split at h
  · cases h
    simp only [Rep] at k
    exact ⟨_, k⟩
  · cases h
theorem op_fieldAddr {s : TypeId} {x : Operand} {f : Nat} {fs : Array Field} {fd : Field} {i : TypeInfo} (ho : o.op = .fieldAddr s x f) (hu : P.underlying s = some (.struct fs)) (hf : fs[f]? = some fd) (hi : P.info? fd.type = some i)
    (h : qv (fieldD fd.offset i.size (evalD slots x)) = some (d, e)) (hH : HR B G w Hr) (hs : SR (ImmB B G) w G slots a) : OpOk P B G w Hr o a d e := by
  obtain ⟨hp, rfl⟩ := qv_some h
  have hx := hs.eval x
  unfold fieldD at hp
  split at hp
  · cases hp
  · rename_i hz
    split at hp
    · rename_i k off hk
      cases hp
      rw [hk] at hx
      simp only [Rep] at hx
      obtain ⟨b, hG, hx⟩ := hx
      refine OpOk.still hH (V := .pointer (some ⟨b, off + fd.offset, none⟩)) ?_ (by simp only [Rep]; exact ⟨b, hG, rfl⟩) rfl
      simp [execOp, ho, hx, Instr.fieldAt, run_underlying hu, hf, Instr.sureAddr, fieldPlace, size_run hi, hz, addr_at]
    · rename_i y off hk
      cases hp
      rw [hk] at hx
      simp only [Rep] at hx
      obtain ⟨h0, b, o', E, hx, h1, h2⟩ := hx
      refine OpOk.still hH (V := .pointer (some ⟨b, o' + (off + fd.offset), none⟩)) ?_ (by simp only [Rep]; exact ⟨h0, b, o', E, rfl, h1, h2⟩) rfl
      simp [execOp, ho, hx, Instr.fieldAt, run_underlying hu, hf, Instr.sureAddr, fieldPlace, size_run hi, hz, addr_at, Nat.add_assoc]
    · cases hp
theorem part_run {I : Nat → Nat → Prop} {t : TypeId} {ag : Bool} {sz off : Nat} {cs : List DV} {vs : Array Value} (ht : aggSz P t = some (ag, sz)) (hr : RepL I w G cs vs.toList) (h : partD ag sz off cs = some d) :
    ∃ V, (part t vs off).run P w = .ok V w ∧ Rep I w G d V := by
  obtain ⟨i, hi, rfl, hag⟩ := aggSz_some ht
  unfold part
  simp only [Sem.run_bind, hag, Result.andThen_ok]
  cases ag with
  | false =>
    simp only [partD, Bool.false_eq_true, if_false] at h ⊢
    obtain ⟨v, hv, hd⟩ := hr.get off d h
    simp only [Array.getElem?_toList] at hv
    exact ⟨v, by simp [hv], hd⟩
  | true =>
    simp only [partD, if_true] at h ⊢
    split at h
    · cases h
      refine ⟨.agg (vs.extract off (off + i.size)), by simp [size_run hi], ?_⟩
      simp only [Rep]
      refine ⟨_, rfl, ?_⟩
      have := (hr.drop off).take i.size
      have e1 : (vs.extract off (off + i.size)).toList = (vs.toList.drop off).take i.size := by
        rw [Array.toList_extract]; simp [List.extract_eq_take_drop]
      rw [e1]; exact this
    · cases h
theorem op_field {t : TypeId} {x : Operand} {f : Nat} {fs : Array Field} {fd : Field} {ag : Bool} {sz : Nat} {cs : List DV} (ho : o.op = .field t x f) (hu : P.underlying t = some (.struct fs)) (hf : fs[f]? = some fd) (ht : aggSz P fd.type = some (ag, sz)) (hc : evalD slots x = .agg cs)
    (h : qv (partD ag sz fd.offset cs) = some (d, e)) (hH : HR B G w Hr) (hs : SR (ImmB B G) w G slots a) : OpOk P B G w Hr o a d e := by
  obtain ⟨hp, rfl⟩ := qv_some h
  have hx := hs.eval x
  rw [hc] at hx
  simp only [Rep] at hx
  obtain ⟨vs, hx, hr⟩ := hx
  obtain ⟨V, hrun, hd⟩ := part_run ht hr hp
  refine OpOk.still hH (V := V) ?_ hd rfl
  simp [execOp, ho, hx, Instr.field, run_underlying hu, hf, asAgg, hrun]
theorem op_index {t : TypeId} {x i : Operand} {len : Nat} {et : TypeId} {ag : Bool} {sz : Nat} {n : Int} {cs : List DV} (ho : o.op = .index t x i) (hu : P.underlying t = some (.array len et)) (ht : aggSz P et = some (ag, sz)) (hn : intD (evalD slots i) = some n) (hc : evalD slots x = .agg cs)
    (h0 : 0 ≤ n ∧ n < len) (h : qv (partD ag sz (n.toNat * sz) cs) = some (d, e)) (hH : HR B G w Hr) (hs : SR (ImmB B G) w G slots a) : OpOk P B G w Hr o a d e := by
  obtain ⟨hp, rfl⟩ := qv_some h
  have hx := hs.eval x
  rw [hc] at hx
  simp only [Rep] at hx
  obtain ⟨vs, hx, hr⟩ := hx
  obtain ⟨kd, hi⟩ := int_val hn (hs.eval i)
  obtain ⟨V, hrun, hd⟩ := part_run ht hr hp
  obtain ⟨inf, hinf, hsz, _⟩ := aggSz_some ht
  refine OpOk.still hH (V := V) ?_ hd rfl
  simp [execOp, ho, hx, hi, Instr.index, asIntOf, run_underlying hu, h0, size_run hinf, hsz, hrun]
theorem op_idxArr {t : TypeId} {x i : Operand} {len : Nat} {et : TypeId} {ie : TypeInfo} (ho : o.op = .indexAddr t x i) (hu : P.underlying t = some (.array len et)) (hie : P.info? et = some ie)
    (h : qv (idxArr len ie.size (evalD slots x) (evalD slots i)) = some (d, e)) (hH : HR B G w Hr) (hs : SR (ImmB B G) w G slots a) : OpOk P B G w Hr o a d e := by
  obtain ⟨hp, rfl⟩ := qv_some h
  have hx := hs.eval x
  unfold idxArr at hp
  split at hp
  · rename_i n hn
    obtain ⟨kd, hi⟩ := int_val hn (hs.eval i)
    split at hp
    · rename_i h0
      split at hp
      · rename_i k off hk
        cases hp
        rw [hk] at hx
        simp only [Rep] at hx
        obtain ⟨b, hG, hx⟩ := hx
        refine OpOk.still hH (V := .pointer (some ⟨b, off + n.toNat * ie.size, none⟩)) ?_ (by simp only [Rep]; exact ⟨b, hG, rfl⟩) rfl
        simp [execOp, ho, hx, hi, Instr.indexAt, asIntOf, run_underlying hu, Instr.sureAddr, h0, size_run hie, addr_at]
      · rename_i y off hk
        cases hp
        rw [hk] at hx
        simp only [Rep] at hx
        obtain ⟨hl, b, o', E, hx, h1, h2⟩ := hx
        refine OpOk.still hH (V := .pointer (some ⟨b, o' + (off + n.toNat * ie.size), none⟩)) ?_ (by simp only [Rep]; exact ⟨hl, b, o', E, rfl, h1, h2⟩) rfl
        simp [execOp, ho, hx, hi, Instr.indexAt, asIntOf, run_underlying hu, Instr.sureAddr, h0, size_run hie, addr_at, Nat.add_assoc]
      · cases hp
    · cases hp
  · cases hp
theorem op_idxSl {t : TypeId} {x i : Operand} {et : TypeId} {ie : TypeInfo} (ho : o.op = .indexAddr t x i) (hu : P.underlying t = some (.slice et)) (hie : P.info? et = some ie)
    (h : qv (idxSl ie.size (evalD slots x) (evalD slots i)) = some (d, e)) (hH : HR B G w Hr) (hs : SR (ImmB B G) w G slots a) : OpOk P B G w Hr o a d e := by
  obtain ⟨hp, rfl⟩ := qv_some h
  have hx := hs.eval x
  unfold idxSl at hp
  split at hp
  · rename_i n hn
    obtain ⟨kd, hi⟩ := int_val hn (hs.eval i)
    split at hp
    · rename_i h0
      split at hp
      · rename_i s xs tg hk
        split at hp
        · rename_i hsz
          cases hxs : xs[n.toNat]? with
          | none => simp [hxs] at hp
          | some y =>
            simp [hxs] at hp
            subst hp
            rw [hk] at hx
            obtain ⟨A, c, hx, _, _, hE, _⟩ := repX_val hx
            have hlt := (List.getElem?_eq_some_iff.1 hxs).1
            have hne : xs ≠ [] := fun e => by subst e; simp at hlt
            obtain ⟨b, o', rfl, hE2⟩ := hE.resolve_left hne
            obtain ⟨hl, V, h1, h2, h3⟩ := hE2.get _ y hxs
            refine OpOk.still hH (V := .pointer (some ⟨b, o' + n.toNat * ie.size, none⟩)) ?_ (by simp only [Rep]; exact ⟨hl, b, o' + n.toNat * s, V, by rw [hsz]; rfl, h1, h3⟩) rfl
            have hlt' : n < (xs.length : Int) := by omega
            simp [execOp, ho, hx, hi, Instr.indexAt, asIntOf, run_underlying hu, h0, hlt', size_run hie, addr_at]
        · cases hp
      · rename_i ag s k off len c hk
        split at hp
        · rename_i hsz
          cases hp
          rw [hk] at hx
          simp only [Rep] at hx
          obtain ⟨b, hG, hx⟩ := hx
          refine OpOk.still hH (V := .pointer (some ⟨b, off + n.toNat * ie.size, none⟩)) ?_ (by simp only [Rep]; exact ⟨b, hG, rfl⟩) rfl
          simp [execOp, ho, hx, hi, Instr.indexAt, asIntOf, run_underlying hu, h0, hsz.2, size_run hie, addr_at]
        · cases hp
      · cases hp
    · cases hp
  · cases hp
theorem sliceBound_run {x : Value} {kd : IntKind} {n : Int} {y : Nat} {code : BoundsCode} (hx : x = .int kd n) (h0 : 0 ≤ n) (h1 : n ≤ y) : (Instr.sliceBound x y code).run P w = .ok n.toNat w := by
  subst hx
  simp [Instr.sliceBound, asIntOf, h0, h1]
theorem bounds_run {isL isSl : Bool} {len cap rc l k m : Nat} {lo hi mx : Option Operand} {lo' hi' mx' : Option Int} (hlo : optD (lo.map (evalD slots)) = some lo') (hhi : optD (hi.map (evalD slots)) = some hi') (hmx : optD (mx.map (evalD slots)) = some mx')
    (h : boundsD isL len cap lo' hi' mx' = some (l, k, m)) (hs : SR (ImmB B G) w G slots a) (hc : cap ≤ rc) (hl : len ≤ rc) :
    (Instr.sliceBounds isSl len rc (lo.map a.eval) (hi.map a.eval) (mx.map a.eval)).run P w = .ok (l, k, if mx.isSome then m else rc) w ∧ l ≤ k ∧ k ≤ len ∧ k ≤ m ∧ m ≤ cap ∧ (mx.isSome = mx'.isSome) ∧ (mx' = none → m = cap) := by
  have one : ∀ {x : Option Operand} {x' : Option Int}, optD (x.map (evalD slots)) = some x' → (x = none ∧ x' = none) ∨ ∃ y n kd, x = some y ∧ x' = some n ∧ a.eval y = .int kd n := by
    intro x x' h
    cases x with
    | none => simp [optD] at h; exact .inl ⟨rfl, h.symm⟩
    | some y =>
      simp only [Option.map_some, optD] at h
      cases hn : intD (evalD slots y) with
      | none => simp [hn] at h
      | some n =>
        simp [hn] at h
        obtain ⟨kd, hk⟩ := int_val hn (hs.eval y)
        exact .inr ⟨y, n, kd, rfl, h.symm, hk⟩
  unfold boundsD at h
  simp only [] at h
  split at h
  · rename_i hc1
    obtain ⟨c1, c2, c3, c4, c5, c6, c7, c8⟩ := hc1
    injection h with h
    injection h with h1 h
    injection h with h2 h3
    rcases one hmx with ⟨rfl, rfl⟩ | ⟨ym, nm, km, rfl, rfl, em⟩
    · simp only [Option.getD_none] at c3 c6 h3
      have hm : m = cap := by omega
      rcases one hhi with ⟨rfl, rfl⟩ | ⟨yh, nh, kh, rfl, rfl, eh⟩ <;> rcases one hlo with ⟨rfl, rfl⟩ | ⟨yl, nl, kl, rfl, rfl, el⟩ <;> simp only [Option.getD_some, Option.getD_none] at c1 c2 c3 c4 h1 h2
      · refine ⟨?_, by omega, by omega, by omega, by omega, rfl, fun _ => hm⟩
        simp [Instr.sliceBounds]; omega
      · refine ⟨?_, by omega, by omega, by omega, by omega, rfl, fun _ => hm⟩
        simp [Instr.sliceBounds, sliceBound_run el c1 c2]; omega
      · refine ⟨?_, by omega, by omega, by omega, by omega, rfl, fun _ => hm⟩
        simp [Instr.sliceBounds, sliceBound_run eh (by omega) (show nh ≤ (rc : Int) by omega)]; omega
      · refine ⟨?_, by omega, by omega, by omega, by omega, rfl, fun _ => hm⟩
        have hle : nl ≤ ((nh.toNat : Nat) : Int) := by omega
        simp [Instr.sliceBounds, sliceBound_run eh (by omega) (show nh ≤ (rc : Int) by omega), sliceBound_run el c1 hle]; omega
    · simp only [Option.getD_some] at c3 c5 c6 c8 h3
      rcases one hhi with ⟨rfl, rfl⟩ | ⟨yh, nh, kh, rfl, rfl, eh⟩
      · simp at c8
      · rcases one hlo with ⟨rfl, rfl⟩ | ⟨yl, nl, kl, rfl, rfl, el⟩ <;> simp only [Option.getD_some, Option.getD_none] at c1 c2 c3 c4 h1 h2
        · refine ⟨?_, by omega, by omega, by omega, by omega, rfl, fun h => by cases h⟩
          have hle : nh ≤ ((nm.toNat : Nat) : Int) := by omega
          simp [Instr.sliceBounds, sliceBound_run em (by omega) (show nm ≤ (rc : Int) by omega), sliceBound_run eh (by omega) hle]; omega
        · refine ⟨?_, by omega, by omega, by omega, by omega, rfl, fun h => by cases h⟩
          have hle : nh ≤ ((nm.toNat : Nat) : Int) := by omega
          have hle' : nl ≤ ((nh.toNat : Nat) : Int) := by omega
          simp [Instr.sliceBounds, sliceBound_run em (by omega) (show nm ≤ (rc : Int) by omega), sliceBound_run eh (by omega) hle, sliceBound_run el c1 hle']; omega
  · cases h
end Go.Proofs.Ytbhnkdnfmlnajaa

/- Deep values: each operation's step is what the machine does (fourth part: parts of lists, lengths, append, copy). -/
namespace Go.Proofs.Ytbhnkdnfmlnajaa
open Go Go.RowKit

variable {P : Program} {B : Nat → Nat → Prop} {G : Gh} {w : World} {H Hr : Heap} {o : Oper} {a : Act} {slots : List DV} {d : DV} {e : Eff}

theorem op_sliceSl {t : TypeId} {x : Operand} {lo hi mx : Option Operand} {l' h' m' : Option Int} {et : TypeId} {ag : Bool} {sz : Nat} (ho : o.op = .slice t x lo hi mx) (hu : P.underlying t = some (.slice et)) (ht : aggSz P et = some (ag, sz))
    (hlo : optD (lo.map (evalD slots)) = some l') (hhi : optD (hi.map (evalD slots)) = some h') (hmx : optD (mx.map (evalD slots)) = some m')
    (h : qv (sliceSl sz (evalD slots x) l' h' m') = some (d, e)) (hH : HR B G w Hr) (hs : SR (ImmB B G) w G slots a) : OpOk P B G w Hr o a d e := by
  obtain ⟨hp, rfl⟩ := qv_some h
  have hx := hs.eval x
  obtain ⟨ie, hie, hsz, _⟩ := aggSz_some ht
  unfold sliceSl at hp
  split at hp
  · rename_i s xs tg hk
    split at hp
    · rename_i hts
      unfold sliceL at hp
      split at hp
      · rename_i l k m hb
        cases hp
        rw [hk] at hx
        obtain ⟨A, c, hx, h1, h2, hE, hT⟩ := repX_val hx
        obtain ⟨hrun, b1, b2, b3, b4, b5, b6⟩ := bounds_run (P := P) (w := w) (isSl := true) hlo hhi hmx hb hs h1 h1
        obtain ⟨M, hM⟩ : ∃ M, (if mx.isSome = true then m else c) = M := ⟨_, rfl⟩
        rw [hM] at hrun
        have hMk : k ≤ M := by rw [← hM]; split <;> omega
        have hlen : ((xs.take k).drop l).length = k - l := by simp; omega
        refine OpOk.still hH (V := .slice (if M = l then A else A.map (·.add (l * ie.size))) (k - l) (M - l)) ?_ ?_ rfl
        · simp [execOp, ho, hx, Instr.sliceAt, run_underlying hu, Instr.slice, hrun, size_run hie]
        · refine rep_mkl (by intro j; split <;> (try split) <;> simp) ?_
          rw [← hlen]
          refine repX_mk (by omega) (by omega) ?_ ?_
          · by_cases hn : (xs.take k).drop l = []
            · exact .inl hn
            · right
              have hkl : l < k := by
                rcases Nat.lt_or_ge l k with h' | h'
                · exact h'
                · exact absurd (List.eq_nil_of_length_eq_zero (by omega)) hn
              have hne : xs ≠ [] := fun e => by subst e; simp at b2; omega
              obtain ⟨b, o', rfl, hE'⟩ := hE.resolve_left hne
              have hss : s = sz := by
                cases xs with
                | nil => exact absurd rfl hne
                | cons x xs => simpa using hts
              refine ⟨b, o' + l * sz, ?_, ?_⟩
              · rw [if_neg (by omega)]
                simp [addr_at, hsz]
              · rw [← hss]; exact hE'.part l k
          · rw [hlen]
            by_cases hc : m'.isSome = true ∧ m = k
            · rw [if_pos hc]
              have hm : mx.isSome = true := b5.trans hc.1
              rw [if_pos hm] at hM
              simp only [TagOk]
              omega
            · rw [if_neg hc]
              by_cases hc2 : m'.isNone = true ∧ k = xs.length ∧ tg = Tag.ti
              · rw [if_pos hc2]
                obtain ⟨c1, c2, rfl⟩ := hc2
                have hm : ¬ mx.isSome = true := by rw [b5]; cases m' <;> simp_all
                rw [if_neg hm] at hM
                simp only [TagOk] at hT ⊢
                omega
              · rw [if_neg hc2]
                trivial
      · cases hp
    · cases hp
  · rename_i ag' s k' off n c hk
    split at hp
    · cases hp
    · rename_i hss
      split at hp
      · rename_i l k m hb
        cases hp
        rw [hk] at hx
        simp only [Rep] at hx
        obtain ⟨b, hG, hx⟩ := hx
        have hnc : n ≤ c := by omega
        have hss' : s = sz := by omega
        obtain ⟨hrun, b1, b2, b3, b4, b5, b6⟩ := bounds_run (P := P) (w := w) (isSl := true) hlo hhi hmx hb hs (Nat.le_refl c) hnc
        have hM : (if mx.isSome = true then m else c) = m := by
          split
          · rfl
          · rename_i hn
            exact (b6 (by rw [b5] at hn; cases m' <;> simp_all)).symm
        rw [hM] at hrun
        refine OpOk.still hH (V := .slice (some ⟨b, if m = l then off else off + l * s, none⟩) (k - l) (m - l)) ?_ (by simp only [Rep]; exact ⟨b, hG, rfl⟩) rfl
        simp only [execOp, ho, hx, Instr.sliceAt, run_underlying hu, Instr.slice, hrun, size_run hie, Sem.run_bind, Result.andThen_ok, Sem.run_pure, hss', hsz]
        split <;> simp [addr_at]
      · cases hp
  · cases hp
theorem op_sliceAr {t : TypeId} {x : Operand} {lo hi mx : Option Operand} {l' h' m' : Option Int} {n : Nat} {et : TypeId} {ag : Bool} {sz : Nat} (ho : o.op = .slice t x lo hi mx) (hu : P.underlying t = some (.array n et)) (ht : aggSz P et = some (ag, sz))
    (hlo : optD (lo.map (evalD slots)) = some l') (hhi : optD (hi.map (evalD slots)) = some h') (hmx : optD (mx.map (evalD slots)) = some m')
    (h : qv (sliceAr ag n sz (evalD slots x) l' h' m') = some (d, e)) (hH : HR B G w Hr) (hs : SR (ImmB B G) w G slots a) : OpOk P B G w Hr o a d e := by
  obtain ⟨hp, rfl⟩ := qv_some h
  have hx := hs.eval x
  obtain ⟨ie, hie, hsz, _⟩ := aggSz_some ht
  unfold sliceAr at hp
  split at hp
  · rename_i k' off hk
    split at hp
    · rename_i l k m hb
      cases hp
      rw [hk] at hx
      simp only [Rep] at hx
      obtain ⟨b, hG, hx⟩ := hx
      obtain ⟨hrun, b1, b2, b3, b4, b5, b6⟩ := bounds_run (P := P) (w := w) (isSl := false) hlo hhi hmx hb hs (Nat.le_refl n) (Nat.le_refl n)
      have hM : (if mx.isSome = true then m else n) = m := by
        split
        · rfl
        · rename_i hn
          exact (b6 (by rw [b5] at hn; cases m' <;> simp_all)).symm
      rw [hM] at hrun
      refine OpOk.still hH (V := .slice (some ⟨b, if m = l then off else off + l * sz, none⟩) (k - l) (m - l)) ?_ (by simp only [Rep]; exact ⟨b, hG, rfl⟩) rfl
      simp only [execOp, ho, hx, Instr.sliceAt, run_underlying hu, Instr.sureAddr, hrun, size_run hie, Sem.run_bind, Result.andThen_ok, Sem.run_pure, hsz]
      split <;> simp [addr_at]
    · cases hp
  · cases hp
/-- a call of a builtin -/
theorem built_run {c : Call} {b : Builtin} (ho : o.op = .call c) (hc : c.callee = .builtin b) : (execOp a.eval o).run P w = (builtin b c.argTypes o.type (c.args.map fun | .const _ => true | _ => false) (c.args.map a.eval)).run P w := by
  simp [execOp, ho, resolve, hc, invoke]
  rfl
theorem args_eq {l : Array Operand} {xs : List Operand} (h : l.toList = xs) : l.map a.eval = (xs.map a.eval).toArray := by
  apply Array.ext'
  simp [h]
theorem arr_eq {α : Type} {l : Array α} {xs : List α} (h : l.toList = xs) : l = xs.toArray := by
  apply Array.ext'
  simp [h]
theorem op_len {c : Call} {x : Operand} {t : TypeId} (ho : o.op = .call c) (hc : c.callee = .builtin .len) (hx : c.args.toList = [x]) (ht : c.argTypes.toList = [t])
    (h : qv (match P.underlying t with
      | some (.array n _) => some (.flat (.int .i64 n))
      | some (.slice _) => lenD (evalD slots x)
      | some .string => lenStr (evalD slots x)
      | _ => none) = some (d, e)) (hH : HR B G w Hr) (hs : SR (ImmB B G) w G slots a) : OpOk P B G w Hr o a d e := by
  obtain ⟨hp, rfl⟩ := qv_some h
  have hv := hs.eval x
  have hrun : (execOp a.eval o).run P w = ((Builtin.len_ #[t] o.type #[a.eval x]).run P w).andThen fun v w' => .ok (.value v) w' := by
    rw [built_run ho hc, args_eq hx, arr_eq ht]
    simp [builtin]
  split at hp
  · rename_i n et hu
    cases hp
    refine OpOk.still hH (V := .int .i64 n) ?_ (by simp [Rep]) rfl
    rw [hrun]
    simp [Builtin.len_, run_underlying hu, goInt]
  · rename_i et hu
    unfold lenD at hp
    split at hp
    · rename_i sz xs tg hk
      cases hp
      rw [hk] at hv
      obtain ⟨A, cc, hv, _⟩ := repX_val hv
      refine OpOk.still hH (V := .int .i64 xs.length) ?_ (by simp [Rep]) rfl
      rw [hrun]
      simp [Builtin.len_, run_underlying hu, hv, goInt]
    · rename_i ag sz k off n cc hk
      cases hp
      rw [hk] at hv
      simp only [Rep] at hv
      obtain ⟨b, _, hv⟩ := hv
      refine OpOk.still hH (V := .int .i64 n) ?_ (by simp [Rep]) rfl
      rw [hrun]
      simp [Builtin.len_, run_underlying hu, hv, goInt]
    · cases hp
  · rename_i hu
    unfold lenStr at hp
    split at hp
    · rename_i s hk
      cases hp
      rw [hk] at hv
      simp only [Rep] at hv
      refine OpOk.still hH (V := .int .i64 s.size) ?_ (by simp [Rep]) rfl
      rw [hrun]
      simp [Builtin.len_, run_underlying hu, hv, goInt]
    · cases hp
  · cases hp
theorem op_cap {c : Call} {x : Operand} {t : TypeId} (ho : o.op = .call c) (hc : c.callee = .builtin .cap) (hx : c.args.toList = [x]) (ht : c.argTypes.toList = [t])
    (h : qv (match P.underlying t with
      | some (.slice _) => capD (evalD slots x)
      | _ => none) = some (d, e)) (hH : HR B G w Hr) (hs : SR (ImmB B G) w G slots a) : OpOk P B G w Hr o a d e := by
  obtain ⟨hp, rfl⟩ := qv_some h
  have hv := hs.eval x
  have hrun : (execOp a.eval o).run P w = ((Builtin.cap_ #[t] o.type #[a.eval x]).run P w).andThen fun v w' => .ok (.value v) w' := by
    rw [built_run ho hc, args_eq hx, arr_eq ht]
    simp [builtin]
  split at hp
  · rename_i et hu
    unfold capD at hp
    split at hp
    · rename_i sz xs hk
      cases hp
      rw [hk] at hv
      obtain ⟨A, cc, hv, _, _, _, hT⟩ := repX_val hv
      simp only [TagOk] at hT
      refine OpOk.still hH (V := .int .i64 xs.length) ?_ (by simp [Rep]) rfl
      rw [hrun]
      simp [Builtin.cap_, run_underlying hu, hv, goInt, hT]
    · rename_i ag sz k off n cc hk
      cases hp
      rw [hk] at hv
      simp only [Rep] at hv
      obtain ⟨b, _, hv⟩ := hv
      refine OpOk.still hH (V := .int .i64 cc) ?_ (by simp [Rep]) rfl
      rw [hrun]
      simp [Builtin.cap_, run_underlying hu, hv, goInt]
    · cases hp
  · cases hp
theorem vals_eq {I : Nat → Nat → Prop} {args : List Operand} {vs : List Value} (hs : SR I w G slots a) (h : mapO toVal (args.map (evalD slots)) = some vs) : args.map a.eval = vs := by
  obtain ⟨h1, h2⟩ := mapO_some h
  refine List.ext_getElem? fun i => ?_
  rw [List.getElem?_map]
  cases hx : args[i]? with
  | none =>
    have := List.getElem?_eq_none_iff.1 hx
    rw [List.getElem?_eq_none (by rw [h1]; simpa using this)]; rfl
  | some x =>
    obtain ⟨v, hv, hf⟩ := h2 i (evalD slots x) (by simp [hx])
    rw [hv, Option.map_some, rep_toVal hf (hs.eval x)]
theorem op_built {c : Call} {b : Builtin} (ho : o.op = .call c) (hc : c.callee = .builtin b) (h : qv (builtD P b c.argTypes o.type (c.args.toList.map (evalD slots))) = some (d, e)) (hH : HR B G w Hr) (hs : SR (ImmB B G) w G slots a) : OpOk P B G w Hr o a d e := by
  obtain ⟨hp, rfl⟩ := qv_some h
  unfold builtD at hp
  cases hm : mapO toVal (c.args.toList.map (evalD slots)) with
  | none => simp [hm] at hp
  | some vs =>
    simp only [hm, Option.bind_some] at hp
    have hv := vals_eq hs hm
    split at hp
    · refine op_pure hp (fun v hr => ?_) hH
      rw [built_run ho hc, args_eq rfl, hv]
      simp [builtin, hr]
    · refine op_pure hp (fun v hr => ?_) hH
      rw [built_run ho hc, args_eq rfl, hv]
      simp [builtin, hr]
    · cases hp
end Go.Proofs.Ytbhnkdnfmlnajaa

/- Deep values: each operation's step is what the machine does (fifth part: append, copy, what is built and made). -/
namespace Go.Proofs.Ytbhnkdnfmlnajaa
open Go Go.RowKit

variable {P : Program} {B : Nat → Nat → Prop} {G : Gh} {w : World} {H Hr : Heap} {o : Oper} {a : Act} {slots : List DV} {d : DV} {e : Eff}

theorem plainLeaf_some {d d' : DV} (h : plainLeaf d = some d') : d'.leaf = true ∧ ∀ {I : Nat → Nat → Prop} {w : World} {G : Gh} {V : Value}, Rep I w G d V → Rep I w [] d' V := by
  unfold plainLeaf at h
  split at h
  · split at h
    · rename_i v hv
      cases h
      exact ⟨hv, fun k => by simpa only [Rep] using k⟩
    · cases h
  · cases h
    refine ⟨rfl, fun k => ?_⟩
    simp only [Rep] at k ⊢
    obtain ⟨A, c, e, h1, h2, h3, h4⟩ := k
    exact ⟨A, c, e, h1, h2, h3, h4⟩
  · cases h
    refine ⟨rfl, fun k => ?_⟩
    simp only [Rep] at k ⊢
    obtain ⟨A, c, e, h1, h2, h3, h4⟩ := k
    exact ⟨A, c, e, h1, h2, h3, trivial⟩
  · cases h
theorem plainL_some {cs cs' : List DV} (h : mapO plainLeaf cs = some cs') : cs'.all DV.leaf = true ∧ cs'.length = cs.length ∧ ∀ {I : Nat → Nat → Prop} {w : World} {G : Gh} {vs : List Value}, RepL I w G cs vs → RepL I w [] cs' vs := by
  obtain ⟨h1, h2⟩ := mapO_some h
  have back : ∀ (i : Nat) (d' : DV), cs'[i]? = some d' → ∃ d, cs[i]? = some d ∧ plainLeaf d = some d' := by
    intro i d' hd
    have hlt : i < cs.length := by rw [← h1]; exact (List.getElem?_eq_some_iff.1 hd).1
    obtain ⟨y, hy, hf⟩ := h2 i _ (List.getElem?_eq_getElem hlt)
    rw [hd] at hy; cases hy
    exact ⟨_, List.getElem?_eq_getElem hlt, hf⟩
  refine ⟨?_, h1, fun {I w G vs} k => RepL.of (by rw [k.length, h1]) fun i d' v hd hv => ?_⟩
  · rw [List.all_eq_true]
    intro d' hd
    obtain ⟨i, hi⟩ := List.mem_iff_getElem?.1 hd
    obtain ⟨d, _, hf⟩ := back i d' hi
    exact (plainLeaf_some hf).1
  · obtain ⟨d, hd', hf⟩ := back i d' hd
    obtain ⟨v', hv', hr⟩ := k.get i d hd'
    rw [hv'] at hv; cases hv
    exact (plainLeaf_some hf).2 hr
theorem chunkOk_some {ag : Bool} {sz n : Nat} (h : chunkOk ag sz n = true) : 0 < sz ∧ (ag = false → sz = 1) ∧ n ≤ 140737488355328 := by
  unfold chunkOk at h
  simp only [Bool.and_eq_true, decide_eq_true_eq, Bool.or_eq_true, beq_iff_eq] at h
  refine ⟨h.1.1, fun e => ?_, h.2⟩
  subst e
  simpa using h.1.2
/-- cells in rows, as elements -/
theorem chunk_rep {I J : Nat → Nat → Prop} {ag : Bool} {sz b : Nat} (h0 : 0 < sz) (h1 : ag = false → sz = 1) : ∀ (n : Nat) (cs : List DV) (vs : List Value) (off : Nat) (xs : List DV), cs.length = n * sz → RepL I w G cs vs →
    CellsAt J w b off vs → mapO plainEl (chunk ag sz n cs) = some xs → RepX I J w sz xs b off ∧ xs.length = n
  | 0, cs, vs, off, xs, _, _, _, h => by
    simp only [chunk, mapO] at h
    cases h
    simp [RepX]
  | n + 1, cs, vs, off, xs, hl, hr, hc, h => by
    rw [Nat.add_mul, Nat.one_mul] at hl
    simp only [chunk, mapO] at h
    split at h
    · rename_i y hy
      split at h
      · rename_i ys hys
        cases h
        have hlv := hr.length
        obtain ⟨k1, k2⟩ := chunk_rep h0 h1 n (cs.drop sz) (vs.drop sz) (off + sz) ys (by simp; omega) (hr.drop sz) (fun j v hj => by
          rw [List.getElem?_drop] at hj
          have := hc _ v hj
          rwa [← Nat.add_assoc] at this) hys
        refine ⟨?_, by simp [k2]⟩
        simp only [RepX]
        refine ⟨?_, k1⟩
        cases ag with
        | true =>
          simp only [if_true, plainEl] at hy
          cases hm : mapO plainLeaf (cs.take sz) with
          | none => simp [hm] at hy
          | some zs =>
            simp [hm] at hy
            subst hy
            obtain ⟨q1, q2, q3⟩ := plainL_some hm
            refine ⟨q1, .agg (vs.take sz).toArray, ?_, ?_, fun j v hj => ?_⟩
            · simp only [Rep]; exact ⟨_, rfl, q3 (hr.take sz)⟩
            · simp [Value.cells]; omega
            · simp only [Value.cells, List.getElem?_take] at hj
              split at hj
              · exact hc j v hj
              · cases hj
        | false =>
          have hsz := h1 rfl
          subst hsz
          simp only [Bool.false_eq_true, if_false] at hy
          cases cs with
          | nil => simp at hl
          | cons d cs =>
            simp only [List.headD_cons] at hy
            simp only [RepL] at hr
            obtain ⟨v, r, rfl, hd, _⟩ := hr
            have key : plainLeaf d = some y := by
              unfold plainEl at hy
              split at hy
              · have := (hc 0 v rfl).2.2
                simp only [Rep] at hd
                obtain ⟨_, rfl, _⟩ := hd
                simp [isOne] at this
              · exact hy
            obtain ⟨q1, q2⟩ := plainLeaf_some key
            have hone := (hc 0 v rfl).2.2
            refine ⟨?_, v, q2 hd, by rw [isOne_cells hone]; rfl, fun j u hj => ?_⟩
            · have : y.cells = [y] := by cases y <;> simp_all [DV.cells, DV.leaf]
              simp [this, q1]
            · rw [isOne_cells hone] at hj
              have hj0 : j = 0 := by
                have := (List.getElem?_eq_some_iff.1 hj).1
                simpa using this
              subst hj0
              simp at hj
              subst hj
              exact hc 0 v rfl
      · cases h
    · cases h
theorem rowCells_some {k off len : Nat} {cs : List DV} (h : rowCells H k off len = some cs) : ∃ e all, H[k]? = some (.cells e all) ∧ off + len ≤ all.length ∧ cs = (all.drop off).take len := by
  unfold rowCells at h
  split at h
  · rename_i e all hk
    split at h
    · rename_i hle
      cases h
      exact ⟨e, all, hk, hle, rfl⟩
    · cases h
  · cases h
/-- a row, as elements -/
theorem row_rep {J : Nat → Nat → Prop} {ag : Bool} {sz k off n b : Nat} {cs xs : List DV} (hH : HR B G w H) (hG : G[k]? = some (GK.cel b)) (hok : chunkOk ag sz n = true) (hc : rowCells H k off (n * sz) = some cs) (hx : mapO plainEl (chunk ag sz n cs) = some xs)
    (hJ : ∀ j, J b j) : RepX (ImmB B G) J w sz xs b off ∧ xs.length = n := by
  obtain ⟨h0, h1, h2⟩ := chunkOk_some hok
  obtain ⟨e, all, hk, hle, rfl⟩ := rowCells_some hc
  obtain ⟨C, q1, q2, q3⟩ := hH.cells hk hG
  refine chunk_rep h0 h1 n _ ((C.toList.drop off).take (n * sz)) off xs (by simp; omega) ((q2.drop off).take _) (fun j v hj => ?_) hx
  rw [List.getElem?_take] at hj
  split at hj
  · rw [List.getElem?_drop] at hj
    refine ⟨?_, hJ _, q3 v (List.mem_of_getElem? hj)⟩
    have := cells_at q1 _ v hj
    rwa [Nat.zero_add] at this
  · cases hj
/-- what append or copy reads -/
theorem src_rep {ag : Bool} {sz : Nat} {y : DV} {ys : List DV} {V : Value} (h : srcD ag sz y H = some ys) (hy : Rep (ImmB B G) w G y V) (hH : HR B G w H) :
    ∃ A c, V = .slice A ys.length c ∧ (ys = [] ∨ ∃ b o', A = some ⟨b, o', none⟩ ∧ RepX (ImmB B G) (fun _ _ => True) w sz ys b o') := by
  unfold srcD at h
  split at h
  · rename_i s zs tg
    split at h
    · rename_i hc
      cases h
      obtain ⟨A, c, rfl, _, _, hE, _⟩ := repX_val hy
      refine ⟨A, c, rfl, ?_⟩
      rcases hE with rfl | ⟨b, o', rfl, hE⟩
      · exact .inl rfl
      · by_cases hz : ys = []
        · exact .inl hz
        · have : s = sz := by
            cases ys with
            | nil => exact absurd rfl hz
            | cons x xs => simpa using hc
          subst this
          exact .inr ⟨b, o', rfl, hE.any⟩
    · cases h
  · rename_i a' s k off n c
    split at h
    · rename_i hc
      obtain ⟨rfl, rfl, hok⟩ := hc
      cases hr : rowCells H k off (n * s) with
      | none => simp [hr] at h
      | some cs =>
        simp only [hr, Option.bind_some] at h
        simp only [Rep] at hy
        obtain ⟨b, hG, rfl⟩ := hy
        obtain ⟨h1, h2⟩ := row_rep (J := fun _ _ => True) hH hG hok hr h (fun _ => trivial)
        exact ⟨_, c, by rw [h2], .inr ⟨b, off, rfl, h1⟩⟩
    · cases h
  · cases h
theorem cell_toList {w : World} {b : Nat} {C : Array Value} {e : TypeId} {f : Nat × Nat} (h : w.heap[b]? = some (.cells C e f)) (j : Nat) : w.cell? ⟨b, j, none⟩ = C.toList[j]? := by
  simp [World.cell?, h]
theorem HR.imm {B : Nat → Nat → Prop} {G : Gh} {w : World} {H : Heap} (h : HR B G w H) {k b sz cap hw j : Nat} (hG : G[k]? = some (GK.own b sz cap hw)) (hj : j < hw * sz) : ImmB B G b j := by
  refine ⟨h.bb k b (.inr ⟨_, _, _, hG⟩) j, fun k' hk => ?_, fun k' sz' cap' hw' hk => ?_⟩
  · have := h.dist k k' b (.inr ⟨_, _, _, hG⟩) (.inl hk)
    subst this
    rw [hG] at hk; cases hk
  · have := h.dist k k' b (.inr ⟨_, _, _, hG⟩) (.inr ⟨_, _, _, hk⟩)
    subst this
    rw [hG] at hk; cases hk
    exact hj
theorem zero_size {z : Value} {n : Nat} (h : (ofVal1 z).cells.length = n) : z.cells.size = n := by
  have key : ∀ v : Value, (leafOf v).cells.length = 1 := by
    intro v
    unfold leafOf
    split <;> rfl
  unfold ofVal1 at h
  split at h
  · simpa [DV.cells, Value.cells] using h
  · rename_i v hne
    rw [key] at h
    rw [← h]
    cases z with
    | agg cs => exact absurd rfl (hne cs)
    | _ => rfl
theorem zeroD_info {t : TypeId} {d : DV} {i : TypeInfo} (h : zeroD P t = some d) (hi : P.info? t = some i) : ∃ z, d = ofVal1 z ∧ i.zero = some z := by
  unfold zeroD at h
  simp only [hi, Option.bind_some] at h
  cases hz : i.zero with
  | none => simp [hz] at h
  | some z => simp [hz] at h; exact ⟨z, h.symm, rfl⟩
/-- append's run where a new row is made -/
theorem grow_run {t ty et : TypeId} {i : TypeInfo} {z : Value} {sz : Nat} {A : Option Addr} {n c m c2 b2 o2 : Nat} {olds news : List Value} (ht : P.underlying t = some (.slice et)) (hi : P.info? et = some i) (hz : i.zero = some z) (hsz : i.size = sz) (hzs : z.cells.size = sz)
    (hA : (A = none ∧ n = 0 ∧ c = 0) ∨ ∃ ad, A = some ad ∧ ∀ (j : Nat) (v : Value), olds[j]? = some v → w.cell? (ad.add j) = some v) (hlo : olds.length = n * sz) (hn : CellsAt (fun _ _ => True) w b2 o2 news) (hln : news.length = m * sz)
    (hg : c < n + m) (h63 : n + m ≤ 140737488355328) (hb : (n + m) * i.bytes ≤ 140737488355328) :
    ∃ cap C w', (Builtin.append_ #[t, t] ty #[.slice A n c, .slice (some ⟨b2, o2, none⟩) m c2]).run P w = .ok (.slice (some ⟨w.heap.size, 0, none⟩) (n + m) cap) w' ∧ More (.cells C et (0, 0)) w w' ∧
      n + m ≤ cap ∧ C.size = cap * sz ∧ C.toList.take ((n + m) * sz) = olds ++ news := by
  subst hsz
  have hlen : (olds ++ news).length = (n + m) * i.size := by rw [List.length_append, hlo, hln, Nat.add_mul]
  have hnews : ∀ j v, news[j]? = some v → w.cell? ((⟨b2, o2, none⟩ : Addr).add j) = some v := fun j v hj => by rw [addr_at]; exact (hn j v hj).1
  rcases hA with ⟨rfl, rfl, rfl⟩ | ⟨ad, rfl, hc⟩
  · have ho : olds = [] := List.eq_nil_of_length_eq_zero (by simpa using hlo)
    subst ho
    rw [Nat.zero_add] at hg h63 hb
    have hr := run_append_nil (P := P) w t ty et i z ht hi hz ⟨b2, o2, none⟩ m c2 news hln hnews (by omega) (by omega) (by omega)
    have hge := grownCap_ge w m 0 et
    simp only [Nat.zero_add]
    refine ⟨_, _, _, hr, ⟨rfl, rfl, rfl, rfl⟩, by omega, ?_, ?_⟩
    · simp only [Array.size_append, List.size_toArray, size_zeroCells, hzs, hln, ← Nat.add_mul]
      congr 1; omega
    · simp only [Array.toList_append, List.nil_append]
      rw [← hln]; exact List.take_left
  · have hr := run_append_grow (P := P) w t ty et i z ht hi hz ad n c olds hlo hc ⟨b2, o2, none⟩ m c2 news hln hnews hg (by omega) (growslice_fits hg hb)
    have hge := grownCap_ge w (n + m) c et
    refine ⟨_, _, _, hr, ⟨rfl, rfl, rfl, rfl⟩, hge, ?_, ?_⟩
    · simp only [Array.size_append, List.size_toArray, size_zeroCells, hzs, hlo, hln, ← Nat.add_mul]
      congr 1; omega
    · simp only [Array.toList_append, List.append_assoc]
      rw [← List.append_assoc, ← hlen]
      exact List.take_left
/-- two readings, one behind the other, in one row -/
theorem join_rep {G' : Gh} {w' : World} {I : Nat → Nat → Prop} {sz b' : Nat} {C : Array Value} {et : TypeId} {f : Nat × Nat} {xs ys : List DV} {olds news : List Value} (hst : Stay I (ImmB B G') w w')
    (hb : w'.heap[b']? = some (.cells C et f)) (hpre : C.toList.take ((xs.length + ys.length) * sz) = olds ++ news) (hI : ∀ j, j < (xs.length + ys.length) * sz → ImmB B G' b' j)
    (hx : xs = [] ∨ ∃ b o', RepX I (fun _ _ => True) w sz xs b o' ∧ CellsAt (fun _ _ => True) w b o' olds) (hlo : olds.length = xs.length * sz) {b2 o2 : Nat} (hy : RepX I (fun _ _ => True) w sz ys b2 o2) (hn : CellsAt (fun _ _ => True) w b2 o2 news) (hln : news.length = ys.length * sz) :
    RepX (ImmB B G') (ImmB B G') w' sz (xs ++ ys) b' 0 := by
  have hcell : ∀ j v, j < (xs.length + ys.length) * sz → (olds ++ news)[j]? = some v → w'.cell? ⟨b', j, none⟩ = some v := by
    intro j v hj hv
    rw [cell_toList hb, ← hv, ← hpre, List.getElem?_take_of_lt hj]
  rw [Nat.add_mul] at hcell hI
  refine RepX.app ?_ ?_
  · rcases hx with rfl | ⟨b, o', hx, hc⟩
    · simp [RepX]
    · refine hx.move hst fun j hj => ⟨?_, by rw [Nat.zero_add]; exact hI j (by omega)⟩
      rw [Nat.zero_add]
      have hv := List.getElem?_eq_getElem (show j < olds.length by omega)
      rw [(hc j _ hv).1]
      exact hcell j _ (by omega) (by rw [List.getElem?_append_left (by omega)]; exact hv)
  · refine hy.move hst fun j hj => ⟨?_, by rw [Nat.zero_add]; exact hI _ (by omega)⟩
    rw [Nat.zero_add]
    have hv := List.getElem?_eq_getElem (show j < news.length by omega)
    rw [(hn j _ hv).1]
    exact hcell _ _ (by omega) (by rw [List.getElem?_append_right (by omega), hlo, Nat.add_sub_cancel_left]; exact hv)
theorem empty_append_run {t ty et : TypeId} {i : TypeInfo} {A A2 : Option Addr} {n c c2 : Nat} (ht : P.underlying t = some (.slice et)) (hi : P.info? et = some i) (hc : n ≤ c) :
    (Builtin.append_ #[t, t] ty #[.slice A n c, .slice A2 0 c2]).run P w = .ok (.slice A n c) w := by
  cases A <;> cases A2 <;> simp [Builtin.append_, run_underlying ht, sizeOf, typeInfo, hi, Builtin.lenOf, hc, Builtin.firstCells, loadCells, loadCellsFrom, storeCells]
theorem op_append {c : Call} {x y : Operand} {t et : TypeId} {ag : Bool} {sz fl : Nat} {i : TypeInfo} {z : DV} (ho : o.op = .call c) (hc : c.callee = .builtin .append) (hx : c.args.toList = [x, y]) (ht : c.argTypes.toList = [t, t]) (hu : P.underlying t = some (.slice et))
    (hsz : aggSz P et = some (ag, sz)) (hi : P.info? et = some i) (hz : zeroD P et = some z) (hzs : z.cells.length = sz)
    (h : appendD et ag sz i.bytes (evalD slots x) (evalD slots y) H fl = some (d, e)) (hB : ∀ b j, w.heap.size ≤ b → B b j) (hH : HR B G w Hr) (hs : SR (ImmB B G) w G slots a) (hag : Agree e H Hr) (hfl : e.wr → fl ≤ H.length) :
    OpOk P B G w Hr o a d e ∧ (∀ k, k < fl → (e.heap H)[k]? = H[k]?) := by
  have hrun : (execOp a.eval o).run P w = ((Builtin.append_ #[t, t] o.type #[a.eval x, a.eval y]).run P w).andThen fun v w' => .ok (.value v) w' := by
    rw [built_run ho hc, args_eq hx, arr_eq ht]
    simp [builtin]
  have hvx := hs.eval x
  have hvy := hs.eval y
  obtain ⟨zv, rfl, hzv⟩ := zeroD_info hz hi
  have hzsz := zero_size hzs
  have hisz : i.size = sz := by
    obtain ⟨i', hi', h1, _⟩ := aggSz_some hsz
    rw [hi] at hi'; cases hi'; exact h1
  unfold appendD at h
  split at h
  · rename_i s xs tg ys hk hsrc
    rw [hk] at hvx
    obtain ⟨A, cx, ex, x1, x2, xE, xT⟩ := repX_val hvx
    split at h
    · cases h
      have hag : Hr = H := hag
      subst hag
      obtain ⟨A2, c2, ey, _⟩ := src_rep hsrc hvy hH
      refine ⟨OpOk.still hH (V := a.eval x) ?_ (hs.eval x) rfl, fun k _ => rfl⟩
      rw [hrun, ey, ex, List.length_nil, empty_append_run hu hi x1]
      rfl
    · rename_i hne
      split at h
      · rename_i hcond
        obtain ⟨q1, q2, q3, q4⟩ := hcond
        obtain ⟨h0, _, _⟩ := chunkOk_some q2
        have hagH : Hr = H := by
          split at h
          · cases h; exact hag
          · split at h
            · split at h
              · cases h; exact hag
              · cases h
            · cases h
          · cases h
        subst hagH
        obtain ⟨A2, c2, ey, yE⟩ := src_rep hsrc hvy hH
        obtain ⟨b2, o2, rfl, yX⟩ := yE.resolve_left (fun e => hne e)
        obtain ⟨news, n1, n2, _⟩ := yX.vals
        have hm : 0 < ys.length := by
          rcases Nat.eq_zero_or_pos ys.length with h' | h'
          · exact absurd (List.eq_nil_of_length_eq_zero h') (fun e => hne e)
          · exact h'
        have xss : xs = [] ∨ s = sz := by
          cases xs with
          | nil => exact .inl rfl
          | cons x xs => simp at q1; exact .inr q1
        have hold : ∃ olds : List Value, olds.length = xs.length * sz ∧ (xs = [] ∨ ∃ b o', A = some ⟨b, o', none⟩ ∧ RepX (ImmB B G) (ImmB B G) w sz xs b o' ∧ CellsAt (fun _ _ => True) w b o' olds) := by
          rcases xE with rfl | ⟨b, o', rfl, xE⟩
          · exact ⟨[], by simp, .inl rfl⟩
          · rcases xss with rfl | rfl
            · exact ⟨[], by simp, .inl rfl⟩
            · obtain ⟨us, u1, u2, _⟩ := xE.vals
              exact ⟨us, u1, .inr ⟨b, o', rfl, xE, u2.any⟩⟩
        obtain ⟨olds, l1, hold⟩ := hold
        have hxs : xs = [] ∨ ∃ b o', RepX (ImmB B G) (fun _ _ => True) w sz xs b o' ∧ CellsAt (fun _ _ => True) w b o' olds := hold.imp id fun ⟨b, o', _, h1, h2⟩ => ⟨b, o', h1.any, h2⟩
        split at h
        · cases h
          simp only [TagOk] at xT
          subst xT
          have hA : (A = none ∧ xs.length = 0 ∧ xs.length = 0) ∨ ∃ ad, A = some ad ∧ ∀ (j : Nat) (v : Value), olds[j]? = some v → w.cell? (ad.add j) = some v := by
            rcases hold with rfl | ⟨b, o', h1, _, h2⟩
            · cases A with
              | none => exact .inl ⟨rfl, rfl, rfl⟩
              | some ad =>
                have ho : olds = [] := List.eq_nil_of_length_eq_zero (by simpa using l1)
                subst ho
                exact .inr ⟨ad, rfl, fun j v hj => by simp at hj⟩
            · exact .inr ⟨_, h1, fun j v hj => by rw [addr_at]; exact (h2 j v hj).1⟩
          obtain ⟨cap, C, w', hr, hmo, g1, g2, g3⟩ := grow_run (ty := o.type) (c2 := c2) hu hi hzv hisz hzsz hA l1 n2 n1 (by omega) q4 q3
          obtain ⟨hK, hH'⟩ := step_token hH hB hmo g1 h0 q4 g2
          have hself : (G ++ [GK.own w.heap.size sz cap (xs.length + ys.length)])[Hr.length]? = some (GK.own w.heap.size sz cap (xs.length + ys.length)) := by rw [hH.len]; simp
          refine ⟨OpOk.val (V := .slice (some ⟨w.heap.size, 0, none⟩) (xs.length + ys.length) cap) ?_ hK hH' ?_, fun k hk => List.getElem?_append_left (by have := hfl (.inr rfl); omega)⟩
          · rw [hrun, ex, ey, hr]; rfl
          · have := repX_mk (xs := xs ++ ys) (t := .own Hr.length) (c := cap) (by simpa using g1) (by simpa using q4) (.inr ⟨_, _, rfl, join_rep hK.stay hmo.new g3 (fun j hj => hH'.imm hself hj) hxs l1 yX n2 n1⟩) (by
              simp only [TagOk]
              exact ⟨_, _, _, _, hself, by simp, fun _ => ⟨rfl, rfl, rfl⟩⟩)
            rw [List.length_append] at this
            exact this
        · rename_i k
          split at h
          · rename_i e' s' n hkH
            split at h
            · rename_i hc2
              obtain ⟨rfl, rfl, rfl, hfk⟩ := hc2
              cases h
              simp only [TagOk] at xT
              obtain ⟨b, s2, cap, hw, hG, t1, t2⟩ := xT
              have hblk := hH.blk _ _ _ hkH hG
              simp only [BlkRep] at hblk
              obtain ⟨rfl, rfl, k1, k2, k3, C, k4, k5⟩ := hblk
              obtain ⟨rfl, rfl, _⟩ := t2 rfl
              refine ⟨?_, fun j hj => List.getElem?_set_ne (by omega)⟩
              have hlt : k < G.length := (List.getElem?_eq_some_iff.1 hG).1
              have hA' : ∀ {cap'' : Nat}, RepX (ImmB B G) (ImmB B G) w s2 xs b 0 ∨ xs = [] := by
                intro _
                rcases hold with rfl | ⟨b', o', h1, h2, _⟩
                · exact .inr rfl
                · injection h1 with h1; injection h1 with h1 h3; subst h1; subst h3; exact .inl h2
              by_cases hroom : xs.length + ys.length ≤ cx
              · have hcl : ∀ v ∈ news, v.oneCell' = true := by
                  refine all_one fun v hv => ?_
                  obtain ⟨j, hj⟩ := List.mem_iff_getElem?.1 hv
                  exact (n2 j v hj).2.2
                have hfit : xs.length * i.size + news.length ≤ C.size := by rw [n1, k5, hisz, ← Nat.add_mul]; exact Nat.mul_le_mul_right _ hroom
                have hr := run_append_room (P := P) w t o.type e' i hu hi b xs.length cx C k4 ⟨b2, o2, none⟩ ys.length c2 news (by rw [hisz]; exact n1) (fun j u hj => by rw [addr_at]; exact (n2 j u hj).1) hcl hroom hfit
                rw [hisz] at hr hfit
                obtain ⟨C', hC'⟩ : ∃ C' : Array Value, (C.toList.take (xs.length * s2) ++ news ++ C.toList.drop (xs.length * s2 + news.length)).toArray = C' := ⟨_, rfl⟩
                rw [hC'] at hr
                have hCs : C'.size = cx * s2 := by
                  rw [← hC', ← k5]
                  simp only [List.size_toArray, List.length_append, List.length_take, List.length_drop, Array.length_toList]
                  omega
                have hnew := setRow_heap w b C C' e' (0, 0) k4
                have hlow : ∀ j, j < xs.length * s2 → (w.setRow b C').cell? ⟨b, j, none⟩ = w.cell? ⟨b, j, none⟩ := by
                  intro j hj
                  rw [cell_toList hnew, cell_toList k4, ← hC']
                  simp only [List.append_assoc]
                  rw [List.getElem?_append_left (by simp; omega), List.getElem?_take_of_lt hj]
                obtain ⟨hK, hH'⟩ := step_grow (e := e') (C' := C') (n' := xs.length + ys.length) (b' := b) (cap' := cx) hH hG hB (by omega) hroom h0 q4 hnew hCs (.inl ⟨rfl, but_setRow w b C', hlow⟩)
                have hself : (G.set k (GK.own b s2 cx (xs.length + ys.length)))[k]? = some (GK.own b s2 cx (xs.length + ys.length)) := List.getElem?_set_self hlt
                refine OpOk.val (V := .slice (some ⟨b, 0, none⟩) (xs.length + ys.length) cx) ?_ hK hH' ?_
                · rw [hrun, ex, ey, hr]; rfl
                · have hpre : C'.toList.take ((xs.length + ys.length) * s2) = C.toList.take (xs.length * s2) ++ news := by
                    rw [← hC', Nat.add_mul, ← n1]
                    simp only []
                    have : (C.toList.take (xs.length * s2) ++ news).length = xs.length * s2 + news.length := by simp; omega
                    rw [← this]
                    exact List.take_left
                  have hc0 : CellsAt (fun _ _ => True) w b 0 (C.toList.take (xs.length * s2)) := by
                    rcases hold with hx0 | ⟨b', o', h1, h2, h3⟩
                    · intro j v hj; rw [hx0] at hj; simp at hj
                    · injection h1 with h1; injection h1 with h1 h4; subst h1; subst h4
                      have : olds = C.toList.take (xs.length * s2) := by
                        refine List.ext_getElem? fun j => ?_
                        rcases Nat.lt_or_ge j (xs.length * s2) with hj | hj
                        · have hv := List.getElem?_eq_getElem (show j < olds.length by omega)
                          rw [List.getElem?_take_of_lt hj, hv, ← (h3 j _ hv).1, Nat.zero_add, cell_toList k4]
                        · rw [List.getElem?_eq_none (by omega), List.getElem?_eq_none (by simp; omega)]
                      rw [← this]; exact h3
                  have hx2 : xs = [] ∨ ∃ b o', RepX (ImmB B G) (fun _ _ => True) w s2 xs b o' ∧ CellsAt (fun _ _ => True) w b o' (C.toList.take (xs.length * s2)) := by
                    rcases hA' (cap'' := 0) with h1 | h1
                    · exact .inr ⟨b, 0, h1.any, hc0⟩
                    · exact .inl h1
                  have := repX_mk (xs := xs ++ ys) (t := .own k) (c := cx) (by simpa using hroom) (by simpa using q4) (.inr ⟨_, _, rfl, join_rep hK.stay hnew hpre (fun j hj => hH'.imm hself hj) hx2 (by simp; omega) yX n2 n1⟩) (by
                    simp only [TagOk]
                    exact ⟨_, _, _, _, hself, by simp, fun _ => ⟨rfl, rfl, rfl⟩⟩)
                  rw [List.length_append] at this
                  exact this
              · have hA : (some (⟨b, 0, none⟩ : Addr) = none ∧ xs.length = 0 ∧ cx = 0) ∨ ∃ ad, some (⟨b, 0, none⟩ : Addr) = some ad ∧ ∀ (j : Nat) (v : Value), olds[j]? = some v → w.cell? (ad.add j) = some v := by
                  right
                  rcases hold with hx0 | ⟨b', o', h1, _, h2⟩
                  · have : olds = [] := List.eq_nil_of_length_eq_zero (by rw [l1, hx0]; simp)
                    subst this
                    exact ⟨_, rfl, fun j v hj => by simp at hj⟩
                  · exact ⟨_, h1, fun j v hj => by rw [addr_at]; exact (h2 j v hj).1⟩
                obtain ⟨cap, C2, w', hr, hmo, g1, g2, g3⟩ := grow_run (ty := o.type) (c2 := c2) hu hi hzv hisz hzsz hA l1 n2 n1 (by omega) q4 q3
                obtain ⟨hK, hH'⟩ := step_grow (e := e') (C' := C2) (n' := xs.length + ys.length) hH hG hB (by omega) g1 h0 q4 hmo.new g2 (.inr ⟨rfl, hmo⟩)
                have hself : (G.set k (GK.own w.heap.size s2 cap (xs.length + ys.length)))[k]? = some (GK.own w.heap.size s2 cap (xs.length + ys.length)) := List.getElem?_set_self hlt
                refine OpOk.val (V := .slice (some ⟨w.heap.size, 0, none⟩) (xs.length + ys.length) cap) ?_ hK hH' ?_
                · rw [hrun, ex, ey, hr]; rfl
                · have := repX_mk (xs := xs ++ ys) (t := .own k) (c := cap) (by simpa using g1) (by simpa using q4) (.inr ⟨_, _, rfl, join_rep hK.stay hmo.new g3 (fun j hj => hH'.imm hself hj) hxs l1 yX n2 n1⟩) (by
                    simp only [TagOk]
                    exact ⟨_, _, _, _, hself, by simp, fun _ => ⟨rfl, rfl, rfl⟩⟩)
                  rw [List.length_append] at this
                  exact this
            · cases h
          · cases h
        · cases h
      · cases h
  · cases h
end Go.Proofs.Ytbhnkdnfmlnajaa
