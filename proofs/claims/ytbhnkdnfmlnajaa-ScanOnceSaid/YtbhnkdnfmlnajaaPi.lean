/- Deep values: a run of Go code over plain lists, without memory of its own order: definitions. -/
import Derived.Test.YtbhnkdnfmlnajaaProg
import Derived.Calls
import Derived.KernelRfl
namespace Go.Proofs.Ytbhnkdnfmlnajaa
open Go

/-- how a list's row ends: it may be shared; it has no room behind it; its room is held by the token k -/
inductive Tag where
  | sh | ti | own (k : Nat)
  deriving Inhabited, DecidableEq
/-- a deep value -/
inductive DV where
  | any
  | flat (v : Value)
  | agg (cs : List DV)
  | tup (cs : List DV)
  | list (sz : Nat) (xs : List DV) (t : Tag)
  | ptr (k off : Nat)
  | row (ag : Bool) (sz k off n c : Nat)
  | elem (x : DV) (off : Nat)
  | clo (fn : Fn) (first cap : List DV)
  | iface (t : TypeId) (d : DV)
  deriving Inhabited
inductive DBlk where
  | hole
  | cells (e : TypeId) (cs : List DV)
  | token (e : TypeId) (sz n : Nat)
  deriving Inhabited
abbrev Heap := List DBlk
abbrev R := Option (DV × Heap)
/-- what an operation does to the heap: it does not look at it; it loads; it lets a function look; it fills a hole; it turns it into H -/
inductive Eff where
  | q | rd | ro | al (k : Nat) (b : DBlk) | ch (H : Heap) | tk (H : Heap)
def Eff.heap : Eff → Heap → Heap
  | .ch H, _ => H
  | .tk H, _ => H
  | .al k b, H => H.set k b
  | _, H => H
def Eff.cls : Eff → Nat
  | .q => 0 | .rd => 1 | .ch _ => 2 | .al .. => 3 | .ro => 4 | .tk _ => 5
/-- does it write? -/
def Eff.wr (e : Eff) : Prop := e.cls = 2 ∨ e.cls = 5
/-- the heap that it leaves, whatever was there -/
def Eff.abs : Eff → Option Heap
  | .ch H => some H
  | .tk H => some H
  | _ => none
abbrev EO := Option (DV × Eff)
def qv (x : Option DV) : EO := x.map fun d => (d, .q)
def rv (x : Option DV) : EO := x.map fun d => (d, .rd)
def ov (x : Option DV) : EO := x.map fun d => (d, .ro)

def isOne : Value → Bool
  | .agg _ | .tuple _ => false
  | _ => true
def DV.leaf : DV → Bool
  | .flat v => isOne v
  | .list .. | .ptr .. | .row .. | .elem .. | .clo .. | .iface .. => true
  | _ => false
def DV.cells : DV → List DV
  | .agg cs => cs
  | d => [d]
def mkl (sz : Nat) (xs : List DV) (t : Tag) : DV := match xs with | [] => .list 0 [] t | _ => .list sz xs t
def leafOf : Value → DV
  | .slice none 0 0 => .list 0 [] .ti
  | v => .flat v
def ofVal1 : Value → DV
  | .agg cs => .agg (cs.toList.map leafOf)
  | v => leafOf v
def ofVal : Value → DV
  | .tuple cs => if cs.size = 0 then .flat (.tuple cs) else .tup (cs.toList.map ofVal1)
  | v => ofVal1 v
def flatV : DV → Option Value
  | .flat v => some v
  | _ => none
def mapO {α β : Type} (f : α → Option β) : List α → Option (List β)
  | [] => some []
  | x :: l => match f x with
    | some y => match mapO f l with
      | some r => some (y :: r)
      | none => none
    | none => none
/-- the one value that a deep value stands for, if it holds no list and no address -/
def toVal : DV → Option Value
  | .flat v => some v
  | .agg cs => (mapO flatV cs).map fun vs => .agg vs.toArray
  | _ => none
def pureRun {α : Type} (P : Program) : Sem α → Option α
  | .pure a => some a
  | .program k => pureRun P (k P)
  | .mark _ k => pureRun P k
  | _ => none
def pureV (P : Program) (s : Sem Value) : Option DV := (pureRun P s).map ofVal
def evalD (slots : List DV) : Operand → DV
  | .tmp t => slots.getD t .any
  | .const v => ofVal v
  | .global g => .flat (.pointer (some ⟨g, 0, none⟩))
  | .func f => .flat (.func (.func f) #[] #[])
def aggSz (P : Program) (t : TypeId) : Option (Bool × Nat) :=
  match P.underlying t, P.info? t with
  | some d, some i => some (match d with | .struct _ | .array _ _ => true | _ => false, i.size)
  | _, _ => none
def zeroD (P : Program) (t : TypeId) : Option DV := ((P.info? t).bind (·.zero)).map ofVal1
def partD (ag : Bool) (sz off : Nat) (cs : List DV) : Option DV :=
  if ag then (if off + sz ≤ cs.length then some (.agg ((cs.drop off).take sz)) else none) else cs[off]?
def splice (off : Nat) (new old : List DV) : List DV := old.take off ++ new ++ old.drop (off + new.length)
def fillD (place : Nat → Option (Nat × Nat)) (cells : List DV) : List (Nat × DV) → Option (List DV)
  | [] => some cells
  | (i, d) :: rest => match place i with
    | none => none
    | some (off, size) => if d.cells.length ≠ size ∨ off + d.cells.length > cells.length ∨ d.cells.all DV.leaf = false then none else fillD place (splice off d.cells cells) rest
def placesD (P : Program) (fs : List Field) : Option (List (Nat × Nat)) := mapO (fun f => (P.info? f.type).map fun i => (f.offset, i.size)) fs
def buildS (zero : DV) (pl : List (Nat × Nat)) (parts : List (Nat × DV)) : Option DV := (fillD (pl[·]?) zero.cells parts).map .agg
def buildA (zero : DV) (size : Nat) (parts : List (Nat × DV)) : Option DV := (fillD (fun i => some (i * size, size)) zero.cells parts).map .agg
def chunk (ag : Bool) (sz : Nat) : Nat → List DV → List DV
  | 0, _ => []
  | n + 1, cs => (if ag then DV.agg (cs.take sz) else cs.headD .any) :: chunk ag sz n (cs.drop sz)
def chunkOk (ag : Bool) (sz n : Nat) : Bool := decide (0 < sz) && (ag || sz == 1) && decide (n ≤ 140737488355328)
/-- a value as it may be handed out of a heap: rows become lists, tokens go, addresses from n0 on are refused -/
def shareL (f : DV → Option DV) : List DV → Option (List DV) := mapO f
def shTag (ti : Bool) : Tag → Tag
  | .ti => if ti then .ti else .sh
  | _ => .sh
def rowCells (H : Heap) (k off len : Nat) : Option (List DV) :=
  match H[k]? with
  | some (.cells _ cs) => if off + len ≤ cs.length then some ((cs.drop off).take len) else none
  | _ => none
/-- a leaf that holds no address of a heap -/
def plainLeaf : DV → Option DV
  | .flat v => if isOne v then some (.flat v) else none
  | .list sz xs .ti => some (.list sz xs .ti)
  | .list sz xs _ => some (.list sz xs .sh)
  | _ => none
def plainEl : DV → Option DV
  | .agg cs => (mapO plainLeaf cs).map .agg
  | d => plainLeaf d
/-- a slice literal's row -/
def buildL (ag : Bool) (sz len : Nat) (zero : DV) (parts : List (Nat × DV)) : Option DV :=
  if len * sz > 2 ^ 24 then none else
  if zero.cells.length = sz ∧ chunkOk ag sz len = true ∧ zero.cells.all DV.leaf = true then
  match fillD (fun i => some (i * sz, sz)) (List.replicate len zero.cells).flatten parts with
  | some cs => (mapO plainEl (chunk ag sz len cs)).map fun xs => mkl sz xs .ti
  | none => none
  else none
def loadD (ag : Bool) (sz : Nat) (p : DV) (H : Heap) : EO :=
  match p with
  | .ptr k off => match H[k]? with
    | some (.cells _ cs) => rv (partD ag sz off cs)
    | _ => none
  | .elem x off => qv (partD ag sz off x.cells)
  | _ => none
def storeD (sz : Nat) (p d : DV) (H : Heap) (fl : Nat) : EO :=
  match p with
  | .ptr k off => match H[k]? with
    | some (.cells e cs) =>
      if fl ≤ k ∧ d.cells.length = sz ∧ off + sz ≤ cs.length ∧ d.cells.all DV.leaf = true then some (.flat undef, .ch (H.set k (.cells e (splice off d.cells cs)))) else none
    | _ => none
  | _ => none
def allocD (e : TypeId) (d : DV) (nid : Nat) : EO :=
  if d.cells.all DV.leaf = true then some (.ptr nid 0, .al nid (.cells e d.cells)) else none
def intD : DV → Option Int
  | .flat (.int _ n) => some n
  | _ => none
def optD : Option DV → Option (Option Int)
  | none => some none
  | some d => (intD d).map some
def fieldD (fo sz : Nat) (x : DV) : Option DV :=
  if sz = 0 then none else
  match x with
  | .ptr k off => some (.ptr k (off + fo))
  | .elem x off => some (.elem x (off + fo))
  | _ => none
def idxArr (len sz : Nat) (x i : DV) : Option DV :=
  match intD i with
  | some n => if 0 ≤ n ∧ n < len then
      match x with
      | .ptr k off => some (.ptr k (off + n.toNat * sz))
      | .elem x off => some (.elem x (off + n.toNat * sz))
      | _ => none
    else none
  | none => none
def idxSl (sz : Nat) (x i : DV) : Option DV :=
  match intD i with
  | some n => if 0 ≤ n then
      match x with
      | .list s xs _ => if s = sz then (xs[n.toNat]?).map fun e => .elem e 0 else none
      | .row _ s k off len _ => if s = sz ∧ n < len then some (.ptr k (off + n.toNat * sz)) else none
      | _ => none
    else none
  | none => none
def boundsD (isList : Bool) (len cap : Nat) (lo hi mx : Option Int) : Option (Nat × Nat × Nat) :=
  let m : Int := mx.getD (cap : Int)
  let h : Int := hi.getD (len : Int)
  let l : Int := lo.getD 0
  if 0 ≤ l ∧ l ≤ h ∧ h ≤ m ∧ (h ≤ len) ∧ (mx.isNone ∨ m ≤ len) ∧ m ≤ cap ∧ (isList = false ∨ mx.isNone ∨ hi.isSome) ∧ (mx.isNone ∨ hi.isSome) then some (l.toNat, h.toNat, m.toNat) else none
def sliceL (sz : Nat) (xs : List DV) (t : Tag) (lo hi mx : Option Int) : Option DV :=
  match boundsD true xs.length xs.length lo hi mx with
  | some (l, h, m) => some (mkl sz ((xs.take h).drop l) (if mx.isSome ∧ m = h then .ti else if mx.isNone ∧ h = xs.length ∧ t = .ti then .ti else .sh))
  | none => none
def sliceSl (ts : Nat) (x : DV) (lo hi mx : Option Int) : Option DV :=
  match x with
  | .list sz xs t => if (xs.isEmpty || sz == ts) = true then sliceL ts xs t lo hi mx else none
  | .row ag sz k off n c => if sz ≠ ts ∨ c < n then none else match boundsD false n c lo hi mx with
    | some (l, h, m) => some (.row ag sz k (if m = l then off else off + l * sz) (h - l) (m - l))
    | none => none
  | _ => none
def sliceAr (ag : Bool) (n sz : Nat) (x : DV) (lo hi mx : Option Int) : Option DV :=
  match x with
  | .ptr k off => match boundsD false n n lo hi mx with
    | some (l, h, m) => some (.row ag sz k (if m = l then off else off + l * sz) (h - l) (m - l))
    | none => none
  | _ => none
def lenD : DV → Option DV
  | .list _ xs _ => some (.flat (.int .i64 xs.length))
  | .row _ _ _ _ n _ => some (.flat (.int .i64 n))
  | _ => none
def lenStr : DV → Option DV
  | .flat (.string s) => some (.flat (.int .i64 s.size))
  | _ => none
def capD : DV → Option DV
  | .list _ xs .ti => some (.flat (.int .i64 xs.length))
  | .row _ _ _ _ _ c => some (.flat (.int .i64 c))
  | _ => none
/-- the elements that a source of append or copy has -/
def srcD (ag : Bool) (sz : Nat) (y : DV) (H : Heap) : Option (List DV) :=
  match y with
  | .list s ys _ => if ys.isEmpty || s == sz then some ys else none
  | .row a s k off n _ => if a = ag ∧ s = sz ∧ chunkOk ag sz n = true then (rowCells H k off (n * sz)).bind fun cs => mapO plainEl (chunk ag sz n cs) else none
  | _ => none
def appendD (e : TypeId) (ag : Bool) (sz bytes : Nat) (x y : DV) (H : Heap) (fl : Nat) : EO :=
  match x, srcD ag sz y H with
  | .list s xs t, some ys =>
    match ys with
    | [] => some (x, .tk H)
    | _ =>
      if (xs.isEmpty || s == sz) = true ∧ chunkOk ag sz 0 = true ∧ (xs.length + ys.length) * bytes ≤ 140737488355328 ∧ xs.length + ys.length ≤ 140737488355328 then
        match t with
        | .ti => some (.list sz (xs ++ ys) (.own H.length), .tk (H ++ [.token e sz (xs.length + ys.length)]))
        | .own k => match H[k]? with
          | some (.token e' s' n) => if e' = e ∧ s' = sz ∧ n = xs.length ∧ fl ≤ k then some (.list sz (xs ++ ys) (.own k), .tk (H.set k (.token e sz (n + ys.length)))) else none
          | _ => none
        | .sh => none
      else none
  | _, _ => none
def copyD (ag : Bool) (sz : Nat) (x y : DV) (H : Heap) (fl : Nat) : EO :=
  match x, srcD ag sz y H with
  | .row a s k off n _, some ys =>
    if a = ag ∧ s = sz ∧ fl ≤ k then
      match H[k]? with
      | some (.cells e cs) =>
        let m := min ys.length n
        let new := ((ys.take m).map DV.cells).flatten
        if off + m * sz ≤ cs.length ∧ new.length = m * sz then some (.flat (.int .i64 m), .ch (H.set k (.cells e (splice off new cs)))) else none
      | _ => none
    else none
  | _, _ => none
def makeD (ag : Bool) (sz bytes : Nat) (e : TypeId) (zero l c : DV) (nid : Nat) : EO :=
  match intD l, intD c with
  | some l, some c => if l = c ∧ 0 ≤ l ∧ l * bytes ≤ 140737488355328 ∧ l ≤ 140737488355328 ∧ zero.cells.length = sz ∧ 0 < sz ∧ zero.cells.all DV.leaf = true then
      some (.row ag sz nid 0 l.toNat l.toNat, .al nid (.cells e (List.replicate l.toNat zero.cells).flatten)) else none
  | _, _ => none
/-- is a nil of its type compared with what is none? -/
def nilEq (P : Program) (t : TypeId) (a : DV) (v : Value) : Bool :=
  match P.underlying t, a, v with
  | some (.pointer _), .ptr .., .pointer none => true
  | some (.pointer _), .elem .., .pointer none => true
  | some (.interface _), .iface .., .nilIface => true
  | some (.func ..), .clo .., .nilFunc => true
  | some (.slice _), .list _ (_ :: _) _, .slice none 0 0 => true
  | _, _, _ => false
def eqRes (op : BinOp) : Option DV :=
  match op with
  | .eql => some (.flat (.bool false))
  | .neq => some (.flat (.bool true))
  | _ => none
def arD (P : Program) (op : BinOp) (t : TypeId) (a b : DV) : Option DV :=
  match toVal a, toVal b with
  | some va, some vb => pureV P (binOp op t va vb)
  | _, _ => none
def eqD (P : Program) (op : BinOp) (t : TypeId) (x y : Operand) (a b : DV) : Option DV :=
  match toVal a, toVal b with
  | some va, some vb => pureV P (do eqGuard op t x y va vb; binOp op t va vb)
  | none, some vb => if nilEq P t a vb then eqRes op else none
  | none, none => (match y with
    | .const v => if nilEq P t a v then eqRes op else none
    | _ => none)
  | _, _ => none
def binD (P : Program) (op : BinOp) (t : TypeId) (x y : Operand) (a b : DV) : Option DV :=
  match op with
  | .eql => eqD P .eql t x y a b
  | .neq => eqD P .neq t x y a b
  | op => arD P op t a b
def unD (P : Program) (op : UnOp) (a : DV) : Option DV := (toVal a).bind fun va => pureV P (Op.unary op va)
def byteOf : DV → Option UInt8
  | .flat (.int .u8 n) => if 0 ≤ n ∧ n < 256 then some (UInt8.ofNat n.toNat) else none
  | _ => none
/-- a list of bytes as a string -/
def strD (P : Program) (s d : TypeId) (xs : List DV) : Option DV := match P.underlying s, P.underlying d with
  | some (.slice e), some .string => (match P.underlying e with
    | some (.int .u8) => (mapO byteOf xs).map fun l => .flat (.string ⟨l.toArray⟩)
    | _ => none)
  | _, _ => none
/-- a string as a list of bytes -/
def bytD (P : Program) (s d : TypeId) (x : ByteArray) : Option DV := match P.underlying s, P.underlying d with
  | some .string, some (.slice e) => (match P.underlying e with
    | some (.int .u8) => if x.size ≤ 1000000 then some (mkl 1 (x.data.toList.map fun c => .flat (.int .u8 (c.toNat : Int))) .sh) else none
    | _ => none)
  | _, _ => none
def convD (P : Program) (s d : TypeId) (a : DV) : Option DV := match a with
  | .list _ xs _ => strD P s d xs
  | .flat (.string x) => (match bytD P s d x with
    | some r => some r
    | none => pureV P (convert s d (.string x)))
  | a => (toVal a).bind fun va => pureV P (convert s d va)
def pickD (c a b : DV) : Option DV :=
  match c with
  | .flat (.bool t) => some (if t then a else b)
  | _ => none
def nilD (a : DV) : Option DV :=
  match a with
  | .ptr k off => some (.ptr k off)
  | .elem x off => some (.elem x off)
  | .clo (.func f) x y => some (.clo (.func f) x y)
  | .flat (.func (.func f) x y) => some (.flat (.func (.func f) x y))
  | _ => none
def extD (i : Nat) (a : DV) : Option DV :=
  match a with
  | .tup cs => cs[i]?
  | _ => none
def builtD (P : Program) (b : Builtin) (ts : Array TypeId) (t : TypeId) (args : List DV) : Option DV :=
  (mapO toVal args).bind fun vs => match b with
    | .max => pureV P (Builtin.max_ ts t vs.toArray)
    | .min => pureV P (Builtin.min_ ts t vs.toArray)
    | _ => none

/-- how a function is called: with lists alone; it only looks at the heap; it may write the heap, and what it makes goes; what it makes stays -/
inductive CM where
  | pure (ti : Bool) | ro | rw | keep
/-- a value as a pure call hands it out -/
def outLeaf (ti : Bool) (H : Heap) : DV → Option DV
  | .flat v => if isOne v then some (.flat v) else none
  | .list sz xs t => some (.list sz xs (shTag ti t))
  | .row ag sz k off n c => if chunkOk ag sz n = true ∧ n ≤ c then ((rowCells H k off (n * sz)).bind fun cs => mapO plainEl (chunk ag sz n cs)).map fun xs => mkl sz xs (if ti && n == c then .ti else .sh) else none
  | _ => none
def outEl (ti : Bool) (H : Heap) : DV → Option DV
  | .agg cs => (mapO (outLeaf ti H) cs).map .agg
  | .flat v => some (.flat v)
  | d => outLeaf ti H d
def outD (ti : Bool) (H : Heap) : DV → Option DV
  | .tup cs => (mapO (outEl ti H) cs).map .tup
  | d => outEl ti H d
mutual
/-- does a value name no block from n0 on? -/
def inSc (n0 : Nat) : DV → Bool
  | .agg cs => inScL n0 cs
  | .tup cs => inScL n0 cs
  | .list _ _ (.own k) => decide (k < n0)
  | .ptr k _ => decide (k < n0)
  | .row _ _ k _ _ _ => decide (k < n0)
  | .clo _ f c => inScL n0 f && inScL n0 c
  | .iface _ d => inSc n0 d
  | _ => true
def inScL (n0 : Nat) : List DV → Bool
  | [] => true
  | d :: l => inSc n0 d && inScL n0 l
end
/-- what a call that makes blocks leaves in the old heap -/
def oldLeaf (n0 : Nat) (H : Heap) (d : DV) : Option DV :=
  if d.leaf && inSc n0 d then some d else
  match d with
  | .list sz xs _ => some (.list sz xs .sh)
  | .row ag sz k off n c => if n0 ≤ k then outLeaf true H (.row ag sz k off n c) else none
  | _ => none
def oldEl (n0 : Nat) (H : Heap) : DV → Option DV
  | .agg cs => (mapO (oldLeaf n0 H) cs).map .agg
  | .flat v => some (.flat v)
  | d => oldLeaf n0 H d
def oldD (n0 : Nat) (H : Heap) : DV → Option DV
  | .tup cs => (mapO (oldEl n0 H) cs).map .tup
  | d => oldEl n0 H d
def oldBlk (n0 : Nat) (H : Heap) : DBlk → Option DBlk
  | .cells e cs => (mapO (oldLeaf n0 H) cs).map (.cells e)
  | b => some b
def cutH (n0 : Nat) (H : Heap) : Option Heap := mapO (oldBlk n0 H) (H.take n0)
/-- an argument of a pure call -/
def argEl (d : DV) : Option DV := outEl false [] d
abbrev CF := FuncId → List DV → Heap → Nat → R
def callD (cf : CF) (m : CM) (fl : Nat) (f : FuncId) (args : List DV) (H : Heap) : EO :=
  match m with
  | .pure ti => (mapO argEl args).bind fun bs => (cf f bs [] 0).bind fun r => qv (outD ti r.2 r.1)
  | .ro => (cf f args H H.length).bind fun r => ov (oldD H.length r.2 r.1)
  | .rw => (cf f args H fl).bind fun r => (oldD H.length r.2 r.1).bind fun d => (cutH H.length r.2).map fun H' => (d, .ch H')
  | .keep => (cf f args H fl).map fun r => (r.1, .ch r.2)
def fnOf (d : DV) : Option (FuncId × List DV) :=
  match d with
  | .flat (.func (.func f) first cap) => if first.size = 0 ∧ cap.size = 0 then some (f, []) else none
  | .clo (.func f) [] cap => some (f, cap)
  | _ => none
def callV (cf : CF) (md : FuncId → CM) (fl : Nat) (f : DV) (args : List DV) (H : Heap) : EO :=
  match fnOf f with
  | some (g, cap) => callD cf (md g) fl g (args ++ cap) H
  | none => none
def callOp (P : Program) (cf : CF) (md : FuncId → CM) (fl : Nat) (o : Oper) (c : Call) (ρ : Operand → DV) (H : Heap) : EO :=
  match c.callee with
  | .builtin .len => match c.args.toList, c.argTypes.toList with
    | [x], [t] => qv (match P.underlying t with
      | some (.array n _) => some (.flat (.int .i64 n))
      | some (.slice _) => lenD (ρ x)
      | some .string => lenStr (ρ x)
      | _ => none)
    | _, _ => none
  | .builtin .cap => match c.args.toList, c.argTypes.toList with
    | [x], [t] => qv (match P.underlying t with
      | some (.slice _) => capD (ρ x)
      | _ => none)
    | _, _ => none
  | .builtin .append => match c.args.toList, c.argTypes.toList with
    | [x, y], [t, t'] => if t' = t then match P.underlying t with
      | some (.slice e) => match aggSz P e, P.info? e, zeroD P e with
        | some (ag, sz), some i, some z => if z.cells.length = sz then appendD e ag sz i.bytes (ρ x) (ρ y) H fl else none
        | _, _, _ => none
      | _ => none else none
    | _, _ => none
  | .builtin .copy => match c.args.toList, c.argTypes.toList with
    | [x, y], [t, _] => match P.underlying t with
      | some (.slice e) => match aggSz P e with
        | some (ag, sz) => copyD ag sz (ρ x) (ρ y) H fl
        | _ => none
      | _ => none
    | _, _ => none
  | .builtin b => qv (builtD P b c.argTypes o.type (c.args.toList.map ρ))
  | .value f => callV cf md fl (ρ f) (c.args.toList.map ρ) H
  | _ => none
def slX (ts : Nat) (x : DV) (lo hi mx : Option DV) : Option DV :=
  match optD lo, optD hi, optD mx with
  | some l, some h, some m => sliceSl ts x l h m
  | _, _, _ => none
def saX (ag : Bool) (n sz : Nat) (x : DV) (lo hi mx : Option DV) : Option DV :=
  match optD lo, optD hi, optD mx with
  | some l, some h, some m => sliceAr ag n sz x l h m
  | _, _, _ => none
def fldD (ag : Bool) (sz off : Nat) (x : DV) : Option DV :=
  match x with
  | .agg cs => partD ag sz off cs
  | _ => none
def idxV (ag : Bool) (sz len : Nat) (x i : DV) : Option DV :=
  match intD i, x with
  | some n, .agg cs => if 0 ≤ n ∧ n < len then partD ag sz (n.toNat * sz) cs else none
  | _, _ => none
/-- one operation -/
def evalO (P : Program) (cf : CF) (md : FuncId → CM) (fl nid : Nat) (o : Oper) (slots : List DV) (H : Heap) : EO :=
  let ρ := evalD slots
  match o.op with
  | .move x | .assign x => some (ρ x, .q)
  | .pick c a b => qv (pickD (ρ c) (ρ a) (ρ b))
  | .alloc e => (zeroD P e).bind fun d => allocD e d nid
  | .box e x => allocD e (ρ x) nid
  | .build t parts => match P.underlying t, (zeroD P t).filter (fun z => z.cells.all DV.leaf) with
    | some (.struct fs), some z => match placesD P fs.toList with
      | some pl => qv (buildS z pl (parts.toList.map fun p => (p.1, ρ p.2)))
      | none => none
    | some (.array _ e), some z => match P.info? e with
      | some i => qv (buildA z i.size (parts.toList.map fun p => (p.1, ρ p.2)))
      | none => none
    | _, _ => none
  | .buildSlice t len parts => match P.underlying t with
    | some (.slice e) => match aggSz P e, zeroD P e with
      | some (ag, sz), some z => qv (buildL ag sz len z (parts.toList.map fun p => (p.1, ρ p.2)))
      | _, _ => none
    | _ => none
  | .load t a => match aggSz P t with
    | some (ag, sz) => loadD ag sz (ρ a) H
    | none => none
  | .store t a x => match aggSz P t with
    | some (_, sz) => storeD sz (ρ a) (ρ x) H fl
    | none => none
  | .nilCheck x => qv (nilD (ρ x))
  | .binOp op t x y _ => qv (binD P op t x y (ρ x) (ρ y))
  | .unOp op _ x => qv (unD P op (ρ x))
  | .convert s d x => qv (convD P s d (ρ x))
  | .makeInterface t x => match P.underlying t with
    | some (.interface _) => none
    | some _ => some (.iface t (ρ x), .q)
    | none => none
  | .makeFunc fn first cap => some (.clo fn (first.toList.map ρ) (cap.toList.map ρ), .q)
  | .makeSlice t l c => match P.underlying t with
    | some (.slice e) => match aggSz P e, P.info? e, zeroD P e with
      | some (ag, sz), some i, some z => makeD ag sz i.bytes e z (ρ l) (ρ c) nid
      | _, _, _ => none
    | _ => none
  | .slice t x lo hi mx => match P.underlying t with
    | some (.slice e) => match aggSz P e with
      | some (_, sz) => qv (slX sz (ρ x) (lo.map ρ) (hi.map ρ) (mx.map ρ))
      | none => none
    | some (.array n e) => match aggSz P e with
      | some (ag, sz) => qv (saX ag n sz (ρ x) (lo.map ρ) (hi.map ρ) (mx.map ρ))
      | none => none
    | _ => none
  | .fieldAddr s x f => match P.underlying s with
    | some (.struct fs) => match fs[f]? with
      | some fd => match P.info? fd.type with
        | some i => qv (fieldD fd.offset i.size (ρ x))
        | none => none
      | none => none
    | _ => none
  | .field t x f => match P.underlying t with
    | some (.struct fs) => match fs[f]? with
      | some fd => match aggSz P fd.type with
        | some (ag, sz) => qv (fldD ag sz fd.offset (ρ x))
        | none => none
      | none => none
    | _ => none
  | .indexAddr t x i => match P.underlying t with
    | some (.array len e) => match P.info? e with
      | some ie => qv (idxArr len ie.size (ρ x) (ρ i))
      | none => none
    | some (.slice e) => match P.info? e with
      | some ie => qv (idxSl ie.size (ρ x) (ρ i))
      | none => none
    | _ => none
  | .index t x i => match P.underlying t with
    | some (.array len e) => match aggSz P e with
      | some (ag, sz) => qv (idxV ag sz len (ρ x) (ρ i))
      | none => none
    | _ => none
  | .extract t i => qv (extD i (ρ t))
  | .call c => callOp P cf md fl o c ρ H
  | _ => none

structure St where
  slots : List DV
  heap : Heap
def putD (slots : List DV) (dst : Option Tmp) (d : DV) : List DV :=
  match dst with
  | some t => slots.set t d
  | none => slots
def guardD (d : DV) (want : Bool) : Option Bool :=
  match d with
  | .flat (.bool b) => some (b == want)
  | .flat (.tuple _) => some false
  | _ => none
def wantE (w : Option Bool) (x : EO) : EO :=
  match w with
  | none => none
  | some true => x
  | some false => some (.flat undef, .q)
/-- is an operation wanted? none: that is not known -/
def wantD (ops : Array Oper) (o : Oper) (slots : List DV) : Option Bool :=
  match o.guard with
  | none => some true
  | some (j, want) => match ((ops[j]?).bind (·.dst)) with
    | some t => guardD (slots.getD t .any) want
    | none => none
structure Ctx where
  P : Program
  cf : CF
  md : FuncId → CM
  fl : Nat
  N : Nat
def isAl (o : Oper) : Bool := match o.op with | .alloc _ | .box .. | .makeSlice .. => true | _ => false
def opK (X : Ctx) (ops : Array Oper) (nid : Nat) (o : Oper) (S : St) (k : Nat → St → R) : R :=
  (wantE (wantD ops o S.slots) (evalO X.P X.cf X.md X.fl nid o S.slots S.heap)).bind fun p => k p.2.cls ⟨putD S.slots o.dst p.1, p.2.heap S.heap⟩
/-- a region in the order of the text; the classes of its operations are listed, the last first -/
def opsK (X : Ctx) (ops : Array Oper) : List Oper → Nat → List Nat → St → (List Nat → St → R) → R
  | [], _, cs, S, k => k cs S
  | o :: l, nid, cs, S, k => opK X ops nid o S fun c S' => opsK X ops l (if isAl o then nid + 1 else nid) (c :: cs) S' k
def holes (ops : List Oper) : Heap := (ops.filter isAl).map fun _ => .hole
def addHoles (ops : List Oper) (H : Heap) : Heap := match holes ops with | [] => H | hs => H ++ hs
def condR (d : DV) (x y : R) : R := match d with | .flat (.bool true) => x | .flat (.bool false) => y | _ => none
/-- each operation's forerunners, as bits -/
def maskOf (o : Oper) (acc : List Nat) : Nat :=
  o.after.toList.foldl (fun s e => if Region.binds .any e then s ||| (2 ^ e.on ||| acc.getD e.on 0) else s) 0
def masks : List Oper → List Nat → List Nat
  | [], acc => acc
  | o :: l, acc => masks l (acc ++ [maskOf o acc])
def namesOf (ops : Array Oper) (o : Oper) : List Tmp :=
  o.dst.toList ++ (o.op.operands.toList.filterMap fun | .tmp t => some t | _ => none) ++ (match o.guard with | some (j, _) => ((ops[j]?).bind (·.dst)).toList | none => [])
def clash (ops : Array Oper) (a b : Oper) (ca cb : Nat) : Bool :=
  (ca == 2 && cb != 0) || (cb == 2 && ca != 0) || (ca == 5 && decide (2 ≤ cb)) || (cb == 5 && ca != 0) || (ca == 3 && cb == 4) || (ca == 4 && cb == 3) || a.dst.any (namesOf ops b).contains || b.dst.any (namesOf ops a).contains
/-- may a region's operations come in any order that its edges allow? -/
def drawOk (ops : Array Oper) (cs : List Nat) : Bool :=
  let l := ops.toList
  let m := masks l []
  (List.range l.length).all fun j => ((l.getD j default).after.toList.all fun e => !Region.binds .any e || decide (e.on < j)) && (List.range j).all fun i =>
    !clash ops (l.getD i default) (l.getD j default) (cs.getD i 2) (cs.getD j 2) || (m.getD j 0).testBit i
def noSel (ops : Array Oper) : Bool := ops.all fun o => match o.op with | .select .. => false | _ => true
inductive Ex where
  | normal | exit (id : Nat) | ret
  deriving DecidableEq
def forget (keep : List Nat) (N : Nat) (slots : List DV) : List DV := (List.range N).map fun i => if keep.contains i then slots.getD i .any else .any
/-- a loop: what is kept from round to round, and behind it -/
def loopN (keep out : List Nat) (N : Nat) (body : St → (Ex → St → R) → R) : Nat → St → (Ex → St → R) → R
  | 0, _, _ => none
  | n + 1, S, k => body S fun x S' => match x with
    | .normal => loopN keep out N body n ⟨forget keep N S'.slots, S'.heap⟩ k
    | x => k x ⟨forget out N S'.slots, S'.heap⟩
def drawK (draw : Bool) (ops : Array Oper) (cs : List Nat) (x : R) : R := if draw && !drawOk ops cs.reverse then none else x
/-- how many loops a code holds -/
def nloops : Code → Nat
  | .seq a b => nloops a + nloops b
  | .cond _ a b => nloops a + nloops b
  | .block _ b => nloops b
  | .loop b => nloops b + 1
  | .scope b => nloops b
  | _ => 0
def execD (X : Ctx) (n : Nat) : Code → List (List Nat × List Nat) → St → (Ex → St → R) → R
  | .skip, _, S, k => k .normal S
  | .region _ ops draw, _, S, k =>
    opsK X ops ops.toList S.heap.length [] ⟨S.slots, addHoles ops.toList S.heap⟩ fun cs S' => drawK draw ops cs (k .normal S')
  | .seq a b, ks, S, k => execD X n a (ks.take (nloops a)) S fun x S' => match x with | .normal => execD X n b (ks.drop (nloops a)) S' k | x => k x S'
  | .cond c a b, ks, S, k => condR (evalD S.slots c) (execD X n a (ks.take (nloops a)) S k) (execD X n b (ks.drop (nloops a)) S k)
  | .block id b, ks, S, k => execD X n b ks S fun x S' => match x with | .exit i => if i = id then k .normal S' else k x S' | x => k x S'
  | .loop b, ks, S, k => loopN (ks.headD ([], [])).1 (ks.headD ([], [])).2 X.N (execD X n b ks.tail) n ⟨forget (ks.headD ([], [])).1 X.N S.slots, S.heap⟩ fun x S' => match x with | .normal => none | x => k x ⟨forget (ks.headD ([], [])).2 X.N S'.slots, S'.heap⟩
  | .scope b, ks, S, k => execD X n b ks S k
  | .exit id, _, S, k => k (.exit id) S
  | .ret, _, S, k => k .ret S
  | _, _, _, _ => none
def cellR (ag : Bool) (sz : Nat) (p : DV) (H : Heap) : Option DV :=
  match p with
  | .ptr k off => match H[k]? with
    | some (.cells _ cs) => partD ag sz off cs
    | _ => none
  | _ => none
def resOne (P : Program) (S : St) : ResultVar → Option DV
  | .tmp t => some (S.slots.getD t .any)
  | .cell a t => match aggSz P t with
    | some (ag, sz) => cellR ag sz (S.slots.getD a .any) S.heap
    | none => none
def seqO : List (Option DV) → Option (List DV)
  | [] => some []
  | x :: l => x.bind fun d => (seqO l).map fun ds => d :: ds
def tupD : List DV → DV
  | [d] => d
  | ds => .tup ds
def resD (P : Program) (rs : List ResultVar) (S : St) : Option DV := (seqO (rs.map (resOne P S))).map tupD
/-- the i-th loop's body of a code -/
def loopAt : Code → Nat → Code
  | .seq a b, i => if i < nloops a then loopAt a i else loopAt b (i - nloops a)
  | .cond _ a b, i => if i < nloops a then loopAt a i else loopAt b (i - nloops a)
  | .block _ b, i => loopAt b i
  | .loop b, 0 => b
  | .loop b, i + 1 => loopAt b i
  | .scope b, i => loopAt b i
  | c, _ => c
/-- the region of a number in a code -/
def regAt (id : Nat) : Code → Option (Array Oper)
  | .region i ops _ => if i = id then some ops else none
  | .seq a b => (regAt id a).or (regAt id b)
  | .cond _ a b => (regAt id a).or (regAt id b)
  | .block _ b => regAt id b
  | .loop b => regAt id b
  | .scope b => regAt id b
  | _ => none
def bodyOf (fn : Func) : Code := fn.body.getD .skip
structure Env where
  md : FuncId → CM
  ks : FuncId → List (List Nat × List Nat)
  prim : FuncId → Option (List DV → Heap → R)
def callN (P : Program) (E : Env) : Nat → CF
  | 0 => fun _ _ _ _ => none
  | n + 1 => fun f args H fl =>
    match E.prim f with
    | some g => g args H
    | none => match P.funcs[f]? with
      | some fn => match fn.body with
        | some c => if fn.ntmps < args.length then none else execD ⟨P, callN P E n, E.md, fl, fn.ntmps⟩ n c (E.ks f) ⟨args ++ List.replicate (fn.ntmps - args.length) (.flat undef), H⟩ fun x S =>
            match x with
            | .exit _ => none
            | _ => (resD P fn.results.toList S).map fun d => (d, S.heap)
        | none => none
      | none => none
end Go.Proofs.Ytbhnkdnfmlnajaa
