/- Functions that are known by a contract of their own: what they answer. -/
import Derived.Test.YtbhnkdnfmlnajaaPi
import Derived.Test.YtbhnkdnfmlnajaaPlainW
namespace Go.Proofs.Ytbhnkdnfmlnajaa
open Go
abbrev Prim := List DV → Heap → R
/-- slices.Grow of nil: a list of nothing, with room -/
def primGrow : Prim
  | [.list 0 [] .ti, .flat (.int .i64 n)], H => if n = 0 then some (.list 0 [] .ti, H) else if 0 < n ∧ n ≤ 1000000 then some (.list 1 [] (.own H.length), H ++ [.token 5 1 0]) else none
  | _, _ => none
def medI : List Int → Int × Bool
  | [a] => (a, true)
  | [a, b] => ((a + b) / 2, true)
  | [a, b, c] => (max (min a b) (min (max a b) c), true)
  | _ => (0, false)
def dWI : DV → Option Int
  | .flat (.int .u16 n) => if 0 ≤ n ∧ n < 65536 then some n else none
  | _ => none
/-- vote.Median -/
def primMed : Prim
  | [.list _ xs _], H => (mapO dWI xs).bind fun l => if l.length ≤ 100000 then some (.tup [.flat (.int .u16 (medI l).1), .flat (.bool (medI l).2)], H) else none
  | _, _ => none
def dB : DV → Option UInt8
  | .flat (.int .u8 n) => if 0 ≤ n ∧ n < 256 then some (lowB n) else none
  | _ => none
def dW : DV → Option UInt16
  | .flat (.int .u16 n) => if 0 ≤ n ∧ n < 65536 then some (UInt16.ofNat n.toNat) else none
  | _ => none
def dT : DV → Option Bool
  | .flat (.bool b) => some b
  | _ => none
def eB (c : UInt8) : DV := .flat (.int .u8 (c.toNat : Int))
def eW (c : UInt16) : DV := .flat (.int .u16 (c.toNat : Int))
def eT (c : Bool) : DV := .flat (.bool c)
/-- a function from lists to lists -/
def primLL {α β : Type} (d : DV → Option α) (e : β → DV) (g : List α → List β) : Prim
  | [.list _ xs _], H => (mapO d xs).bind fun l => if l.length ≤ 100000 then some (mkl 1 ((g l).map e) .sh, H) else none
  | _, _ => none
def primWords : Prim
  | [.list _ xs _], H => (mapO dB xs).bind fun l => if l.length ≤ 100000 then some (.tup [mkl 1 ((wordsTell l).2.map eW) .sh, .flat (.bool (wordsTell l).1)], H) else none
  | _, _ => none
def primBits : Prim
  | [.list _ xs _, .flat (.int .i64 n)], H => (mapO dB xs).bind fun l => if l.length ≤ 100000 ∧ -9223372036854775808 ≤ n ∧ n ≤ 9223372036854775807 then some (.tup [mkl 1 ((bitsTell l n).2.map eT) .sh, .flat (.bool (bitsTell l n).1)], H) else none
  | _, _ => none
def PRIMW (f : FuncId) : Option Prim :=
  bif f == 166 then some (primLL dW eB wBytes) else
  bif f == 168 then some (primLL dT eB wPack) else
  bif f == 171 then some primWords else
  bif f == 169 then some primBits else
  none
def PRIM (f : FuncId) : Option Prim :=
  bif f == 116 then some primMed else
  bif f == 182 then some primGrow else
  PRIMW f
end Go.Proofs.Ytbhnkdnfmlnajaa
