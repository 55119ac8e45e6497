/- Functions that are known by a contract of their own: what they answer. -/
import Derived.Test.YtbmjflieedadkaaPi
namespace Go.Proofs.Ytbmjflieedadkaa
open Go
abbrev Prim := List DV → Heap → R
/-- errors.Is of a trouble of rtu's, and a number of an error -/
def primIs : Prim
  | [.iface t (.agg [.flat (.int .i64 _), .iface t2 (.flat (.int .i64 e))]), .iface t3 (.flat (.int .i64 x))], H => if t = 100 ∧ t2 = 26 ∧ t3 = 26 then some (.flat (.bool (e == x)), H) else none
  | _, _ => none
def PRIM (f : FuncId) : Option Prim :=
  bif f == 49 then some primIs else
  none
end Go.Proofs.Ytbmjflieedadkaa
