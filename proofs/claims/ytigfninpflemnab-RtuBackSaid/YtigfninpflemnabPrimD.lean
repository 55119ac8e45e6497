/- Functions that are known by a contract of their own: what they answer. -/
import Derived.Test.YtigfninpflemnabPi
namespace Go.Proofs.Ytigfninpflemnab
open Go
/-- errors.Is of a trouble of rtu's, and a number of an error -/
def primIs : List DV → Option DV
  | [.iface t (.agg [.flat (.int .i64 _), .iface t2 (.flat (.int .i64 e))]), .iface t3 (.flat (.int .i64 x))] => if t = 153 ∧ t2 = 54 ∧ t3 = 54 then some (.flat (.bool (e == x))) else none
  | _ => none
def PRIM (f : FuncId) : Option (List DV → Option DV) :=
  bif f == 82 then some primIs else
  none
end Go.Proofs.Ytigfninpflemnab
