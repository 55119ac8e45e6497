/- Functions that are known by a contract of their own: what they answer. -/
import Derived.Test.YtjkofefcoeejbaaPi
namespace Go.Proofs.Ytjkofefcoeejbaa
open Go
abbrev Prim := List DV → Heap → R
/-- slices.Grow of nil: a list of nothing, with room -/
def primGrow : Prim
  | [.list 0 [] .ti, .flat (.int .i64 n)], H => if n = 0 then some (.list 0 [] .ti, H) else if 0 < n ∧ n ≤ 1000000 then some (.list 1 [] (.own H.length), H ++ [.token 5 1 0]) else none
  | _, _ => none
def PRIM (f : FuncId) : Option Prim :=
  bif f == 120 then some primGrow else
  none
end Go.Proofs.Ytjkofefcoeejbaa
