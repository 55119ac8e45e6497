/- How each function is called; printed by a program of mine. -/
import Derived.Test.YtjkofefcoeejbaaPp
import Derived.Test.YtjkofefcoeejbaaPrimD
namespace Go.Proofs.Ytjkofefcoeejbaa
open Go
set_option linter.unusedVariables false
def ENV : Env where
  md f := bif f == 107 then .rw else bif f == 109 then .rw else bif f == 111 then .rw else bif f == 113 then .rw else bif f == 115 then .rw else bif f == 117 then .rw else bif f == 119 then .rw else bif f == 120 then .keep else bif f == 1000027 then .ro else .pure false
  ks f := (List.lookup f [(10, [([2, 5, 7, 8, 10, 11, 12, 13], [2, 4, 5, 7, 8])]), (18, [([0, 1, 5], [4])]), (31, [([2, 3, 5], [4])]), (33, [([2, 3, 7, 8], [2, 3, 4, 7])]), (38, [([0, 4], [2, 3]), ([0, 4, 5, 6, 7], [0, 4, 5, 6])]), (39, [([0, 4, 7, 8, 9], [0, 2, 3, 4])]), (40, [([0, 4, 5], [0, 2, 3, 4])]), (51, [([0, 3, 4], [2])]), (52, [([2, 3, 4, 5, 6], [2, 3]), ([2, 3, 4, 5, 6, 7, 8], [2, 3, 4, 5, 6, 7])]), (55, [([0, 1, 5], [4])]), (56, [([0, 1, 5], [4])]), (58, [([0, 1, 12, 13], [4])]), (59, [([0, 1, 12, 13], [4])]), (60, [([0, 3, 4], [3])]), (63, [([3, 12, 13, 14], [3])]), (65, [([2, 5, 15, 16, 17], [5])]), (67, [([2, 3, 9, 10], [9])]), (71, [([2, 4, 5, 6, 7], [4, 5]), ([2, 4, 5, 6, 7, 8, 9], [2, 4, 5, 6, 7, 8]), ([1, 4, 5, 10], [4, 5])]), (72, [([1, 2, 5, 8, 9, 10], [1, 2, 4])]), (73, [([0, 1, 12, 13], [4])]), (74, [([1, 3], [1, 2]), ([1, 4], [1, 2]), ([1, 5], [2]), ([1, 5, 6], [1, 2, 5])]), (79, [([0, 3, 9, 10, 11], [0, 3]), ([6, 25, 26, 27], [6])]), (82, [([0, 3, 4], [3])]), (83, [([0, 3, 4, 5], [3])]), (89, [([0, 4, 5], [4])]), (92, [([0, 1, 7, 8], [4])]), (93, [([1, 5, 8, 9, 10], [5])]), (96, [([0, 7, 39, 40], [7])]), (98, [([0, 4, 5], [4])]), (99, [([0, 3, 5, 17, 18], [5])]), (105, [([0, 5, 6, 7], [])]), (123, [([0, 1, 2, 3, 8, 9], [])]), (126, [([0, 1, 2, 6], []), ([0, 1, 2, 6, 7], [0, 1, 2, 6])]), (127, [([0, 6, 7, 8, 9], [0, 6, 7, 8]), ([0, 6, 7, 10], [])]), (128, [([0, 1, 6, 7, 8, 9], [])]), (130, [([0, 6, 7], [])]), (131, [([0, 1, 2, 7, 8], [6]), ([0, 1, 2, 7, 8], [0, 1, 2, 7, 8]), ([0, 1, 2, 7, 8, 9], [0, 1, 2, 7, 8]), ([0, 1, 2, 7, 8, 10], [0, 1, 2, 7, 8])]), (133, [([0, 1, 9, 10], [9]), ([0, 1, 9, 10], [0, 1, 9, 10]), ([0, 1, 9, 10], [0, 1, 9, 10])]), (134, [([0, 1, 10, 11], [0, 1, 10, 11]), ([0, 1, 10, 11], [0, 1, 10, 11]), ([0, 1, 10, 11], [0, 1, 11]), ([0, 1, 10, 11], [0, 1, 10, 11]), ([0, 1, 10, 11], [0, 1, 10, 11])]), (137, [([0, 2, 3, 8], [])])]).getD []
  prim f := PRIM f
noncomputable def cP (n : Nat) (f : FuncId) (ti : Bool) (args : List DV) : Option DV := callP (callG Try.prog ENV n) f ti args
noncomputable def cO (n : Nat) (f : FuncId) (args : List DV) (H : Heap) : Option DV := callO (callG Try.prog ENV n) f args H
noncomputable def cW (n : Nat) (f : FuncId) (args : List DV) (H : Heap) (fl : Nat) : R := callW (callG Try.prog ENV n) f args H fl
noncomputable def cK (n : Nat) (f : FuncId) (args : List DV) (H : Heap) (fl : Nat) : R := callG Try.prog ENV n f args H fl
noncomputable def cV (n fl : Nat) (f : DV) (args : List DV) (H : Heap) : R := callVG (callG Try.prog ENV n) ENV.md fl f args H
noncomputable def cVP (n : Nat) (f : DV) (args : List DV) : Option DV := callVP (callG Try.prog ENV n) ENV.md f args
end Go.Proofs.Ytjkofefcoeejbaa
