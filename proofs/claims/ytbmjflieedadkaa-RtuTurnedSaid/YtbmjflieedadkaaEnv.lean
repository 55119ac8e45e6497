/- How each function is called; printed by a program of mine. -/
import Derived.Test.YtbmjflieedadkaaPp
import Derived.Test.YtbmjflieedadkaaPrimD
namespace Go.Proofs.Ytbmjflieedadkaa
open Go
set_option linter.unusedVariables false
def ENV : Env where
  md f := bif f == 45 then .rw else bif f == 46 then .rw else bif f == 52 then .rw else bif f == 53 then .rw else bif f == 101 then .ro else bif f == 36 then .ro else bif f == 37 then .ro else bif f == 49 then .ro else bif f == 43 then .keep else bif f == 61 then .pure true else bif f == 1000022 then .ro else .pure false
  ks f := (List.lookup f [(5, [([1, 2, 7, 8, 10], [7, 8])]), (6, [([1, 5, 7, 9, 11], [4, 5])]), (7, [([0, 1, 5, 6, 7, 9, 11, 12], [0, 1, 5, 6, 7, 9, 11]), ([0, 1, 5, 7, 9, 13], [4, 5])]), (8, [([0, 1, 2, 7, 8, 10], [0, 1, 6, 7, 8]), ([0, 1, 7, 8, 11], [1, 6, 7, 8])]), (14, [([0, 1, 5], [4])]), (18, [([0, 3, 4], [0, 3])]), (22, [([0, 1, 5], [0, 1, 5])]), (27, [([0, 1, 5], [4])]), (28, [([0, 3, 4], [3])]), (29, [([0, 1, 5], [4])]), (30, [([0, 3, 10], [3])]), (31, [([0, 3, 4, 5], [0, 3, 4])]), (32, [([3, 9], [3])]), (33, [([0, 3, 4], [3])]), (37, [([0, 7, 8, 9], [4])]), (44, [([0, 1, 5], [4])]), (45, [([0, 6], [4, 5])]), (46, [([0, 6], [4, 5])]), (55, [([0, 1, 2, 3, 8, 9], [])]), (58, [([0, 1, 2], [6]), ([1, 2, 43, 44, 45], [6])]), (59, [([0, 8, 9, 10], [0]), ([0, 8, 9, 10, 18], [0, 8, 9, 10])]), (60, [([0, 1, 5], [0])]), (63, [([0, 1, 2, 6], []), ([0, 1, 2, 6, 7], [0, 1, 2, 6])]), (64, [([0, 6, 7, 8, 9], [0, 6, 7, 8]), ([0, 6, 7, 10], [])]), (65, [([0, 1, 6, 7, 8, 9], [])]), (67, [([0, 6, 7], [])]), (68, [([0, 1, 2, 7, 8], [6]), ([0, 1, 2, 7, 8], [0, 1, 2, 7, 8]), ([0, 1, 2, 7, 8, 9], [0, 1, 2, 7, 8]), ([0, 1, 2, 7, 8, 10], [0, 1, 2, 7, 8])]), (70, [([0, 1, 9, 10], [9]), ([0, 1, 9, 10], [0, 1, 9, 10]), ([0, 1, 9, 10], [0, 1, 9, 10])]), (71, [([0, 1, 10, 11], [0, 1, 10, 11]), ([0, 1, 10, 11], [0, 1, 10, 11]), ([0, 1, 10, 11], [0, 1, 11]), ([0, 1, 10, 11], [0, 1, 10, 11]), ([0, 1, 10, 11], [0, 1, 10, 11])]), (74, [([1, 5, 6, 7, 8], [5, 6, 7]), ([0, 9], [0])]), (77, [([0, 2, 3, 8], [])]), (83, [([0, 4, 5], [4])])]).getD []
  prim f := PRIM f
noncomputable def cP (n : Nat) (f : FuncId) (ti : Bool) (args : List DV) : Option DV := callP (callG Try.prog ENV n) f ti args
noncomputable def cO (n : Nat) (f : FuncId) (args : List DV) (H : Heap) : Option DV := callO (callG Try.prog ENV n) f args H
noncomputable def cW (n : Nat) (f : FuncId) (args : List DV) (H : Heap) (fl : Nat) : R := callW (callG Try.prog ENV n) f args H fl
noncomputable def cK (n : Nat) (f : FuncId) (args : List DV) (H : Heap) (fl : Nat) : R := callG Try.prog ENV n f args H fl
noncomputable def cV (n fl : Nat) (f : DV) (args : List DV) (H : Heap) : R := callVG (callG Try.prog ENV n) ENV.md fl f args H
noncomputable def cVP (n : Nat) (f : DV) (args : List DV) : Option DV := callVP (callG Try.prog ENV n) ENV.md f args
end Go.Proofs.Ytbmjflieedadkaa
