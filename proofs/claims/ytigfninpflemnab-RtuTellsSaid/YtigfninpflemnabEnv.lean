/- How each function is called; printed by a program of mine. -/
import Derived.Test.YtigfninpflemnabPp
import Derived.Test.YtigfninpflemnabPrimD
namespace Go.Proofs.Ytigfninpflemnab
open Go
set_option linter.unusedVariables false
def ENV : Env where
  md f := bif f == 38 then .rw else bif f == 65 then .rw else bif f == 66 then .rw else bif f == 34 then .rw else bif f == 56 then .rw else bif f == 55 then .rw else bif f == 57 then .rw else bif f == 27 then .rw else bif f == 28 then .rw else bif f == 29 then .rw else bif f == 30 then .rw else bif f == 26 then .rw else bif f == 41 then .ro else bif f == 63 then .ro else bif f == 31 then .ro else bif f == 76 then .ro else bif f == 77 then .ro else bif f == 68 then .ro else bif f == 69 then .ro else bif f == 82 then .ro else bif f == 37 then .keep else bif f == 24 then .keep else bif f == 25 then .keep else bif f == 40 then .keep else bif f == 36 then .pure true else bif f == 80 then .pure true else .pure false
  ks f := (List.lookup f [(4, [([1, 2, 3, 7, 9], [6, 7]), ([1, 2, 3, 7, 9, 10, 13], [1, 2, 3, 6, 7, 9, 10]), ([1, 2, 3, 7, 9, 10, 18, 19, 20], [1, 2, 3, 6, 7, 9])]), (5, [([1, 5, 6, 8, 10], [4, 5])]), (6, [([1, 5, 6, 8, 10], [4, 5]), ([1, 5, 6, 8, 10, 11, 13, 14], [1, 4, 5, 6, 8, 10])]), (7, [([0, 1, 2, 7, 8, 10, 11], [0, 1, 7, 8, 10]), ([0, 1, 7, 8, 10, 12], [1, 6, 7, 8])]), (8, [([0, 1, 5, 6, 7], [0, 1, 4, 5, 6])]), (11, [([1, 2, 7, 8, 10], [7, 8])]), (14, [([1, 2, 4, 10, 20, 21], [8, 9, 10])]), (15, [([1, 2, 3, 4, 10, 11], [8, 9, 10])]), (16, [([0, 1, 5], [4])]), (17, [([0, 1, 2, 3, 10, 25, 26], [8, 9, 10])]), (18, [([0, 1, 2, 3, 10, 11], [8, 9, 10])]), (19, [([0, 1, 5], [4])]), (20, [([0, 3, 4], [3])]), (27, [([0, 2, 4, 6], [0, 2])]), (29, [([0, 3, 5], [0, 4])]), (34, [([0, 3, 4, 13, 14], [0, 3, 4])]), (38, [([0, 6], [4, 5])]), (39, [([0, 1, 5], [4])]), (40, [([0, 3, 4], [3])]), (47, [([0, 1, 5], [4])]), (52, [([1, 2, 3, 9], [1, 2, 3, 6, 7])]), (54, [([0, 1, 2, 7], [6])]), (55, [([0, 3, 11, 12], [0, 3])]), (60, [([1, 3, 4], [3])]), (61, [([3, 7, 8], [3])]), (69, [([0, 7, 8, 9], [4])]), (75, [([1, 3], [1, 2]), ([1, 4], [1, 2]), ([1, 5], [2]), ([1, 5, 6], [1, 2, 5])]), (76, [([0, 1, 7, 8], [4])]), (90, [([0, 1, 2], [6]), ([1, 2, 43, 44, 45], [6])]), (91, [([0, 8, 9, 10], [0]), ([0, 8, 9, 10, 18], [0, 8, 9, 10])]), (92, [([0, 1, 5], [0])]), (93, [([0, 4, 5], [4])]), (94, [([1, 5, 6, 7, 8], [5, 6, 7]), ([0, 9], [0])])]).getD []
  prim f := PRIM f
noncomputable def cP (n : Nat) (f : FuncId) (ti : Bool) (args : List DV) : Option DV := callP (callG Try.prog ENV n) f ti args
noncomputable def cO (n : Nat) (f : FuncId) (args : List DV) (H : Heap) : Option DV := callO (callG Try.prog ENV n) f args H
noncomputable def cW (n : Nat) (f : FuncId) (args : List DV) (H : Heap) (fl : Nat) : R := callW (callG Try.prog ENV n) f args H fl
noncomputable def cK (n : Nat) (f : FuncId) (args : List DV) (H : Heap) (fl : Nat) : R := callG Try.prog ENV n f args H fl
noncomputable def cV (n fl : Nat) (f : DV) (args : List DV) (H : Heap) : R := callVG (callG Try.prog ENV n) ENV.md fl f args H
end Go.Proofs.Ytigfninpflemnab
