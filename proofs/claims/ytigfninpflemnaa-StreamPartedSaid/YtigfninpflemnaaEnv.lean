/- How each function is called; printed by a program of mine. -/
import Derived.Test.YtigfninpflemnaaPp
namespace Go.Proofs.Ytigfninpflemnaa
open Go
set_option linter.unusedVariables false
def ENV : Env where
  md f := bif f == 61 then .rw else bif f == 62 then .rw else bif f == 74 then .rw else bif f == 75 then .rw else bif f == 65 then .ro else bif f == 66 then .ro else bif f == 60 then .keep else bif f == 53 then .pure true else bif f == 76 then .pure true else .pure false
  ks f := (List.lookup f [(5, [([1, 5, 6, 8, 10], [4, 5]), ([1, 5, 6, 8, 10, 11], [1, 4, 5, 6, 8, 10])]), (6, [([0, 1, 2, 7, 8, 10, 11], [1, 6, 7, 8]), ([0, 1, 2, 7, 8, 10, 11, 12, 13], [0, 1, 2, 6, 7, 8, 10, 11]), ([0, 1, 2, 7, 8, 10, 11, 12, 13, 14], [0, 1, 2, 7, 8, 10, 11, 12, 13, 14])]), (13, [([0, 3, 4, 5], [0, 3, 4]), ([0, 3, 6, 7, 8], [2, 3])]), (14, [([0, 1, 5, 6, 7, 8, 9, 10, 11, 12, 13], [4, 5, 6, 7, 8, 9, 10, 12])]), (18, [([0, 1, 5], [4])]), (23, [([0, 8, 9, 10], [0]), ([0, 8, 9, 10, 18], [0, 8, 9, 10])]), (24, [([0, 1, 5], [0])]), (38, [([0, 4, 5], [4])]), (39, [([0, 4, 5], [4])]), (40, [([0, 1, 5], [4])]), (41, [([0, 7, 39, 40], [7])]), (42, [([0, 1, 6, 7], [0, 6]), ([0, 1, 6, 7, 8, 9], [0, 1, 6, 7, 8]), ([0, 6, 10, 11], [4, 5, 6])]), (43, [([0, 1, 5], [4])]), (45, [([0, 3, 4], [3])]), (46, [([3, 12, 13, 14], [3])]), (47, [([0, 3, 4, 5], [3])]), (51, [([0, 1, 2, 7, 8], [7])]), (61, [([0, 6], [4, 5])]), (62, [([0, 6], [4, 5])]), (63, [([0, 1, 5], [4])]), (64, [([0, 3, 4], [3])]), (67, [([1, 5, 6, 7, 8], [5, 6, 7]), ([0, 9], [0])]), (68, [([0, 14], [])]), (69, [([1, 5, 8, 9, 10], [5])])]).getD []
  prim f := none
noncomputable def cP (n : Nat) (f : FuncId) (ti : Bool) (args : List DV) : Option DV := callP (callG Try.prog ENV n) f ti args
noncomputable def cO (n : Nat) (f : FuncId) (args : List DV) (H : Heap) : Option DV := callO (callG Try.prog ENV n) f args H
noncomputable def cW (n : Nat) (f : FuncId) (args : List DV) (H : Heap) (fl : Nat) : R := callW (callG Try.prog ENV n) f args H fl
noncomputable def cK (n : Nat) (f : FuncId) (args : List DV) (H : Heap) (fl : Nat) : R := callG Try.prog ENV n f args H fl
noncomputable def cV (n fl : Nat) (f : DV) (args : List DV) (H : Heap) : R := callVG (callG Try.prog ENV n) ENV.md fl f args H
end Go.Proofs.Ytigfninpflemnaa
