/-
  No cell of these rows narrows 'for every input' (looked for: loops, veiled, ifaces, maps, wideKeys, modest, calm, conditions, laid).
  DERIVED. THE GIVEN ROWS OF THIS SEAT. 2 by the template 'for every input the law returns true; each argument reads behind the call as it read before'; 0 by the template 'total and deterministic' (their statements: YtcpgmbpndpcmdaaTotals.lean).
  GIVEN WITH THE SEED: the statements are not yours to turn. If you find one false, say at which input.
  Laid BY PROGRAM, IN A SANDBOX (cutbox-rows.mjs): the forced cells as the released guide's own fill.sh prints them over the translation ffe463dea6038c38… (all of the seat's roots in one cut). By AI agents, Wed Nov 11 2026. No macro, syntax, notation, axiom, sorry.
-/
import Derived.Test.YtcpgmbpndpcmdaaChecked
import GoSem.Claim
import GoSem.ClaimJoined
import GoSem.ClaimMapViews
import Derived.JoinedTies
import Derived.KernelRfl
namespace Go.Proofs.Ytcpgmbpndpcmdaa
/- THE CELL 'sum', in the pinned program and in every row, IS THE sha256 OF THE DUMP (.gsa) THAT YtcpgmbpndpcmdaaProg.lean LOADS. Nothing in Lean hashes anything: it is a label: what it is worth is what the hold of that sum in a sandbox is worth. -/
noncomputable def Try.pinned : Pinned := { name := "ytcpgmbpndpcmdaa", sum := "ffe463dea6038c382320f80fde85a53cc83bad862e2313afec773d9c13ac8805", checked := Try.checked }
namespace Rows
def none {H : Type} : Left H := { results := [], args := [] }

/-- 'triunelaw08.MasterEnds': WHATEVER THE INPUT: true; the input reads as it did. -/
def masterEndsSpec : ChangeSpec := { name := "masterEnds", fn := fun _ => fun
  | [d1, d2, d3] => { results := [.lit (.bool true)], args := [d1, d2, d3] }
  | _ => none }
def masterEndsRow : OpenClaim := { program := "ytcpgmbpndpcmdaa", sum := "ffe463dea6038c382320f80fde85a53cc83bad862e2313afec773d9c13ac8805", func := "triune/triunelaw08.MasterEnds", spec := "masterEnds", inPlace := ["internal/reflectlite.TypeOf"], unfollowed := true, recurses := true, apart := false }
def MasterEndsSaid : Prop := masterEndsRow.holds Try.pinned (OpenSpec.ofChange masterEndsSpec)

/-- ITS FALSE NEIGHBOUR: 'it returns false'. Refute it at one input. -/
def masterEndsWrong : ChangeSpec := { name := "masterEnds", fn := fun _ => fun
  | [d1, d2, d3] => { results := [.lit (.bool false)], args := [d1, d2, d3] }
  | _ => none }
def MasterEndsWrongFalsely : Prop := masterEndsRow.holds Try.pinned (OpenSpec.ofChange masterEndsWrong)

/-- 'triunelaw08.MasterGood': WHATEVER THE INPUT: true; the input reads as it did. -/
def masterGoodSpec : ChangeSpec := { name := "masterGood", fn := fun _ => fun
  | [d1, d2, d3] => { results := [.lit (.bool true)], args := [d1, d2, d3] }
  | _ => none }
def masterGoodRow : OpenClaim := { program := "ytcpgmbpndpcmdaa", sum := "ffe463dea6038c382320f80fde85a53cc83bad862e2313afec773d9c13ac8805", func := "triune/triunelaw08.MasterGood", spec := "masterGood", inPlace := ["internal/reflectlite.TypeOf"], unfollowed := true, recurses := true, apart := false }
def MasterGoodSaid : Prop := masterGoodRow.holds Try.pinned (OpenSpec.ofChange masterGoodSpec)

/-- ITS FALSE NEIGHBOUR: 'it returns false'. Refute it at one input. -/
def masterGoodWrong : ChangeSpec := { name := "masterGood", fn := fun _ => fun
  | [d1, d2, d3] => { results := [.lit (.bool false)], args := [d1, d2, d3] }
  | _ => none }
def MasterGoodWrongFalsely : Prop := masterGoodRow.holds Try.pinned (OpenSpec.ofChange masterGoodWrong)

/- THE SECOND FORM. 'bulk': how many values and letters a reading holds, each counted each time it is reached (what is shared counts as often as it is met; a slice's spare places count too). A statement '..UptoSaid' is the law's where the arguments, and the package variables that the reading takes, are together of bulk at most 1048576: NARROWER than '..Said'. Prove '..Said' where nothing that the law and all that it calls make is longer than what came in: it says more and counts as full. Else prove '..UptoSaid'. A law counts once. -/
mutual
def uptoBulk {H : Type} : DataW H → Nat
  | .lit (.string bytes) => bytes.length + 1
  | .lit _ => 1
  | .nil => 1
  | .ptr d => uptoBulk d + 1
  | .slice elems spare => uptoBulkAll elems + uptoBulkAll spare + 1
  | .agg parts => uptoBulkAll parts + 1
  | .iface _ d => uptoBulk d + 1
  | .map entries => uptoBulkEntries entries + 1
  | .held _ => 1
def uptoBulkAll {H : Type} : List (DataW H) → Nat
  | [] => 0
  | d :: r => uptoBulk d + uptoBulkAll r
def uptoBulkEntries {H : Type} : List (Lit × DataW H) → Nat
  | [] => 0
  | x :: r => uptoBulkEntry x + uptoBulkEntries r
def uptoBulkEntry {H : Type} : Lit × DataW H → Nat
  | (.string bytes, d) => bytes.length + uptoBulk d + 1
  | (_, d) => uptoBulk d + 1
 end
def uptoSmall : (H : Type) → List (DataW H) → Bool := fun _ ds => decide (uptoBulkAll ds ≤ 1048576)
def OpenSpec.upto (s : _root_.Go.ChangeSpec) : _root_.Go.OpenSpec := { _root_.Go.OpenSpec.ofChange s with cond := some uptoSmall }

/-- 'triunelaw08.MasterEnds', WHERE WHAT IT READS IS OF BULK AT MOST 1048576: true; the input reads as it did. -/
def masterEndsUptoRow : OpenClaim := { program := "ytcpgmbpndpcmdaa", sum := "ffe463dea6038c382320f80fde85a53cc83bad862e2313afec773d9c13ac8805", func := "triune/triunelaw08.MasterEnds", spec := "masterEnds", inPlace := ["internal/reflectlite.TypeOf"], unfollowed := true, recurses := true, apart := false, narrowed := true }
def MasterEndsUptoSaid : Prop := masterEndsUptoRow.holds Try.pinned (OpenSpec.upto masterEndsSpec)

/-- 'triunelaw08.MasterGood', WHERE WHAT IT READS IS OF BULK AT MOST 1048576: true; the input reads as it did. -/
def masterGoodUptoRow : OpenClaim := { program := "ytcpgmbpndpcmdaa", sum := "ffe463dea6038c382320f80fde85a53cc83bad862e2313afec773d9c13ac8805", func := "triune/triunelaw08.MasterGood", spec := "masterGood", inPlace := ["internal/reflectlite.TypeOf"], unfollowed := true, recurses := true, apart := false, narrowed := true }
def MasterGoodUptoSaid : Prop := masterGoodUptoRow.holds Try.pinned (OpenSpec.upto masterGoodSpec)

end Rows
end Go.Proofs.Ytcpgmbpndpcmdaa
