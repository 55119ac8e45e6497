/-
  No cell of these rows narrows 'for every input' (looked for: loops, veiled, ifaces, maps, wideKeys, modest, calm, conditions, laid).
  DERIVED. THE GIVEN ROWS OF THIS SEAT. 6 by the template 'for every input the law returns true; each argument reads behind the call as it read before'; 0 by the template 'total and deterministic' (their statements: YtbmjflieedadkaaTotals.lean).
  GIVEN WITH THE SEED: the statements are not yours to turn. If you find one false, say at which input.
  Laid BY PROGRAM, IN A SANDBOX (cutbox-rows.mjs): the forced cells as the released guide's own fill.sh prints them over the translation 56eec52a3de7eaec… (all of the seat's roots in one cut). By AI agents, Wed Nov 11 2026. No macro, syntax, notation, axiom, sorry.
-/
import Derived.Test.YtbmjflieedadkaaChecked
import GoSem.Claim
import GoSem.ClaimJoined
import GoSem.ClaimMapViews
import Derived.JoinedTies
import Derived.KernelRfl
namespace Go.Proofs.Ytbmjflieedadkaa
/- THE CELL 'sum', in the pinned program and in every row, IS THE sha256 OF THE DUMP (.gsa) THAT YtbmjflieedadkaaProg.lean LOADS. Nothing in Lean hashes anything: it is a label: what it is worth is what the hold of that sum in a sandbox is worth. -/
noncomputable def Try.pinned : Pinned := { name := "ytbmjflieedadkaa", sum := "56eec52a3de7eaec62a2f4d3afceec8ba5f129e7ac85a210be667a4311a352f0", checked := Try.checked }
namespace Rows
def none {H : Type} : Left H := { results := [], args := [] }

/-- 'triunelaw03.RtuTells': WHATEVER THE INPUT: true; the input reads as it did. -/
def rtuTellsSpec : ChangeSpec := { name := "rtuTells", fn := fun _ => fun
  | [d1, d2, d3] => { results := [.lit (.bool true)], args := [d1, d2, d3] }
  | _ => none }
def rtuTellsRow : OpenClaim := { program := "ytbmjflieedadkaa", sum := "56eec52a3de7eaec62a2f4d3afceec8ba5f129e7ac85a210be667a4311a352f0", func := "triune/triunelaw03.RtuTells", spec := "rtuTells", inPlace := ["internal/reflectlite.TypeOf"], unfollowed := true, recurses := true, apart := false }
def RtuTellsSaid : Prop := rtuTellsRow.holds Try.pinned (OpenSpec.ofChange rtuTellsSpec)

/-- ITS FALSE NEIGHBOUR: 'it returns false'. Refute it at one input. -/
def rtuTellsWrong : ChangeSpec := { name := "rtuTells", fn := fun _ => fun
  | [d1, d2, d3] => { results := [.lit (.bool false)], args := [d1, d2, d3] }
  | _ => none }
def RtuTellsWrongFalsely : Prop := rtuTellsRow.holds Try.pinned (OpenSpec.ofChange rtuTellsWrong)

/-- 'triunelaw03.RtuBack': WHATEVER THE INPUT: true; the input reads as it did. -/
def rtuBackSpec : ChangeSpec := { name := "rtuBack", fn := fun _ => fun
  | [d1, d2] => { results := [.lit (.bool true)], args := [d1, d2] }
  | _ => none }
def rtuBackRow : OpenClaim := { program := "ytbmjflieedadkaa", sum := "56eec52a3de7eaec62a2f4d3afceec8ba5f129e7ac85a210be667a4311a352f0", func := "triune/triunelaw03.RtuBack", spec := "rtuBack", inPlace := ["internal/reflectlite.TypeOf"], unfollowed := true, recurses := true, apart := false }
def RtuBackSaid : Prop := rtuBackRow.holds Try.pinned (OpenSpec.ofChange rtuBackSpec)

/-- ITS FALSE NEIGHBOUR: 'it returns false'. Refute it at one input. -/
def rtuBackWrong : ChangeSpec := { name := "rtuBack", fn := fun _ => fun
  | [d1, d2] => { results := [.lit (.bool false)], args := [d1, d2] }
  | _ => none }
def RtuBackWrongFalsely : Prop := rtuBackRow.holds Try.pinned (OpenSpec.ofChange rtuBackWrong)

/-- 'triunelaw03.RtuTurned': WHATEVER THE INPUT: true; the input reads as it did. -/
def rtuTurnedSpec : ChangeSpec := { name := "rtuTurned", fn := fun _ => fun
  | [d1, d2, d3] => { results := [.lit (.bool true)], args := [d1, d2, d3] }
  | _ => none }
def rtuTurnedRow : OpenClaim := { program := "ytbmjflieedadkaa", sum := "56eec52a3de7eaec62a2f4d3afceec8ba5f129e7ac85a210be667a4311a352f0", func := "triune/triunelaw03.RtuTurned", spec := "rtuTurned", inPlace := ["internal/reflectlite.TypeOf"], unfollowed := true, recurses := true, apart := false }
def RtuTurnedSaid : Prop := rtuTurnedRow.holds Try.pinned (OpenSpec.ofChange rtuTurnedSpec)

/-- ITS FALSE NEIGHBOUR: 'it returns false'. Refute it at one input. -/
def rtuTurnedWrong : ChangeSpec := { name := "rtuTurned", fn := fun _ => fun
  | [d1, d2, d3] => { results := [.lit (.bool false)], args := [d1, d2, d3] }
  | _ => none }
def RtuTurnedWrongFalsely : Prop := rtuTurnedRow.holds Try.pinned (OpenSpec.ofChange rtuTurnedWrong)

/-- 'triunelaw18.ConnsDo': WHATEVER THE INPUT: true; the input reads as it did. -/
def connsDoSpec : ChangeSpec := { name := "connsDo", fn := fun _ => fun
  | [d1, d2] => { results := [.lit (.bool true)], args := [d1, d2] }
  | _ => none }
def connsDoRow : OpenClaim := { program := "ytbmjflieedadkaa", sum := "56eec52a3de7eaec62a2f4d3afceec8ba5f129e7ac85a210be667a4311a352f0", func := "triune/triunelaw18.ConnsDo", spec := "connsDo", recurses := true, apart := false }
def ConnsDoSaid : Prop := connsDoRow.holds Try.pinned (OpenSpec.ofChange connsDoSpec)

/-- ITS FALSE NEIGHBOUR: 'it returns false'. Refute it at one input. -/
def connsDoWrong : ChangeSpec := { name := "connsDo", fn := fun _ => fun
  | [d1, d2] => { results := [.lit (.bool false)], args := [d1, d2] }
  | _ => none }
def ConnsDoWrongFalsely : Prop := connsDoRow.holds Try.pinned (OpenSpec.ofChange connsDoWrong)

/-- 'triunelaw18.ConnsAlone': WHATEVER THE INPUT: true; the input reads as it did. -/
def connsAloneSpec : ChangeSpec := { name := "connsAlone", fn := fun _ => fun
  | [d1, d2] => { results := [.lit (.bool true)], args := [d1, d2] }
  | _ => none }
def connsAloneRow : OpenClaim := { program := "ytbmjflieedadkaa", sum := "56eec52a3de7eaec62a2f4d3afceec8ba5f129e7ac85a210be667a4311a352f0", func := "triune/triunelaw18.ConnsAlone", spec := "connsAlone", recurses := true, apart := false }
def ConnsAloneSaid : Prop := connsAloneRow.holds Try.pinned (OpenSpec.ofChange connsAloneSpec)

/-- ITS FALSE NEIGHBOUR: 'it returns false'. Refute it at one input. -/
def connsAloneWrong : ChangeSpec := { name := "connsAlone", fn := fun _ => fun
  | [d1, d2] => { results := [.lit (.bool false)], args := [d1, d2] }
  | _ => none }
def ConnsAloneWrongFalsely : Prop := connsAloneRow.holds Try.pinned (OpenSpec.ofChange connsAloneWrong)

/-- 'triunelaw18.ConnsIdle': WHATEVER THE INPUT: true; the input reads as it did. -/
def connsIdleSpec : ChangeSpec := { name := "connsIdle", fn := fun _ => fun
  | [d1, d2, d3] => { results := [.lit (.bool true)], args := [d1, d2, d3] }
  | _ => none }
def connsIdleRow : OpenClaim := { program := "ytbmjflieedadkaa", sum := "56eec52a3de7eaec62a2f4d3afceec8ba5f129e7ac85a210be667a4311a352f0", func := "triune/triunelaw18.ConnsIdle", spec := "connsIdle", recurses := true, apart := false }
def ConnsIdleSaid : Prop := connsIdleRow.holds Try.pinned (OpenSpec.ofChange connsIdleSpec)

/-- ITS FALSE NEIGHBOUR: 'it returns false'. Refute it at one input. -/
def connsIdleWrong : ChangeSpec := { name := "connsIdle", fn := fun _ => fun
  | [d1, d2, d3] => { results := [.lit (.bool false)], args := [d1, d2, d3] }
  | _ => none }
def ConnsIdleWrongFalsely : Prop := connsIdleRow.holds Try.pinned (OpenSpec.ofChange connsIdleWrong)

/- THE SECOND FORM. 'bulk': how many values and letters a reading holds, each counted each time it is reached (what is shared counts as often as it is met; a slice's spare places count too). A statement '..UptoSaid' is the law's where the arguments, and the package variables that the reading takes, are together of bulk at most 1048576: NARROWER than '..Said'. Prove '..Said' where nothing that the law and all that it calls make is longer than what came in: it says more and counts as full. Else prove '..UptoSaid'. A law counts once. -/
mutual
def uptoBulk {H : Type} : DataW H → Nat
  | .lit (.string bytes) => bytes.length + 1
  | .lit _ => 1
  | .nil => 1
  | .ptr d => uptoBulk d + 1
  | .slice elems spare => uptoBulkAll elems + uptoBulkAll spare + 1
  | .agg parts => uptoBulkAll parts + 1
  | .iface _ d => uptoBulk d + 1
  | .map entries => uptoBulkEntries entries + 1
  | .held _ => 1
def uptoBulkAll {H : Type} : List (DataW H) → Nat
  | [] => 0
  | d :: r => uptoBulk d + uptoBulkAll r
def uptoBulkEntries {H : Type} : List (Lit × DataW H) → Nat
  | [] => 0
  | x :: r => uptoBulkEntry x + uptoBulkEntries r
def uptoBulkEntry {H : Type} : Lit × DataW H → Nat
  | (.string bytes, d) => bytes.length + uptoBulk d + 1
  | (_, d) => uptoBulk d + 1
 end
def uptoSmall : (H : Type) → List (DataW H) → Bool := fun _ ds => decide (uptoBulkAll ds ≤ 1048576)
def OpenSpec.upto (s : _root_.Go.ChangeSpec) : _root_.Go.OpenSpec := { _root_.Go.OpenSpec.ofChange s with cond := some uptoSmall }

/-- 'triunelaw03.RtuTells', WHERE WHAT IT READS IS OF BULK AT MOST 1048576: true; the input reads as it did. -/
def rtuTellsUptoRow : OpenClaim := { program := "ytbmjflieedadkaa", sum := "56eec52a3de7eaec62a2f4d3afceec8ba5f129e7ac85a210be667a4311a352f0", func := "triune/triunelaw03.RtuTells", spec := "rtuTells", inPlace := ["internal/reflectlite.TypeOf"], unfollowed := true, recurses := true, apart := false, narrowed := true }
def RtuTellsUptoSaid : Prop := rtuTellsUptoRow.holds Try.pinned (OpenSpec.upto rtuTellsSpec)

/-- 'triunelaw03.RtuBack', WHERE WHAT IT READS IS OF BULK AT MOST 1048576: true; the input reads as it did. -/
def rtuBackUptoRow : OpenClaim := { program := "ytbmjflieedadkaa", sum := "56eec52a3de7eaec62a2f4d3afceec8ba5f129e7ac85a210be667a4311a352f0", func := "triune/triunelaw03.RtuBack", spec := "rtuBack", inPlace := ["internal/reflectlite.TypeOf"], unfollowed := true, recurses := true, apart := false, narrowed := true }
def RtuBackUptoSaid : Prop := rtuBackUptoRow.holds Try.pinned (OpenSpec.upto rtuBackSpec)

/-- 'triunelaw03.RtuTurned', WHERE WHAT IT READS IS OF BULK AT MOST 1048576: true; the input reads as it did. -/
def rtuTurnedUptoRow : OpenClaim := { program := "ytbmjflieedadkaa", sum := "56eec52a3de7eaec62a2f4d3afceec8ba5f129e7ac85a210be667a4311a352f0", func := "triune/triunelaw03.RtuTurned", spec := "rtuTurned", inPlace := ["internal/reflectlite.TypeOf"], unfollowed := true, recurses := true, apart := false, narrowed := true }
def RtuTurnedUptoSaid : Prop := rtuTurnedUptoRow.holds Try.pinned (OpenSpec.upto rtuTurnedSpec)

/-- 'triunelaw18.ConnsDo', WHERE WHAT IT READS IS OF BULK AT MOST 1048576: true; the input reads as it did. -/
def connsDoUptoRow : OpenClaim := { program := "ytbmjflieedadkaa", sum := "56eec52a3de7eaec62a2f4d3afceec8ba5f129e7ac85a210be667a4311a352f0", func := "triune/triunelaw18.ConnsDo", spec := "connsDo", recurses := true, apart := false, narrowed := true }
def ConnsDoUptoSaid : Prop := connsDoUptoRow.holds Try.pinned (OpenSpec.upto connsDoSpec)

/-- 'triunelaw18.ConnsAlone', WHERE WHAT IT READS IS OF BULK AT MOST 1048576: true; the input reads as it did. -/
def connsAloneUptoRow : OpenClaim := { program := "ytbmjflieedadkaa", sum := "56eec52a3de7eaec62a2f4d3afceec8ba5f129e7ac85a210be667a4311a352f0", func := "triune/triunelaw18.ConnsAlone", spec := "connsAlone", recurses := true, apart := false, narrowed := true }
def ConnsAloneUptoSaid : Prop := connsAloneUptoRow.holds Try.pinned (OpenSpec.upto connsAloneSpec)

/-- 'triunelaw18.ConnsIdle', WHERE WHAT IT READS IS OF BULK AT MOST 1048576: true; the input reads as it did. -/
def connsIdleUptoRow : OpenClaim := { program := "ytbmjflieedadkaa", sum := "56eec52a3de7eaec62a2f4d3afceec8ba5f129e7ac85a210be667a4311a352f0", func := "triune/triunelaw18.ConnsIdle", spec := "connsIdle", recurses := true, apart := false, narrowed := true }
def ConnsIdleUptoSaid : Prop := connsIdleUptoRow.holds Try.pinned (OpenSpec.upto connsIdleSpec)

end Rows
end Go.Proofs.Ytbmjflieedadkaa
