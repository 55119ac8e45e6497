/-
  No cell of these rows narrows 'for every input' (looked for: loops, veiled, ifaces, maps, wideKeys, modest, calm, conditions, laid).
  DERIVED. THE GIVEN ROWS OF THIS SEAT. 9 by the template 'for every input the law returns true; each argument reads behind the call as it read before'; 0 by the template 'total and deterministic' (their statements: YtigfninpflemnabTotals.lean).
  GIVEN WITH THE SEED: the statements are not yours to turn. If you find one false, say at which input.
  Laid BY PROGRAM, IN A SANDBOX (cutbox-rows.mjs): the forced cells as the released guide's own fill.sh prints them over the translation 0fe5903f420b2278… (all of the seat's roots in one cut). By AI agents, Wed Nov 11 2026. No macro, syntax, notation, axiom, sorry.
-/
import Derived.Test.YtigfninpflemnabChecked
import GoSem.Claim
import GoSem.ClaimJoined
import GoSem.ClaimMapViews
import Derived.JoinedTies
import Derived.KernelRfl
namespace Go.Proofs.Ytigfninpflemnab
/- THE CELL 'sum', in the pinned program and in every row, IS THE sha256 OF THE DUMP (.gsa) THAT YtigfninpflemnabProg.lean LOADS. Nothing in Lean hashes anything: it is a label: what it is worth is what the hold of that sum in a sandbox is worth. -/
noncomputable def Try.pinned : Pinned := { name := "ytigfninpflemnab", sum := "0fe5903f420b227888a9ed0ad2d1e5487e53f3c2b0800adaccde3ab8a5f5a1af", checked := Try.checked }
namespace Rows
def none {H : Type} : Left H := { results := [], args := [] }

/-- 'triunelaw15.BankTells': WHATEVER THE INPUT: true; the input reads as it did. -/
def bankTellsSpec : ChangeSpec := { name := "bankTells", fn := fun _ => fun
  | [d1, d2, d3] => { results := [.lit (.bool true)], args := [d1, d2, d3] }
  | _ => none }
def bankTellsRow : OpenClaim := { program := "ytigfninpflemnab", sum := "0fe5903f420b227888a9ed0ad2d1e5487e53f3c2b0800adaccde3ab8a5f5a1af", func := "triune/triunelaw15.BankTells", spec := "bankTells", unfollowed := true, recurses := true, apart := false }
def BankTellsSaid : Prop := bankTellsRow.holds Try.pinned (OpenSpec.ofChange bankTellsSpec)

/-- ITS FALSE NEIGHBOUR: 'it returns false'. Refute it at one input. -/
def bankTellsWrong : ChangeSpec := { name := "bankTells", fn := fun _ => fun
  | [d1, d2, d3] => { results := [.lit (.bool false)], args := [d1, d2, d3] }
  | _ => none }
def BankTellsWrongFalsely : Prop := bankTellsRow.holds Try.pinned (OpenSpec.ofChange bankTellsWrong)

/-- 'triunelaw15.BankOwn': WHATEVER THE INPUT: true; the input reads as it did. -/
def bankOwnSpec : ChangeSpec := { name := "bankOwn", fn := fun _ => fun
  | [d1, d2, d3] => { results := [.lit (.bool true)], args := [d1, d2, d3] }
  | _ => none }
def bankOwnRow : OpenClaim := { program := "ytigfninpflemnab", sum := "0fe5903f420b227888a9ed0ad2d1e5487e53f3c2b0800adaccde3ab8a5f5a1af", func := "triune/triunelaw15.BankOwn", spec := "bankOwn", unfollowed := true, recurses := true, apart := false }
def BankOwnSaid : Prop := bankOwnRow.holds Try.pinned (OpenSpec.ofChange bankOwnSpec)

/-- ITS FALSE NEIGHBOUR: 'it returns false'. Refute it at one input. -/
def bankOwnWrong : ChangeSpec := { name := "bankOwn", fn := fun _ => fun
  | [d1, d2, d3] => { results := [.lit (.bool false)], args := [d1, d2, d3] }
  | _ => none }
def BankOwnWrongFalsely : Prop := bankOwnRow.holds Try.pinned (OpenSpec.ofChange bankOwnWrong)

/-- 'triunelaw14.ModesDo': WHATEVER THE INPUT: true; the input reads as it did. -/
def modesDoSpec : ChangeSpec := { name := "modesDo", fn := fun _ => fun
  | [d1, d2] => { results := [.lit (.bool true)], args := [d1, d2] }
  | _ => none }
def modesDoRow : OpenClaim := { program := "ytigfninpflemnab", sum := "0fe5903f420b227888a9ed0ad2d1e5487e53f3c2b0800adaccde3ab8a5f5a1af", func := "triune/triunelaw14.ModesDo", spec := "modesDo", apart := false }
def ModesDoSaid : Prop := modesDoRow.holds Try.pinned (OpenSpec.ofChange modesDoSpec)

/-- ITS FALSE NEIGHBOUR: 'it returns false'. Refute it at one input. -/
def modesDoWrong : ChangeSpec := { name := "modesDo", fn := fun _ => fun
  | [d1, d2] => { results := [.lit (.bool false)], args := [d1, d2] }
  | _ => none }
def ModesDoWrongFalsely : Prop := modesDoRow.holds Try.pinned (OpenSpec.ofChange modesDoWrong)

/-- 'triunelaw14.ModesFall': WHATEVER THE INPUT: true; the input reads as it did. -/
def modesFallSpec : ChangeSpec := { name := "modesFall", fn := fun _ => fun
  | [d1, d2] => { results := [.lit (.bool true)], args := [d1, d2] }
  | _ => none }
def modesFallRow : OpenClaim := { program := "ytigfninpflemnab", sum := "0fe5903f420b227888a9ed0ad2d1e5487e53f3c2b0800adaccde3ab8a5f5a1af", func := "triune/triunelaw14.ModesFall", spec := "modesFall", apart := false }
def ModesFallSaid : Prop := modesFallRow.holds Try.pinned (OpenSpec.ofChange modesFallSpec)

/-- ITS FALSE NEIGHBOUR: 'it returns false'. Refute it at one input. -/
def modesFallWrong : ChangeSpec := { name := "modesFall", fn := fun _ => fun
  | [d1, d2] => { results := [.lit (.bool false)], args := [d1, d2] }
  | _ => none }
def ModesFallWrongFalsely : Prop := modesFallRow.holds Try.pinned (OpenSpec.ofChange modesFallWrong)

/-- 'triunelaw14.ModesStrikes': WHATEVER THE INPUT: true; the input reads as it did. -/
def modesStrikesSpec : ChangeSpec := { name := "modesStrikes", fn := fun _ => fun
  | [d1, d2, d3] => { results := [.lit (.bool true)], args := [d1, d2, d3] }
  | _ => none }
def modesStrikesRow : OpenClaim := { program := "ytigfninpflemnab", sum := "0fe5903f420b227888a9ed0ad2d1e5487e53f3c2b0800adaccde3ab8a5f5a1af", func := "triune/triunelaw14.ModesStrikes", spec := "modesStrikes", apart := false }
def ModesStrikesSaid : Prop := modesStrikesRow.holds Try.pinned (OpenSpec.ofChange modesStrikesSpec)

/-- ITS FALSE NEIGHBOUR: 'it returns false'. Refute it at one input. -/
def modesStrikesWrong : ChangeSpec := { name := "modesStrikes", fn := fun _ => fun
  | [d1, d2, d3] => { results := [.lit (.bool false)], args := [d1, d2, d3] }
  | _ => none }
def ModesStrikesWrongFalsely : Prop := modesStrikesRow.holds Try.pinned (OpenSpec.ofChange modesStrikesWrong)

/-- 'triunelaw05.StreamAll': WHATEVER THE INPUT: true; the input reads as it did. -/
def streamAllSpec : ChangeSpec := { name := "streamAll", fn := fun _ => fun
  | [d1, d2] => { results := [.lit (.bool true)], args := [d1, d2] }
  | _ => none }
def streamAllRow : OpenClaim := { program := "ytigfninpflemnab", sum := "0fe5903f420b227888a9ed0ad2d1e5487e53f3c2b0800adaccde3ab8a5f5a1af", func := "triune/triunelaw05.StreamAll", spec := "streamAll", apart := false }
def StreamAllSaid : Prop := streamAllRow.holds Try.pinned (OpenSpec.ofChange streamAllSpec)

/-- ITS FALSE NEIGHBOUR: 'it returns false'. Refute it at one input. -/
def streamAllWrong : ChangeSpec := { name := "streamAll", fn := fun _ => fun
  | [d1, d2] => { results := [.lit (.bool false)], args := [d1, d2] }
  | _ => none }
def StreamAllWrongFalsely : Prop := streamAllRow.holds Try.pinned (OpenSpec.ofChange streamAllWrong)

/-- 'triunelaw03.RtuTells': WHATEVER THE INPUT: true; the input reads as it did. -/
def rtuTellsSpec : ChangeSpec := { name := "rtuTells", fn := fun _ => fun
  | [d1, d2, d3] => { results := [.lit (.bool true)], args := [d1, d2, d3] }
  | _ => none }
def rtuTellsRow : OpenClaim := { program := "ytigfninpflemnab", sum := "0fe5903f420b227888a9ed0ad2d1e5487e53f3c2b0800adaccde3ab8a5f5a1af", func := "triune/triunelaw03.RtuTells", spec := "rtuTells", inPlace := ["internal/reflectlite.TypeOf"], unfollowed := true, recurses := true, apart := false }
def RtuTellsSaid : Prop := rtuTellsRow.holds Try.pinned (OpenSpec.ofChange rtuTellsSpec)

/-- ITS FALSE NEIGHBOUR: 'it returns false'. Refute it at one input. -/
def rtuTellsWrong : ChangeSpec := { name := "rtuTells", fn := fun _ => fun
  | [d1, d2, d3] => { results := [.lit (.bool false)], args := [d1, d2, d3] }
  | _ => none }
def RtuTellsWrongFalsely : Prop := rtuTellsRow.holds Try.pinned (OpenSpec.ofChange rtuTellsWrong)

/-- 'triunelaw03.RtuBack': WHATEVER THE INPUT: true; the input reads as it did. -/
def rtuBackSpec : ChangeSpec := { name := "rtuBack", fn := fun _ => fun
  | [d1, d2] => { results := [.lit (.bool true)], args := [d1, d2] }
  | _ => none }
def rtuBackRow : OpenClaim := { program := "ytigfninpflemnab", sum := "0fe5903f420b227888a9ed0ad2d1e5487e53f3c2b0800adaccde3ab8a5f5a1af", func := "triune/triunelaw03.RtuBack", spec := "rtuBack", inPlace := ["internal/reflectlite.TypeOf"], unfollowed := true, recurses := true, apart := false }
def RtuBackSaid : Prop := rtuBackRow.holds Try.pinned (OpenSpec.ofChange rtuBackSpec)

/-- ITS FALSE NEIGHBOUR: 'it returns false'. Refute it at one input. -/
def rtuBackWrong : ChangeSpec := { name := "rtuBack", fn := fun _ => fun
  | [d1, d2] => { results := [.lit (.bool false)], args := [d1, d2] }
  | _ => none }
def RtuBackWrongFalsely : Prop := rtuBackRow.holds Try.pinned (OpenSpec.ofChange rtuBackWrong)

/-- 'triunelaw03.RtuTurned': WHATEVER THE INPUT: true; the input reads as it did. -/
def rtuTurnedSpec : ChangeSpec := { name := "rtuTurned", fn := fun _ => fun
  | [d1, d2, d3] => { results := [.lit (.bool true)], args := [d1, d2, d3] }
  | _ => none }
def rtuTurnedRow : OpenClaim := { program := "ytigfninpflemnab", sum := "0fe5903f420b227888a9ed0ad2d1e5487e53f3c2b0800adaccde3ab8a5f5a1af", func := "triune/triunelaw03.RtuTurned", spec := "rtuTurned", inPlace := ["internal/reflectlite.TypeOf"], unfollowed := true, recurses := true, apart := false }
def RtuTurnedSaid : Prop := rtuTurnedRow.holds Try.pinned (OpenSpec.ofChange rtuTurnedSpec)

/-- ITS FALSE NEIGHBOUR: 'it returns false'. Refute it at one input. -/
def rtuTurnedWrong : ChangeSpec := { name := "rtuTurned", fn := fun _ => fun
  | [d1, d2, d3] => { results := [.lit (.bool false)], args := [d1, d2, d3] }
  | _ => none }
def RtuTurnedWrongFalsely : Prop := rtuTurnedRow.holds Try.pinned (OpenSpec.ofChange rtuTurnedWrong)

/- THE SECOND FORM. 'bulk': how many values and letters a reading holds, each counted each time it is reached (what is shared counts as often as it is met; a slice's spare places count too). A statement '..UptoSaid' is the law's where the arguments, and the package variables that the reading takes, are together of bulk at most 1048576: NARROWER than '..Said'. Prove '..Said' where nothing that the law and all that it calls make is longer than what came in: it says more and counts as full. Else prove '..UptoSaid'. A law counts once. -/
mutual
def uptoBulk {H : Type} : DataW H → Nat
  | .lit (.string bytes) => bytes.length + 1
  | .lit _ => 1
  | .nil => 1
  | .ptr d => uptoBulk d + 1
  | .slice elems spare => uptoBulkAll elems + uptoBulkAll spare + 1
  | .agg parts => uptoBulkAll parts + 1
  | .iface _ d => uptoBulk d + 1
  | .map entries => uptoBulkEntries entries + 1
  | .held _ => 1
def uptoBulkAll {H : Type} : List (DataW H) → Nat
  | [] => 0
  | d :: r => uptoBulk d + uptoBulkAll r
def uptoBulkEntries {H : Type} : List (Lit × DataW H) → Nat
  | [] => 0
  | x :: r => uptoBulkEntry x + uptoBulkEntries r
def uptoBulkEntry {H : Type} : Lit × DataW H → Nat
  | (.string bytes, d) => bytes.length + uptoBulk d + 1
  | (_, d) => uptoBulk d + 1
 end
def uptoSmall : (H : Type) → List (DataW H) → Bool := fun _ ds => decide (uptoBulkAll ds ≤ 1048576)
def OpenSpec.upto (s : _root_.Go.ChangeSpec) : _root_.Go.OpenSpec := { _root_.Go.OpenSpec.ofChange s with cond := some uptoSmall }

/-- 'triunelaw15.BankTells', WHERE WHAT IT READS IS OF BULK AT MOST 1048576: true; the input reads as it did. -/
def bankTellsUptoRow : OpenClaim := { program := "ytigfninpflemnab", sum := "0fe5903f420b227888a9ed0ad2d1e5487e53f3c2b0800adaccde3ab8a5f5a1af", func := "triune/triunelaw15.BankTells", spec := "bankTells", unfollowed := true, recurses := true, apart := false, narrowed := true }
def BankTellsUptoSaid : Prop := bankTellsUptoRow.holds Try.pinned (OpenSpec.upto bankTellsSpec)

/-- 'triunelaw15.BankOwn', WHERE WHAT IT READS IS OF BULK AT MOST 1048576: true; the input reads as it did. -/
def bankOwnUptoRow : OpenClaim := { program := "ytigfninpflemnab", sum := "0fe5903f420b227888a9ed0ad2d1e5487e53f3c2b0800adaccde3ab8a5f5a1af", func := "triune/triunelaw15.BankOwn", spec := "bankOwn", unfollowed := true, recurses := true, apart := false, narrowed := true }
def BankOwnUptoSaid : Prop := bankOwnUptoRow.holds Try.pinned (OpenSpec.upto bankOwnSpec)

/-- 'triunelaw14.ModesDo', WHERE WHAT IT READS IS OF BULK AT MOST 1048576: true; the input reads as it did. -/
def modesDoUptoRow : OpenClaim := { program := "ytigfninpflemnab", sum := "0fe5903f420b227888a9ed0ad2d1e5487e53f3c2b0800adaccde3ab8a5f5a1af", func := "triune/triunelaw14.ModesDo", spec := "modesDo", apart := false, narrowed := true }
def ModesDoUptoSaid : Prop := modesDoUptoRow.holds Try.pinned (OpenSpec.upto modesDoSpec)

/-- 'triunelaw14.ModesFall', WHERE WHAT IT READS IS OF BULK AT MOST 1048576: true; the input reads as it did. -/
def modesFallUptoRow : OpenClaim := { program := "ytigfninpflemnab", sum := "0fe5903f420b227888a9ed0ad2d1e5487e53f3c2b0800adaccde3ab8a5f5a1af", func := "triune/triunelaw14.ModesFall", spec := "modesFall", apart := false, narrowed := true }
def ModesFallUptoSaid : Prop := modesFallUptoRow.holds Try.pinned (OpenSpec.upto modesFallSpec)

/-- 'triunelaw14.ModesStrikes', WHERE WHAT IT READS IS OF BULK AT MOST 1048576: true; the input reads as it did. -/
def modesStrikesUptoRow : OpenClaim := { program := "ytigfninpflemnab", sum := "0fe5903f420b227888a9ed0ad2d1e5487e53f3c2b0800adaccde3ab8a5f5a1af", func := "triune/triunelaw14.ModesStrikes", spec := "modesStrikes", apart := false, narrowed := true }
def ModesStrikesUptoSaid : Prop := modesStrikesUptoRow.holds Try.pinned (OpenSpec.upto modesStrikesSpec)

/-- 'triunelaw05.StreamAll', WHERE WHAT IT READS IS OF BULK AT MOST 1048576: true; the input reads as it did. -/
def streamAllUptoRow : OpenClaim := { program := "ytigfninpflemnab", sum := "0fe5903f420b227888a9ed0ad2d1e5487e53f3c2b0800adaccde3ab8a5f5a1af", func := "triune/triunelaw05.StreamAll", spec := "streamAll", apart := false, narrowed := true }
def StreamAllUptoSaid : Prop := streamAllUptoRow.holds Try.pinned (OpenSpec.upto streamAllSpec)

/-- 'triunelaw03.RtuTells', WHERE WHAT IT READS IS OF BULK AT MOST 1048576: true; the input reads as it did. -/
def rtuTellsUptoRow : OpenClaim := { program := "ytigfninpflemnab", sum := "0fe5903f420b227888a9ed0ad2d1e5487e53f3c2b0800adaccde3ab8a5f5a1af", func := "triune/triunelaw03.RtuTells", spec := "rtuTells", inPlace := ["internal/reflectlite.TypeOf"], unfollowed := true, recurses := true, apart := false, narrowed := true }
def RtuTellsUptoSaid : Prop := rtuTellsUptoRow.holds Try.pinned (OpenSpec.upto rtuTellsSpec)

/-- 'triunelaw03.RtuBack', WHERE WHAT IT READS IS OF BULK AT MOST 1048576: true; the input reads as it did. -/
def rtuBackUptoRow : OpenClaim := { program := "ytigfninpflemnab", sum := "0fe5903f420b227888a9ed0ad2d1e5487e53f3c2b0800adaccde3ab8a5f5a1af", func := "triune/triunelaw03.RtuBack", spec := "rtuBack", inPlace := ["internal/reflectlite.TypeOf"], unfollowed := true, recurses := true, apart := false, narrowed := true }
def RtuBackUptoSaid : Prop := rtuBackUptoRow.holds Try.pinned (OpenSpec.upto rtuBackSpec)

/-- 'triunelaw03.RtuTurned', WHERE WHAT IT READS IS OF BULK AT MOST 1048576: true; the input reads as it did. -/
def rtuTurnedUptoRow : OpenClaim := { program := "ytigfninpflemnab", sum := "0fe5903f420b227888a9ed0ad2d1e5487e53f3c2b0800adaccde3ab8a5f5a1af", func := "triune/triunelaw03.RtuTurned", spec := "rtuTurned", inPlace := ["internal/reflectlite.TypeOf"], unfollowed := true, recurses := true, apart := false, narrowed := true }
def RtuTurnedUptoSaid : Prop := rtuTurnedUptoRow.holds Try.pinned (OpenSpec.upto rtuTurnedSpec)

end Rows
end Go.Proofs.Ytigfninpflemnab
