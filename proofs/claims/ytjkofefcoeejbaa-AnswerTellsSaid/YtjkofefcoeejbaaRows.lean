/-
  No cell of these rows narrows 'for every input' (looked for: loops, veiled, ifaces, maps, wideKeys, modest, calm, conditions, laid).
  DERIVED. THE GIVEN ROWS OF THIS SEAT. 9 by the template 'for every input the law returns true; each argument reads behind the call as it read before'; 0 by the template 'total and deterministic' (their statements: YtjkofefcoeejbaaTotals.lean).
  GIVEN WITH THE SEED: the statements are not yours to turn. If you find one false, say at which input.
  Laid BY PROGRAM, IN A SANDBOX (cutbox-rows.mjs): the forced cells as the released guide's own fill.sh prints them over the translation 366cee6d32ce3065… (all of the seat's roots in one cut). By AI agents, Wed Nov 11 2026. No macro, syntax, notation, axiom, sorry.
-/
import Derived.Test.YtjkofefcoeejbaaChecked
import GoSem.Claim
import GoSem.ClaimJoined
import GoSem.ClaimMapViews
import Derived.JoinedTies
import Derived.KernelRfl
namespace Go.Proofs.Ytjkofefcoeejbaa
/- THE CELL 'sum', in the pinned program and in every row, IS THE sha256 OF THE DUMP (.gsa) THAT YtjkofefcoeejbaaProg.lean LOADS. Nothing in Lean hashes anything: it is a label: what it is worth is what the hold of that sum in a sandbox is worth. -/
noncomputable def Try.pinned : Pinned := { name := "ytjkofefcoeejbaa", sum := "366cee6d32ce30651f93ea493fa3522d5514c6d7232785de5fd8f7d0c9810640", checked := Try.checked }
namespace Rows
def none {H : Type} : Left H := { results := [], args := [] }

/-- 'triunelaw06.AskTells': WHATEVER THE INPUT: true; the input reads as it did. -/
def askTellsSpec : ChangeSpec := { name := "askTells", fn := fun _ => fun
  | [d1, d2, d3] => { results := [.lit (.bool true)], args := [d1, d2, d3] }
  | _ => none }
def askTellsRow : OpenClaim := { program := "ytjkofefcoeejbaa", sum := "366cee6d32ce30651f93ea493fa3522d5514c6d7232785de5fd8f7d0c9810640", func := "triune/triunelaw06.AskTells", spec := "askTells", unfollowed := true, recurses := true, apart := false }
def AskTellsSaid : Prop := askTellsRow.holds Try.pinned (OpenSpec.ofChange askTellsSpec)

/-- ITS FALSE NEIGHBOUR: 'it returns false'. Refute it at one input. -/
def askTellsWrong : ChangeSpec := { name := "askTells", fn := fun _ => fun
  | [d1, d2, d3] => { results := [.lit (.bool false)], args := [d1, d2, d3] }
  | _ => none }
def AskTellsWrongFalsely : Prop := askTellsRow.holds Try.pinned (OpenSpec.ofChange askTellsWrong)

/-- 'triunelaw06.AskBack': WHATEVER THE INPUT: true; the input reads as it did. -/
def askBackSpec : ChangeSpec := { name := "askBack", fn := fun _ => fun
  | [d1, d2, d3] => { results := [.lit (.bool true)], args := [d1, d2, d3] }
  | _ => none }
def askBackRow : OpenClaim := { program := "ytjkofefcoeejbaa", sum := "366cee6d32ce30651f93ea493fa3522d5514c6d7232785de5fd8f7d0c9810640", func := "triune/triunelaw06.AskBack", spec := "askBack", unfollowed := true, recurses := true, apart := false }
def AskBackSaid : Prop := askBackRow.holds Try.pinned (OpenSpec.ofChange askBackSpec)

/-- ITS FALSE NEIGHBOUR: 'it returns false'. Refute it at one input. -/
def askBackWrong : ChangeSpec := { name := "askBack", fn := fun _ => fun
  | [d1, d2, d3] => { results := [.lit (.bool false)], args := [d1, d2, d3] }
  | _ => none }
def AskBackWrongFalsely : Prop := askBackRow.holds Try.pinned (OpenSpec.ofChange askBackWrong)

/-- 'triunelaw06.AskSame': WHATEVER THE INPUT: true; the input reads as it did. -/
def askSameSpec : ChangeSpec := { name := "askSame", fn := fun _ => fun
  | [d1, d2] => { results := [.lit (.bool true)], args := [d1, d2] }
  | _ => none }
def askSameRow : OpenClaim := { program := "ytjkofefcoeejbaa", sum := "366cee6d32ce30651f93ea493fa3522d5514c6d7232785de5fd8f7d0c9810640", func := "triune/triunelaw06.AskSame", spec := "askSame", unfollowed := true, recurses := true, apart := false }
def AskSameSaid : Prop := askSameRow.holds Try.pinned (OpenSpec.ofChange askSameSpec)

/-- ITS FALSE NEIGHBOUR: 'it returns false'. Refute it at one input. -/
def askSameWrong : ChangeSpec := { name := "askSame", fn := fun _ => fun
  | [d1, d2] => { results := [.lit (.bool false)], args := [d1, d2] }
  | _ => none }
def AskSameWrongFalsely : Prop := askSameRow.holds Try.pinned (OpenSpec.ofChange askSameWrong)

/-- 'triunelaw07.AnswerTells': WHATEVER THE INPUT: true; the input reads as it did. -/
def answerTellsSpec : ChangeSpec := { name := "answerTells", fn := fun _ => fun
  | [d1, d2, d3] => { results := [.lit (.bool true)], args := [d1, d2, d3] }
  | _ => none }
def answerTellsRow : OpenClaim := { program := "ytjkofefcoeejbaa", sum := "366cee6d32ce30651f93ea493fa3522d5514c6d7232785de5fd8f7d0c9810640", func := "triune/triunelaw07.AnswerTells", spec := "answerTells", unfollowed := true, recurses := true, apart := false }
def AnswerTellsSaid : Prop := answerTellsRow.holds Try.pinned (OpenSpec.ofChange answerTellsSpec)

/-- ITS FALSE NEIGHBOUR: 'it returns false'. Refute it at one input. -/
def answerTellsWrong : ChangeSpec := { name := "answerTells", fn := fun _ => fun
  | [d1, d2, d3] => { results := [.lit (.bool false)], args := [d1, d2, d3] }
  | _ => none }
def AnswerTellsWrongFalsely : Prop := answerTellsRow.holds Try.pinned (OpenSpec.ofChange answerTellsWrong)

/-- 'triunelaw07.AnswerBack': WHATEVER THE INPUT: true; the input reads as it did. -/
def answerBackSpec : ChangeSpec := { name := "answerBack", fn := fun _ => fun
  | [d1, d2, d3] => { results := [.lit (.bool true)], args := [d1, d2, d3] }
  | _ => none }
def answerBackRow : OpenClaim := { program := "ytjkofefcoeejbaa", sum := "366cee6d32ce30651f93ea493fa3522d5514c6d7232785de5fd8f7d0c9810640", func := "triune/triunelaw07.AnswerBack", spec := "answerBack", unfollowed := true, recurses := true, apart := false }
def AnswerBackSaid : Prop := answerBackRow.holds Try.pinned (OpenSpec.ofChange answerBackSpec)

/-- ITS FALSE NEIGHBOUR: 'it returns false'. Refute it at one input. -/
def answerBackWrong : ChangeSpec := { name := "answerBack", fn := fun _ => fun
  | [d1, d2, d3] => { results := [.lit (.bool false)], args := [d1, d2, d3] }
  | _ => none }
def AnswerBackWrongFalsely : Prop := answerBackRow.holds Try.pinned (OpenSpec.ofChange answerBackWrong)

/-- 'triunelaw07.AnswerExcept': WHATEVER THE INPUT: true; the input reads as it did. -/
def answerExceptSpec : ChangeSpec := { name := "answerExcept", fn := fun _ => fun
  | [d1, d2] => { results := [.lit (.bool true)], args := [d1, d2] }
  | _ => none }
def answerExceptRow : OpenClaim := { program := "ytjkofefcoeejbaa", sum := "366cee6d32ce30651f93ea493fa3522d5514c6d7232785de5fd8f7d0c9810640", func := "triune/triunelaw07.AnswerExcept", spec := "answerExcept", unfollowed := true, recurses := true, apart := false }
def AnswerExceptSaid : Prop := answerExceptRow.holds Try.pinned (OpenSpec.ofChange answerExceptSpec)

/-- ITS FALSE NEIGHBOUR: 'it returns false'. Refute it at one input. -/
def answerExceptWrong : ChangeSpec := { name := "answerExcept", fn := fun _ => fun
  | [d1, d2] => { results := [.lit (.bool false)], args := [d1, d2] }
  | _ => none }
def AnswerExceptWrongFalsely : Prop := answerExceptRow.holds Try.pinned (OpenSpec.ofChange answerExceptWrong)

/-- 'triunelaw12.VoteTells': WHATEVER THE INPUT: true; the input reads as it did. -/
def voteTellsSpec : ChangeSpec := { name := "voteTells", fn := fun _ => fun
  | [d1, d2, d3] => { results := [.lit (.bool true)], args := [d1, d2, d3] }
  | _ => none }
def voteTellsRow : OpenClaim := { program := "ytjkofefcoeejbaa", sum := "366cee6d32ce30651f93ea493fa3522d5514c6d7232785de5fd8f7d0c9810640", func := "triune/triunelaw12.VoteTells", spec := "voteTells", unfollowed := true, recurses := true, apart := false }
def VoteTellsSaid : Prop := voteTellsRow.holds Try.pinned (OpenSpec.ofChange voteTellsSpec)

/-- ITS FALSE NEIGHBOUR: 'it returns false'. Refute it at one input. -/
def voteTellsWrong : ChangeSpec := { name := "voteTells", fn := fun _ => fun
  | [d1, d2, d3] => { results := [.lit (.bool false)], args := [d1, d2, d3] }
  | _ => none }
def VoteTellsWrongFalsely : Prop := voteTellsRow.holds Try.pinned (OpenSpec.ofChange voteTellsWrong)

/-- 'triunelaw12.VoteTurned': WHATEVER THE INPUT: true; the input reads as it did. -/
def voteTurnedSpec : ChangeSpec := { name := "voteTurned", fn := fun _ => fun
  | [d1, d2] => { results := [.lit (.bool true)], args := [d1, d2] }
  | _ => none }
def voteTurnedRow : OpenClaim := { program := "ytjkofefcoeejbaa", sum := "366cee6d32ce30651f93ea493fa3522d5514c6d7232785de5fd8f7d0c9810640", func := "triune/triunelaw12.VoteTurned", spec := "voteTurned", unfollowed := true, recurses := true, apart := false }
def VoteTurnedSaid : Prop := voteTurnedRow.holds Try.pinned (OpenSpec.ofChange voteTurnedSpec)

/-- ITS FALSE NEIGHBOUR: 'it returns false'. Refute it at one input. -/
def voteTurnedWrong : ChangeSpec := { name := "voteTurned", fn := fun _ => fun
  | [d1, d2] => { results := [.lit (.bool false)], args := [d1, d2] }
  | _ => none }
def VoteTurnedWrongFalsely : Prop := voteTurnedRow.holds Try.pinned (OpenSpec.ofChange voteTurnedWrong)

/-- 'triunelaw12.VoteBetween': WHATEVER THE INPUT: true; the input reads as it did. -/
def voteBetweenSpec : ChangeSpec := { name := "voteBetween", fn := fun _ => fun
  | [d] => { results := [.lit (.bool true)], args := [d] }
  | _ => none }
def voteBetweenRow : OpenClaim := { program := "ytjkofefcoeejbaa", sum := "366cee6d32ce30651f93ea493fa3522d5514c6d7232785de5fd8f7d0c9810640", func := "triune/triunelaw12.VoteBetween", spec := "voteBetween", unfollowed := true, recurses := true, apart := false }
def VoteBetweenSaid : Prop := voteBetweenRow.holds Try.pinned (OpenSpec.ofChange voteBetweenSpec)

/-- ITS FALSE NEIGHBOUR: 'it returns false'. Refute it at one input. -/
def voteBetweenWrong : ChangeSpec := { name := "voteBetween", fn := fun _ => fun
  | [d] => { results := [.lit (.bool false)], args := [d] }
  | _ => none }
def VoteBetweenWrongFalsely : Prop := voteBetweenRow.holds Try.pinned (OpenSpec.ofChange voteBetweenWrong)

/- THE SECOND FORM. 'bulk': how many values and letters a reading holds, each counted each time it is reached (what is shared counts as often as it is met; a slice's spare places count too). A statement '..UptoSaid' is the law's where the arguments, and the package variables that the reading takes, are together of bulk at most 1048576: NARROWER than '..Said'. Prove '..Said' where nothing that the law and all that it calls make is longer than what came in: it says more and counts as full. Else prove '..UptoSaid'. A law counts once. -/
mutual
def uptoBulk {H : Type} : DataW H → Nat
  | .lit (.string bytes) => bytes.length + 1
  | .lit _ => 1
  | .nil => 1
  | .ptr d => uptoBulk d + 1
  | .slice elems spare => uptoBulkAll elems + uptoBulkAll spare + 1
  | .agg parts => uptoBulkAll parts + 1
  | .iface _ d => uptoBulk d + 1
  | .map entries => uptoBulkEntries entries + 1
  | .held _ => 1
def uptoBulkAll {H : Type} : List (DataW H) → Nat
  | [] => 0
  | d :: r => uptoBulk d + uptoBulkAll r
def uptoBulkEntries {H : Type} : List (Lit × DataW H) → Nat
  | [] => 0
  | x :: r => uptoBulkEntry x + uptoBulkEntries r
def uptoBulkEntry {H : Type} : Lit × DataW H → Nat
  | (.string bytes, d) => bytes.length + uptoBulk d + 1
  | (_, d) => uptoBulk d + 1
 end
def uptoSmall : (H : Type) → List (DataW H) → Bool := fun _ ds => decide (uptoBulkAll ds ≤ 1048576)
def OpenSpec.upto (s : _root_.Go.ChangeSpec) : _root_.Go.OpenSpec := { _root_.Go.OpenSpec.ofChange s with cond := some uptoSmall }

/-- 'triunelaw06.AskTells', WHERE WHAT IT READS IS OF BULK AT MOST 1048576: true; the input reads as it did. -/
def askTellsUptoRow : OpenClaim := { program := "ytjkofefcoeejbaa", sum := "366cee6d32ce30651f93ea493fa3522d5514c6d7232785de5fd8f7d0c9810640", func := "triune/triunelaw06.AskTells", spec := "askTells", unfollowed := true, recurses := true, apart := false, narrowed := true }
def AskTellsUptoSaid : Prop := askTellsUptoRow.holds Try.pinned (OpenSpec.upto askTellsSpec)

/-- 'triunelaw06.AskBack', WHERE WHAT IT READS IS OF BULK AT MOST 1048576: true; the input reads as it did. -/
def askBackUptoRow : OpenClaim := { program := "ytjkofefcoeejbaa", sum := "366cee6d32ce30651f93ea493fa3522d5514c6d7232785de5fd8f7d0c9810640", func := "triune/triunelaw06.AskBack", spec := "askBack", unfollowed := true, recurses := true, apart := false, narrowed := true }
def AskBackUptoSaid : Prop := askBackUptoRow.holds Try.pinned (OpenSpec.upto askBackSpec)

/-- 'triunelaw06.AskSame', WHERE WHAT IT READS IS OF BULK AT MOST 1048576: true; the input reads as it did. -/
def askSameUptoRow : OpenClaim := { program := "ytjkofefcoeejbaa", sum := "366cee6d32ce30651f93ea493fa3522d5514c6d7232785de5fd8f7d0c9810640", func := "triune/triunelaw06.AskSame", spec := "askSame", unfollowed := true, recurses := true, apart := false, narrowed := true }
def AskSameUptoSaid : Prop := askSameUptoRow.holds Try.pinned (OpenSpec.upto askSameSpec)

/-- 'triunelaw07.AnswerTells', WHERE WHAT IT READS IS OF BULK AT MOST 1048576: true; the input reads as it did. -/
def answerTellsUptoRow : OpenClaim := { program := "ytjkofefcoeejbaa", sum := "366cee6d32ce30651f93ea493fa3522d5514c6d7232785de5fd8f7d0c9810640", func := "triune/triunelaw07.AnswerTells", spec := "answerTells", unfollowed := true, recurses := true, apart := false, narrowed := true }
def AnswerTellsUptoSaid : Prop := answerTellsUptoRow.holds Try.pinned (OpenSpec.upto answerTellsSpec)

/-- 'triunelaw07.AnswerBack', WHERE WHAT IT READS IS OF BULK AT MOST 1048576: true; the input reads as it did. -/
def answerBackUptoRow : OpenClaim := { program := "ytjkofefcoeejbaa", sum := "366cee6d32ce30651f93ea493fa3522d5514c6d7232785de5fd8f7d0c9810640", func := "triune/triunelaw07.AnswerBack", spec := "answerBack", unfollowed := true, recurses := true, apart := false, narrowed := true }
def AnswerBackUptoSaid : Prop := answerBackUptoRow.holds Try.pinned (OpenSpec.upto answerBackSpec)

/-- 'triunelaw07.AnswerExcept', WHERE WHAT IT READS IS OF BULK AT MOST 1048576: true; the input reads as it did. -/
def answerExceptUptoRow : OpenClaim := { program := "ytjkofefcoeejbaa", sum := "366cee6d32ce30651f93ea493fa3522d5514c6d7232785de5fd8f7d0c9810640", func := "triune/triunelaw07.AnswerExcept", spec := "answerExcept", unfollowed := true, recurses := true, apart := false, narrowed := true }
def AnswerExceptUptoSaid : Prop := answerExceptUptoRow.holds Try.pinned (OpenSpec.upto answerExceptSpec)

/-- 'triunelaw12.VoteTells', WHERE WHAT IT READS IS OF BULK AT MOST 1048576: true; the input reads as it did. -/
def voteTellsUptoRow : OpenClaim := { program := "ytjkofefcoeejbaa", sum := "366cee6d32ce30651f93ea493fa3522d5514c6d7232785de5fd8f7d0c9810640", func := "triune/triunelaw12.VoteTells", spec := "voteTells", unfollowed := true, recurses := true, apart := false, narrowed := true }
def VoteTellsUptoSaid : Prop := voteTellsUptoRow.holds Try.pinned (OpenSpec.upto voteTellsSpec)

/-- 'triunelaw12.VoteTurned', WHERE WHAT IT READS IS OF BULK AT MOST 1048576: true; the input reads as it did. -/
def voteTurnedUptoRow : OpenClaim := { program := "ytjkofefcoeejbaa", sum := "366cee6d32ce30651f93ea493fa3522d5514c6d7232785de5fd8f7d0c9810640", func := "triune/triunelaw12.VoteTurned", spec := "voteTurned", unfollowed := true, recurses := true, apart := false, narrowed := true }
def VoteTurnedUptoSaid : Prop := voteTurnedUptoRow.holds Try.pinned (OpenSpec.upto voteTurnedSpec)

/-- 'triunelaw12.VoteBetween', WHERE WHAT IT READS IS OF BULK AT MOST 1048576: true; the input reads as it did. -/
def voteBetweenUptoRow : OpenClaim := { program := "ytjkofefcoeejbaa", sum := "366cee6d32ce30651f93ea493fa3522d5514c6d7232785de5fd8f7d0c9810640", func := "triune/triunelaw12.VoteBetween", spec := "voteBetween", unfollowed := true, recurses := true, apart := false, narrowed := true }
def VoteBetweenUptoSaid : Prop := voteBetweenUptoRow.holds Try.pinned (OpenSpec.upto voteBetweenSpec)

end Rows
end Go.Proofs.Ytjkofefcoeejbaa
