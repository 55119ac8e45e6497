/-
  No cell of these rows narrows 'for every input' (looked for: loops, veiled, ifaces, maps, wideKeys, modest, calm, conditions, laid).
  DERIVED. THE GIVEN ROWS OF THIS SEAT. 8 by the template 'for every input the law returns true; each argument reads behind the call as it read before'; 0 by the template 'total and deterministic' (their statements: YtbhnkdnfmlnajaaTotals.lean).
  GIVEN WITH THE SEED: the statements are not yours to turn. If you find one false, say at which input.
  Laid BY PROGRAM, IN A SANDBOX (cutbox-rows.mjs): the forced cells as the released guide's own fill.sh prints them over the translation 631d92e1081e2051… (all of the seat's roots in one cut). By AI agents, Wed Nov 11 2026. No macro, syntax, notation, axiom, sorry.
-/
import Derived.Test.YtbhnkdnfmlnajaaChecked
import GoSem.Claim
import GoSem.ClaimJoined
import GoSem.ClaimMapViews
import Derived.JoinedTies
import Derived.KernelRfl
namespace Go.Proofs.Ytbhnkdnfmlnajaa
/- THE CELL 'sum', in the pinned program and in every row, IS THE sha256 OF THE DUMP (.gsa) THAT YtbhnkdnfmlnajaaProg.lean LOADS. Nothing in Lean hashes anything: it is a label: what it is worth is what the hold of that sum in a sandbox is worth. -/
noncomputable def Try.pinned : Pinned := { name := "ytbhnkdnfmlnajaa", sum := "631d92e1081e2051a0ea355a7da606d8bf692e3fccb00f39ace17ea53469d11a", checked := Try.checked }
namespace Rows
def none {H : Type} : Left H := { results := [], args := [] }

/-- 'triunelaw17.ScanDoes': WHATEVER THE INPUT: true; the input reads as it did. -/
def scanDoesSpec : ChangeSpec := { name := "scanDoes", fn := fun _ => fun
  | [d1, d2] => { results := [.lit (.bool true)], args := [d1, d2] }
  | _ => none }
def scanDoesRow : OpenClaim := { program := "ytbhnkdnfmlnajaa", sum := "631d92e1081e2051a0ea355a7da606d8bf692e3fccb00f39ace17ea53469d11a", func := "triune/triunelaw17.ScanDoes", spec := "scanDoes", apart := false }
def ScanDoesSaid : Prop := scanDoesRow.holds Try.pinned (OpenSpec.ofChange scanDoesSpec)

/-- ITS FALSE NEIGHBOUR: 'it returns false'. Refute it at one input. -/
def scanDoesWrong : ChangeSpec := { name := "scanDoes", fn := fun _ => fun
  | [d1, d2] => { results := [.lit (.bool false)], args := [d1, d2] }
  | _ => none }
def ScanDoesWrongFalsely : Prop := scanDoesRow.holds Try.pinned (OpenSpec.ofChange scanDoesWrong)

/-- 'triunelaw17.ScanOnce': WHATEVER THE INPUT: true; the input reads as it did. -/
def scanOnceSpec : ChangeSpec := { name := "scanOnce", fn := fun _ => fun
  | [d1, d2, d3] => { results := [.lit (.bool true)], args := [d1, d2, d3] }
  | _ => none }
def scanOnceRow : OpenClaim := { program := "ytbhnkdnfmlnajaa", sum := "631d92e1081e2051a0ea355a7da606d8bf692e3fccb00f39ace17ea53469d11a", func := "triune/triunelaw17.ScanOnce", spec := "scanOnce", apart := false }
def ScanOnceSaid : Prop := scanOnceRow.holds Try.pinned (OpenSpec.ofChange scanOnceSpec)

/-- ITS FALSE NEIGHBOUR: 'it returns false'. Refute it at one input. -/
def scanOnceWrong : ChangeSpec := { name := "scanOnce", fn := fun _ => fun
  | [d1, d2, d3] => { results := [.lit (.bool false)], args := [d1, d2, d3] }
  | _ => none }
def ScanOnceWrongFalsely : Prop := scanOnceRow.holds Try.pinned (OpenSpec.ofChange scanOnceWrong)

/-- 'triunelaw16.JobsDo': WHATEVER THE INPUT: true; the input reads as it did. -/
def jobsDoSpec : ChangeSpec := { name := "jobsDo", fn := fun _ => fun
  | [d1, d2, d3] => { results := [.lit (.bool true)], args := [d1, d2, d3] }
  | _ => none }
def jobsDoRow : OpenClaim := { program := "ytbhnkdnfmlnajaa", sum := "631d92e1081e2051a0ea355a7da606d8bf692e3fccb00f39ace17ea53469d11a", func := "triune/triunelaw16.JobsDo", spec := "jobsDo", unfollowed := true, recurses := true, apart := false }
def JobsDoSaid : Prop := jobsDoRow.holds Try.pinned (OpenSpec.ofChange jobsDoSpec)

/-- ITS FALSE NEIGHBOUR: 'it returns false'. Refute it at one input. -/
def jobsDoWrong : ChangeSpec := { name := "jobsDo", fn := fun _ => fun
  | [d1, d2, d3] => { results := [.lit (.bool false)], args := [d1, d2, d3] }
  | _ => none }
def JobsDoWrongFalsely : Prop := jobsDoRow.holds Try.pinned (OpenSpec.ofChange jobsDoWrong)

/-- 'triunelaw16.JobsWell': WHATEVER THE INPUT: true; the input reads as it did. -/
def jobsWellSpec : ChangeSpec := { name := "jobsWell", fn := fun _ => fun
  | [d1, d2, d3] => { results := [.lit (.bool true)], args := [d1, d2, d3] }
  | _ => none }
def jobsWellRow : OpenClaim := { program := "ytbhnkdnfmlnajaa", sum := "631d92e1081e2051a0ea355a7da606d8bf692e3fccb00f39ace17ea53469d11a", func := "triune/triunelaw16.JobsWell", spec := "jobsWell", unfollowed := true, recurses := true, apart := false }
def JobsWellSaid : Prop := jobsWellRow.holds Try.pinned (OpenSpec.ofChange jobsWellSpec)

/-- ITS FALSE NEIGHBOUR: 'it returns false'. Refute it at one input. -/
def jobsWellWrong : ChangeSpec := { name := "jobsWell", fn := fun _ => fun
  | [d1, d2, d3] => { results := [.lit (.bool false)], args := [d1, d2, d3] }
  | _ => none }
def JobsWellWrongFalsely : Prop := jobsWellRow.holds Try.pinned (OpenSpec.ofChange jobsWellWrong)

/-- 'triunelaw16.JobsFail': WHATEVER THE INPUT: true; the input reads as it did. -/
def jobsFailSpec : ChangeSpec := { name := "jobsFail", fn := fun _ => fun
  | [d1, d2, d3] => { results := [.lit (.bool true)], args := [d1, d2, d3] }
  | _ => none }
def jobsFailRow : OpenClaim := { program := "ytbhnkdnfmlnajaa", sum := "631d92e1081e2051a0ea355a7da606d8bf692e3fccb00f39ace17ea53469d11a", func := "triune/triunelaw16.JobsFail", spec := "jobsFail", unfollowed := true, recurses := true, apart := false }
def JobsFailSaid : Prop := jobsFailRow.holds Try.pinned (OpenSpec.ofChange jobsFailSpec)

/-- ITS FALSE NEIGHBOUR: 'it returns false'. Refute it at one input. -/
def jobsFailWrong : ChangeSpec := { name := "jobsFail", fn := fun _ => fun
  | [d1, d2, d3] => { results := [.lit (.bool false)], args := [d1, d2, d3] }
  | _ => none }
def JobsFailWrongFalsely : Prop := jobsFailRow.holds Try.pinned (OpenSpec.ofChange jobsFailWrong)

/-- 'triunelaw13.JudgeTells': WHATEVER THE INPUT: true; the input reads as it did. -/
def judgeTellsSpec : ChangeSpec := { name := "judgeTells", fn := fun _ => fun
  | [d1, d2, d3] => { results := [.lit (.bool true)], args := [d1, d2, d3] }
  | _ => none }
def judgeTellsRow : OpenClaim := { program := "ytbhnkdnfmlnajaa", sum := "631d92e1081e2051a0ea355a7da606d8bf692e3fccb00f39ace17ea53469d11a", func := "triune/triunelaw13.JudgeTells", spec := "judgeTells", unfollowed := true, recurses := true, apart := false }
def JudgeTellsSaid : Prop := judgeTellsRow.holds Try.pinned (OpenSpec.ofChange judgeTellsSpec)

/-- ITS FALSE NEIGHBOUR: 'it returns false'. Refute it at one input. -/
def judgeTellsWrong : ChangeSpec := { name := "judgeTells", fn := fun _ => fun
  | [d1, d2, d3] => { results := [.lit (.bool false)], args := [d1, d2, d3] }
  | _ => none }
def JudgeTellsWrongFalsely : Prop := judgeTellsRow.holds Try.pinned (OpenSpec.ofChange judgeTellsWrong)

/-- 'triunelaw13.JudgeTwo': WHATEVER THE INPUT: true; the input reads as it did. -/
def judgeTwoSpec : ChangeSpec := { name := "judgeTwo", fn := fun _ => fun
  | [d1, d2, d3] => { results := [.lit (.bool true)], args := [d1, d2, d3] }
  | _ => none }
def judgeTwoRow : OpenClaim := { program := "ytbhnkdnfmlnajaa", sum := "631d92e1081e2051a0ea355a7da606d8bf692e3fccb00f39ace17ea53469d11a", func := "triune/triunelaw13.JudgeTwo", spec := "judgeTwo", unfollowed := true, recurses := true, apart := false }
def JudgeTwoSaid : Prop := judgeTwoRow.holds Try.pinned (OpenSpec.ofChange judgeTwoSpec)

/-- ITS FALSE NEIGHBOUR: 'it returns false'. Refute it at one input. -/
def judgeTwoWrong : ChangeSpec := { name := "judgeTwo", fn := fun _ => fun
  | [d1, d2, d3] => { results := [.lit (.bool false)], args := [d1, d2, d3] }
  | _ => none }
def JudgeTwoWrongFalsely : Prop := judgeTwoRow.holds Try.pinned (OpenSpec.ofChange judgeTwoWrong)

/-- 'triunelaw13.JudgeFine': WHATEVER THE INPUT: true; the input reads as it did. -/
def judgeFineSpec : ChangeSpec := { name := "judgeFine", fn := fun _ => fun
  | [d1, d2, d3] => { results := [.lit (.bool true)], args := [d1, d2, d3] }
  | _ => none }
def judgeFineRow : OpenClaim := { program := "ytbhnkdnfmlnajaa", sum := "631d92e1081e2051a0ea355a7da606d8bf692e3fccb00f39ace17ea53469d11a", func := "triune/triunelaw13.JudgeFine", spec := "judgeFine", unfollowed := true, recurses := true, apart := false }
def JudgeFineSaid : Prop := judgeFineRow.holds Try.pinned (OpenSpec.ofChange judgeFineSpec)

/-- ITS FALSE NEIGHBOUR: 'it returns false'. Refute it at one input. -/
def judgeFineWrong : ChangeSpec := { name := "judgeFine", fn := fun _ => fun
  | [d1, d2, d3] => { results := [.lit (.bool false)], args := [d1, d2, d3] }
  | _ => none }
def JudgeFineWrongFalsely : Prop := judgeFineRow.holds Try.pinned (OpenSpec.ofChange judgeFineWrong)

/- THE SECOND FORM. 'bulk': how many values and letters a reading holds, each counted each time it is reached (what is shared counts as often as it is met; a slice's spare places count too). A statement '..UptoSaid' is the law's where the arguments, and the package variables that the reading takes, are together of bulk at most 1048576: NARROWER than '..Said'. Prove '..Said' where nothing that the law and all that it calls make is longer than what came in: it says more and counts as full. Else prove '..UptoSaid'. A law counts once. -/
mutual
def uptoBulk {H : Type} : DataW H → Nat
  | .lit (.string bytes) => bytes.length + 1
  | .lit _ => 1
  | .nil => 1
  | .ptr d => uptoBulk d + 1
  | .slice elems spare => uptoBulkAll elems + uptoBulkAll spare + 1
  | .agg parts => uptoBulkAll parts + 1
  | .iface _ d => uptoBulk d + 1
  | .map entries => uptoBulkEntries entries + 1
  | .held _ => 1
def uptoBulkAll {H : Type} : List (DataW H) → Nat
  | [] => 0
  | d :: r => uptoBulk d + uptoBulkAll r
def uptoBulkEntries {H : Type} : List (Lit × DataW H) → Nat
  | [] => 0
  | x :: r => uptoBulkEntry x + uptoBulkEntries r
def uptoBulkEntry {H : Type} : Lit × DataW H → Nat
  | (.string bytes, d) => bytes.length + uptoBulk d + 1
  | (_, d) => uptoBulk d + 1
 end
def uptoSmall : (H : Type) → List (DataW H) → Bool := fun _ ds => decide (uptoBulkAll ds ≤ 1048576)
def OpenSpec.upto (s : _root_.Go.ChangeSpec) : _root_.Go.OpenSpec := { _root_.Go.OpenSpec.ofChange s with cond := some uptoSmall }

/-- 'triunelaw17.ScanDoes', WHERE WHAT IT READS IS OF BULK AT MOST 1048576: true; the input reads as it did. -/
def scanDoesUptoRow : OpenClaim := { program := "ytbhnkdnfmlnajaa", sum := "631d92e1081e2051a0ea355a7da606d8bf692e3fccb00f39ace17ea53469d11a", func := "triune/triunelaw17.ScanDoes", spec := "scanDoes", apart := false, narrowed := true }
def ScanDoesUptoSaid : Prop := scanDoesUptoRow.holds Try.pinned (OpenSpec.upto scanDoesSpec)

/-- 'triunelaw17.ScanOnce', WHERE WHAT IT READS IS OF BULK AT MOST 1048576: true; the input reads as it did. -/
def scanOnceUptoRow : OpenClaim := { program := "ytbhnkdnfmlnajaa", sum := "631d92e1081e2051a0ea355a7da606d8bf692e3fccb00f39ace17ea53469d11a", func := "triune/triunelaw17.ScanOnce", spec := "scanOnce", apart := false, narrowed := true }
def ScanOnceUptoSaid : Prop := scanOnceUptoRow.holds Try.pinned (OpenSpec.upto scanOnceSpec)

/-- 'triunelaw16.JobsDo', WHERE WHAT IT READS IS OF BULK AT MOST 1048576: true; the input reads as it did. -/
def jobsDoUptoRow : OpenClaim := { program := "ytbhnkdnfmlnajaa", sum := "631d92e1081e2051a0ea355a7da606d8bf692e3fccb00f39ace17ea53469d11a", func := "triune/triunelaw16.JobsDo", spec := "jobsDo", unfollowed := true, recurses := true, apart := false, narrowed := true }
def JobsDoUptoSaid : Prop := jobsDoUptoRow.holds Try.pinned (OpenSpec.upto jobsDoSpec)

/-- 'triunelaw16.JobsWell', WHERE WHAT IT READS IS OF BULK AT MOST 1048576: true; the input reads as it did. -/
def jobsWellUptoRow : OpenClaim := { program := "ytbhnkdnfmlnajaa", sum := "631d92e1081e2051a0ea355a7da606d8bf692e3fccb00f39ace17ea53469d11a", func := "triune/triunelaw16.JobsWell", spec := "jobsWell", unfollowed := true, recurses := true, apart := false, narrowed := true }
def JobsWellUptoSaid : Prop := jobsWellUptoRow.holds Try.pinned (OpenSpec.upto jobsWellSpec)

/-- 'triunelaw16.JobsFail', WHERE WHAT IT READS IS OF BULK AT MOST 1048576: true; the input reads as it did. -/
def jobsFailUptoRow : OpenClaim := { program := "ytbhnkdnfmlnajaa", sum := "631d92e1081e2051a0ea355a7da606d8bf692e3fccb00f39ace17ea53469d11a", func := "triune/triunelaw16.JobsFail", spec := "jobsFail", unfollowed := true, recurses := true, apart := false, narrowed := true }
def JobsFailUptoSaid : Prop := jobsFailUptoRow.holds Try.pinned (OpenSpec.upto jobsFailSpec)

/-- 'triunelaw13.JudgeTells', WHERE WHAT IT READS IS OF BULK AT MOST 1048576: true; the input reads as it did. -/
def judgeTellsUptoRow : OpenClaim := { program := "ytbhnkdnfmlnajaa", sum := "631d92e1081e2051a0ea355a7da606d8bf692e3fccb00f39ace17ea53469d11a", func := "triune/triunelaw13.JudgeTells", spec := "judgeTells", unfollowed := true, recurses := true, apart := false, narrowed := true }
def JudgeTellsUptoSaid : Prop := judgeTellsUptoRow.holds Try.pinned (OpenSpec.upto judgeTellsSpec)

/-- 'triunelaw13.JudgeTwo', WHERE WHAT IT READS IS OF BULK AT MOST 1048576: true; the input reads as it did. -/
def judgeTwoUptoRow : OpenClaim := { program := "ytbhnkdnfmlnajaa", sum := "631d92e1081e2051a0ea355a7da606d8bf692e3fccb00f39ace17ea53469d11a", func := "triune/triunelaw13.JudgeTwo", spec := "judgeTwo", unfollowed := true, recurses := true, apart := false, narrowed := true }
def JudgeTwoUptoSaid : Prop := judgeTwoUptoRow.holds Try.pinned (OpenSpec.upto judgeTwoSpec)

/-- 'triunelaw13.JudgeFine', WHERE WHAT IT READS IS OF BULK AT MOST 1048576: true; the input reads as it did. -/
def judgeFineUptoRow : OpenClaim := { program := "ytbhnkdnfmlnajaa", sum := "631d92e1081e2051a0ea355a7da606d8bf692e3fccb00f39ace17ea53469d11a", func := "triune/triunelaw13.JudgeFine", spec := "judgeFine", unfollowed := true, recurses := true, apart := false, narrowed := true }
def JudgeFineUptoSaid : Prop := judgeFineUptoRow.holds Try.pinned (OpenSpec.upto judgeFineSpec)

end Rows
end Go.Proofs.Ytbhnkdnfmlnajaa
