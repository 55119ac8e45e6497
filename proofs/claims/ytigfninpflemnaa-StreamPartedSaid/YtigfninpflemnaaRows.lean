/-
  No cell of these rows narrows 'for every input' (looked for: loops, veiled, ifaces, maps, wideKeys, modest, calm, conditions, laid).
  DERIVED. THE GIVEN ROWS OF THIS SEAT. 12 by the template 'for every input the law returns true; each argument reads behind the call as it read before'; 0 by the template 'total and deterministic' (their statements: YtigfninpflemnaaTotals.lean).
  GIVEN WITH THE SEED: the statements are not yours to turn. If you find one false, say at which input.
  Laid BY PROGRAM, IN A SANDBOX (cutbox-rows.mjs): the forced cells as the released guide's own fill.sh prints them over the translation bebf15de52d78537… (all of the seat's roots in one cut). By AI agents, Wed Nov 11 2026. No macro, syntax, notation, axiom, sorry.
-/
import Derived.Test.YtigfninpflemnaaChecked
import GoSem.Claim
import GoSem.ClaimJoined
import GoSem.ClaimMapViews
import Derived.JoinedTies
import Derived.KernelRfl
namespace Go.Proofs.Ytigfninpflemnaa
/- THE CELL 'sum', in the pinned program and in every row, IS THE sha256 OF THE DUMP (.gsa) THAT YtigfninpflemnaaProg.lean LOADS. Nothing in Lean hashes anything: it is a label: what it is worth is what the hold of that sum in a sandbox is worth. -/
noncomputable def Try.pinned : Pinned := { name := "ytigfninpflemnaa", sum := "bebf15de52d78537c542587ef37cae020ee1a7414f39cb47d93c4e7ec07d0379", checked := Try.checked }
namespace Rows
def none {H : Type} : Left H := { results := [], args := [] }

/-- 'triunelaw01.CrcSums': WHATEVER THE INPUT: true; the input reads as it did. -/
def crcSumsSpec : ChangeSpec := { name := "crcSums", fn := fun _ => fun
  | [d1, d2] => { results := [.lit (.bool true)], args := [d1, d2] }
  | _ => none }
def crcSumsRow : OpenClaim := { program := "ytigfninpflemnaa", sum := "bebf15de52d78537c542587ef37cae020ee1a7414f39cb47d93c4e7ec07d0379", func := "triune/triunelaw01.CrcSums", spec := "crcSums", apart := false }
def CrcSumsSaid : Prop := crcSumsRow.holds Try.pinned (OpenSpec.ofChange crcSumsSpec)

/-- ITS FALSE NEIGHBOUR: 'it returns false'. Refute it at one input. -/
def crcSumsWrong : ChangeSpec := { name := "crcSums", fn := fun _ => fun
  | [d1, d2] => { results := [.lit (.bool false)], args := [d1, d2] }
  | _ => none }
def CrcSumsWrongFalsely : Prop := crcSumsRow.holds Try.pinned (OpenSpec.ofChange crcSumsWrong)

/-- 'triunelaw01.CrcParts': WHATEVER THE INPUT: true; the input reads as it did. -/
def crcPartsSpec : ChangeSpec := { name := "crcParts", fn := fun _ => fun
  | [d1, d2] => { results := [.lit (.bool true)], args := [d1, d2] }
  | _ => none }
def crcPartsRow : OpenClaim := { program := "ytigfninpflemnaa", sum := "bebf15de52d78537c542587ef37cae020ee1a7414f39cb47d93c4e7ec07d0379", func := "triune/triunelaw01.CrcParts", spec := "crcParts", apart := false }
def CrcPartsSaid : Prop := crcPartsRow.holds Try.pinned (OpenSpec.ofChange crcPartsSpec)

/-- ITS FALSE NEIGHBOUR: 'it returns false'. Refute it at one input. -/
def crcPartsWrong : ChangeSpec := { name := "crcParts", fn := fun _ => fun
  | [d1, d2] => { results := [.lit (.bool false)], args := [d1, d2] }
  | _ => none }
def CrcPartsWrongFalsely : Prop := crcPartsRow.holds Try.pinned (OpenSpec.ofChange crcPartsWrong)

/-- 'triunelaw17.ScanDoes': WHATEVER THE INPUT: true; the input reads as it did. -/
def scanDoesSpec : ChangeSpec := { name := "scanDoes", fn := fun _ => fun
  | [d1, d2] => { results := [.lit (.bool true)], args := [d1, d2] }
  | _ => none }
def scanDoesRow : OpenClaim := { program := "ytigfninpflemnaa", sum := "bebf15de52d78537c542587ef37cae020ee1a7414f39cb47d93c4e7ec07d0379", func := "triune/triunelaw17.ScanDoes", spec := "scanDoes", apart := false }
def ScanDoesSaid : Prop := scanDoesRow.holds Try.pinned (OpenSpec.ofChange scanDoesSpec)

/-- ITS FALSE NEIGHBOUR: 'it returns false'. Refute it at one input. -/
def scanDoesWrong : ChangeSpec := { name := "scanDoes", fn := fun _ => fun
  | [d1, d2] => { results := [.lit (.bool false)], args := [d1, d2] }
  | _ => none }
def ScanDoesWrongFalsely : Prop := scanDoesRow.holds Try.pinned (OpenSpec.ofChange scanDoesWrong)

/-- 'triunelaw17.ScanOnce': WHATEVER THE INPUT: true; the input reads as it did. -/
def scanOnceSpec : ChangeSpec := { name := "scanOnce", fn := fun _ => fun
  | [d1, d2, d3] => { results := [.lit (.bool true)], args := [d1, d2, d3] }
  | _ => none }
def scanOnceRow : OpenClaim := { program := "ytigfninpflemnaa", sum := "bebf15de52d78537c542587ef37cae020ee1a7414f39cb47d93c4e7ec07d0379", func := "triune/triunelaw17.ScanOnce", spec := "scanOnce", apart := false }
def ScanOnceSaid : Prop := scanOnceRow.holds Try.pinned (OpenSpec.ofChange scanOnceSpec)

/-- ITS FALSE NEIGHBOUR: 'it returns false'. Refute it at one input. -/
def scanOnceWrong : ChangeSpec := { name := "scanOnce", fn := fun _ => fun
  | [d1, d2, d3] => { results := [.lit (.bool false)], args := [d1, d2, d3] }
  | _ => none }
def ScanOnceWrongFalsely : Prop := scanOnceRow.holds Try.pinned (OpenSpec.ofChange scanOnceWrong)

/-- 'triunelaw02.WordTells': WHATEVER THE INPUT: true; the input reads as it did. -/
def wordTellsSpec : ChangeSpec := { name := "wordTells", fn := fun _ => fun
  | [d1, d2, d3] => { results := [.lit (.bool true)], args := [d1, d2, d3] }
  | _ => none }
def wordTellsRow : OpenClaim := { program := "ytigfninpflemnaa", sum := "bebf15de52d78537c542587ef37cae020ee1a7414f39cb47d93c4e7ec07d0379", func := "triune/triunelaw02.WordTells", spec := "wordTells", unfollowed := true, recurses := true, apart := false }
def WordTellsSaid : Prop := wordTellsRow.holds Try.pinned (OpenSpec.ofChange wordTellsSpec)

/-- ITS FALSE NEIGHBOUR: 'it returns false'. Refute it at one input. -/
def wordTellsWrong : ChangeSpec := { name := "wordTells", fn := fun _ => fun
  | [d1, d2, d3] => { results := [.lit (.bool false)], args := [d1, d2, d3] }
  | _ => none }
def WordTellsWrongFalsely : Prop := wordTellsRow.holds Try.pinned (OpenSpec.ofChange wordTellsWrong)

/-- 'triunelaw02.WordMasks': WHATEVER THE INPUT: true; the input reads as it did. -/
def wordMasksSpec : ChangeSpec := { name := "wordMasks", fn := fun _ => fun
  | [d1, d2] => { results := [.lit (.bool true)], args := [d1, d2] }
  | _ => none }
def wordMasksRow : OpenClaim := { program := "ytigfninpflemnaa", sum := "bebf15de52d78537c542587ef37cae020ee1a7414f39cb47d93c4e7ec07d0379", func := "triune/triunelaw02.WordMasks", spec := "wordMasks", unfollowed := true, recurses := true, apart := false }
def WordMasksSaid : Prop := wordMasksRow.holds Try.pinned (OpenSpec.ofChange wordMasksSpec)

/-- ITS FALSE NEIGHBOUR: 'it returns false'. Refute it at one input. -/
def wordMasksWrong : ChangeSpec := { name := "wordMasks", fn := fun _ => fun
  | [d1, d2] => { results := [.lit (.bool false)], args := [d1, d2] }
  | _ => none }
def WordMasksWrongFalsely : Prop := wordMasksRow.holds Try.pinned (OpenSpec.ofChange wordMasksWrong)

/-- 'triunelaw02.WordBack': WHATEVER THE INPUT: true; the input reads as it did. -/
def wordBackSpec : ChangeSpec := { name := "wordBack", fn := fun _ => fun
  | [d1, d2] => { results := [.lit (.bool true)], args := [d1, d2] }
  | _ => none }
def wordBackRow : OpenClaim := { program := "ytigfninpflemnaa", sum := "bebf15de52d78537c542587ef37cae020ee1a7414f39cb47d93c4e7ec07d0379", func := "triune/triunelaw02.WordBack", spec := "wordBack", unfollowed := true, recurses := true, apart := false }
def WordBackSaid : Prop := wordBackRow.holds Try.pinned (OpenSpec.ofChange wordBackSpec)

/-- ITS FALSE NEIGHBOUR: 'it returns false'. Refute it at one input. -/
def wordBackWrong : ChangeSpec := { name := "wordBack", fn := fun _ => fun
  | [d1, d2] => { results := [.lit (.bool false)], args := [d1, d2] }
  | _ => none }
def WordBackWrongFalsely : Prop := wordBackRow.holds Try.pinned (OpenSpec.ofChange wordBackWrong)

/-- 'triunelaw04.MbapTells': WHATEVER THE INPUT: true; the input reads as it did. -/
def mbapTellsSpec : ChangeSpec := { name := "mbapTells", fn := fun _ => fun
  | [d1, d2, d3] => { results := [.lit (.bool true)], args := [d1, d2, d3] }
  | _ => none }
def mbapTellsRow : OpenClaim := { program := "ytigfninpflemnaa", sum := "bebf15de52d78537c542587ef37cae020ee1a7414f39cb47d93c4e7ec07d0379", func := "triune/triunelaw04.MbapTells", spec := "mbapTells", apart := false }
def MbapTellsSaid : Prop := mbapTellsRow.holds Try.pinned (OpenSpec.ofChange mbapTellsSpec)

/-- ITS FALSE NEIGHBOUR: 'it returns false'. Refute it at one input. -/
def mbapTellsWrong : ChangeSpec := { name := "mbapTells", fn := fun _ => fun
  | [d1, d2, d3] => { results := [.lit (.bool false)], args := [d1, d2, d3] }
  | _ => none }
def MbapTellsWrongFalsely : Prop := mbapTellsRow.holds Try.pinned (OpenSpec.ofChange mbapTellsWrong)

/-- 'triunelaw04.MbapBack': WHATEVER THE INPUT: true; the input reads as it did. -/
def mbapBackSpec : ChangeSpec := { name := "mbapBack", fn := fun _ => fun
  | [d1, d2, d3] => { results := [.lit (.bool true)], args := [d1, d2, d3] }
  | _ => none }
def mbapBackRow : OpenClaim := { program := "ytigfninpflemnaa", sum := "bebf15de52d78537c542587ef37cae020ee1a7414f39cb47d93c4e7ec07d0379", func := "triune/triunelaw04.MbapBack", spec := "mbapBack", apart := false }
def MbapBackSaid : Prop := mbapBackRow.holds Try.pinned (OpenSpec.ofChange mbapBackSpec)

/-- ITS FALSE NEIGHBOUR: 'it returns false'. Refute it at one input. -/
def mbapBackWrong : ChangeSpec := { name := "mbapBack", fn := fun _ => fun
  | [d1, d2, d3] => { results := [.lit (.bool false)], args := [d1, d2, d3] }
  | _ => none }
def MbapBackWrongFalsely : Prop := mbapBackRow.holds Try.pinned (OpenSpec.ofChange mbapBackWrong)

/-- 'triunelaw04.MbapAgain': WHATEVER THE INPUT: true; the input reads as it did. -/
def mbapAgainSpec : ChangeSpec := { name := "mbapAgain", fn := fun _ => fun
  | [d] => { results := [.lit (.bool true)], args := [d] }
  | _ => none }
def mbapAgainRow : OpenClaim := { program := "ytigfninpflemnaa", sum := "bebf15de52d78537c542587ef37cae020ee1a7414f39cb47d93c4e7ec07d0379", func := "triune/triunelaw04.MbapAgain", spec := "mbapAgain", apart := false }
def MbapAgainSaid : Prop := mbapAgainRow.holds Try.pinned (OpenSpec.ofChange mbapAgainSpec)

/-- ITS FALSE NEIGHBOUR: 'it returns false'. Refute it at one input. -/
def mbapAgainWrong : ChangeSpec := { name := "mbapAgain", fn := fun _ => fun
  | [d] => { results := [.lit (.bool false)], args := [d] }
  | _ => none }
def MbapAgainWrongFalsely : Prop := mbapAgainRow.holds Try.pinned (OpenSpec.ofChange mbapAgainWrong)

/-- 'triunelaw05.StreamTells': WHATEVER THE INPUT: true; the input reads as it did. -/
def streamTellsSpec : ChangeSpec := { name := "streamTells", fn := fun _ => fun
  | [d] => { results := [.lit (.bool true)], args := [d] }
  | _ => none }
def streamTellsRow : OpenClaim := { program := "ytigfninpflemnaa", sum := "bebf15de52d78537c542587ef37cae020ee1a7414f39cb47d93c4e7ec07d0379", func := "triune/triunelaw05.StreamTells", spec := "streamTells", apart := false }
def StreamTellsSaid : Prop := streamTellsRow.holds Try.pinned (OpenSpec.ofChange streamTellsSpec)

/-- ITS FALSE NEIGHBOUR: 'it returns false'. Refute it at one input. -/
def streamTellsWrong : ChangeSpec := { name := "streamTells", fn := fun _ => fun
  | [d] => { results := [.lit (.bool false)], args := [d] }
  | _ => none }
def StreamTellsWrongFalsely : Prop := streamTellsRow.holds Try.pinned (OpenSpec.ofChange streamTellsWrong)

/-- 'triunelaw05.StreamParted': WHATEVER THE INPUT: true; the input reads as it did. -/
def streamPartedSpec : ChangeSpec := { name := "streamParted", fn := fun _ => fun
  | [d1, d2] => { results := [.lit (.bool true)], args := [d1, d2] }
  | _ => none }
def streamPartedRow : OpenClaim := { program := "ytigfninpflemnaa", sum := "bebf15de52d78537c542587ef37cae020ee1a7414f39cb47d93c4e7ec07d0379", func := "triune/triunelaw05.StreamParted", spec := "streamParted", apart := false }
def StreamPartedSaid : Prop := streamPartedRow.holds Try.pinned (OpenSpec.ofChange streamPartedSpec)

/-- ITS FALSE NEIGHBOUR: 'it returns false'. Refute it at one input. -/
def streamPartedWrong : ChangeSpec := { name := "streamParted", fn := fun _ => fun
  | [d1, d2] => { results := [.lit (.bool false)], args := [d1, d2] }
  | _ => none }
def StreamPartedWrongFalsely : Prop := streamPartedRow.holds Try.pinned (OpenSpec.ofChange streamPartedWrong)

/- THE SECOND FORM. 'bulk': how many values and letters a reading holds, each counted each time it is reached (what is shared counts as often as it is met; a slice's spare places count too). A statement '..UptoSaid' is the law's where the arguments, and the package variables that the reading takes, are together of bulk at most 1048576: NARROWER than '..Said'. Prove '..Said' where nothing that the law and all that it calls make is longer than what came in: it says more and counts as full. Else prove '..UptoSaid'. A law counts once. -/
mutual
def uptoBulk {H : Type} : DataW H → Nat
  | .lit (.string bytes) => bytes.length + 1
  | .lit _ => 1
  | .nil => 1
  | .ptr d => uptoBulk d + 1
  | .slice elems spare => uptoBulkAll elems + uptoBulkAll spare + 1
  | .agg parts => uptoBulkAll parts + 1
  | .iface _ d => uptoBulk d + 1
  | .map entries => uptoBulkEntries entries + 1
  | .held _ => 1
def uptoBulkAll {H : Type} : List (DataW H) → Nat
  | [] => 0
  | d :: r => uptoBulk d + uptoBulkAll r
def uptoBulkEntries {H : Type} : List (Lit × DataW H) → Nat
  | [] => 0
  | x :: r => uptoBulkEntry x + uptoBulkEntries r
def uptoBulkEntry {H : Type} : Lit × DataW H → Nat
  | (.string bytes, d) => bytes.length + uptoBulk d + 1
  | (_, d) => uptoBulk d + 1
 end
def uptoSmall : (H : Type) → List (DataW H) → Bool := fun _ ds => decide (uptoBulkAll ds ≤ 1048576)
def OpenSpec.upto (s : _root_.Go.ChangeSpec) : _root_.Go.OpenSpec := { _root_.Go.OpenSpec.ofChange s with cond := some uptoSmall }

/-- 'triunelaw01.CrcSums', WHERE WHAT IT READS IS OF BULK AT MOST 1048576: true; the input reads as it did. -/
def crcSumsUptoRow : OpenClaim := { program := "ytigfninpflemnaa", sum := "bebf15de52d78537c542587ef37cae020ee1a7414f39cb47d93c4e7ec07d0379", func := "triune/triunelaw01.CrcSums", spec := "crcSums", apart := false, narrowed := true }
def CrcSumsUptoSaid : Prop := crcSumsUptoRow.holds Try.pinned (OpenSpec.upto crcSumsSpec)

/-- 'triunelaw01.CrcParts', WHERE WHAT IT READS IS OF BULK AT MOST 1048576: true; the input reads as it did. -/
def crcPartsUptoRow : OpenClaim := { program := "ytigfninpflemnaa", sum := "bebf15de52d78537c542587ef37cae020ee1a7414f39cb47d93c4e7ec07d0379", func := "triune/triunelaw01.CrcParts", spec := "crcParts", apart := false, narrowed := true }
def CrcPartsUptoSaid : Prop := crcPartsUptoRow.holds Try.pinned (OpenSpec.upto crcPartsSpec)

/-- 'triunelaw17.ScanDoes', WHERE WHAT IT READS IS OF BULK AT MOST 1048576: true; the input reads as it did. -/
def scanDoesUptoRow : OpenClaim := { program := "ytigfninpflemnaa", sum := "bebf15de52d78537c542587ef37cae020ee1a7414f39cb47d93c4e7ec07d0379", func := "triune/triunelaw17.ScanDoes", spec := "scanDoes", apart := false, narrowed := true }
def ScanDoesUptoSaid : Prop := scanDoesUptoRow.holds Try.pinned (OpenSpec.upto scanDoesSpec)

/-- 'triunelaw17.ScanOnce', WHERE WHAT IT READS IS OF BULK AT MOST 1048576: true; the input reads as it did. -/
def scanOnceUptoRow : OpenClaim := { program := "ytigfninpflemnaa", sum := "bebf15de52d78537c542587ef37cae020ee1a7414f39cb47d93c4e7ec07d0379", func := "triune/triunelaw17.ScanOnce", spec := "scanOnce", apart := false, narrowed := true }
def ScanOnceUptoSaid : Prop := scanOnceUptoRow.holds Try.pinned (OpenSpec.upto scanOnceSpec)

/-- 'triunelaw02.WordTells', WHERE WHAT IT READS IS OF BULK AT MOST 1048576: true; the input reads as it did. -/
def wordTellsUptoRow : OpenClaim := { program := "ytigfninpflemnaa", sum := "bebf15de52d78537c542587ef37cae020ee1a7414f39cb47d93c4e7ec07d0379", func := "triune/triunelaw02.WordTells", spec := "wordTells", unfollowed := true, recurses := true, apart := false, narrowed := true }
def WordTellsUptoSaid : Prop := wordTellsUptoRow.holds Try.pinned (OpenSpec.upto wordTellsSpec)

/-- 'triunelaw02.WordMasks', WHERE WHAT IT READS IS OF BULK AT MOST 1048576: true; the input reads as it did. -/
def wordMasksUptoRow : OpenClaim := { program := "ytigfninpflemnaa", sum := "bebf15de52d78537c542587ef37cae020ee1a7414f39cb47d93c4e7ec07d0379", func := "triune/triunelaw02.WordMasks", spec := "wordMasks", unfollowed := true, recurses := true, apart := false, narrowed := true }
def WordMasksUptoSaid : Prop := wordMasksUptoRow.holds Try.pinned (OpenSpec.upto wordMasksSpec)

/-- 'triunelaw02.WordBack', WHERE WHAT IT READS IS OF BULK AT MOST 1048576: true; the input reads as it did. -/
def wordBackUptoRow : OpenClaim := { program := "ytigfninpflemnaa", sum := "bebf15de52d78537c542587ef37cae020ee1a7414f39cb47d93c4e7ec07d0379", func := "triune/triunelaw02.WordBack", spec := "wordBack", unfollowed := true, recurses := true, apart := false, narrowed := true }
def WordBackUptoSaid : Prop := wordBackUptoRow.holds Try.pinned (OpenSpec.upto wordBackSpec)

/-- 'triunelaw04.MbapTells', WHERE WHAT IT READS IS OF BULK AT MOST 1048576: true; the input reads as it did. -/
def mbapTellsUptoRow : OpenClaim := { program := "ytigfninpflemnaa", sum := "bebf15de52d78537c542587ef37cae020ee1a7414f39cb47d93c4e7ec07d0379", func := "triune/triunelaw04.MbapTells", spec := "mbapTells", apart := false, narrowed := true }
def MbapTellsUptoSaid : Prop := mbapTellsUptoRow.holds Try.pinned (OpenSpec.upto mbapTellsSpec)

/-- 'triunelaw04.MbapBack', WHERE WHAT IT READS IS OF BULK AT MOST 1048576: true; the input reads as it did. -/
def mbapBackUptoRow : OpenClaim := { program := "ytigfninpflemnaa", sum := "bebf15de52d78537c542587ef37cae020ee1a7414f39cb47d93c4e7ec07d0379", func := "triune/triunelaw04.MbapBack", spec := "mbapBack", apart := false, narrowed := true }
def MbapBackUptoSaid : Prop := mbapBackUptoRow.holds Try.pinned (OpenSpec.upto mbapBackSpec)

/-- 'triunelaw04.MbapAgain', WHERE WHAT IT READS IS OF BULK AT MOST 1048576: true; the input reads as it did. -/
def mbapAgainUptoRow : OpenClaim := { program := "ytigfninpflemnaa", sum := "bebf15de52d78537c542587ef37cae020ee1a7414f39cb47d93c4e7ec07d0379", func := "triune/triunelaw04.MbapAgain", spec := "mbapAgain", apart := false, narrowed := true }
def MbapAgainUptoSaid : Prop := mbapAgainUptoRow.holds Try.pinned (OpenSpec.upto mbapAgainSpec)

/-- 'triunelaw05.StreamTells', WHERE WHAT IT READS IS OF BULK AT MOST 1048576: true; the input reads as it did. -/
def streamTellsUptoRow : OpenClaim := { program := "ytigfninpflemnaa", sum := "bebf15de52d78537c542587ef37cae020ee1a7414f39cb47d93c4e7ec07d0379", func := "triune/triunelaw05.StreamTells", spec := "streamTells", apart := false, narrowed := true }
def StreamTellsUptoSaid : Prop := streamTellsUptoRow.holds Try.pinned (OpenSpec.upto streamTellsSpec)

/-- 'triunelaw05.StreamParted', WHERE WHAT IT READS IS OF BULK AT MOST 1048576: true; the input reads as it did. -/
def streamPartedUptoRow : OpenClaim := { program := "ytigfninpflemnaa", sum := "bebf15de52d78537c542587ef37cae020ee1a7414f39cb47d93c4e7ec07d0379", func := "triune/triunelaw05.StreamParted", spec := "streamParted", apart := false, narrowed := true }
def StreamPartedUptoSaid : Prop := streamPartedUptoRow.holds Try.pinned (OpenSpec.upto streamPartedSpec)

end Rows
end Go.Proofs.Ytigfninpflemnaa
