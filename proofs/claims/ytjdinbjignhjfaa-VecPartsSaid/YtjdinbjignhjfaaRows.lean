/-
  No cell of these rows narrows 'for every input' (looked for: loops, veiled, ifaces, maps, wideKeys, modest, calm, conditions, laid).
  DERIVED. THE GIVEN ROWS OF THIS SEAT. 12 by the template 'for every input the law returns true; each argument reads behind the call as it read before'; 0 by the template 'total and deterministic' (their statements: YtjdinbjignhjfaaTotals.lean).
  GIVEN WITH THE SEED: the statements are not yours to turn. If you find one false, say at which input.
  Laid BY PROGRAM, IN A SANDBOX (cutbox-rows.mjs): the forced cells as the released guide's own fill.sh prints them over the translation 104d4a216417cd5c… (all of the seat's roots in one cut). By AI agents, Wed Nov 11 2026. No macro, syntax, notation, axiom, sorry.
-/
import Derived.Test.YtjdinbjignhjfaaChecked
import GoSem.Claim
import GoSem.ClaimJoined
import GoSem.ClaimMapViews
import Derived.JoinedTies
import Derived.KernelRfl
namespace Go.Proofs.Ytjdinbjignhjfaa
/- THE CELL 'sum', in the pinned program and in every row, IS THE sha256 OF THE DUMP (.gsa) THAT YtjdinbjignhjfaaProg.lean LOADS. Nothing in Lean hashes anything: it is a label: what it is worth is what the hold of that sum in a sandbox is worth. -/
noncomputable def Try.pinned : Pinned := { name := "ytjdinbjignhjfaa", sum := "104d4a216417cd5c884c862f4ead7049bfa07db63f5b8ce6a6a6d69670398624", checked := Try.checked }
namespace Rows
def none {H : Type} : Left H := { results := [], args := [] }

/-- 'kinescopelaw10.RunsShift': WHATEVER THE INPUT: true; the input reads as it did. -/
def runsShiftSpec : ChangeSpec := { name := "runsShift", fn := fun _ => fun
  | [d1, d2, d3] => { results := [.lit (.bool true)], args := [d1, d2, d3] }
  | _ => none }
def runsShiftRow : OpenClaim := { program := "ytjdinbjignhjfaa", sum := "104d4a216417cd5c884c862f4ead7049bfa07db63f5b8ce6a6a6d69670398624", func := "kinescope/kinescopelaw10.RunsShift", spec := "runsShift", apart := false }
def RunsShiftSaid : Prop := runsShiftRow.holds Try.pinned (OpenSpec.ofChange runsShiftSpec)

/-- ITS FALSE NEIGHBOUR: 'it returns false'. Refute it at one input. -/
def runsShiftWrong : ChangeSpec := { name := "runsShift", fn := fun _ => fun
  | [d1, d2, d3] => { results := [.lit (.bool false)], args := [d1, d2, d3] }
  | _ => none }
def RunsShiftWrongFalsely : Prop := runsShiftRow.holds Try.pinned (OpenSpec.ofChange runsShiftWrong)

/-- 'kinescopelaw02.CrcSums': WHATEVER THE INPUT: true; the input reads as it did. -/
def crcSumsSpec : ChangeSpec := { name := "crcSums", fn := fun _ => fun
  | [d1, d2] => { results := [.lit (.bool true)], args := [d1, d2] }
  | _ => none }
def crcSumsRow : OpenClaim := { program := "ytjdinbjignhjfaa", sum := "104d4a216417cd5c884c862f4ead7049bfa07db63f5b8ce6a6a6d69670398624", func := "kinescope/kinescopelaw02.CrcSums", spec := "crcSums", apart := false }
def CrcSumsSaid : Prop := crcSumsRow.holds Try.pinned (OpenSpec.ofChange crcSumsSpec)

/-- ITS FALSE NEIGHBOUR: 'it returns false'. Refute it at one input. -/
def crcSumsWrong : ChangeSpec := { name := "crcSums", fn := fun _ => fun
  | [d1, d2] => { results := [.lit (.bool false)], args := [d1, d2] }
  | _ => none }
def CrcSumsWrongFalsely : Prop := crcSumsRow.holds Try.pinned (OpenSpec.ofChange crcSumsWrong)

/-- 'kinescopelaw02.CrcTells': WHATEVER THE INPUT: true; the input reads as it did. -/
def crcTellsSpec : ChangeSpec := { name := "crcTells", fn := fun _ => fun
  | [d1, d2, d3, d4] => { results := [.lit (.bool true)], args := [d1, d2, d3, d4] }
  | _ => none }
def crcTellsRow : OpenClaim := { program := "ytjdinbjignhjfaa", sum := "104d4a216417cd5c884c862f4ead7049bfa07db63f5b8ce6a6a6d69670398624", func := "kinescope/kinescopelaw02.CrcTells", spec := "crcTells", unfollowed := true, recurses := true, apart := false }
def CrcTellsSaid : Prop := crcTellsRow.holds Try.pinned (OpenSpec.ofChange crcTellsSpec)

/-- ITS FALSE NEIGHBOUR: 'it returns false'. Refute it at one input. -/
def crcTellsWrong : ChangeSpec := { name := "crcTells", fn := fun _ => fun
  | [d1, d2, d3, d4] => { results := [.lit (.bool false)], args := [d1, d2, d3, d4] }
  | _ => none }
def CrcTellsWrongFalsely : Prop := crcTellsRow.holds Try.pinned (OpenSpec.ofChange crcTellsWrong)

/-- 'kinescopelaw02.CrcSame': WHATEVER THE INPUT: true; the input reads as it did. -/
def crcSameSpec : ChangeSpec := { name := "crcSame", fn := fun _ => fun
  | [d1, d2, d3] => { results := [.lit (.bool true)], args := [d1, d2, d3] }
  | _ => none }
def crcSameRow : OpenClaim := { program := "ytjdinbjignhjfaa", sum := "104d4a216417cd5c884c862f4ead7049bfa07db63f5b8ce6a6a6d69670398624", func := "kinescope/kinescopelaw02.CrcSame", spec := "crcSame", apart := false }
def CrcSameSaid : Prop := crcSameRow.holds Try.pinned (OpenSpec.ofChange crcSameSpec)

/-- ITS FALSE NEIGHBOUR: 'it returns false'. Refute it at one input. -/
def crcSameWrong : ChangeSpec := { name := "crcSame", fn := fun _ => fun
  | [d1, d2, d3] => { results := [.lit (.bool false)], args := [d1, d2, d3] }
  | _ => none }
def CrcSameWrongFalsely : Prop := crcSameRow.holds Try.pinned (OpenSpec.ofChange crcSameWrong)

/-- 'kinescopelaw02.CrcEnds': WHATEVER THE INPUT: true; the input reads as it did. -/
def crcEndsSpec : ChangeSpec := { name := "crcEnds", fn := fun _ => fun
  | [d1, d2] => { results := [.lit (.bool true)], args := [d1, d2] }
  | _ => none }
def crcEndsRow : OpenClaim := { program := "ytjdinbjignhjfaa", sum := "104d4a216417cd5c884c862f4ead7049bfa07db63f5b8ce6a6a6d69670398624", func := "kinescope/kinescopelaw02.CrcEnds", spec := "crcEnds", apart := false }
def CrcEndsSaid : Prop := crcEndsRow.holds Try.pinned (OpenSpec.ofChange crcEndsSpec)

/-- ITS FALSE NEIGHBOUR: 'it returns false'. Refute it at one input. -/
def crcEndsWrong : ChangeSpec := { name := "crcEnds", fn := fun _ => fun
  | [d1, d2] => { results := [.lit (.bool false)], args := [d1, d2] }
  | _ => none }
def CrcEndsWrongFalsely : Prop := crcEndsRow.holds Try.pinned (OpenSpec.ofChange crcEndsWrong)

/-- 'kinescopelaw12.VecMedians': WHATEVER THE INPUT: true; the input reads as it did. -/
def vecMediansSpec : ChangeSpec := { name := "vecMedians", fn := fun _ => fun
  | [d1, d2] => { results := [.lit (.bool true)], args := [d1, d2] }
  | _ => none }
def vecMediansRow : OpenClaim := { program := "ytjdinbjignhjfaa", sum := "104d4a216417cd5c884c862f4ead7049bfa07db63f5b8ce6a6a6d69670398624", func := "kinescope/kinescopelaw12.VecMedians", spec := "vecMedians", apart := false }
def VecMediansSaid : Prop := vecMediansRow.holds Try.pinned (OpenSpec.ofChange vecMediansSpec)

/-- ITS FALSE NEIGHBOUR: 'it returns false'. Refute it at one input. -/
def vecMediansWrong : ChangeSpec := { name := "vecMedians", fn := fun _ => fun
  | [d1, d2] => { results := [.lit (.bool false)], args := [d1, d2] }
  | _ => none }
def VecMediansWrongFalsely : Prop := vecMediansRow.holds Try.pinned (OpenSpec.ofChange vecMediansWrong)

/-- 'kinescopelaw03.EscapeFinds': WHATEVER THE INPUT: true; the input reads as it did. -/
def escapeFindsSpec : ChangeSpec := { name := "escapeFinds", fn := fun _ => fun
  | [d1, d2, d3] => { results := [.lit (.bool true)], args := [d1, d2, d3] }
  | _ => none }
def escapeFindsRow : OpenClaim := { program := "ytjdinbjignhjfaa", sum := "104d4a216417cd5c884c862f4ead7049bfa07db63f5b8ce6a6a6d69670398624", func := "kinescope/kinescopelaw03.EscapeFinds", spec := "escapeFinds", apart := false }
def EscapeFindsSaid : Prop := escapeFindsRow.holds Try.pinned (OpenSpec.ofChange escapeFindsSpec)

/-- ITS FALSE NEIGHBOUR: 'it returns false'. Refute it at one input. -/
def escapeFindsWrong : ChangeSpec := { name := "escapeFinds", fn := fun _ => fun
  | [d1, d2, d3] => { results := [.lit (.bool false)], args := [d1, d2, d3] }
  | _ => none }
def EscapeFindsWrongFalsely : Prop := escapeFindsRow.holds Try.pinned (OpenSpec.ofChange escapeFindsWrong)

/-- 'kinescopelaw03.EscapeParts': WHATEVER THE INPUT: true; the input reads as it did. -/
def escapePartsSpec : ChangeSpec := { name := "escapeParts", fn := fun _ => fun
  | [d] => { results := [.lit (.bool true)], args := [d] }
  | _ => none }
def escapePartsRow : OpenClaim := { program := "ytjdinbjignhjfaa", sum := "104d4a216417cd5c884c862f4ead7049bfa07db63f5b8ce6a6a6d69670398624", func := "kinescope/kinescopelaw03.EscapeParts", spec := "escapeParts", apart := false }
def EscapePartsSaid : Prop := escapePartsRow.holds Try.pinned (OpenSpec.ofChange escapePartsSpec)

/-- ITS FALSE NEIGHBOUR: 'it returns false'. Refute it at one input. -/
def escapePartsWrong : ChangeSpec := { name := "escapeParts", fn := fun _ => fun
  | [d] => { results := [.lit (.bool false)], args := [d] }
  | _ => none }
def EscapePartsWrongFalsely : Prop := escapePartsRow.holds Try.pinned (OpenSpec.ofChange escapePartsWrong)

/-- 'kinescopelaw12.VecParts': WHATEVER THE INPUT: true; the input reads as it did. -/
def vecPartsSpec : ChangeSpec := { name := "vecParts", fn := fun _ => fun
  | [d1, d2, d3, d4] => { results := [.lit (.bool true)], args := [d1, d2, d3, d4] }
  | _ => none }
def vecPartsRow : OpenClaim := { program := "ytjdinbjignhjfaa", sum := "104d4a216417cd5c884c862f4ead7049bfa07db63f5b8ce6a6a6d69670398624", func := "kinescope/kinescopelaw12.VecParts", spec := "vecParts", unfollowed := true, recurses := true, apart := false }
def VecPartsSaid : Prop := vecPartsRow.holds Try.pinned (OpenSpec.ofChange vecPartsSpec)

/-- ITS FALSE NEIGHBOUR: 'it returns false'. Refute it at one input. -/
def vecPartsWrong : ChangeSpec := { name := "vecParts", fn := fun _ => fun
  | [d1, d2, d3, d4] => { results := [.lit (.bool false)], args := [d1, d2, d3, d4] }
  | _ => none }
def VecPartsWrongFalsely : Prop := vecPartsRow.holds Try.pinned (OpenSpec.ofChange vecPartsWrong)

/-- 'kinescopelaw10.RunsBack': WHATEVER THE INPUT: true; the input reads as it did. -/
def runsBackSpec : ChangeSpec := { name := "runsBack", fn := fun _ => fun
  | [d1, d2, d3] => { results := [.lit (.bool true)], args := [d1, d2, d3] }
  | _ => none }
def runsBackRow : OpenClaim := { program := "ytjdinbjignhjfaa", sum := "104d4a216417cd5c884c862f4ead7049bfa07db63f5b8ce6a6a6d69670398624", func := "kinescope/kinescopelaw10.RunsBack", spec := "runsBack", apart := false }
def RunsBackSaid : Prop := runsBackRow.holds Try.pinned (OpenSpec.ofChange runsBackSpec)

/-- ITS FALSE NEIGHBOUR: 'it returns false'. Refute it at one input. -/
def runsBackWrong : ChangeSpec := { name := "runsBack", fn := fun _ => fun
  | [d1, d2, d3] => { results := [.lit (.bool false)], args := [d1, d2, d3] }
  | _ => none }
def RunsBackWrongFalsely : Prop := runsBackRow.holds Try.pinned (OpenSpec.ofChange runsBackWrong)

/-- 'kinescopelaw03.EscapeTakes': WHATEVER THE INPUT: true; the input reads as it did. -/
def escapeTakesSpec : ChangeSpec := { name := "escapeTakes", fn := fun _ => fun
  | [d1, d2] => { results := [.lit (.bool true)], args := [d1, d2] }
  | _ => none }
def escapeTakesRow : OpenClaim := { program := "ytjdinbjignhjfaa", sum := "104d4a216417cd5c884c862f4ead7049bfa07db63f5b8ce6a6a6d69670398624", func := "kinescope/kinescopelaw03.EscapeTakes", spec := "escapeTakes", apart := false }
def EscapeTakesSaid : Prop := escapeTakesRow.holds Try.pinned (OpenSpec.ofChange escapeTakesSpec)

/-- ITS FALSE NEIGHBOUR: 'it returns false'. Refute it at one input. -/
def escapeTakesWrong : ChangeSpec := { name := "escapeTakes", fn := fun _ => fun
  | [d1, d2] => { results := [.lit (.bool false)], args := [d1, d2] }
  | _ => none }
def EscapeTakesWrongFalsely : Prop := escapeTakesRow.holds Try.pinned (OpenSpec.ofChange escapeTakesWrong)

/-- 'kinescopelaw03.EscapeBack': WHATEVER THE INPUT: true; the input reads as it did. -/
def escapeBackSpec : ChangeSpec := { name := "escapeBack", fn := fun _ => fun
  | [d1, d2] => { results := [.lit (.bool true)], args := [d1, d2] }
  | _ => none }
def escapeBackRow : OpenClaim := { program := "ytjdinbjignhjfaa", sum := "104d4a216417cd5c884c862f4ead7049bfa07db63f5b8ce6a6a6d69670398624", func := "kinescope/kinescopelaw03.EscapeBack", spec := "escapeBack", apart := false }
def EscapeBackSaid : Prop := escapeBackRow.holds Try.pinned (OpenSpec.ofChange escapeBackSpec)

/-- ITS FALSE NEIGHBOUR: 'it returns false'. Refute it at one input. -/
def escapeBackWrong : ChangeSpec := { name := "escapeBack", fn := fun _ => fun
  | [d1, d2] => { results := [.lit (.bool false)], args := [d1, d2] }
  | _ => none }
def EscapeBackWrongFalsely : Prop := escapeBackRow.holds Try.pinned (OpenSpec.ofChange escapeBackWrong)

/- THE SECOND FORM. 'bulk': how many values and letters a reading holds, each counted each time it is reached (what is shared counts as often as it is met; a slice's spare places count too). A statement '..UptoSaid' is the law's where the arguments, and the package variables that the reading takes, are together of bulk at most 1048576: NARROWER than '..Said'. Prove '..Said' where nothing that the law and all that it calls make is longer than what came in: it says more and counts as full. Else prove '..UptoSaid'. A law counts once. -/
mutual
def uptoBulk {H : Type} : DataW H → Nat
  | .lit (.string bytes) => bytes.length + 1
  | .lit _ => 1
  | .nil => 1
  | .ptr d => uptoBulk d + 1
  | .slice elems spare => uptoBulkAll elems + uptoBulkAll spare + 1
  | .agg parts => uptoBulkAll parts + 1
  | .iface _ d => uptoBulk d + 1
  | .map entries => uptoBulkEntries entries + 1
  | .held _ => 1
def uptoBulkAll {H : Type} : List (DataW H) → Nat
  | [] => 0
  | d :: r => uptoBulk d + uptoBulkAll r
def uptoBulkEntries {H : Type} : List (Lit × DataW H) → Nat
  | [] => 0
  | x :: r => uptoBulkEntry x + uptoBulkEntries r
def uptoBulkEntry {H : Type} : Lit × DataW H → Nat
  | (.string bytes, d) => bytes.length + uptoBulk d + 1
  | (_, d) => uptoBulk d + 1
 end
def uptoSmall : (H : Type) → List (DataW H) → Bool := fun _ ds => decide (uptoBulkAll ds ≤ 1048576)
def OpenSpec.upto (s : _root_.Go.ChangeSpec) : _root_.Go.OpenSpec := { _root_.Go.OpenSpec.ofChange s with cond := some uptoSmall }

/-- 'kinescopelaw10.RunsShift', WHERE WHAT IT READS IS OF BULK AT MOST 1048576: true; the input reads as it did. -/
def runsShiftUptoRow : OpenClaim := { program := "ytjdinbjignhjfaa", sum := "104d4a216417cd5c884c862f4ead7049bfa07db63f5b8ce6a6a6d69670398624", func := "kinescope/kinescopelaw10.RunsShift", spec := "runsShift", apart := false, narrowed := true }
def RunsShiftUptoSaid : Prop := runsShiftUptoRow.holds Try.pinned (OpenSpec.upto runsShiftSpec)

/-- 'kinescopelaw02.CrcSums', WHERE WHAT IT READS IS OF BULK AT MOST 1048576: true; the input reads as it did. -/
def crcSumsUptoRow : OpenClaim := { program := "ytjdinbjignhjfaa", sum := "104d4a216417cd5c884c862f4ead7049bfa07db63f5b8ce6a6a6d69670398624", func := "kinescope/kinescopelaw02.CrcSums", spec := "crcSums", apart := false, narrowed := true }
def CrcSumsUptoSaid : Prop := crcSumsUptoRow.holds Try.pinned (OpenSpec.upto crcSumsSpec)

/-- 'kinescopelaw02.CrcTells', WHERE WHAT IT READS IS OF BULK AT MOST 1048576: true; the input reads as it did. -/
def crcTellsUptoRow : OpenClaim := { program := "ytjdinbjignhjfaa", sum := "104d4a216417cd5c884c862f4ead7049bfa07db63f5b8ce6a6a6d69670398624", func := "kinescope/kinescopelaw02.CrcTells", spec := "crcTells", unfollowed := true, recurses := true, apart := false, narrowed := true }
def CrcTellsUptoSaid : Prop := crcTellsUptoRow.holds Try.pinned (OpenSpec.upto crcTellsSpec)

/-- 'kinescopelaw02.CrcSame', WHERE WHAT IT READS IS OF BULK AT MOST 1048576: true; the input reads as it did. -/
def crcSameUptoRow : OpenClaim := { program := "ytjdinbjignhjfaa", sum := "104d4a216417cd5c884c862f4ead7049bfa07db63f5b8ce6a6a6d69670398624", func := "kinescope/kinescopelaw02.CrcSame", spec := "crcSame", apart := false, narrowed := true }
def CrcSameUptoSaid : Prop := crcSameUptoRow.holds Try.pinned (OpenSpec.upto crcSameSpec)

/-- 'kinescopelaw02.CrcEnds', WHERE WHAT IT READS IS OF BULK AT MOST 1048576: true; the input reads as it did. -/
def crcEndsUptoRow : OpenClaim := { program := "ytjdinbjignhjfaa", sum := "104d4a216417cd5c884c862f4ead7049bfa07db63f5b8ce6a6a6d69670398624", func := "kinescope/kinescopelaw02.CrcEnds", spec := "crcEnds", apart := false, narrowed := true }
def CrcEndsUptoSaid : Prop := crcEndsUptoRow.holds Try.pinned (OpenSpec.upto crcEndsSpec)

/-- 'kinescopelaw12.VecMedians', WHERE WHAT IT READS IS OF BULK AT MOST 1048576: true; the input reads as it did. -/
def vecMediansUptoRow : OpenClaim := { program := "ytjdinbjignhjfaa", sum := "104d4a216417cd5c884c862f4ead7049bfa07db63f5b8ce6a6a6d69670398624", func := "kinescope/kinescopelaw12.VecMedians", spec := "vecMedians", apart := false, narrowed := true }
def VecMediansUptoSaid : Prop := vecMediansUptoRow.holds Try.pinned (OpenSpec.upto vecMediansSpec)

/-- 'kinescopelaw03.EscapeFinds', WHERE WHAT IT READS IS OF BULK AT MOST 1048576: true; the input reads as it did. -/
def escapeFindsUptoRow : OpenClaim := { program := "ytjdinbjignhjfaa", sum := "104d4a216417cd5c884c862f4ead7049bfa07db63f5b8ce6a6a6d69670398624", func := "kinescope/kinescopelaw03.EscapeFinds", spec := "escapeFinds", apart := false, narrowed := true }
def EscapeFindsUptoSaid : Prop := escapeFindsUptoRow.holds Try.pinned (OpenSpec.upto escapeFindsSpec)

/-- 'kinescopelaw03.EscapeParts', WHERE WHAT IT READS IS OF BULK AT MOST 1048576: true; the input reads as it did. -/
def escapePartsUptoRow : OpenClaim := { program := "ytjdinbjignhjfaa", sum := "104d4a216417cd5c884c862f4ead7049bfa07db63f5b8ce6a6a6d69670398624", func := "kinescope/kinescopelaw03.EscapeParts", spec := "escapeParts", apart := false, narrowed := true }
def EscapePartsUptoSaid : Prop := escapePartsUptoRow.holds Try.pinned (OpenSpec.upto escapePartsSpec)

/-- 'kinescopelaw12.VecParts', WHERE WHAT IT READS IS OF BULK AT MOST 1048576: true; the input reads as it did. -/
def vecPartsUptoRow : OpenClaim := { program := "ytjdinbjignhjfaa", sum := "104d4a216417cd5c884c862f4ead7049bfa07db63f5b8ce6a6a6d69670398624", func := "kinescope/kinescopelaw12.VecParts", spec := "vecParts", unfollowed := true, recurses := true, apart := false, narrowed := true }
def VecPartsUptoSaid : Prop := vecPartsUptoRow.holds Try.pinned (OpenSpec.upto vecPartsSpec)

/-- 'kinescopelaw10.RunsBack', WHERE WHAT IT READS IS OF BULK AT MOST 1048576: true; the input reads as it did. -/
def runsBackUptoRow : OpenClaim := { program := "ytjdinbjignhjfaa", sum := "104d4a216417cd5c884c862f4ead7049bfa07db63f5b8ce6a6a6d69670398624", func := "kinescope/kinescopelaw10.RunsBack", spec := "runsBack", apart := false, narrowed := true }
def RunsBackUptoSaid : Prop := runsBackUptoRow.holds Try.pinned (OpenSpec.upto runsBackSpec)

/-- 'kinescopelaw03.EscapeTakes', WHERE WHAT IT READS IS OF BULK AT MOST 1048576: true; the input reads as it did. -/
def escapeTakesUptoRow : OpenClaim := { program := "ytjdinbjignhjfaa", sum := "104d4a216417cd5c884c862f4ead7049bfa07db63f5b8ce6a6a6d69670398624", func := "kinescope/kinescopelaw03.EscapeTakes", spec := "escapeTakes", apart := false, narrowed := true }
def EscapeTakesUptoSaid : Prop := escapeTakesUptoRow.holds Try.pinned (OpenSpec.upto escapeTakesSpec)

/-- 'kinescopelaw03.EscapeBack', WHERE WHAT IT READS IS OF BULK AT MOST 1048576: true; the input reads as it did. -/
def escapeBackUptoRow : OpenClaim := { program := "ytjdinbjignhjfaa", sum := "104d4a216417cd5c884c862f4ead7049bfa07db63f5b8ce6a6a6d69670398624", func := "kinescope/kinescopelaw03.EscapeBack", spec := "escapeBack", apart := false, narrowed := true }
def EscapeBackUptoSaid : Prop := escapeBackUptoRow.holds Try.pinned (OpenSpec.upto escapeBackSpec)

end Rows
end Go.Proofs.Ytjdinbjignhjfaa
