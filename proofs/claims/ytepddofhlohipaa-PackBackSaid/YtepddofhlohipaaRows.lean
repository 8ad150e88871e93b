/-
  No cell of these rows narrows 'for every input' (looked for: loops, veiled, ifaces, maps, wideKeys, modest, calm, conditions, laid).
  DERIVED. THE GIVEN ROWS OF THIS SEAT. 12 by the template 'for every input the law returns true; each argument reads behind the call as it read before'; 0 by the template 'total and deterministic' (their statements: YtepddofhlohipaaTotals.lean).
  GIVEN WITH THE SEED: the statements are not yours to turn. If you find one false, say at which input.
  Laid BY PROGRAM, IN A SANDBOX (cutbox-rows.mjs): the forced cells as the released guide's own fill.sh prints them over the translation 31918506cc196b54… (all of the seat's roots in one cut). By AI agents, Wed Nov 11 2026. No macro, syntax, notation, axiom, sorry.
-/
import Derived.Test.YtepddofhlohipaaChecked
import GoSem.Claim
import GoSem.ClaimJoined
import GoSem.ClaimMapViews
import Derived.JoinedTies
import Derived.KernelRfl
namespace Go.Proofs.Ytepddofhlohipaa
/- THE CELL 'sum', in the pinned program and in every row, IS THE sha256 OF THE DUMP (.gsa) THAT YtepddofhlohipaaProg.lean LOADS. Nothing in Lean hashes anything: it is a label: what it is worth is what the hold of that sum in a sandbox is worth. -/
noncomputable def Try.pinned : Pinned := { name := "ytepddofhlohipaa", sum := "31918506cc196b546d5e472d0526863f395eb0ca33233185c89428fce6810381", checked := Try.checked }
namespace Rows
def none {H : Type} : Left H := { results := [], args := [] }

/-- 'kinescopelaw16.PichAny': WHATEVER THE INPUT: true; the input reads as it did. -/
def pichAnySpec : ChangeSpec := { name := "pichAny", fn := fun _ => fun
  | [d1, d2] => { results := [.lit (.bool true)], args := [d1, d2] }
  | _ => none }
def pichAnyRow : OpenClaim := { program := "ytepddofhlohipaa", sum := "31918506cc196b546d5e472d0526863f395eb0ca33233185c89428fce6810381", func := "kinescope/kinescopelaw16.PichAny", spec := "pichAny", apart := false }
def PichAnySaid : Prop := pichAnyRow.holds Try.pinned (OpenSpec.ofChange pichAnySpec)

/-- ITS FALSE NEIGHBOUR: 'it returns false'. Refute it at one input. -/
def pichAnyWrong : ChangeSpec := { name := "pichAny", fn := fun _ => fun
  | [d1, d2] => { results := [.lit (.bool false)], args := [d1, d2] }
  | _ => none }
def PichAnyWrongFalsely : Prop := pichAnyRow.holds Try.pinned (OpenSpec.ofChange pichAnyWrong)

/-- 'kinescopelaw15.SeqhSizes': WHATEVER THE INPUT: true; the input reads as it did. -/
def seqhSizesSpec : ChangeSpec := { name := "seqhSizes", fn := fun _ => fun
  | [d1, d2] => { results := [.lit (.bool true)], args := [d1, d2] }
  | _ => none }
def seqhSizesRow : OpenClaim := { program := "ytepddofhlohipaa", sum := "31918506cc196b546d5e472d0526863f395eb0ca33233185c89428fce6810381", func := "kinescope/kinescopelaw15.SeqhSizes", spec := "seqhSizes", apart := false }
def SeqhSizesSaid : Prop := seqhSizesRow.holds Try.pinned (OpenSpec.ofChange seqhSizesSpec)

/-- ITS FALSE NEIGHBOUR: 'it returns false'. Refute it at one input. -/
def seqhSizesWrong : ChangeSpec := { name := "seqhSizes", fn := fun _ => fun
  | [d1, d2] => { results := [.lit (.bool false)], args := [d1, d2] }
  | _ => none }
def SeqhSizesWrongFalsely : Prop := seqhSizesRow.holds Try.pinned (OpenSpec.ofChange seqhSizesWrong)

/-- 'kinescopelaw16.PichBack': WHATEVER THE INPUT: true; the input reads as it did. -/
def pichBackSpec : ChangeSpec := { name := "pichBack", fn := fun _ => fun
  | [d] => { results := [.lit (.bool true)], args := [d] }
  | _ => none }
def pichBackRow : OpenClaim := { program := "ytepddofhlohipaa", sum := "31918506cc196b546d5e472d0526863f395eb0ca33233185c89428fce6810381", func := "kinescope/kinescopelaw16.PichBack", spec := "pichBack", apart := false }
def PichBackSaid : Prop := pichBackRow.holds Try.pinned (OpenSpec.ofChange pichBackSpec)

/-- ITS FALSE NEIGHBOUR: 'it returns false'. Refute it at one input. -/
def pichBackWrong : ChangeSpec := { name := "pichBack", fn := fun _ => fun
  | [d] => { results := [.lit (.bool false)], args := [d] }
  | _ => none }
def PichBackWrongFalsely : Prop := pichBackRow.holds Try.pinned (OpenSpec.ofChange pichBackWrong)

/-- 'kinescopelaw16.PichRow': WHATEVER THE INPUT: true; the input reads as it did. -/
def pichRowSpec : ChangeSpec := { name := "pichRow", fn := fun _ => fun
  | [d1, d2] => { results := [.lit (.bool true)], args := [d1, d2] }
  | _ => none }
def pichRowRow : OpenClaim := { program := "ytepddofhlohipaa", sum := "31918506cc196b546d5e472d0526863f395eb0ca33233185c89428fce6810381", func := "kinescope/kinescopelaw16.PichRow", spec := "pichRow", apart := false }
def PichRowSaid : Prop := pichRowRow.holds Try.pinned (OpenSpec.ofChange pichRowSpec)

/-- ITS FALSE NEIGHBOUR: 'it returns false'. Refute it at one input. -/
def pichRowWrong : ChangeSpec := { name := "pichRow", fn := fun _ => fun
  | [d1, d2] => { results := [.lit (.bool false)], args := [d1, d2] }
  | _ => none }
def PichRowWrongFalsely : Prop := pichRowRow.holds Try.pinned (OpenSpec.ofChange pichRowWrong)

/-- 'kinescopelaw05.RvlcEnds': WHATEVER THE INPUT: true; the input reads as it did. -/
def rvlcEndsSpec : ChangeSpec := { name := "rvlcEnds", fn := fun _ => fun
  | [d] => { results := [.lit (.bool true)], args := [d] }
  | _ => none }
def rvlcEndsRow : OpenClaim := { program := "ytepddofhlohipaa", sum := "31918506cc196b546d5e472d0526863f395eb0ca33233185c89428fce6810381", func := "kinescope/kinescopelaw05.RvlcEnds", spec := "rvlcEnds", apart := false }
def RvlcEndsSaid : Prop := rvlcEndsRow.holds Try.pinned (OpenSpec.ofChange rvlcEndsSpec)

/-- ITS FALSE NEIGHBOUR: 'it returns false'. Refute it at one input. -/
def rvlcEndsWrong : ChangeSpec := { name := "rvlcEnds", fn := fun _ => fun
  | [d] => { results := [.lit (.bool false)], args := [d] }
  | _ => none }
def RvlcEndsWrongFalsely : Prop := rvlcEndsRow.holds Try.pinned (OpenSpec.ofChange rvlcEndsWrong)

/-- 'kinescopelaw05.RvlcMeets': WHATEVER THE INPUT: true; the input reads as it did. -/
def rvlcMeetsSpec : ChangeSpec := { name := "rvlcMeets", fn := fun _ => fun
  | [d1, d2] => { results := [.lit (.bool true)], args := [d1, d2] }
  | _ => none }
def rvlcMeetsRow : OpenClaim := { program := "ytepddofhlohipaa", sum := "31918506cc196b546d5e472d0526863f395eb0ca33233185c89428fce6810381", func := "kinescope/kinescopelaw05.RvlcMeets", spec := "rvlcMeets", apart := false }
def RvlcMeetsSaid : Prop := rvlcMeetsRow.holds Try.pinned (OpenSpec.ofChange rvlcMeetsSpec)

/-- ITS FALSE NEIGHBOUR: 'it returns false'. Refute it at one input. -/
def rvlcMeetsWrong : ChangeSpec := { name := "rvlcMeets", fn := fun _ => fun
  | [d1, d2] => { results := [.lit (.bool false)], args := [d1, d2] }
  | _ => none }
def RvlcMeetsWrongFalsely : Prop := rvlcMeetsRow.holds Try.pinned (OpenSpec.ofChange rvlcMeetsWrong)

/-- 'kinescopelaw12.VecCodes': WHATEVER THE INPUT: true; the input reads as it did. -/
def vecCodesSpec : ChangeSpec := { name := "vecCodes", fn := fun _ => fun
  | [d1, d2, d3, d4, d5, d6, d7] => { results := [.lit (.bool true)], args := [d1, d2, d3, d4, d5, d6, d7] }
  | _ => none }
def vecCodesRow : OpenClaim := { program := "ytepddofhlohipaa", sum := "31918506cc196b546d5e472d0526863f395eb0ca33233185c89428fce6810381", func := "kinescope/kinescopelaw12.VecCodes", spec := "vecCodes", apart := false }
def VecCodesSaid : Prop := vecCodesRow.holds Try.pinned (OpenSpec.ofChange vecCodesSpec)

/-- ITS FALSE NEIGHBOUR: 'it returns false'. Refute it at one input. -/
def vecCodesWrong : ChangeSpec := { name := "vecCodes", fn := fun _ => fun
  | [d1, d2, d3, d4, d5, d6, d7] => { results := [.lit (.bool false)], args := [d1, d2, d3, d4, d5, d6, d7] }
  | _ => none }
def VecCodesWrongFalsely : Prop := vecCodesRow.holds Try.pinned (OpenSpec.ofChange vecCodesWrong)

/-- 'kinescopelaw17.PackBack': WHATEVER THE INPUT: true; the input reads as it did. -/
def packBackSpec : ChangeSpec := { name := "packBack", fn := fun _ => fun
  | [d1, d2, d3] => { results := [.lit (.bool true)], args := [d1, d2, d3] }
  | _ => none }
def packBackRow : OpenClaim := { program := "ytepddofhlohipaa", sum := "31918506cc196b546d5e472d0526863f395eb0ca33233185c89428fce6810381", func := "kinescope/kinescopelaw17.PackBack", spec := "packBack", unfollowed := true, recurses := true, apart := false }
def PackBackSaid : Prop := packBackRow.holds Try.pinned (OpenSpec.ofChange packBackSpec)

/-- ITS FALSE NEIGHBOUR: 'it returns false'. Refute it at one input. -/
def packBackWrong : ChangeSpec := { name := "packBack", fn := fun _ => fun
  | [d1, d2, d3] => { results := [.lit (.bool false)], args := [d1, d2, d3] }
  | _ => none }
def PackBackWrongFalsely : Prop := packBackRow.holds Try.pinned (OpenSpec.ofChange packBackWrong)

/-- 'kinescopelaw17.PackTurned': WHATEVER THE INPUT: true; the input reads as it did. -/
def packTurnedSpec : ChangeSpec := { name := "packTurned", fn := fun _ => fun
  | [d1, d2, d3, d4] => { results := [.lit (.bool true)], args := [d1, d2, d3, d4] }
  | _ => none }
def packTurnedRow : OpenClaim := { program := "ytepddofhlohipaa", sum := "31918506cc196b546d5e472d0526863f395eb0ca33233185c89428fce6810381", func := "kinescope/kinescopelaw17.PackTurned", spec := "packTurned", apart := false }
def PackTurnedSaid : Prop := packTurnedRow.holds Try.pinned (OpenSpec.ofChange packTurnedSpec)

/-- ITS FALSE NEIGHBOUR: 'it returns false'. Refute it at one input. -/
def packTurnedWrong : ChangeSpec := { name := "packTurned", fn := fun _ => fun
  | [d1, d2, d3, d4] => { results := [.lit (.bool false)], args := [d1, d2, d3, d4] }
  | _ => none }
def PackTurnedWrongFalsely : Prop := packTurnedRow.holds Try.pinned (OpenSpec.ofChange packTurnedWrong)

/-- 'kinescopelaw17.PackAny': WHATEVER THE INPUT: true; the input reads as it did. -/
def packAnySpec : ChangeSpec := { name := "packAny", fn := fun _ => fun
  | [d1, d2] => { results := [.lit (.bool true)], args := [d1, d2] }
  | _ => none }
def packAnyRow : OpenClaim := { program := "ytepddofhlohipaa", sum := "31918506cc196b546d5e472d0526863f395eb0ca33233185c89428fce6810381", func := "kinescope/kinescopelaw17.PackAny", spec := "packAny", apart := false }
def PackAnySaid : Prop := packAnyRow.holds Try.pinned (OpenSpec.ofChange packAnySpec)

/-- ITS FALSE NEIGHBOUR: 'it returns false'. Refute it at one input. -/
def packAnyWrong : ChangeSpec := { name := "packAny", fn := fun _ => fun
  | [d1, d2] => { results := [.lit (.bool false)], args := [d1, d2] }
  | _ => none }
def PackAnyWrongFalsely : Prop := packAnyRow.holds Try.pinned (OpenSpec.ofChange packAnyWrong)

/-- 'kinescopelaw17.PackRow': WHATEVER THE INPUT: true; the input reads as it did. -/
def packRowSpec : ChangeSpec := { name := "packRow", fn := fun _ => fun
  | [d1, d2] => { results := [.lit (.bool true)], args := [d1, d2] }
  | _ => none }
def packRowRow : OpenClaim := { program := "ytepddofhlohipaa", sum := "31918506cc196b546d5e472d0526863f395eb0ca33233185c89428fce6810381", func := "kinescope/kinescopelaw17.PackRow", spec := "packRow", apart := false }
def PackRowSaid : Prop := packRowRow.holds Try.pinned (OpenSpec.ofChange packRowSpec)

/-- ITS FALSE NEIGHBOUR: 'it returns false'. Refute it at one input. -/
def packRowWrong : ChangeSpec := { name := "packRow", fn := fun _ => fun
  | [d1, d2] => { results := [.lit (.bool false)], args := [d1, d2] }
  | _ => none }
def PackRowWrongFalsely : Prop := packRowRow.holds Try.pinned (OpenSpec.ofChange packRowWrong)

/-- 'kinescopelaw15.SeqhBack': WHATEVER THE INPUT: true; the input reads as it did. -/
def seqhBackSpec : ChangeSpec := { name := "seqhBack", fn := fun _ => fun
  | [d1, d2] => { results := [.lit (.bool true)], args := [d1, d2] }
  | _ => none }
def seqhBackRow : OpenClaim := { program := "ytepddofhlohipaa", sum := "31918506cc196b546d5e472d0526863f395eb0ca33233185c89428fce6810381", func := "kinescope/kinescopelaw15.SeqhBack", spec := "seqhBack", apart := false }
def SeqhBackSaid : Prop := seqhBackRow.holds Try.pinned (OpenSpec.ofChange seqhBackSpec)

/-- ITS FALSE NEIGHBOUR: 'it returns false'. Refute it at one input. -/
def seqhBackWrong : ChangeSpec := { name := "seqhBack", fn := fun _ => fun
  | [d1, d2] => { results := [.lit (.bool false)], args := [d1, d2] }
  | _ => none }
def SeqhBackWrongFalsely : Prop := seqhBackRow.holds Try.pinned (OpenSpec.ofChange seqhBackWrong)

/- THE SECOND FORM. 'bulk': how many values and letters a reading holds, each counted each time it is reached (what is shared counts as often as it is met; a slice's spare places count too). A statement '..UptoSaid' is the law's where the arguments, and the package variables that the reading takes, are together of bulk at most 1048576: NARROWER than '..Said'. Prove '..Said' where nothing that the law and all that it calls make is longer than what came in: it says more and counts as full. Else prove '..UptoSaid'. A law counts once. -/
mutual
def uptoBulk {H : Type} : DataW H → Nat
  | .lit (.string bytes) => bytes.length + 1
  | .lit _ => 1
  | .nil => 1
  | .ptr d => uptoBulk d + 1
  | .slice elems spare => uptoBulkAll elems + uptoBulkAll spare + 1
  | .agg parts => uptoBulkAll parts + 1
  | .iface _ d => uptoBulk d + 1
  | .map entries => uptoBulkEntries entries + 1
  | .held _ => 1
def uptoBulkAll {H : Type} : List (DataW H) → Nat
  | [] => 0
  | d :: r => uptoBulk d + uptoBulkAll r
def uptoBulkEntries {H : Type} : List (Lit × DataW H) → Nat
  | [] => 0
  | x :: r => uptoBulkEntry x + uptoBulkEntries r
def uptoBulkEntry {H : Type} : Lit × DataW H → Nat
  | (.string bytes, d) => bytes.length + uptoBulk d + 1
  | (_, d) => uptoBulk d + 1
 end
def uptoSmall : (H : Type) → List (DataW H) → Bool := fun _ ds => decide (uptoBulkAll ds ≤ 1048576)
def OpenSpec.upto (s : _root_.Go.ChangeSpec) : _root_.Go.OpenSpec := { _root_.Go.OpenSpec.ofChange s with cond := some uptoSmall }

/-- 'kinescopelaw16.PichAny', WHERE WHAT IT READS IS OF BULK AT MOST 1048576: true; the input reads as it did. -/
def pichAnyUptoRow : OpenClaim := { program := "ytepddofhlohipaa", sum := "31918506cc196b546d5e472d0526863f395eb0ca33233185c89428fce6810381", func := "kinescope/kinescopelaw16.PichAny", spec := "pichAny", apart := false, narrowed := true }
def PichAnyUptoSaid : Prop := pichAnyUptoRow.holds Try.pinned (OpenSpec.upto pichAnySpec)

/-- 'kinescopelaw15.SeqhSizes', WHERE WHAT IT READS IS OF BULK AT MOST 1048576: true; the input reads as it did. -/
def seqhSizesUptoRow : OpenClaim := { program := "ytepddofhlohipaa", sum := "31918506cc196b546d5e472d0526863f395eb0ca33233185c89428fce6810381", func := "kinescope/kinescopelaw15.SeqhSizes", spec := "seqhSizes", apart := false, narrowed := true }
def SeqhSizesUptoSaid : Prop := seqhSizesUptoRow.holds Try.pinned (OpenSpec.upto seqhSizesSpec)

/-- 'kinescopelaw16.PichBack', WHERE WHAT IT READS IS OF BULK AT MOST 1048576: true; the input reads as it did. -/
def pichBackUptoRow : OpenClaim := { program := "ytepddofhlohipaa", sum := "31918506cc196b546d5e472d0526863f395eb0ca33233185c89428fce6810381", func := "kinescope/kinescopelaw16.PichBack", spec := "pichBack", apart := false, narrowed := true }
def PichBackUptoSaid : Prop := pichBackUptoRow.holds Try.pinned (OpenSpec.upto pichBackSpec)

/-- 'kinescopelaw16.PichRow', WHERE WHAT IT READS IS OF BULK AT MOST 1048576: true; the input reads as it did. -/
def pichRowUptoRow : OpenClaim := { program := "ytepddofhlohipaa", sum := "31918506cc196b546d5e472d0526863f395eb0ca33233185c89428fce6810381", func := "kinescope/kinescopelaw16.PichRow", spec := "pichRow", apart := false, narrowed := true }
def PichRowUptoSaid : Prop := pichRowUptoRow.holds Try.pinned (OpenSpec.upto pichRowSpec)

/-- 'kinescopelaw05.RvlcEnds', WHERE WHAT IT READS IS OF BULK AT MOST 1048576: true; the input reads as it did. -/
def rvlcEndsUptoRow : OpenClaim := { program := "ytepddofhlohipaa", sum := "31918506cc196b546d5e472d0526863f395eb0ca33233185c89428fce6810381", func := "kinescope/kinescopelaw05.RvlcEnds", spec := "rvlcEnds", apart := false, narrowed := true }
def RvlcEndsUptoSaid : Prop := rvlcEndsUptoRow.holds Try.pinned (OpenSpec.upto rvlcEndsSpec)

/-- 'kinescopelaw05.RvlcMeets', WHERE WHAT IT READS IS OF BULK AT MOST 1048576: true; the input reads as it did. -/
def rvlcMeetsUptoRow : OpenClaim := { program := "ytepddofhlohipaa", sum := "31918506cc196b546d5e472d0526863f395eb0ca33233185c89428fce6810381", func := "kinescope/kinescopelaw05.RvlcMeets", spec := "rvlcMeets", apart := false, narrowed := true }
def RvlcMeetsUptoSaid : Prop := rvlcMeetsUptoRow.holds Try.pinned (OpenSpec.upto rvlcMeetsSpec)

/-- 'kinescopelaw12.VecCodes', WHERE WHAT IT READS IS OF BULK AT MOST 1048576: true; the input reads as it did. -/
def vecCodesUptoRow : OpenClaim := { program := "ytepddofhlohipaa", sum := "31918506cc196b546d5e472d0526863f395eb0ca33233185c89428fce6810381", func := "kinescope/kinescopelaw12.VecCodes", spec := "vecCodes", apart := false, narrowed := true }
def VecCodesUptoSaid : Prop := vecCodesUptoRow.holds Try.pinned (OpenSpec.upto vecCodesSpec)

/-- 'kinescopelaw17.PackBack', WHERE WHAT IT READS IS OF BULK AT MOST 1048576: true; the input reads as it did. -/
def packBackUptoRow : OpenClaim := { program := "ytepddofhlohipaa", sum := "31918506cc196b546d5e472d0526863f395eb0ca33233185c89428fce6810381", func := "kinescope/kinescopelaw17.PackBack", spec := "packBack", unfollowed := true, recurses := true, apart := false, narrowed := true }
def PackBackUptoSaid : Prop := packBackUptoRow.holds Try.pinned (OpenSpec.upto packBackSpec)

/-- 'kinescopelaw17.PackTurned', WHERE WHAT IT READS IS OF BULK AT MOST 1048576: true; the input reads as it did. -/
def packTurnedUptoRow : OpenClaim := { program := "ytepddofhlohipaa", sum := "31918506cc196b546d5e472d0526863f395eb0ca33233185c89428fce6810381", func := "kinescope/kinescopelaw17.PackTurned", spec := "packTurned", apart := false, narrowed := true }
def PackTurnedUptoSaid : Prop := packTurnedUptoRow.holds Try.pinned (OpenSpec.upto packTurnedSpec)

/-- 'kinescopelaw17.PackAny', WHERE WHAT IT READS IS OF BULK AT MOST 1048576: true; the input reads as it did. -/
def packAnyUptoRow : OpenClaim := { program := "ytepddofhlohipaa", sum := "31918506cc196b546d5e472d0526863f395eb0ca33233185c89428fce6810381", func := "kinescope/kinescopelaw17.PackAny", spec := "packAny", apart := false, narrowed := true }
def PackAnyUptoSaid : Prop := packAnyUptoRow.holds Try.pinned (OpenSpec.upto packAnySpec)

/-- 'kinescopelaw17.PackRow', WHERE WHAT IT READS IS OF BULK AT MOST 1048576: true; the input reads as it did. -/
def packRowUptoRow : OpenClaim := { program := "ytepddofhlohipaa", sum := "31918506cc196b546d5e472d0526863f395eb0ca33233185c89428fce6810381", func := "kinescope/kinescopelaw17.PackRow", spec := "packRow", apart := false, narrowed := true }
def PackRowUptoSaid : Prop := packRowUptoRow.holds Try.pinned (OpenSpec.upto packRowSpec)

/-- 'kinescopelaw15.SeqhBack', WHERE WHAT IT READS IS OF BULK AT MOST 1048576: true; the input reads as it did. -/
def seqhBackUptoRow : OpenClaim := { program := "ytepddofhlohipaa", sum := "31918506cc196b546d5e472d0526863f395eb0ca33233185c89428fce6810381", func := "kinescope/kinescopelaw15.SeqhBack", spec := "seqhBack", apart := false, narrowed := true }
def SeqhBackUptoSaid : Prop := seqhBackUptoRow.holds Try.pinned (OpenSpec.upto seqhBackSpec)

end Rows
end Go.Proofs.Ytepddofhlohipaa
