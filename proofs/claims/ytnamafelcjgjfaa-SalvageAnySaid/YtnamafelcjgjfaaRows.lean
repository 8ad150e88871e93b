/-
  No cell of these rows narrows 'for every input' (looked for: loops, veiled, ifaces, maps, wideKeys, modest, calm, conditions, laid).
  DERIVED. THE GIVEN ROWS OF THIS SEAT. 10 by the template 'for every input the law returns true; each argument reads behind the call as it read before'; 0 by the template 'total and deterministic' (their statements: YtnamafelcjgjfaaTotals.lean).
  GIVEN WITH THE SEED: the statements are not yours to turn. If you find one false, say at which input.
  Laid BY PROGRAM, IN A SANDBOX (cutbox-rows.mjs): the forced cells as the released guide's own fill.sh prints them over the translation 5bece75b940a5704… (all of the seat's roots in one cut). By AI agents, Wed Nov 11 2026. No macro, syntax, notation, axiom, sorry.
-/
import Derived.Test.YtnamafelcjgjfaaChecked
import GoSem.Claim
import GoSem.ClaimJoined
import GoSem.ClaimMapViews
import Derived.JoinedTies
import Derived.KernelRfl
namespace Go.Proofs.Ytnamafelcjgjfaa
/- THE CELL 'sum', in the pinned program and in every row, IS THE sha256 OF THE DUMP (.gsa) THAT YtnamafelcjgjfaaProg.lean LOADS. Nothing in Lean hashes anything: it is a label: what it is worth is what the hold of that sum in a sandbox is worth. -/
noncomputable def Try.pinned : Pinned := { name := "ytnamafelcjgjfaa", sum := "5bece75b940a57040e04ad0e56e911a0350364f5f9f6f74628bd96be932f56d9", checked := Try.checked }
namespace Rows
def none {H : Type} : Left H := { results := [], args := [] }

/-- 'kinescopelaw15.SeqhSizes': WHATEVER THE INPUT: true; the input reads as it did. -/
def seqhSizesSpec : ChangeSpec := { name := "seqhSizes", fn := fun _ => fun
  | [d1, d2] => { results := [.lit (.bool true)], args := [d1, d2] }
  | _ => none }
def seqhSizesRow : OpenClaim := { program := "ytnamafelcjgjfaa", sum := "5bece75b940a57040e04ad0e56e911a0350364f5f9f6f74628bd96be932f56d9", func := "kinescope/kinescopelaw15.SeqhSizes", spec := "seqhSizes", apart := false }
def SeqhSizesSaid : Prop := seqhSizesRow.holds Try.pinned (OpenSpec.ofChange seqhSizesSpec)

/-- ITS FALSE NEIGHBOUR: 'it returns false'. Refute it at one input. -/
def seqhSizesWrong : ChangeSpec := { name := "seqhSizes", fn := fun _ => fun
  | [d1, d2] => { results := [.lit (.bool false)], args := [d1, d2] }
  | _ => none }
def SeqhSizesWrongFalsely : Prop := seqhSizesRow.holds Try.pinned (OpenSpec.ofChange seqhSizesWrong)

/-- 'kinescopelaw15.SeqhBack': WHATEVER THE INPUT: true; the input reads as it did. -/
def seqhBackSpec : ChangeSpec := { name := "seqhBack", fn := fun _ => fun
  | [d1, d2] => { results := [.lit (.bool true)], args := [d1, d2] }
  | _ => none }
def seqhBackRow : OpenClaim := { program := "ytnamafelcjgjfaa", sum := "5bece75b940a57040e04ad0e56e911a0350364f5f9f6f74628bd96be932f56d9", func := "kinescope/kinescopelaw15.SeqhBack", spec := "seqhBack", apart := false }
def SeqhBackSaid : Prop := seqhBackRow.holds Try.pinned (OpenSpec.ofChange seqhBackSpec)

/-- ITS FALSE NEIGHBOUR: 'it returns false'. Refute it at one input. -/
def seqhBackWrong : ChangeSpec := { name := "seqhBack", fn := fun _ => fun
  | [d1, d2] => { results := [.lit (.bool false)], args := [d1, d2] }
  | _ => none }
def SeqhBackWrongFalsely : Prop := seqhBackRow.holds Try.pinned (OpenSpec.ofChange seqhBackWrong)

/-- 'kinescopelaw15.SeqhAny': WHATEVER THE INPUT: true; the input reads as it did. -/
def seqhAnySpec : ChangeSpec := { name := "seqhAny", fn := fun _ => fun
  | [d1, d2, d3, d4] => { results := [.lit (.bool true)], args := [d1, d2, d3, d4] }
  | _ => none }
def seqhAnyRow : OpenClaim := { program := "ytnamafelcjgjfaa", sum := "5bece75b940a57040e04ad0e56e911a0350364f5f9f6f74628bd96be932f56d9", func := "kinescope/kinescopelaw15.SeqhAny", spec := "seqhAny", apart := false }
def SeqhAnySaid : Prop := seqhAnyRow.holds Try.pinned (OpenSpec.ofChange seqhAnySpec)

/-- ITS FALSE NEIGHBOUR: 'it returns false'. Refute it at one input. -/
def seqhAnyWrong : ChangeSpec := { name := "seqhAny", fn := fun _ => fun
  | [d1, d2, d3, d4] => { results := [.lit (.bool false)], args := [d1, d2, d3, d4] }
  | _ => none }
def SeqhAnyWrongFalsely : Prop := seqhAnyRow.holds Try.pinned (OpenSpec.ofChange seqhAnyWrong)

/-- 'kinescopelaw18.BlockAny': WHATEVER THE INPUT: true; the input reads as it did. -/
def blockAnySpec : ChangeSpec := { name := "blockAny", fn := fun _ => fun
  | [d1, d2] => { results := [.lit (.bool true)], args := [d1, d2] }
  | _ => none }
def blockAnyRow : OpenClaim := { program := "ytnamafelcjgjfaa", sum := "5bece75b940a57040e04ad0e56e911a0350364f5f9f6f74628bd96be932f56d9", func := "kinescope/kinescopelaw18.BlockAny", spec := "blockAny", apart := false }
def BlockAnySaid : Prop := blockAnyRow.holds Try.pinned (OpenSpec.ofChange blockAnySpec)

/-- ITS FALSE NEIGHBOUR: 'it returns false'. Refute it at one input. -/
def blockAnyWrong : ChangeSpec := { name := "blockAny", fn := fun _ => fun
  | [d1, d2] => { results := [.lit (.bool false)], args := [d1, d2] }
  | _ => none }
def BlockAnyWrongFalsely : Prop := blockAnyRow.holds Try.pinned (OpenSpec.ofChange blockAnyWrong)

/-- 'kinescopelaw18.BlockMeets': WHATEVER THE INPUT: true; the input reads as it did. -/
def blockMeetsSpec : ChangeSpec := { name := "blockMeets", fn := fun _ => fun
  | [d1, d2] => { results := [.lit (.bool true)], args := [d1, d2] }
  | _ => none }
def blockMeetsRow : OpenClaim := { program := "ytnamafelcjgjfaa", sum := "5bece75b940a57040e04ad0e56e911a0350364f5f9f6f74628bd96be932f56d9", func := "kinescope/kinescopelaw18.BlockMeets", spec := "blockMeets", apart := false }
def BlockMeetsSaid : Prop := blockMeetsRow.holds Try.pinned (OpenSpec.ofChange blockMeetsSpec)

/-- ITS FALSE NEIGHBOUR: 'it returns false'. Refute it at one input. -/
def blockMeetsWrong : ChangeSpec := { name := "blockMeets", fn := fun _ => fun
  | [d1, d2] => { results := [.lit (.bool false)], args := [d1, d2] }
  | _ => none }
def BlockMeetsWrongFalsely : Prop := blockMeetsRow.holds Try.pinned (OpenSpec.ofChange blockMeetsWrong)

/-- 'kinescopelaw18.BlockEnds': WHATEVER THE INPUT: true; the input reads as it did. -/
def blockEndsSpec : ChangeSpec := { name := "blockEnds", fn := fun _ => fun
  | [d1, d2] => { results := [.lit (.bool true)], args := [d1, d2] }
  | _ => none }
def blockEndsRow : OpenClaim := { program := "ytnamafelcjgjfaa", sum := "5bece75b940a57040e04ad0e56e911a0350364f5f9f6f74628bd96be932f56d9", func := "kinescope/kinescopelaw18.BlockEnds", spec := "blockEnds", apart := false }
def BlockEndsSaid : Prop := blockEndsRow.holds Try.pinned (OpenSpec.ofChange blockEndsSpec)

/-- ITS FALSE NEIGHBOUR: 'it returns false'. Refute it at one input. -/
def blockEndsWrong : ChangeSpec := { name := "blockEnds", fn := fun _ => fun
  | [d1, d2] => { results := [.lit (.bool false)], args := [d1, d2] }
  | _ => none }
def BlockEndsWrongFalsely : Prop := blockEndsRow.holds Try.pinned (OpenSpec.ofChange blockEndsWrong)

/-- 'kinescopelaw24.SalvageRight': WHATEVER THE INPUT: true; the input reads as it did. -/
def salvageRightSpec : ChangeSpec := { name := "salvageRight", fn := fun _ => fun
  | [d1, d2, d3] => { results := [.lit (.bool true)], args := [d1, d2, d3] }
  | _ => none }
def salvageRightRow : OpenClaim := { program := "ytnamafelcjgjfaa", sum := "5bece75b940a57040e04ad0e56e911a0350364f5f9f6f74628bd96be932f56d9", func := "kinescope/kinescopelaw24.SalvageRight", spec := "salvageRight", apart := false }
def SalvageRightSaid : Prop := salvageRightRow.holds Try.pinned (OpenSpec.ofChange salvageRightSpec)

/-- ITS FALSE NEIGHBOUR: 'it returns false'. Refute it at one input. -/
def salvageRightWrong : ChangeSpec := { name := "salvageRight", fn := fun _ => fun
  | [d1, d2, d3] => { results := [.lit (.bool false)], args := [d1, d2, d3] }
  | _ => none }
def SalvageRightWrongFalsely : Prop := salvageRightRow.holds Try.pinned (OpenSpec.ofChange salvageRightWrong)

/-- 'kinescopelaw24.SalvageLess': WHATEVER THE INPUT: true; the input reads as it did. -/
def salvageLessSpec : ChangeSpec := { name := "salvageLess", fn := fun _ => fun
  | [d1, d2, d3, d4] => { results := [.lit (.bool true)], args := [d1, d2, d3, d4] }
  | _ => none }
def salvageLessRow : OpenClaim := { program := "ytnamafelcjgjfaa", sum := "5bece75b940a57040e04ad0e56e911a0350364f5f9f6f74628bd96be932f56d9", func := "kinescope/kinescopelaw24.SalvageLess", spec := "salvageLess", apart := false }
def SalvageLessSaid : Prop := salvageLessRow.holds Try.pinned (OpenSpec.ofChange salvageLessSpec)

/-- ITS FALSE NEIGHBOUR: 'it returns false'. Refute it at one input. -/
def salvageLessWrong : ChangeSpec := { name := "salvageLess", fn := fun _ => fun
  | [d1, d2, d3, d4] => { results := [.lit (.bool false)], args := [d1, d2, d3, d4] }
  | _ => none }
def SalvageLessWrongFalsely : Prop := salvageLessRow.holds Try.pinned (OpenSpec.ofChange salvageLessWrong)

/-- 'kinescopelaw24.SalvageEnds': WHATEVER THE INPUT: true; the input reads as it did. -/
def salvageEndsSpec : ChangeSpec := { name := "salvageEnds", fn := fun _ => fun
  | [d1, d2] => { results := [.lit (.bool true)], args := [d1, d2] }
  | _ => none }
def salvageEndsRow : OpenClaim := { program := "ytnamafelcjgjfaa", sum := "5bece75b940a57040e04ad0e56e911a0350364f5f9f6f74628bd96be932f56d9", func := "kinescope/kinescopelaw24.SalvageEnds", spec := "salvageEnds", apart := false }
def SalvageEndsSaid : Prop := salvageEndsRow.holds Try.pinned (OpenSpec.ofChange salvageEndsSpec)

/-- ITS FALSE NEIGHBOUR: 'it returns false'. Refute it at one input. -/
def salvageEndsWrong : ChangeSpec := { name := "salvageEnds", fn := fun _ => fun
  | [d1, d2] => { results := [.lit (.bool false)], args := [d1, d2] }
  | _ => none }
def SalvageEndsWrongFalsely : Prop := salvageEndsRow.holds Try.pinned (OpenSpec.ofChange salvageEndsWrong)

/-- 'kinescopelaw24.SalvageAny': WHATEVER THE INPUT: true; the input reads as it did. -/
def salvageAnySpec : ChangeSpec := { name := "salvageAny", fn := fun _ => fun
  | [d1, d2, d3, d4, d5, d6] => { results := [.lit (.bool true)], args := [d1, d2, d3, d4, d5, d6] }
  | _ => none }
def salvageAnyRow : OpenClaim := { program := "ytnamafelcjgjfaa", sum := "5bece75b940a57040e04ad0e56e911a0350364f5f9f6f74628bd96be932f56d9", func := "kinescope/kinescopelaw24.SalvageAny", spec := "salvageAny", apart := false }
def SalvageAnySaid : Prop := salvageAnyRow.holds Try.pinned (OpenSpec.ofChange salvageAnySpec)

/-- ITS FALSE NEIGHBOUR: 'it returns false'. Refute it at one input. -/
def salvageAnyWrong : ChangeSpec := { name := "salvageAny", fn := fun _ => fun
  | [d1, d2, d3, d4, d5, d6] => { results := [.lit (.bool false)], args := [d1, d2, d3, d4, d5, d6] }
  | _ => none }
def SalvageAnyWrongFalsely : Prop := salvageAnyRow.holds Try.pinned (OpenSpec.ofChange salvageAnyWrong)

/- THE SECOND FORM. 'bulk': how many values and letters a reading holds, each counted each time it is reached (what is shared counts as often as it is met; a slice's spare places count too). A statement '..UptoSaid' is the law's where the arguments, and the package variables that the reading takes, are together of bulk at most 1048576: NARROWER than '..Said'. Prove '..Said' where nothing that the law and all that it calls make is longer than what came in: it says more and counts as full. Else prove '..UptoSaid'. A law counts once. -/
mutual
def uptoBulk {H : Type} : DataW H → Nat
  | .lit (.string bytes) => bytes.length + 1
  | .lit _ => 1
  | .nil => 1
  | .ptr d => uptoBulk d + 1
  | .slice elems spare => uptoBulkAll elems + uptoBulkAll spare + 1
  | .agg parts => uptoBulkAll parts + 1
  | .iface _ d => uptoBulk d + 1
  | .map entries => uptoBulkEntries entries + 1
  | .held _ => 1
def uptoBulkAll {H : Type} : List (DataW H) → Nat
  | [] => 0
  | d :: r => uptoBulk d + uptoBulkAll r
def uptoBulkEntries {H : Type} : List (Lit × DataW H) → Nat
  | [] => 0
  | x :: r => uptoBulkEntry x + uptoBulkEntries r
def uptoBulkEntry {H : Type} : Lit × DataW H → Nat
  | (.string bytes, d) => bytes.length + uptoBulk d + 1
  | (_, d) => uptoBulk d + 1
 end
def uptoSmall : (H : Type) → List (DataW H) → Bool := fun _ ds => decide (uptoBulkAll ds ≤ 1048576)
def OpenSpec.upto (s : _root_.Go.ChangeSpec) : _root_.Go.OpenSpec := { _root_.Go.OpenSpec.ofChange s with cond := some uptoSmall }

/-- 'kinescopelaw15.SeqhSizes', WHERE WHAT IT READS IS OF BULK AT MOST 1048576: true; the input reads as it did. -/
def seqhSizesUptoRow : OpenClaim := { program := "ytnamafelcjgjfaa", sum := "5bece75b940a57040e04ad0e56e911a0350364f5f9f6f74628bd96be932f56d9", func := "kinescope/kinescopelaw15.SeqhSizes", spec := "seqhSizes", apart := false, narrowed := true }
def SeqhSizesUptoSaid : Prop := seqhSizesUptoRow.holds Try.pinned (OpenSpec.upto seqhSizesSpec)

/-- 'kinescopelaw15.SeqhBack', WHERE WHAT IT READS IS OF BULK AT MOST 1048576: true; the input reads as it did. -/
def seqhBackUptoRow : OpenClaim := { program := "ytnamafelcjgjfaa", sum := "5bece75b940a57040e04ad0e56e911a0350364f5f9f6f74628bd96be932f56d9", func := "kinescope/kinescopelaw15.SeqhBack", spec := "seqhBack", apart := false, narrowed := true }
def SeqhBackUptoSaid : Prop := seqhBackUptoRow.holds Try.pinned (OpenSpec.upto seqhBackSpec)

/-- 'kinescopelaw15.SeqhAny', WHERE WHAT IT READS IS OF BULK AT MOST 1048576: true; the input reads as it did. -/
def seqhAnyUptoRow : OpenClaim := { program := "ytnamafelcjgjfaa", sum := "5bece75b940a57040e04ad0e56e911a0350364f5f9f6f74628bd96be932f56d9", func := "kinescope/kinescopelaw15.SeqhAny", spec := "seqhAny", apart := false, narrowed := true }
def SeqhAnyUptoSaid : Prop := seqhAnyUptoRow.holds Try.pinned (OpenSpec.upto seqhAnySpec)

/-- 'kinescopelaw18.BlockAny', WHERE WHAT IT READS IS OF BULK AT MOST 1048576: true; the input reads as it did. -/
def blockAnyUptoRow : OpenClaim := { program := "ytnamafelcjgjfaa", sum := "5bece75b940a57040e04ad0e56e911a0350364f5f9f6f74628bd96be932f56d9", func := "kinescope/kinescopelaw18.BlockAny", spec := "blockAny", apart := false, narrowed := true }
def BlockAnyUptoSaid : Prop := blockAnyUptoRow.holds Try.pinned (OpenSpec.upto blockAnySpec)

/-- 'kinescopelaw18.BlockMeets', WHERE WHAT IT READS IS OF BULK AT MOST 1048576: true; the input reads as it did. -/
def blockMeetsUptoRow : OpenClaim := { program := "ytnamafelcjgjfaa", sum := "5bece75b940a57040e04ad0e56e911a0350364f5f9f6f74628bd96be932f56d9", func := "kinescope/kinescopelaw18.BlockMeets", spec := "blockMeets", apart := false, narrowed := true }
def BlockMeetsUptoSaid : Prop := blockMeetsUptoRow.holds Try.pinned (OpenSpec.upto blockMeetsSpec)

/-- 'kinescopelaw18.BlockEnds', WHERE WHAT IT READS IS OF BULK AT MOST 1048576: true; the input reads as it did. -/
def blockEndsUptoRow : OpenClaim := { program := "ytnamafelcjgjfaa", sum := "5bece75b940a57040e04ad0e56e911a0350364f5f9f6f74628bd96be932f56d9", func := "kinescope/kinescopelaw18.BlockEnds", spec := "blockEnds", apart := false, narrowed := true }
def BlockEndsUptoSaid : Prop := blockEndsUptoRow.holds Try.pinned (OpenSpec.upto blockEndsSpec)

/-- 'kinescopelaw24.SalvageRight', WHERE WHAT IT READS IS OF BULK AT MOST 1048576: true; the input reads as it did. -/
def salvageRightUptoRow : OpenClaim := { program := "ytnamafelcjgjfaa", sum := "5bece75b940a57040e04ad0e56e911a0350364f5f9f6f74628bd96be932f56d9", func := "kinescope/kinescopelaw24.SalvageRight", spec := "salvageRight", apart := false, narrowed := true }
def SalvageRightUptoSaid : Prop := salvageRightUptoRow.holds Try.pinned (OpenSpec.upto salvageRightSpec)

/-- 'kinescopelaw24.SalvageLess', WHERE WHAT IT READS IS OF BULK AT MOST 1048576: true; the input reads as it did. -/
def salvageLessUptoRow : OpenClaim := { program := "ytnamafelcjgjfaa", sum := "5bece75b940a57040e04ad0e56e911a0350364f5f9f6f74628bd96be932f56d9", func := "kinescope/kinescopelaw24.SalvageLess", spec := "salvageLess", apart := false, narrowed := true }
def SalvageLessUptoSaid : Prop := salvageLessUptoRow.holds Try.pinned (OpenSpec.upto salvageLessSpec)

/-- 'kinescopelaw24.SalvageEnds', WHERE WHAT IT READS IS OF BULK AT MOST 1048576: true; the input reads as it did. -/
def salvageEndsUptoRow : OpenClaim := { program := "ytnamafelcjgjfaa", sum := "5bece75b940a57040e04ad0e56e911a0350364f5f9f6f74628bd96be932f56d9", func := "kinescope/kinescopelaw24.SalvageEnds", spec := "salvageEnds", apart := false, narrowed := true }
def SalvageEndsUptoSaid : Prop := salvageEndsUptoRow.holds Try.pinned (OpenSpec.upto salvageEndsSpec)

/-- 'kinescopelaw24.SalvageAny', WHERE WHAT IT READS IS OF BULK AT MOST 1048576: true; the input reads as it did. -/
def salvageAnyUptoRow : OpenClaim := { program := "ytnamafelcjgjfaa", sum := "5bece75b940a57040e04ad0e56e911a0350364f5f9f6f74628bd96be932f56d9", func := "kinescope/kinescopelaw24.SalvageAny", spec := "salvageAny", apart := false, narrowed := true }
def SalvageAnyUptoSaid : Prop := salvageAnyUptoRow.holds Try.pinned (OpenSpec.upto salvageAnySpec)

end Rows
end Go.Proofs.Ytnamafelcjgjfaa
