/-
  No cell of these rows narrows 'for every input' (looked for: loops, veiled, ifaces, maps, wideKeys, modest, calm, conditions, laid).
  DERIVED. THE GIVEN ROWS OF THIS SEAT. 11 by the template 'for every input the law returns true; each argument reads behind the call as it read before'; 0 by the template 'total and deterministic' (their statements: YtlgnngknknaomaaTotals.lean).
  GIVEN WITH THE SEED: the statements are not yours to turn. If you find one false, say at which input.
  Laid BY PROGRAM, IN A SANDBOX (cutbox-rows.mjs): the forced cells as the released guide's own fill.sh prints them over the translation b8521cca79b90273… (all of the seat's roots in one cut). By AI agents, Wed Nov 11 2026. No macro, syntax, notation, axiom, sorry.
-/
import Derived.Test.YtlgnngknknaomaaChecked
import GoSem.Claim
import GoSem.ClaimJoined
import GoSem.ClaimMapViews
import Derived.JoinedTies
import Derived.KernelRfl
namespace Go.Proofs.Ytlgnngknknaomaa
/- THE CELL 'sum', in the pinned program and in every row, IS THE sha256 OF THE DUMP (.gsa) THAT YtlgnngknknaomaaProg.lean LOADS. Nothing in Lean hashes anything: it is a label: what it is worth is what the hold of that sum in a sandbox is worth. -/
noncomputable def Try.pinned : Pinned := { name := "ytlgnngknknaomaa", sum := "b8521cca79b902730c33075e9c9851748d5e638838ce5f3f99b7b4573c70d9b7", checked := Try.checked }
namespace Rows
def none {H : Type} : Left H := { results := [], args := [] }

/-- 'kinescopelaw19.ModeSteps': WHATEVER THE INPUT: true; the input reads as it did. -/
def modeStepsSpec : ChangeSpec := { name := "modeSteps", fn := fun _ => fun
  | [d1, d2, d3] => { results := [.lit (.bool true)], args := [d1, d2, d3] }
  | _ => none }
def modeStepsRow : OpenClaim := { program := "ytlgnngknknaomaa", sum := "b8521cca79b902730c33075e9c9851748d5e638838ce5f3f99b7b4573c70d9b7", func := "kinescope/kinescopelaw19.ModeSteps", spec := "modeSteps", apart := false }
def ModeStepsSaid : Prop := modeStepsRow.holds Try.pinned (OpenSpec.ofChange modeStepsSpec)

/-- ITS FALSE NEIGHBOUR: 'it returns false'. Refute it at one input. -/
def modeStepsWrong : ChangeSpec := { name := "modeSteps", fn := fun _ => fun
  | [d1, d2, d3] => { results := [.lit (.bool false)], args := [d1, d2, d3] }
  | _ => none }
def ModeStepsWrongFalsely : Prop := modeStepsRow.holds Try.pinned (OpenSpec.ofChange modeStepsWrong)

/-- 'kinescopelaw19.ModeSame': WHATEVER THE INPUT: true; the input reads as it did. -/
def modeSameSpec : ChangeSpec := { name := "modeSame", fn := fun _ => fun
  | [d1, d2, d3, d4] => { results := [.lit (.bool true)], args := [d1, d2, d3, d4] }
  | _ => none }
def modeSameRow : OpenClaim := { program := "ytlgnngknknaomaa", sum := "b8521cca79b902730c33075e9c9851748d5e638838ce5f3f99b7b4573c70d9b7", func := "kinescope/kinescopelaw19.ModeSame", spec := "modeSame", apart := false }
def ModeSameSaid : Prop := modeSameRow.holds Try.pinned (OpenSpec.ofChange modeSameSpec)

/-- ITS FALSE NEIGHBOUR: 'it returns false'. Refute it at one input. -/
def modeSameWrong : ChangeSpec := { name := "modeSame", fn := fun _ => fun
  | [d1, d2, d3, d4] => { results := [.lit (.bool false)], args := [d1, d2, d3, d4] }
  | _ => none }
def ModeSameWrongFalsely : Prop := modeSameRow.holds Try.pinned (OpenSpec.ofChange modeSameWrong)

/-- 'kinescopelaw05.RvlcPuts': WHATEVER THE INPUT: true; the input reads as it did. -/
def rvlcPutsSpec : ChangeSpec := { name := "rvlcPuts", fn := fun _ => fun
  | [d1, d2] => { results := [.lit (.bool true)], args := [d1, d2] }
  | _ => none }
def rvlcPutsRow : OpenClaim := { program := "ytlgnngknknaomaa", sum := "b8521cca79b902730c33075e9c9851748d5e638838ce5f3f99b7b4573c70d9b7", func := "kinescope/kinescopelaw05.RvlcPuts", spec := "rvlcPuts", apart := false }
def RvlcPutsSaid : Prop := rvlcPutsRow.holds Try.pinned (OpenSpec.ofChange rvlcPutsSpec)

/-- ITS FALSE NEIGHBOUR: 'it returns false'. Refute it at one input. -/
def rvlcPutsWrong : ChangeSpec := { name := "rvlcPuts", fn := fun _ => fun
  | [d1, d2] => { results := [.lit (.bool false)], args := [d1, d2] }
  | _ => none }
def RvlcPutsWrongFalsely : Prop := rvlcPutsRow.holds Try.pinned (OpenSpec.ofChange rvlcPutsWrong)

/-- 'kinescopelaw01.BitsReads': WHATEVER THE INPUT: true; the input reads as it did. -/
def bitsReadsSpec : ChangeSpec := { name := "bitsReads", fn := fun _ => fun
  | [d1, d2, d3, d4] => { results := [.lit (.bool true)], args := [d1, d2, d3, d4] }
  | _ => none }
def bitsReadsRow : OpenClaim := { program := "ytlgnngknknaomaa", sum := "b8521cca79b902730c33075e9c9851748d5e638838ce5f3f99b7b4573c70d9b7", func := "kinescope/kinescopelaw01.BitsReads", spec := "bitsReads", apart := false }
def BitsReadsSaid : Prop := bitsReadsRow.holds Try.pinned (OpenSpec.ofChange bitsReadsSpec)

/-- ITS FALSE NEIGHBOUR: 'it returns false'. Refute it at one input. -/
def bitsReadsWrong : ChangeSpec := { name := "bitsReads", fn := fun _ => fun
  | [d1, d2, d3, d4] => { results := [.lit (.bool false)], args := [d1, d2, d3, d4] }
  | _ => none }
def BitsReadsWrongFalsely : Prop := bitsReadsRow.holds Try.pinned (OpenSpec.ofChange bitsReadsWrong)

/-- 'kinescopelaw04.CodeWords': WHATEVER THE INPUT: true; the input reads as it did. -/
def codeWordsSpec : ChangeSpec := { name := "codeWords", fn := fun _ => fun
  | [d1, d2] => { results := [.lit (.bool true)], args := [d1, d2] }
  | _ => none }
def codeWordsRow : OpenClaim := { program := "ytlgnngknknaomaa", sum := "b8521cca79b902730c33075e9c9851748d5e638838ce5f3f99b7b4573c70d9b7", func := "kinescope/kinescopelaw04.CodeWords", spec := "codeWords", apart := false }
def CodeWordsSaid : Prop := codeWordsRow.holds Try.pinned (OpenSpec.ofChange codeWordsSpec)

/-- ITS FALSE NEIGHBOUR: 'it returns false'. Refute it at one input. -/
def codeWordsWrong : ChangeSpec := { name := "codeWords", fn := fun _ => fun
  | [d1, d2] => { results := [.lit (.bool false)], args := [d1, d2] }
  | _ => none }
def CodeWordsWrongFalsely : Prop := codeWordsRow.holds Try.pinned (OpenSpec.ofChange codeWordsWrong)

/-- 'kinescopelaw05.RvlcSigns': WHATEVER THE INPUT: true; the input reads as it did. -/
def rvlcSignsSpec : ChangeSpec := { name := "rvlcSigns", fn := fun _ => fun
  | [d] => { results := [.lit (.bool true)], args := [d] }
  | _ => none }
def rvlcSignsRow : OpenClaim := { program := "ytlgnngknknaomaa", sum := "b8521cca79b902730c33075e9c9851748d5e638838ce5f3f99b7b4573c70d9b7", func := "kinescope/kinescopelaw05.RvlcSigns", spec := "rvlcSigns", apart := false }
def RvlcSignsSaid : Prop := rvlcSignsRow.holds Try.pinned (OpenSpec.ofChange rvlcSignsSpec)

/-- ITS FALSE NEIGHBOUR: 'it returns false'. Refute it at one input. -/
def rvlcSignsWrong : ChangeSpec := { name := "rvlcSigns", fn := fun _ => fun
  | [d] => { results := [.lit (.bool false)], args := [d] }
  | _ => none }
def RvlcSignsWrongFalsely : Prop := rvlcSignsRow.holds Try.pinned (OpenSpec.ofChange rvlcSignsWrong)

/-- 'kinescopelaw04.CodeApart': WHATEVER THE INPUT: true; the input reads as it did. -/
def codeApartSpec : ChangeSpec := { name := "codeApart", fn := fun _ => fun
  | [d1, d2] => { results := [.lit (.bool true)], args := [d1, d2] }
  | _ => none }
def codeApartRow : OpenClaim := { program := "ytlgnngknknaomaa", sum := "b8521cca79b902730c33075e9c9851748d5e638838ce5f3f99b7b4573c70d9b7", func := "kinescope/kinescopelaw04.CodeApart", spec := "codeApart", apart := false }
def CodeApartSaid : Prop := codeApartRow.holds Try.pinned (OpenSpec.ofChange codeApartSpec)

/-- ITS FALSE NEIGHBOUR: 'it returns false'. Refute it at one input. -/
def codeApartWrong : ChangeSpec := { name := "codeApart", fn := fun _ => fun
  | [d1, d2] => { results := [.lit (.bool false)], args := [d1, d2] }
  | _ => none }
def CodeApartWrongFalsely : Prop := codeApartRow.holds Try.pinned (OpenSpec.ofChange codeApartWrong)

/-- 'kinescopelaw01.BitsSizes': WHATEVER THE INPUT: true; the input reads as it did. -/
def bitsSizesSpec : ChangeSpec := { name := "bitsSizes", fn := fun _ => fun
  | [d1, d2, d3] => { results := [.lit (.bool true)], args := [d1, d2, d3] }
  | _ => none }
def bitsSizesRow : OpenClaim := { program := "ytlgnngknknaomaa", sum := "b8521cca79b902730c33075e9c9851748d5e638838ce5f3f99b7b4573c70d9b7", func := "kinescope/kinescopelaw01.BitsSizes", spec := "bitsSizes", apart := false }
def BitsSizesSaid : Prop := bitsSizesRow.holds Try.pinned (OpenSpec.ofChange bitsSizesSpec)

/-- ITS FALSE NEIGHBOUR: 'it returns false'. Refute it at one input. -/
def bitsSizesWrong : ChangeSpec := { name := "bitsSizes", fn := fun _ => fun
  | [d1, d2, d3] => { results := [.lit (.bool false)], args := [d1, d2, d3] }
  | _ => none }
def BitsSizesWrongFalsely : Prop := bitsSizesRow.holds Try.pinned (OpenSpec.ofChange bitsSizesWrong)

/-- 'kinescopelaw04.CodeAny': WHATEVER THE INPUT: true; the input reads as it did. -/
def codeAnySpec : ChangeSpec := { name := "codeAny", fn := fun _ => fun
  | [d1, d2, d3] => { results := [.lit (.bool true)], args := [d1, d2, d3] }
  | _ => none }
def codeAnyRow : OpenClaim := { program := "ytlgnngknknaomaa", sum := "b8521cca79b902730c33075e9c9851748d5e638838ce5f3f99b7b4573c70d9b7", func := "kinescope/kinescopelaw04.CodeAny", spec := "codeAny", apart := false }
def CodeAnySaid : Prop := codeAnyRow.holds Try.pinned (OpenSpec.ofChange codeAnySpec)

/-- ITS FALSE NEIGHBOUR: 'it returns false'. Refute it at one input. -/
def codeAnyWrong : ChangeSpec := { name := "codeAny", fn := fun _ => fun
  | [d1, d2, d3] => { results := [.lit (.bool false)], args := [d1, d2, d3] }
  | _ => none }
def CodeAnyWrongFalsely : Prop := codeAnyRow.holds Try.pinned (OpenSpec.ofChange codeAnyWrong)

/-- 'kinescopelaw04.CodeBack': WHATEVER THE INPUT: true; the input reads as it did. -/
def codeBackSpec : ChangeSpec := { name := "codeBack", fn := fun _ => fun
  | [d1, d2] => { results := [.lit (.bool true)], args := [d1, d2] }
  | _ => none }
def codeBackRow : OpenClaim := { program := "ytlgnngknknaomaa", sum := "b8521cca79b902730c33075e9c9851748d5e638838ce5f3f99b7b4573c70d9b7", func := "kinescope/kinescopelaw04.CodeBack", spec := "codeBack", apart := false }
def CodeBackSaid : Prop := codeBackRow.holds Try.pinned (OpenSpec.ofChange codeBackSpec)

/-- ITS FALSE NEIGHBOUR: 'it returns false'. Refute it at one input. -/
def codeBackWrong : ChangeSpec := { name := "codeBack", fn := fun _ => fun
  | [d1, d2] => { results := [.lit (.bool false)], args := [d1, d2] }
  | _ => none }
def CodeBackWrongFalsely : Prop := codeBackRow.holds Try.pinned (OpenSpec.ofChange codeBackWrong)

/-- 'kinescopelaw05.RvlcAny': WHATEVER THE INPUT: true; the input reads as it did. -/
def rvlcAnySpec : ChangeSpec := { name := "rvlcAny", fn := fun _ => fun
  | [d1, d2] => { results := [.lit (.bool true)], args := [d1, d2] }
  | _ => none }
def rvlcAnyRow : OpenClaim := { program := "ytlgnngknknaomaa", sum := "b8521cca79b902730c33075e9c9851748d5e638838ce5f3f99b7b4573c70d9b7", func := "kinescope/kinescopelaw05.RvlcAny", spec := "rvlcAny", apart := false }
def RvlcAnySaid : Prop := rvlcAnyRow.holds Try.pinned (OpenSpec.ofChange rvlcAnySpec)

/-- ITS FALSE NEIGHBOUR: 'it returns false'. Refute it at one input. -/
def rvlcAnyWrong : ChangeSpec := { name := "rvlcAny", fn := fun _ => fun
  | [d1, d2] => { results := [.lit (.bool false)], args := [d1, d2] }
  | _ => none }
def RvlcAnyWrongFalsely : Prop := rvlcAnyRow.holds Try.pinned (OpenSpec.ofChange rvlcAnyWrong)

/- THE SECOND FORM. 'bulk': how many values and letters a reading holds, each counted each time it is reached (what is shared counts as often as it is met; a slice's spare places count too). A statement '..UptoSaid' is the law's where the arguments, and the package variables that the reading takes, are together of bulk at most 1048576: NARROWER than '..Said'. Prove '..Said' where nothing that the law and all that it calls make is longer than what came in: it says more and counts as full. Else prove '..UptoSaid'. A law counts once. -/
mutual
def uptoBulk {H : Type} : DataW H → Nat
  | .lit (.string bytes) => bytes.length + 1
  | .lit _ => 1
  | .nil => 1
  | .ptr d => uptoBulk d + 1
  | .slice elems spare => uptoBulkAll elems + uptoBulkAll spare + 1
  | .agg parts => uptoBulkAll parts + 1
  | .iface _ d => uptoBulk d + 1
  | .map entries => uptoBulkEntries entries + 1
  | .held _ => 1
def uptoBulkAll {H : Type} : List (DataW H) → Nat
  | [] => 0
  | d :: r => uptoBulk d + uptoBulkAll r
def uptoBulkEntries {H : Type} : List (Lit × DataW H) → Nat
  | [] => 0
  | x :: r => uptoBulkEntry x + uptoBulkEntries r
def uptoBulkEntry {H : Type} : Lit × DataW H → Nat
  | (.string bytes, d) => bytes.length + uptoBulk d + 1
  | (_, d) => uptoBulk d + 1
 end
def uptoSmall : (H : Type) → List (DataW H) → Bool := fun _ ds => decide (uptoBulkAll ds ≤ 1048576)
def OpenSpec.upto (s : _root_.Go.ChangeSpec) : _root_.Go.OpenSpec := { _root_.Go.OpenSpec.ofChange s with cond := some uptoSmall }

/-- 'kinescopelaw19.ModeSteps', WHERE WHAT IT READS IS OF BULK AT MOST 1048576: true; the input reads as it did. -/
def modeStepsUptoRow : OpenClaim := { program := "ytlgnngknknaomaa", sum := "b8521cca79b902730c33075e9c9851748d5e638838ce5f3f99b7b4573c70d9b7", func := "kinescope/kinescopelaw19.ModeSteps", spec := "modeSteps", apart := false, narrowed := true }
def ModeStepsUptoSaid : Prop := modeStepsUptoRow.holds Try.pinned (OpenSpec.upto modeStepsSpec)

/-- 'kinescopelaw19.ModeSame', WHERE WHAT IT READS IS OF BULK AT MOST 1048576: true; the input reads as it did. -/
def modeSameUptoRow : OpenClaim := { program := "ytlgnngknknaomaa", sum := "b8521cca79b902730c33075e9c9851748d5e638838ce5f3f99b7b4573c70d9b7", func := "kinescope/kinescopelaw19.ModeSame", spec := "modeSame", apart := false, narrowed := true }
def ModeSameUptoSaid : Prop := modeSameUptoRow.holds Try.pinned (OpenSpec.upto modeSameSpec)

/-- 'kinescopelaw05.RvlcPuts', WHERE WHAT IT READS IS OF BULK AT MOST 1048576: true; the input reads as it did. -/
def rvlcPutsUptoRow : OpenClaim := { program := "ytlgnngknknaomaa", sum := "b8521cca79b902730c33075e9c9851748d5e638838ce5f3f99b7b4573c70d9b7", func := "kinescope/kinescopelaw05.RvlcPuts", spec := "rvlcPuts", apart := false, narrowed := true }
def RvlcPutsUptoSaid : Prop := rvlcPutsUptoRow.holds Try.pinned (OpenSpec.upto rvlcPutsSpec)

/-- 'kinescopelaw01.BitsReads', WHERE WHAT IT READS IS OF BULK AT MOST 1048576: true; the input reads as it did. -/
def bitsReadsUptoRow : OpenClaim := { program := "ytlgnngknknaomaa", sum := "b8521cca79b902730c33075e9c9851748d5e638838ce5f3f99b7b4573c70d9b7", func := "kinescope/kinescopelaw01.BitsReads", spec := "bitsReads", apart := false, narrowed := true }
def BitsReadsUptoSaid : Prop := bitsReadsUptoRow.holds Try.pinned (OpenSpec.upto bitsReadsSpec)

/-- 'kinescopelaw04.CodeWords', WHERE WHAT IT READS IS OF BULK AT MOST 1048576: true; the input reads as it did. -/
def codeWordsUptoRow : OpenClaim := { program := "ytlgnngknknaomaa", sum := "b8521cca79b902730c33075e9c9851748d5e638838ce5f3f99b7b4573c70d9b7", func := "kinescope/kinescopelaw04.CodeWords", spec := "codeWords", apart := false, narrowed := true }
def CodeWordsUptoSaid : Prop := codeWordsUptoRow.holds Try.pinned (OpenSpec.upto codeWordsSpec)

/-- 'kinescopelaw05.RvlcSigns', WHERE WHAT IT READS IS OF BULK AT MOST 1048576: true; the input reads as it did. -/
def rvlcSignsUptoRow : OpenClaim := { program := "ytlgnngknknaomaa", sum := "b8521cca79b902730c33075e9c9851748d5e638838ce5f3f99b7b4573c70d9b7", func := "kinescope/kinescopelaw05.RvlcSigns", spec := "rvlcSigns", apart := false, narrowed := true }
def RvlcSignsUptoSaid : Prop := rvlcSignsUptoRow.holds Try.pinned (OpenSpec.upto rvlcSignsSpec)

/-- 'kinescopelaw04.CodeApart', WHERE WHAT IT READS IS OF BULK AT MOST 1048576: true; the input reads as it did. -/
def codeApartUptoRow : OpenClaim := { program := "ytlgnngknknaomaa", sum := "b8521cca79b902730c33075e9c9851748d5e638838ce5f3f99b7b4573c70d9b7", func := "kinescope/kinescopelaw04.CodeApart", spec := "codeApart", apart := false, narrowed := true }
def CodeApartUptoSaid : Prop := codeApartUptoRow.holds Try.pinned (OpenSpec.upto codeApartSpec)

/-- 'kinescopelaw01.BitsSizes', WHERE WHAT IT READS IS OF BULK AT MOST 1048576: true; the input reads as it did. -/
def bitsSizesUptoRow : OpenClaim := { program := "ytlgnngknknaomaa", sum := "b8521cca79b902730c33075e9c9851748d5e638838ce5f3f99b7b4573c70d9b7", func := "kinescope/kinescopelaw01.BitsSizes", spec := "bitsSizes", apart := false, narrowed := true }
def BitsSizesUptoSaid : Prop := bitsSizesUptoRow.holds Try.pinned (OpenSpec.upto bitsSizesSpec)

/-- 'kinescopelaw04.CodeAny', WHERE WHAT IT READS IS OF BULK AT MOST 1048576: true; the input reads as it did. -/
def codeAnyUptoRow : OpenClaim := { program := "ytlgnngknknaomaa", sum := "b8521cca79b902730c33075e9c9851748d5e638838ce5f3f99b7b4573c70d9b7", func := "kinescope/kinescopelaw04.CodeAny", spec := "codeAny", apart := false, narrowed := true }
def CodeAnyUptoSaid : Prop := codeAnyUptoRow.holds Try.pinned (OpenSpec.upto codeAnySpec)

/-- 'kinescopelaw04.CodeBack', WHERE WHAT IT READS IS OF BULK AT MOST 1048576: true; the input reads as it did. -/
def codeBackUptoRow : OpenClaim := { program := "ytlgnngknknaomaa", sum := "b8521cca79b902730c33075e9c9851748d5e638838ce5f3f99b7b4573c70d9b7", func := "kinescope/kinescopelaw04.CodeBack", spec := "codeBack", apart := false, narrowed := true }
def CodeBackUptoSaid : Prop := codeBackUptoRow.holds Try.pinned (OpenSpec.upto codeBackSpec)

/-- 'kinescopelaw05.RvlcAny', WHERE WHAT IT READS IS OF BULK AT MOST 1048576: true; the input reads as it did. -/
def rvlcAnyUptoRow : OpenClaim := { program := "ytlgnngknknaomaa", sum := "b8521cca79b902730c33075e9c9851748d5e638838ce5f3f99b7b4573c70d9b7", func := "kinescope/kinescopelaw05.RvlcAny", spec := "rvlcAny", apart := false, narrowed := true }
def RvlcAnyUptoSaid : Prop := rvlcAnyUptoRow.holds Try.pinned (OpenSpec.upto rvlcAnySpec)

end Rows
end Go.Proofs.Ytlgnngknknaomaa
