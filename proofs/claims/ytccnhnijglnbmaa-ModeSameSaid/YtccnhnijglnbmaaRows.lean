/-
  No cell of these rows narrows 'for every input' (looked for: loops, veiled, ifaces, maps, wideKeys, modest, calm, conditions, laid).
  DERIVED. THE GIVEN ROWS OF THIS SEAT. 5 by the template 'for every input the law returns true; each argument reads behind the call as it read before'; 0 by the template 'total and deterministic' (their statements: YtccnhnijglnbmaaTotals.lean).
  GIVEN WITH THE SEED: the statements are not yours to turn. If you find one false, say at which input.
  Laid BY PROGRAM, IN A SANDBOX (cutbox-rows.mjs): the forced cells as the released guide's own fill.sh prints them over the translation f151dcefebd2b8e1… (all of the seat's roots in one cut). By AI agents, Wed Nov 11 2026. No macro, syntax, notation, axiom, sorry.
-/
import Derived.Test.YtccnhnijglnbmaaChecked
import GoSem.Claim
import GoSem.ClaimJoined
import GoSem.ClaimMapViews
import Derived.JoinedTies
import Derived.KernelRfl
namespace Go.Proofs.Ytccnhnijglnbmaa
/- THE CELL 'sum', in the pinned program and in every row, IS THE sha256 OF THE DUMP (.gsa) THAT YtccnhnijglnbmaaProg.lean LOADS. Nothing in Lean hashes anything: it is a label: what it is worth is what the hold of that sum in a sandbox is worth. -/
noncomputable def Try.pinned : Pinned := { name := "ytccnhnijglnbmaa", sum := "f151dcefebd2b8e1ed1242da89f2918b597cb18be44443ef28ae9cf6948447b8", checked := Try.checked }
namespace Rows
def none {H : Type} : Left H := { results := [], args := [] }

/-- 'kinescopelaw19.ModeSame': WHATEVER THE INPUT: true; the input reads as it did. -/
def modeSameSpec : ChangeSpec := { name := "modeSame", fn := fun _ => fun
  | [d1, d2, d3, d4] => { results := [.lit (.bool true)], args := [d1, d2, d3, d4] }
  | _ => none }
def modeSameRow : OpenClaim := { program := "ytccnhnijglnbmaa", sum := "f151dcefebd2b8e1ed1242da89f2918b597cb18be44443ef28ae9cf6948447b8", func := "kinescope/kinescopelaw19.ModeSame", spec := "modeSame", apart := false }
def ModeSameSaid : Prop := modeSameRow.holds Try.pinned (OpenSpec.ofChange modeSameSpec)

/-- ITS FALSE NEIGHBOUR: 'it returns false'. Refute it at one input. -/
def modeSameWrong : ChangeSpec := { name := "modeSame", fn := fun _ => fun
  | [d1, d2, d3, d4] => { results := [.lit (.bool false)], args := [d1, d2, d3, d4] }
  | _ => none }
def ModeSameWrongFalsely : Prop := modeSameRow.holds Try.pinned (OpenSpec.ofChange modeSameWrong)

/-- 'kinescopelaw04.CodeWords': WHATEVER THE INPUT: true; the input reads as it did. -/
def codeWordsSpec : ChangeSpec := { name := "codeWords", fn := fun _ => fun
  | [d1, d2] => { results := [.lit (.bool true)], args := [d1, d2] }
  | _ => none }
def codeWordsRow : OpenClaim := { program := "ytccnhnijglnbmaa", sum := "f151dcefebd2b8e1ed1242da89f2918b597cb18be44443ef28ae9cf6948447b8", func := "kinescope/kinescopelaw04.CodeWords", spec := "codeWords", apart := false }
def CodeWordsSaid : Prop := codeWordsRow.holds Try.pinned (OpenSpec.ofChange codeWordsSpec)

/-- ITS FALSE NEIGHBOUR: 'it returns false'. Refute it at one input. -/
def codeWordsWrong : ChangeSpec := { name := "codeWords", fn := fun _ => fun
  | [d1, d2] => { results := [.lit (.bool false)], args := [d1, d2] }
  | _ => none }
def CodeWordsWrongFalsely : Prop := codeWordsRow.holds Try.pinned (OpenSpec.ofChange codeWordsWrong)

/-- 'kinescopelaw04.CodeApart': WHATEVER THE INPUT: true; the input reads as it did. -/
def codeApartSpec : ChangeSpec := { name := "codeApart", fn := fun _ => fun
  | [d1, d2] => { results := [.lit (.bool true)], args := [d1, d2] }
  | _ => none }
def codeApartRow : OpenClaim := { program := "ytccnhnijglnbmaa", sum := "f151dcefebd2b8e1ed1242da89f2918b597cb18be44443ef28ae9cf6948447b8", func := "kinescope/kinescopelaw04.CodeApart", spec := "codeApart", apart := false }
def CodeApartSaid : Prop := codeApartRow.holds Try.pinned (OpenSpec.ofChange codeApartSpec)

/-- ITS FALSE NEIGHBOUR: 'it returns false'. Refute it at one input. -/
def codeApartWrong : ChangeSpec := { name := "codeApart", fn := fun _ => fun
  | [d1, d2] => { results := [.lit (.bool false)], args := [d1, d2] }
  | _ => none }
def CodeApartWrongFalsely : Prop := codeApartRow.holds Try.pinned (OpenSpec.ofChange codeApartWrong)

/-- 'kinescopelaw04.CodeAny': WHATEVER THE INPUT: true; the input reads as it did. -/
def codeAnySpec : ChangeSpec := { name := "codeAny", fn := fun _ => fun
  | [d1, d2, d3] => { results := [.lit (.bool true)], args := [d1, d2, d3] }
  | _ => none }
def codeAnyRow : OpenClaim := { program := "ytccnhnijglnbmaa", sum := "f151dcefebd2b8e1ed1242da89f2918b597cb18be44443ef28ae9cf6948447b8", func := "kinescope/kinescopelaw04.CodeAny", spec := "codeAny", apart := false }
def CodeAnySaid : Prop := codeAnyRow.holds Try.pinned (OpenSpec.ofChange codeAnySpec)

/-- ITS FALSE NEIGHBOUR: 'it returns false'. Refute it at one input. -/
def codeAnyWrong : ChangeSpec := { name := "codeAny", fn := fun _ => fun
  | [d1, d2, d3] => { results := [.lit (.bool false)], args := [d1, d2, d3] }
  | _ => none }
def CodeAnyWrongFalsely : Prop := codeAnyRow.holds Try.pinned (OpenSpec.ofChange codeAnyWrong)

/-- 'kinescopelaw04.CodeBack': WHATEVER THE INPUT: true; the input reads as it did. -/
def codeBackSpec : ChangeSpec := { name := "codeBack", fn := fun _ => fun
  | [d1, d2] => { results := [.lit (.bool true)], args := [d1, d2] }
  | _ => none }
def codeBackRow : OpenClaim := { program := "ytccnhnijglnbmaa", sum := "f151dcefebd2b8e1ed1242da89f2918b597cb18be44443ef28ae9cf6948447b8", func := "kinescope/kinescopelaw04.CodeBack", spec := "codeBack", apart := false }
def CodeBackSaid : Prop := codeBackRow.holds Try.pinned (OpenSpec.ofChange codeBackSpec)

/-- ITS FALSE NEIGHBOUR: 'it returns false'. Refute it at one input. -/
def codeBackWrong : ChangeSpec := { name := "codeBack", fn := fun _ => fun
  | [d1, d2] => { results := [.lit (.bool false)], args := [d1, d2] }
  | _ => none }
def CodeBackWrongFalsely : Prop := codeBackRow.holds Try.pinned (OpenSpec.ofChange codeBackWrong)

/- THE SECOND FORM. 'bulk': how many values and letters a reading holds, each counted each time it is reached (what is shared counts as often as it is met; a slice's spare places count too). A statement '..UptoSaid' is the law's where the arguments, and the package variables that the reading takes, are together of bulk at most 1048576: NARROWER than '..Said'. Prove '..Said' where nothing that the law and all that it calls make is longer than what came in: it says more and counts as full. Else prove '..UptoSaid'. A law counts once. -/
mutual
def uptoBulk {H : Type} : DataW H → Nat
  | .lit (.string bytes) => bytes.length + 1
  | .lit _ => 1
  | .nil => 1
  | .ptr d => uptoBulk d + 1
  | .slice elems spare => uptoBulkAll elems + uptoBulkAll spare + 1
  | .agg parts => uptoBulkAll parts + 1
  | .iface _ d => uptoBulk d + 1
  | .map entries => uptoBulkEntries entries + 1
  | .held _ => 1
def uptoBulkAll {H : Type} : List (DataW H) → Nat
  | [] => 0
  | d :: r => uptoBulk d + uptoBulkAll r
def uptoBulkEntries {H : Type} : List (Lit × DataW H) → Nat
  | [] => 0
  | x :: r => uptoBulkEntry x + uptoBulkEntries r
def uptoBulkEntry {H : Type} : Lit × DataW H → Nat
  | (.string bytes, d) => bytes.length + uptoBulk d + 1
  | (_, d) => uptoBulk d + 1
 end
def uptoSmall : (H : Type) → List (DataW H) → Bool := fun _ ds => decide (uptoBulkAll ds ≤ 1048576)
def OpenSpec.upto (s : _root_.Go.ChangeSpec) : _root_.Go.OpenSpec := { _root_.Go.OpenSpec.ofChange s with cond := some uptoSmall }

/-- 'kinescopelaw19.ModeSame', WHERE WHAT IT READS IS OF BULK AT MOST 1048576: true; the input reads as it did. -/
def modeSameUptoRow : OpenClaim := { program := "ytccnhnijglnbmaa", sum := "f151dcefebd2b8e1ed1242da89f2918b597cb18be44443ef28ae9cf6948447b8", func := "kinescope/kinescopelaw19.ModeSame", spec := "modeSame", apart := false, narrowed := true }
def ModeSameUptoSaid : Prop := modeSameUptoRow.holds Try.pinned (OpenSpec.upto modeSameSpec)

/-- 'kinescopelaw04.CodeWords', WHERE WHAT IT READS IS OF BULK AT MOST 1048576: true; the input reads as it did. -/
def codeWordsUptoRow : OpenClaim := { program := "ytccnhnijglnbmaa", sum := "f151dcefebd2b8e1ed1242da89f2918b597cb18be44443ef28ae9cf6948447b8", func := "kinescope/kinescopelaw04.CodeWords", spec := "codeWords", apart := false, narrowed := true }
def CodeWordsUptoSaid : Prop := codeWordsUptoRow.holds Try.pinned (OpenSpec.upto codeWordsSpec)

/-- 'kinescopelaw04.CodeApart', WHERE WHAT IT READS IS OF BULK AT MOST 1048576: true; the input reads as it did. -/
def codeApartUptoRow : OpenClaim := { program := "ytccnhnijglnbmaa", sum := "f151dcefebd2b8e1ed1242da89f2918b597cb18be44443ef28ae9cf6948447b8", func := "kinescope/kinescopelaw04.CodeApart", spec := "codeApart", apart := false, narrowed := true }
def CodeApartUptoSaid : Prop := codeApartUptoRow.holds Try.pinned (OpenSpec.upto codeApartSpec)

/-- 'kinescopelaw04.CodeAny', WHERE WHAT IT READS IS OF BULK AT MOST 1048576: true; the input reads as it did. -/
def codeAnyUptoRow : OpenClaim := { program := "ytccnhnijglnbmaa", sum := "f151dcefebd2b8e1ed1242da89f2918b597cb18be44443ef28ae9cf6948447b8", func := "kinescope/kinescopelaw04.CodeAny", spec := "codeAny", apart := false, narrowed := true }
def CodeAnyUptoSaid : Prop := codeAnyUptoRow.holds Try.pinned (OpenSpec.upto codeAnySpec)

/-- 'kinescopelaw04.CodeBack', WHERE WHAT IT READS IS OF BULK AT MOST 1048576: true; the input reads as it did. -/
def codeBackUptoRow : OpenClaim := { program := "ytccnhnijglnbmaa", sum := "f151dcefebd2b8e1ed1242da89f2918b597cb18be44443ef28ae9cf6948447b8", func := "kinescope/kinescopelaw04.CodeBack", spec := "codeBack", apart := false, narrowed := true }
def CodeBackUptoSaid : Prop := codeBackUptoRow.holds Try.pinned (OpenSpec.upto codeBackSpec)

end Rows
end Go.Proofs.Ytccnhnijglnbmaa
