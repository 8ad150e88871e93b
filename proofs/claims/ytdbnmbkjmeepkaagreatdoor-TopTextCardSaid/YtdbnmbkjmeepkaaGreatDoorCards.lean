/-
  DERIVED. GIVEN WITH THE SEED: THE CARDS: each row of YtdbnmbkjmeepkaaGreatDoorRows.lean that lists a variable, with what it lists TIED to the program's text (the seventh form; the later family's looks); each row that meets fmt, with fmt's text TOLD by the authors' own Lean function (tested against real Go, not proved from fmt's source: count such statements apart). THE CARD IS WHAT COUNTS. Prove the row's statement (the work); the ties are given (YtdbnmbkjmeepkaaGreatDoorTie.lean); close each card by the builder's one call (the guide's Derived/Test/ToyasCard.lean, 'card_holds'). Laid BY PROGRAM, IN A SANDBOX (cutbox-door.mjs). By AI agents, Wed Nov 11 2026. No macro, syntax, notation, axiom, sorry.
-/
import Derived.Test.YtdbnmbkjmeepkaaGreatDoorRows
import GoSem.ClaimSeven
namespace Go.Proofs.YtdbnmbkjmeepkaaGreatDoor
namespace Rows

/-- THE TIED CARD OF 'kinescopetop.TopText'. -/
def topTextCard : Claim7 := { stood := { row := topTextRow, standIns := [], harness := (true, "05bec23129b636e63ce479075f36c6707316503859f427c7c1c69672d0fcdd43"), looks := true }, kinds := [], alts := [], laidByText := true, laidKinds := [.data, .data, .data, .data, .sentinel, .sentinel, .pinned], laidTests := true, laidLooks := .later }
def TopTextCardSaid : Prop := Claim7.holds Tryz.pinned (.plain (OpenSpec.ofChange topTextSpec)) topTextCard

/-- THE SECOND FORM's CARD OF 'kinescopetop.TopText'. -/
def topTextUptoCard : Claim7 := { stood := { row := topTextUptoRow, standIns := [], harness := (true, "05bec23129b636e63ce479075f36c6707316503859f427c7c1c69672d0fcdd43"), looks := true }, kinds := [], alts := [], laidByText := true, laidKinds := [.data, .data, .data, .data, .sentinel, .sentinel, .pinned], laidTests := true, laidLooks := .later }
def TopTextUptoCardSaid : Prop := Claim7.holds Tryz.pinned (.plain (OpenSpec.upto topTextSpec)) topTextUptoCard
end Rows
end Go.Proofs.YtdbnmbkjmeepkaaGreatDoor
