/-
  DERIVED. GIVEN WITH THE SEED: THE CARDS: each row of YthajgdmcjfmjoaaGreatDoorRows.lean that lists a variable, with what it lists TIED to the program's text (the seventh form; the later family's looks); each row that meets fmt, with fmt's text TOLD by the authors' own Lean function (tested against real Go, not proved from fmt's source: count such statements apart). THE CARD IS WHAT COUNTS. Prove the row's statement (the work); the ties are given (YthajgdmcjfmjoaaGreatDoorTie.lean); close each card by the builder's one call (the guide's Derived/Test/ToyasCard.lean, 'card_holds'). Laid BY PROGRAM, IN A SANDBOX (cutbox-door.mjs). By AI agents, Wed Nov 11 2026. No macro, syntax, notation, axiom, sorry.
-/
import Derived.Test.YthajgdmcjfmjoaaGreatDoorRows
import GoSem.ClaimSeven
namespace Go.Proofs.YthajgdmcjfmjoaaGreatDoor
namespace Rows

/-- THE TIED CARD OF 'scrimtop.TopSpoilt'. -/
def topSpoiltCard : Claim7 := { stood := { row := topSpoiltRow, standIns := [], harness := (true, "e20cb66bcc8fdbadd60beb97b8c6186d3cbe1a6f3cfe8acbcf6900bffc243ac4"), looks := true }, kinds := [], alts := [], laidByText := true, laidKinds := [.data], laidTests := true, laidLooks := .later }
def TopSpoiltCardSaid : Prop := Claim7.holds Tryz.pinned (.plain (OpenSpec.ofChange topSpoiltSpec)) topSpoiltCard

/-- THE SECOND FORM's CARD OF 'scrimtop.TopSpoilt'. -/
def topSpoiltUptoCard : Claim7 := { stood := { row := topSpoiltUptoRow, standIns := [], harness := (true, "e20cb66bcc8fdbadd60beb97b8c6186d3cbe1a6f3cfe8acbcf6900bffc243ac4"), looks := true }, kinds := [], alts := [], laidByText := true, laidKinds := [.data], laidTests := true, laidLooks := .later }
def TopSpoiltUptoCardSaid : Prop := Claim7.holds Tryz.pinned (.plain (OpenSpec.upto topSpoiltSpec)) topSpoiltUptoCard
end Rows
end Go.Proofs.YthajgdmcjfmjoaaGreatDoor
