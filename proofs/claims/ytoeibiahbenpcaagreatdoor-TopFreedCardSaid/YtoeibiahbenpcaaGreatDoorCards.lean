/-
  DERIVED. GIVEN WITH THE SEED: THE CARDS: each row of YtoeibiahbenpcaaGreatDoorRows.lean that lists a variable, with what it lists TIED to the program's text (the seventh form; the later family's looks); each row that meets fmt, with fmt's text TOLD by the authors' own Lean function (tested against real Go, not proved from fmt's source: count such statements apart). THE CARD IS WHAT COUNTS. Prove the row's statement (the work); the ties are given (YtoeibiahbenpcaaGreatDoorTie.lean); close each card by the builder's one call (the guide's Derived/Test/ToyasCard.lean, 'card_holds'). Laid BY PROGRAM, IN A SANDBOX (cutbox-door.mjs). By AI agents, Wed Nov 11 2026. No macro, syntax, notation, axiom, sorry.
-/
import Derived.Test.YtoeibiahbenpcaaGreatDoorRows
import GoSem.ClaimSeven
namespace Go.Proofs.YtoeibiahbenpcaaGreatDoor
namespace Rows

/-- THE TIED CARD OF 'webstertop.TopFreed'. -/
def topFreedCard : Claim7 := { stood := { row := topFreedRow, standIns := [], harness := (true, "de45c30ff22386c0d3c0d1660814ea2bc8953379b82f310d6e34acde15e8c679"), looks := false }, kinds := [], alts := [], laidByText := true, laidKinds := [.data, .data], laidTests := true, laidLooks := .later }
def TopFreedCardSaid : Prop := Claim7.holds Tryz.pinned (.plain (OpenSpec.ofChange topFreedSpec)) topFreedCard

/-- THE SECOND FORM's CARD OF 'webstertop.TopFreed'. -/
def topFreedUptoCard : Claim7 := { stood := { row := topFreedUptoRow, standIns := [], harness := (true, "de45c30ff22386c0d3c0d1660814ea2bc8953379b82f310d6e34acde15e8c679"), looks := false }, kinds := [], alts := [], laidByText := true, laidKinds := [.data, .data], laidTests := true, laidLooks := .later }
def TopFreedUptoCardSaid : Prop := Claim7.holds Tryz.pinned (.plain (OpenSpec.upto topFreedSpec)) topFreedUptoCard
end Rows
end Go.Proofs.YtoeibiahbenpcaaGreatDoor
