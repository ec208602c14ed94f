/-
  DERIVED. GIVEN WITH THE SEED: THE CARDS: each row of YtdngljdbgepaiaaGreatDoorRows.lean that lists a variable, with what it lists TIED to the program's text (the seventh form; the later family's looks); each row that meets fmt, with fmt's text TOLD by the authors' own Lean function (tested against real Go, not proved from fmt's source: count such statements apart). THE CARD IS WHAT COUNTS. Prove the row's statement (the work); the ties are given (YtdngljdbgepaiaaGreatDoorTie.lean); close each card by the builder's one call (the guide's Derived/Test/ToyasCard.lean, 'card_holds'). Laid BY PROGRAM, IN A SANDBOX (cutbox-door.mjs). By AI agents, Wed Nov 11 2026. No macro, syntax, notation, axiom, sorry.
-/
import Derived.Test.YtdngljdbgepaiaaGreatDoorRows
import GoSem.ClaimSeven
namespace Go.Proofs.YtdngljdbgepaiaaGreatDoor
namespace Rows

/-- THE TIED CARD OF 'heartwoodlaw11.ChunkJoins'. -/
def chunkJoinsCard : Claim7 := { stood := { row := chunkJoinsRow, standIns := [], harness := (true, "eefa818c4adc4c6b0a11af2eac420726ef5b3e3d45aac4eeeca1977351898dfe"), looks := true }, kinds := [], alts := [], laidByText := true, laidKinds := [.handle, .data, .data], laidTests := true, laidLooks := .later }
def ChunkJoinsCardSaid : Prop := Claim7.holds Tryz.pinned (.plain (OpenSpec.ofChange chunkJoinsSpec)) chunkJoinsCard

/-- THE SECOND FORM's CARD OF 'heartwoodlaw11.ChunkJoins'. -/
def chunkJoinsUptoCard : Claim7 := { stood := { row := chunkJoinsUptoRow, standIns := [], harness := (true, "eefa818c4adc4c6b0a11af2eac420726ef5b3e3d45aac4eeeca1977351898dfe"), looks := true }, kinds := [], alts := [], laidByText := true, laidKinds := [.handle, .data, .data], laidTests := true, laidLooks := .later }
def ChunkJoinsUptoCardSaid : Prop := Claim7.holds Tryz.pinned (.plain (OpenSpec.upto chunkJoinsSpec)) chunkJoinsUptoCard
end Rows
end Go.Proofs.YtdngljdbgepaiaaGreatDoor
