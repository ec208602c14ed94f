/-
  DERIVED. GIVEN WITH THE SEED: THE CARDS: each row of YthaegfemlhibfaaDoorRows.lean that lists a variable, with what it lists TIED to the program's text (the seventh form; the later family's looks); each row that meets fmt, with fmt's text TOLD by the authors' own Lean function (tested against real Go, not proved from fmt's source: count such statements apart). THE CARD IS WHAT COUNTS. Prove the row's statement (the work); the ties are given (YthaegfemlhibfaaDoorTie.lean); close each card by the builder's one call (the guide's Derived/Test/ToyasCard.lean, 'card_holds'). Laid BY PROGRAM, IN A SANDBOX (cutbox-door.mjs). By AI agents, Wed Nov 11 2026. No macro, syntax, notation, axiom, sorry.
-/
import Derived.Test.YthaegfemlhibfaaDoorRows
import GoSem.ClaimSeven
namespace Go.Proofs.YthaegfemlhibfaaDoor
namespace Rows

/-- THE TIED CARD OF 'heartwoodlaw01.ShaStays'. -/
def shaStaysCard : Claim7 := { stood := { row := shaStaysRow, standIns := [], harness := (true, "a32e509f21e58a8d8c5c28a4126e7050854f7f7ad7a8415662260d7c1115e02a"), looks := false }, kinds := [], alts := [], laidByText := true, laidKinds := [.data, .data], laidTests := true, laidLooks := .later }
def ShaStaysCardSaid : Prop := Claim7.holds Tryd.pinned (.plain (OpenSpec.ofChange shaStaysSpec)) shaStaysCard

/-- THE TIED CARD OF 'heartwoodlaw03.DigestStays'. -/
def digestStaysCard : Claim7 := { stood := { row := digestStaysRow, standIns := [], harness := (true, "a32e509f21e58a8d8c5c28a4126e7050854f7f7ad7a8415662260d7c1115e02a"), looks := false }, kinds := [], alts := [], laidByText := true, laidKinds := [.data, .data], laidTests := true, laidLooks := .later }
def DigestStaysCardSaid : Prop := Claim7.holds Tryd.pinned (.plain (OpenSpec.ofChange digestStaysSpec)) digestStaysCard

/-- THE SECOND FORM's CARD OF 'heartwoodlaw01.ShaStays'. -/
def shaStaysUptoCard : Claim7 := { stood := { row := shaStaysUptoRow, standIns := [], harness := (true, "a32e509f21e58a8d8c5c28a4126e7050854f7f7ad7a8415662260d7c1115e02a"), looks := false }, kinds := [], alts := [], laidByText := true, laidKinds := [.data, .data], laidTests := true, laidLooks := .later }
def ShaStaysUptoCardSaid : Prop := Claim7.holds Tryd.pinned (.plain (OpenSpec.upto shaStaysSpec)) shaStaysUptoCard

/-- THE SECOND FORM's CARD OF 'heartwoodlaw03.DigestStays'. -/
def digestStaysUptoCard : Claim7 := { stood := { row := digestStaysUptoRow, standIns := [], harness := (true, "a32e509f21e58a8d8c5c28a4126e7050854f7f7ad7a8415662260d7c1115e02a"), looks := false }, kinds := [], alts := [], laidByText := true, laidKinds := [.data, .data], laidTests := true, laidLooks := .later }
def DigestStaysUptoCardSaid : Prop := Claim7.holds Tryd.pinned (.plain (OpenSpec.upto digestStaysSpec)) digestStaysUptoCard
end Rows
end Go.Proofs.YthaegfemlhibfaaDoor
