/-
  DERIVED. GIVEN WITH THE SEED: THE CARDS: each row of YtfbipgidlecmkaaDoorRows.lean that lists a variable, with what it lists TIED to the program's text (the seventh form; the later family's looks); each row that meets fmt, with fmt's text TOLD by the authors' own Lean function (tested against real Go, not proved from fmt's source: count such statements apart). THE CARD IS WHAT COUNTS. Prove the row's statement (the work); the ties are given (YtfbipgidlecmkaaDoorTie.lean); close each card by the builder's one call (the guide's Derived/Test/ToyasCard.lean, 'card_holds'). Laid BY PROGRAM, IN A SANDBOX (cutbox-door.mjs). By AI agents, Wed Nov 11 2026. No macro, syntax, notation, axiom, sorry.
-/
import Derived.Test.YtfbipgidlecmkaaDoorRows
import GoSem.ClaimSeven
namespace Go.Proofs.YtfbipgidlecmkaaDoor
namespace Rows

/-- THE TIED CARD OF 'heartwoodlaw01.ShaSteps'. -/
def shaStepsCard : Claim7 := { stood := { row := shaStepsRow, standIns := [], harness := (true, "7d49bc339cb9dd6edae201e32feccfd551666d2029a401c77da867fa4e331aab"), looks := true }, kinds := [], alts := [], laidByText := true, laidKinds := [.data, .data], laidTests := true, laidLooks := .later }
def ShaStepsCardSaid : Prop := Claim7.holds Tryd.pinned (.plain (OpenSpec.ofChange shaStepsSpec)) shaStepsCard

/-- THE TIED CARD OF 'heartwoodlaw01.ShaSums'. -/
def shaSumsCard : Claim7 := { stood := { row := shaSumsRow, standIns := [], harness := (true, "7d49bc339cb9dd6edae201e32feccfd551666d2029a401c77da867fa4e331aab"), looks := true }, kinds := [], alts := [], laidByText := true, laidKinds := [.data, .data], laidTests := true, laidLooks := .later }
def ShaSumsCardSaid : Prop := Claim7.holds Tryd.pinned (.plain (OpenSpec.ofChange shaSumsSpec)) shaSumsCard

/-- THE TIED CARD OF 'heartwoodlaw01.ShaStays'. -/
def shaStaysCard : Claim7 := { stood := { row := shaStaysRow, standIns := [], harness := (true, "7d49bc339cb9dd6edae201e32feccfd551666d2029a401c77da867fa4e331aab"), looks := true }, kinds := [], alts := [], laidByText := true, laidKinds := [.data, .data], laidTests := true, laidLooks := .later }
def ShaStaysCardSaid : Prop := Claim7.holds Tryd.pinned (.plain (OpenSpec.ofChange shaStaysSpec)) shaStaysCard

/-- THE TIED CARD OF 'heartwoodlaw01.ShaGoes'. -/
def shaGoesCard : Claim7 := { stood := { row := shaGoesRow, standIns := [], harness := (true, "7d49bc339cb9dd6edae201e32feccfd551666d2029a401c77da867fa4e331aab"), looks := true }, kinds := [], alts := [], laidByText := true, laidKinds := [.data, .data], laidTests := true, laidLooks := .later }
def ShaGoesCardSaid : Prop := Claim7.holds Tryd.pinned (.plain (OpenSpec.ofChange shaGoesSpec)) shaGoesCard

/-- THE TIED CARD OF 'heartwoodlaw03.DigestOf'. -/
def digestOfCard : Claim7 := { stood := { row := digestOfRow, standIns := [], harness := (true, "7d49bc339cb9dd6edae201e32feccfd551666d2029a401c77da867fa4e331aab"), looks := true }, kinds := [], alts := [], laidByText := true, laidKinds := [.data, .data], laidTests := true, laidLooks := .later }
def DigestOfCardSaid : Prop := Claim7.holds Tryd.pinned (.plain (OpenSpec.ofChange digestOfSpec)) digestOfCard

/-- THE TIED CARD OF 'heartwoodlaw03.DigestStays'. -/
def digestStaysCard : Claim7 := { stood := { row := digestStaysRow, standIns := [], harness := (true, "7d49bc339cb9dd6edae201e32feccfd551666d2029a401c77da867fa4e331aab"), looks := true }, kinds := [], alts := [], laidByText := true, laidKinds := [.data, .data], laidTests := true, laidLooks := .later }
def DigestStaysCardSaid : Prop := Claim7.holds Tryd.pinned (.plain (OpenSpec.ofChange digestStaysSpec)) digestStaysCard

/-- THE SECOND FORM's CARD OF 'heartwoodlaw01.ShaSteps'. -/
def shaStepsUptoCard : Claim7 := { stood := { row := shaStepsUptoRow, standIns := [], harness := (true, "7d49bc339cb9dd6edae201e32feccfd551666d2029a401c77da867fa4e331aab"), looks := true }, kinds := [], alts := [], laidByText := true, laidKinds := [.data, .data], laidTests := true, laidLooks := .later }
def ShaStepsUptoCardSaid : Prop := Claim7.holds Tryd.pinned (.plain (OpenSpec.upto shaStepsSpec)) shaStepsUptoCard

/-- THE SECOND FORM's CARD OF 'heartwoodlaw01.ShaSums'. -/
def shaSumsUptoCard : Claim7 := { stood := { row := shaSumsUptoRow, standIns := [], harness := (true, "7d49bc339cb9dd6edae201e32feccfd551666d2029a401c77da867fa4e331aab"), looks := true }, kinds := [], alts := [], laidByText := true, laidKinds := [.data, .data], laidTests := true, laidLooks := .later }
def ShaSumsUptoCardSaid : Prop := Claim7.holds Tryd.pinned (.plain (OpenSpec.upto shaSumsSpec)) shaSumsUptoCard

/-- THE SECOND FORM's CARD OF 'heartwoodlaw01.ShaStays'. -/
def shaStaysUptoCard : Claim7 := { stood := { row := shaStaysUptoRow, standIns := [], harness := (true, "7d49bc339cb9dd6edae201e32feccfd551666d2029a401c77da867fa4e331aab"), looks := true }, kinds := [], alts := [], laidByText := true, laidKinds := [.data, .data], laidTests := true, laidLooks := .later }
def ShaStaysUptoCardSaid : Prop := Claim7.holds Tryd.pinned (.plain (OpenSpec.upto shaStaysSpec)) shaStaysUptoCard

/-- THE SECOND FORM's CARD OF 'heartwoodlaw01.ShaGoes'. -/
def shaGoesUptoCard : Claim7 := { stood := { row := shaGoesUptoRow, standIns := [], harness := (true, "7d49bc339cb9dd6edae201e32feccfd551666d2029a401c77da867fa4e331aab"), looks := true }, kinds := [], alts := [], laidByText := true, laidKinds := [.data, .data], laidTests := true, laidLooks := .later }
def ShaGoesUptoCardSaid : Prop := Claim7.holds Tryd.pinned (.plain (OpenSpec.upto shaGoesSpec)) shaGoesUptoCard

/-- THE SECOND FORM's CARD OF 'heartwoodlaw03.DigestOf'. -/
def digestOfUptoCard : Claim7 := { stood := { row := digestOfUptoRow, standIns := [], harness := (true, "7d49bc339cb9dd6edae201e32feccfd551666d2029a401c77da867fa4e331aab"), looks := true }, kinds := [], alts := [], laidByText := true, laidKinds := [.data, .data], laidTests := true, laidLooks := .later }
def DigestOfUptoCardSaid : Prop := Claim7.holds Tryd.pinned (.plain (OpenSpec.upto digestOfSpec)) digestOfUptoCard

/-- THE SECOND FORM's CARD OF 'heartwoodlaw03.DigestStays'. -/
def digestStaysUptoCard : Claim7 := { stood := { row := digestStaysUptoRow, standIns := [], harness := (true, "7d49bc339cb9dd6edae201e32feccfd551666d2029a401c77da867fa4e331aab"), looks := true }, kinds := [], alts := [], laidByText := true, laidKinds := [.data, .data], laidTests := true, laidLooks := .later }
def DigestStaysUptoCardSaid : Prop := Claim7.holds Tryd.pinned (.plain (OpenSpec.upto digestStaysSpec)) digestStaysUptoCard
end Rows
end Go.Proofs.YtfbipgidlecmkaaDoor
