/-
  DERIVED. GIVEN WITH THE SEED: THE CARDS: each row of YtebiajdkgpcidaaDoorRows.lean that lists a variable, with what it lists TIED to the program's text (the seventh form; the later family's looks); each row that meets fmt, with fmt's text TOLD by the authors' own Lean function (tested against real Go, not proved from fmt's source: count such statements apart). THE CARD IS WHAT COUNTS. Prove the row's statement (the work); the ties are given (YtebiajdkgpcidaaDoorTie.lean); close each card by the builder's one call (the guide's Derived/Test/ToyasCard.lean, 'card_holds'). Laid BY PROGRAM, IN A SANDBOX (cutbox-door.mjs). By AI agents, Wed Nov 11 2026. No macro, syntax, notation, axiom, sorry.
-/
import Derived.Test.YtebiajdkgpcidaaDoorRows
import GoSem.ClaimSeven
namespace Go.Proofs.YtebiajdkgpcidaaDoor
namespace Rows

/-- THE TIED CARD OF 'heartwoodlaw04.TreeDigests'. -/
def treeDigestsCard : Claim7 := { stood := { row := treeDigestsRow, standIns := [], harness := (true, "32de37f327d4d98f3712253c775b4a9c80256822fb0bb4d8f941928ef3d0d0e1"), looks := true }, kinds := [], alts := [], laidByText := true, laidKinds := [.data, .data], laidTests := true, laidLooks := .later }
def TreeDigestsCardSaid : Prop := Claim7.holds Tryd.pinned (.plain (OpenSpec.ofChange treeDigestsSpec)) treeDigestsCard

/-- THE TIED CARD OF 'heartwoodlaw04.TreeHides'. -/
def treeHidesCard : Claim7 := { stood := { row := treeHidesRow, standIns := [], harness := (true, "32de37f327d4d98f3712253c775b4a9c80256822fb0bb4d8f941928ef3d0d0e1"), looks := true }, kinds := [], alts := [], laidByText := true, laidKinds := [.data, .data], laidTests := true, laidLooks := .later }
def TreeHidesCardSaid : Prop := Claim7.holds Tryd.pinned (.plain (OpenSpec.ofChange treeHidesSpec)) treeHidesCard

/-- THE TIED CARD OF 'heartwoodlaw04.TreeLists'. -/
def treeListsCard : Claim7 := { stood := { row := treeListsRow, standIns := [], harness := (true, "32de37f327d4d98f3712253c775b4a9c80256822fb0bb4d8f941928ef3d0d0e1"), looks := true }, kinds := [], alts := [], laidByText := true, laidKinds := [.data, .data], laidTests := true, laidLooks := .later }
def TreeListsCardSaid : Prop := Claim7.holds Tryd.pinned (.plain (OpenSpec.ofChange treeListsSpec)) treeListsCard

/-- THE TIED CARD OF 'heartwoodlaw04.TreeStays'. -/
def treeStaysCard : Claim7 := { stood := { row := treeStaysRow, standIns := [], harness := (true, "32de37f327d4d98f3712253c775b4a9c80256822fb0bb4d8f941928ef3d0d0e1"), looks := true }, kinds := [], alts := [], laidByText := true, laidKinds := [.data, .data], laidTests := true, laidLooks := .later }
def TreeStaysCardSaid : Prop := Claim7.holds Tryd.pinned (.plain (OpenSpec.ofChange treeStaysSpec)) treeStaysCard

/-- THE TIED CARD OF 'heartwoodlaw11.ChunkCuts'. -/
def chunkCutsCard : Claim7 := { stood := { row := chunkCutsRow, standIns := [], harness := (true, "32de37f327d4d98f3712253c775b4a9c80256822fb0bb4d8f941928ef3d0d0e1"), looks := true }, kinds := [], alts := [], laidByText := true, laidKinds := [.data, .data], laidTests := true, laidLooks := .later }
def ChunkCutsCardSaid : Prop := Claim7.holds Tryd.pinned (.plain (OpenSpec.ofChange chunkCutsSpec)) chunkCutsCard

/-- THE TIED CARD OF 'heartwoodlaw11.ChunkFits'. -/
def chunkFitsCard : Claim7 := { stood := { row := chunkFitsRow, standIns := [], harness := (true, "32de37f327d4d98f3712253c775b4a9c80256822fb0bb4d8f941928ef3d0d0e1"), looks := true }, kinds := [], alts := [], laidByText := true, laidKinds := [.data, .data], laidTests := true, laidLooks := .later }
def ChunkFitsCardSaid : Prop := Claim7.holds Tryd.pinned (.plain (OpenSpec.ofChange chunkFitsSpec)) chunkFitsCard

/-- THE TIED CARD OF 'heartwoodlaw11.ChunkBack'. -/
def chunkBackCard : Claim7 := { stood := { row := chunkBackRow, standIns := [], harness := (true, "32de37f327d4d98f3712253c775b4a9c80256822fb0bb4d8f941928ef3d0d0e1"), looks := true }, kinds := [], alts := [], laidByText := true, laidKinds := [.data, .data], laidTests := true, laidLooks := .later }
def ChunkBackCardSaid : Prop := Claim7.holds Tryd.pinned (.plain (OpenSpec.ofChange chunkBackSpec)) chunkBackCard

/-- THE TIED CARD OF 'heartwoodlaw11.ChunkRoots'. -/
def chunkRootsCard : Claim7 := { stood := { row := chunkRootsRow, standIns := [], harness := (true, "32de37f327d4d98f3712253c775b4a9c80256822fb0bb4d8f941928ef3d0d0e1"), looks := true }, kinds := [], alts := [], laidByText := true, laidKinds := [.data, .data], laidTests := true, laidLooks := .later }
def ChunkRootsCardSaid : Prop := Claim7.holds Tryd.pinned (.plain (OpenSpec.ofChange chunkRootsSpec)) chunkRootsCard

/-- THE TIED CARD OF 'heartwoodlaw11.ChunkStays'. -/
def chunkStaysCard : Claim7 := { stood := { row := chunkStaysRow, standIns := [], harness := (true, "32de37f327d4d98f3712253c775b4a9c80256822fb0bb4d8f941928ef3d0d0e1"), looks := true }, kinds := [], alts := [], laidByText := true, laidKinds := [.data, .data], laidTests := true, laidLooks := .later }
def ChunkStaysCardSaid : Prop := Claim7.holds Tryd.pinned (.plain (OpenSpec.ofChange chunkStaysSpec)) chunkStaysCard

/-- THE SECOND FORM's CARD OF 'heartwoodlaw04.TreeDigests'. -/
def treeDigestsUptoCard : Claim7 := { stood := { row := treeDigestsUptoRow, standIns := [], harness := (true, "32de37f327d4d98f3712253c775b4a9c80256822fb0bb4d8f941928ef3d0d0e1"), looks := true }, kinds := [], alts := [], laidByText := true, laidKinds := [.data, .data], laidTests := true, laidLooks := .later }
def TreeDigestsUptoCardSaid : Prop := Claim7.holds Tryd.pinned (.plain (OpenSpec.upto treeDigestsSpec)) treeDigestsUptoCard

/-- THE SECOND FORM's CARD OF 'heartwoodlaw04.TreeHides'. -/
def treeHidesUptoCard : Claim7 := { stood := { row := treeHidesUptoRow, standIns := [], harness := (true, "32de37f327d4d98f3712253c775b4a9c80256822fb0bb4d8f941928ef3d0d0e1"), looks := true }, kinds := [], alts := [], laidByText := true, laidKinds := [.data, .data], laidTests := true, laidLooks := .later }
def TreeHidesUptoCardSaid : Prop := Claim7.holds Tryd.pinned (.plain (OpenSpec.upto treeHidesSpec)) treeHidesUptoCard

/-- THE SECOND FORM's CARD OF 'heartwoodlaw04.TreeLists'. -/
def treeListsUptoCard : Claim7 := { stood := { row := treeListsUptoRow, standIns := [], harness := (true, "32de37f327d4d98f3712253c775b4a9c80256822fb0bb4d8f941928ef3d0d0e1"), looks := true }, kinds := [], alts := [], laidByText := true, laidKinds := [.data, .data], laidTests := true, laidLooks := .later }
def TreeListsUptoCardSaid : Prop := Claim7.holds Tryd.pinned (.plain (OpenSpec.upto treeListsSpec)) treeListsUptoCard

/-- THE SECOND FORM's CARD OF 'heartwoodlaw04.TreeStays'. -/
def treeStaysUptoCard : Claim7 := { stood := { row := treeStaysUptoRow, standIns := [], harness := (true, "32de37f327d4d98f3712253c775b4a9c80256822fb0bb4d8f941928ef3d0d0e1"), looks := true }, kinds := [], alts := [], laidByText := true, laidKinds := [.data, .data], laidTests := true, laidLooks := .later }
def TreeStaysUptoCardSaid : Prop := Claim7.holds Tryd.pinned (.plain (OpenSpec.upto treeStaysSpec)) treeStaysUptoCard

/-- THE SECOND FORM's CARD OF 'heartwoodlaw11.ChunkCuts'. -/
def chunkCutsUptoCard : Claim7 := { stood := { row := chunkCutsUptoRow, standIns := [], harness := (true, "32de37f327d4d98f3712253c775b4a9c80256822fb0bb4d8f941928ef3d0d0e1"), looks := true }, kinds := [], alts := [], laidByText := true, laidKinds := [.data, .data], laidTests := true, laidLooks := .later }
def ChunkCutsUptoCardSaid : Prop := Claim7.holds Tryd.pinned (.plain (OpenSpec.upto chunkCutsSpec)) chunkCutsUptoCard

/-- THE SECOND FORM's CARD OF 'heartwoodlaw11.ChunkFits'. -/
def chunkFitsUptoCard : Claim7 := { stood := { row := chunkFitsUptoRow, standIns := [], harness := (true, "32de37f327d4d98f3712253c775b4a9c80256822fb0bb4d8f941928ef3d0d0e1"), looks := true }, kinds := [], alts := [], laidByText := true, laidKinds := [.data, .data], laidTests := true, laidLooks := .later }
def ChunkFitsUptoCardSaid : Prop := Claim7.holds Tryd.pinned (.plain (OpenSpec.upto chunkFitsSpec)) chunkFitsUptoCard

/-- THE SECOND FORM's CARD OF 'heartwoodlaw11.ChunkBack'. -/
def chunkBackUptoCard : Claim7 := { stood := { row := chunkBackUptoRow, standIns := [], harness := (true, "32de37f327d4d98f3712253c775b4a9c80256822fb0bb4d8f941928ef3d0d0e1"), looks := true }, kinds := [], alts := [], laidByText := true, laidKinds := [.data, .data], laidTests := true, laidLooks := .later }
def ChunkBackUptoCardSaid : Prop := Claim7.holds Tryd.pinned (.plain (OpenSpec.upto chunkBackSpec)) chunkBackUptoCard

/-- THE SECOND FORM's CARD OF 'heartwoodlaw11.ChunkRoots'. -/
def chunkRootsUptoCard : Claim7 := { stood := { row := chunkRootsUptoRow, standIns := [], harness := (true, "32de37f327d4d98f3712253c775b4a9c80256822fb0bb4d8f941928ef3d0d0e1"), looks := true }, kinds := [], alts := [], laidByText := true, laidKinds := [.data, .data], laidTests := true, laidLooks := .later }
def ChunkRootsUptoCardSaid : Prop := Claim7.holds Tryd.pinned (.plain (OpenSpec.upto chunkRootsSpec)) chunkRootsUptoCard

/-- THE SECOND FORM's CARD OF 'heartwoodlaw11.ChunkStays'. -/
def chunkStaysUptoCard : Claim7 := { stood := { row := chunkStaysUptoRow, standIns := [], harness := (true, "32de37f327d4d98f3712253c775b4a9c80256822fb0bb4d8f941928ef3d0d0e1"), looks := true }, kinds := [], alts := [], laidByText := true, laidKinds := [.data, .data], laidTests := true, laidLooks := .later }
def ChunkStaysUptoCardSaid : Prop := Claim7.holds Tryd.pinned (.plain (OpenSpec.upto chunkStaysSpec)) chunkStaysUptoCard
end Rows
end Go.Proofs.YtebiajdkgpcidaaDoor
