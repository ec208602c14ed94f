/-
  NARROWER THAN 'FOR EVERY INPUT', by the rows' own cells (each row's printed sentence says how): TreeDigests: loops, laid · TreeHides: loops, laid · TreeLists: loops, laid · TreeStays: loops, laid · ChunkCuts: loops, laid · ChunkFits: loops, laid · ChunkBack: laid · ChunkRoots: loops, laid · ChunkStays: laid.
  DERIVED. THE GIVEN ROWS OF THIS SEAT. 9 by the template 'for every input the law returns true; each argument reads behind the call as it read before'; 0 by the template 'total and deterministic' (their statements: YtebiajdkgpcidaaDoorTotals.lean).
  GIVEN WITH THE SEED: the statements are not yours to turn. If you find one false, say at which input.
  Laid BY PROGRAM, IN A SANDBOX (cutbox-rows.mjs): the forced cells as the released guide's own fill.sh prints them over the translation 3f647c4a7a7bca17… (all of the seat's roots in one cut). By AI agents, Wed Nov 11 2026. No macro, syntax, notation, axiom, sorry.
-/
import Derived.Test.YtebiajdkgpcidaaDoorChecked
import GoSem.Claim
import GoSem.ClaimJoined
import GoSem.ClaimMapViews
import Derived.JoinedTies
import Derived.KernelRfl
namespace Go.Proofs.YtebiajdkgpcidaaDoor
/- THE CELL 'sum', in the pinned program and in every row, IS THE sha256 OF THE DUMP (.gsa) THAT YtebiajdkgpcidaaDoorProg.lean LOADS. Nothing in Lean hashes anything: it is a label: what it is worth is what the hold of that sum in a sandbox is worth. -/
noncomputable def Tryd.pinned : Pinned := { name := "ytebiajdkgpcidaadoor", sum := "3f647c4a7a7bca1706c0c0242a0ea40da07071b66636465c3e5bb6a308570c33", checked := Tryd.checked }
namespace Rows
def none {H : Type} : Left H := { results := [], args := [] }

/- WHAT THE LISTED PACKAGE-LEVEL VARIABLES READ AS WHEN THE CALL BEGINS. Each datum BY PROGRAM (the guide's laid-datum.mjs) off the statement by which the dump's own 'gosem.cut.vars' lays the variable. In a bare row this is a premise. The card (YtebiajdkgpcidaaDoorCards.lean) ties it to the program's text. -/
def laid_heartwood_sha_constants {H : Type} : DataW H := .agg [.lit (.int .u32 1116352408), .lit (.int .u32 1899447441), .lit (.int .u32 3049323471), .lit (.int .u32 3921009573), .lit (.int .u32 961987163), .lit (.int .u32 1508970993), .lit (.int .u32 2453635748), .lit (.int .u32 2870763221), .lit (.int .u32 3624381080), .lit (.int .u32 310598401), .lit (.int .u32 607225278), .lit (.int .u32 1426881987), .lit (.int .u32 1925078388), .lit (.int .u32 2162078206), .lit (.int .u32 2614888103), .lit (.int .u32 3248222580), .lit (.int .u32 3835390401), .lit (.int .u32 4022224774), .lit (.int .u32 264347078), .lit (.int .u32 604807628), .lit (.int .u32 770255983), .lit (.int .u32 1249150122), .lit (.int .u32 1555081692), .lit (.int .u32 1996064986), .lit (.int .u32 2554220882), .lit (.int .u32 2821834349), .lit (.int .u32 2952996808), .lit (.int .u32 3210313671), .lit (.int .u32 3336571891), .lit (.int .u32 3584528711), .lit (.int .u32 113926993), .lit (.int .u32 338241895), .lit (.int .u32 666307205), .lit (.int .u32 773529912), .lit (.int .u32 1294757372), .lit (.int .u32 1396182291), .lit (.int .u32 1695183700), .lit (.int .u32 1986661051), .lit (.int .u32 2177026350), .lit (.int .u32 2456956037), .lit (.int .u32 2730485921), .lit (.int .u32 2820302411), .lit (.int .u32 3259730800), .lit (.int .u32 3345764771), .lit (.int .u32 3516065817), .lit (.int .u32 3600352804), .lit (.int .u32 4094571909), .lit (.int .u32 275423344), .lit (.int .u32 430227734), .lit (.int .u32 506948616), .lit (.int .u32 659060556), .lit (.int .u32 883997877), .lit (.int .u32 958139571), .lit (.int .u32 1322822218), .lit (.int .u32 1537002063), .lit (.int .u32 1747873779), .lit (.int .u32 1955562222), .lit (.int .u32 2024104815), .lit (.int .u32 2227730452), .lit (.int .u32 2361852424), .lit (.int .u32 2428436474), .lit (.int .u32 2756734187), .lit (.int .u32 3204031479), .lit (.int .u32 3329325298)]
def laid_heartwood_sha_first {H : Type} : DataW H := .agg [.lit (.int .u32 1779033703), .lit (.int .u32 3144134277), .lit (.int .u32 1013904242), .lit (.int .u32 2773480762), .lit (.int .u32 1359893119), .lit (.int .u32 2600822924), .lit (.int .u32 528734635), .lit (.int .u32 1541459225)]

/-- 'heartwoodlaw04.TreeDigests': WHATEVER THE INPUT: true; the input reads as it did. -/
def treeDigestsSpec : ChangeSpec := { name := "treeDigests", fn := fun _ => fun
  | [d1, d2] => { results := [.lit (.bool true)], args := [d1, d2] }
  | _ => none }
def treeDigestsRow : OpenClaim := { program := "ytebiajdkgpcidaadoor", sum := "3f647c4a7a7bca1706c0c0242a0ea40da07071b66636465c3e5bb6a308570c33", func := "heartwood/heartwoodlaw04.TreeDigests", spec := "treeDigests", unfollowed := true, recurses := true, named := ["heartwood/sha.first", "heartwood/sha.constants"], loops := true, apart := false, laid := [("heartwood/sha.constants", laid_heartwood_sha_constants), ("heartwood/sha.first", laid_heartwood_sha_first)] }
def TreeDigestsSaid : Prop := treeDigestsRow.holds Tryd.pinned (OpenSpec.ofChange treeDigestsSpec)

/-- ITS FALSE NEIGHBOUR: 'it returns false'. Refute it at one input. -/
def treeDigestsWrong : ChangeSpec := { name := "treeDigests", fn := fun _ => fun
  | [d1, d2] => { results := [.lit (.bool false)], args := [d1, d2] }
  | _ => none }
def TreeDigestsWrongFalsely : Prop := treeDigestsRow.holds Tryd.pinned (OpenSpec.ofChange treeDigestsWrong)

/-- 'heartwoodlaw04.TreeHides': WHATEVER THE INPUT: true; the input reads as it did. -/
def treeHidesSpec : ChangeSpec := { name := "treeHides", fn := fun _ => fun
  | [d1, d2, d3, d4] => { results := [.lit (.bool true)], args := [d1, d2, d3, d4] }
  | _ => none }
def treeHidesRow : OpenClaim := { program := "ytebiajdkgpcidaadoor", sum := "3f647c4a7a7bca1706c0c0242a0ea40da07071b66636465c3e5bb6a308570c33", func := "heartwood/heartwoodlaw04.TreeHides", spec := "treeHides", unfollowed := true, recurses := true, named := ["heartwood/sha.first", "heartwood/sha.constants"], loops := true, apart := false, laid := [("heartwood/sha.constants", laid_heartwood_sha_constants), ("heartwood/sha.first", laid_heartwood_sha_first)] }
def TreeHidesSaid : Prop := treeHidesRow.holds Tryd.pinned (OpenSpec.ofChange treeHidesSpec)

/-- ITS FALSE NEIGHBOUR: 'it returns false'. Refute it at one input. -/
def treeHidesWrong : ChangeSpec := { name := "treeHides", fn := fun _ => fun
  | [d1, d2, d3, d4] => { results := [.lit (.bool false)], args := [d1, d2, d3, d4] }
  | _ => none }
def TreeHidesWrongFalsely : Prop := treeHidesRow.holds Tryd.pinned (OpenSpec.ofChange treeHidesWrong)

/-- 'heartwoodlaw04.TreeLists': WHATEVER THE INPUT: true; the input reads as it did. -/
def treeListsSpec : ChangeSpec := { name := "treeLists", fn := fun _ => fun
  | [d] => { results := [.lit (.bool true)], args := [d] }
  | _ => none }
def treeListsRow : OpenClaim := { program := "ytebiajdkgpcidaadoor", sum := "3f647c4a7a7bca1706c0c0242a0ea40da07071b66636465c3e5bb6a308570c33", func := "heartwood/heartwoodlaw04.TreeLists", spec := "treeLists", unfollowed := true, recurses := true, named := ["heartwood/sha.first", "heartwood/sha.constants"], loops := true, apart := false, laid := [("heartwood/sha.constants", laid_heartwood_sha_constants), ("heartwood/sha.first", laid_heartwood_sha_first)] }
def TreeListsSaid : Prop := treeListsRow.holds Tryd.pinned (OpenSpec.ofChange treeListsSpec)

/-- ITS FALSE NEIGHBOUR: 'it returns false'. Refute it at one input. -/
def treeListsWrong : ChangeSpec := { name := "treeLists", fn := fun _ => fun
  | [d] => { results := [.lit (.bool false)], args := [d] }
  | _ => none }
def TreeListsWrongFalsely : Prop := treeListsRow.holds Tryd.pinned (OpenSpec.ofChange treeListsWrong)

/-- 'heartwoodlaw04.TreeStays': WHATEVER THE INPUT: true; the input reads as it did. -/
def treeStaysSpec : ChangeSpec := { name := "treeStays", fn := fun _ => fun
  | [d] => { results := [.lit (.bool true)], args := [d] }
  | _ => none }
def treeStaysRow : OpenClaim := { program := "ytebiajdkgpcidaadoor", sum := "3f647c4a7a7bca1706c0c0242a0ea40da07071b66636465c3e5bb6a308570c33", func := "heartwood/heartwoodlaw04.TreeStays", spec := "treeStays", unfollowed := true, recurses := true, named := ["heartwood/sha.first", "heartwood/sha.constants"], loops := true, apart := false, laid := [("heartwood/sha.constants", laid_heartwood_sha_constants), ("heartwood/sha.first", laid_heartwood_sha_first)] }
def TreeStaysSaid : Prop := treeStaysRow.holds Tryd.pinned (OpenSpec.ofChange treeStaysSpec)

/-- ITS FALSE NEIGHBOUR: 'it returns false'. Refute it at one input. -/
def treeStaysWrong : ChangeSpec := { name := "treeStays", fn := fun _ => fun
  | [d] => { results := [.lit (.bool false)], args := [d] }
  | _ => none }
def TreeStaysWrongFalsely : Prop := treeStaysRow.holds Tryd.pinned (OpenSpec.ofChange treeStaysWrong)

/-- 'heartwoodlaw11.ChunkCuts': WHATEVER THE INPUT: true; the input reads as it did. -/
def chunkCutsSpec : ChangeSpec := { name := "chunkCuts", fn := fun _ => fun
  | [d1, d2, d3] => { results := [.lit (.bool true)], args := [d1, d2, d3] }
  | _ => none }
def chunkCutsRow : OpenClaim := { program := "ytebiajdkgpcidaadoor", sum := "3f647c4a7a7bca1706c0c0242a0ea40da07071b66636465c3e5bb6a308570c33", func := "heartwood/heartwoodlaw11.ChunkCuts", spec := "chunkCuts", unfollowed := true, recurses := true, named := ["heartwood/sha.first", "heartwood/sha.constants"], loops := true, apart := false, laid := [("heartwood/sha.constants", laid_heartwood_sha_constants), ("heartwood/sha.first", laid_heartwood_sha_first)] }
def ChunkCutsSaid : Prop := chunkCutsRow.holds Tryd.pinned (OpenSpec.ofChange chunkCutsSpec)

/-- ITS FALSE NEIGHBOUR: 'it returns false'. Refute it at one input. -/
def chunkCutsWrong : ChangeSpec := { name := "chunkCuts", fn := fun _ => fun
  | [d1, d2, d3] => { results := [.lit (.bool false)], args := [d1, d2, d3] }
  | _ => none }
def ChunkCutsWrongFalsely : Prop := chunkCutsRow.holds Tryd.pinned (OpenSpec.ofChange chunkCutsWrong)

/-- 'heartwoodlaw11.ChunkFits': WHATEVER THE INPUT: true; the input reads as it did. -/
def chunkFitsSpec : ChangeSpec := { name := "chunkFits", fn := fun _ => fun
  | [d1, d2, d3, d4] => { results := [.lit (.bool true)], args := [d1, d2, d3, d4] }
  | _ => none }
def chunkFitsRow : OpenClaim := { program := "ytebiajdkgpcidaadoor", sum := "3f647c4a7a7bca1706c0c0242a0ea40da07071b66636465c3e5bb6a308570c33", func := "heartwood/heartwoodlaw11.ChunkFits", spec := "chunkFits", unfollowed := true, recurses := true, named := ["heartwood/sha.first", "heartwood/sha.constants"], loops := true, apart := false, laid := [("heartwood/sha.constants", laid_heartwood_sha_constants), ("heartwood/sha.first", laid_heartwood_sha_first)] }
def ChunkFitsSaid : Prop := chunkFitsRow.holds Tryd.pinned (OpenSpec.ofChange chunkFitsSpec)

/-- ITS FALSE NEIGHBOUR: 'it returns false'. Refute it at one input. -/
def chunkFitsWrong : ChangeSpec := { name := "chunkFits", fn := fun _ => fun
  | [d1, d2, d3, d4] => { results := [.lit (.bool false)], args := [d1, d2, d3, d4] }
  | _ => none }
def ChunkFitsWrongFalsely : Prop := chunkFitsRow.holds Tryd.pinned (OpenSpec.ofChange chunkFitsWrong)

/-- 'heartwoodlaw11.ChunkBack': WHATEVER THE INPUT: true; the input reads as it did. -/
def chunkBackSpec : ChangeSpec := { name := "chunkBack", fn := fun _ => fun
  | [d1, d2, d3] => { results := [.lit (.bool true)], args := [d1, d2, d3] }
  | _ => none }
def chunkBackRow : OpenClaim := { program := "ytebiajdkgpcidaadoor", sum := "3f647c4a7a7bca1706c0c0242a0ea40da07071b66636465c3e5bb6a308570c33", func := "heartwood/heartwoodlaw11.ChunkBack", spec := "chunkBack", unfollowed := true, recurses := true, named := ["heartwood/sha.first", "heartwood/sha.constants"], apart := false, laid := [("heartwood/sha.constants", laid_heartwood_sha_constants), ("heartwood/sha.first", laid_heartwood_sha_first)] }
def ChunkBackSaid : Prop := chunkBackRow.holds Tryd.pinned (OpenSpec.ofChange chunkBackSpec)

/-- ITS FALSE NEIGHBOUR: 'it returns false'. Refute it at one input. -/
def chunkBackWrong : ChangeSpec := { name := "chunkBack", fn := fun _ => fun
  | [d1, d2, d3] => { results := [.lit (.bool false)], args := [d1, d2, d3] }
  | _ => none }
def ChunkBackWrongFalsely : Prop := chunkBackRow.holds Tryd.pinned (OpenSpec.ofChange chunkBackWrong)

/-- 'heartwoodlaw11.ChunkRoots': WHATEVER THE INPUT: true; the input reads as it did. -/
def chunkRootsSpec : ChangeSpec := { name := "chunkRoots", fn := fun _ => fun
  | [d1, d2, d3] => { results := [.lit (.bool true)], args := [d1, d2, d3] }
  | _ => none }
def chunkRootsRow : OpenClaim := { program := "ytebiajdkgpcidaadoor", sum := "3f647c4a7a7bca1706c0c0242a0ea40da07071b66636465c3e5bb6a308570c33", func := "heartwood/heartwoodlaw11.ChunkRoots", spec := "chunkRoots", unfollowed := true, recurses := true, named := ["heartwood/sha.first", "heartwood/sha.constants"], loops := true, apart := false, laid := [("heartwood/sha.constants", laid_heartwood_sha_constants), ("heartwood/sha.first", laid_heartwood_sha_first)] }
def ChunkRootsSaid : Prop := chunkRootsRow.holds Tryd.pinned (OpenSpec.ofChange chunkRootsSpec)

/-- ITS FALSE NEIGHBOUR: 'it returns false'. Refute it at one input. -/
def chunkRootsWrong : ChangeSpec := { name := "chunkRoots", fn := fun _ => fun
  | [d1, d2, d3] => { results := [.lit (.bool false)], args := [d1, d2, d3] }
  | _ => none }
def ChunkRootsWrongFalsely : Prop := chunkRootsRow.holds Tryd.pinned (OpenSpec.ofChange chunkRootsWrong)

/-- 'heartwoodlaw11.ChunkStays': WHATEVER THE INPUT: true; the input reads as it did. -/
def chunkStaysSpec : ChangeSpec := { name := "chunkStays", fn := fun _ => fun
  | [d1, d2] => { results := [.lit (.bool true)], args := [d1, d2] }
  | _ => none }
def chunkStaysRow : OpenClaim := { program := "ytebiajdkgpcidaadoor", sum := "3f647c4a7a7bca1706c0c0242a0ea40da07071b66636465c3e5bb6a308570c33", func := "heartwood/heartwoodlaw11.ChunkStays", spec := "chunkStays", unfollowed := true, recurses := true, named := ["heartwood/sha.first", "heartwood/sha.constants"], apart := false, laid := [("heartwood/sha.constants", laid_heartwood_sha_constants), ("heartwood/sha.first", laid_heartwood_sha_first)] }
def ChunkStaysSaid : Prop := chunkStaysRow.holds Tryd.pinned (OpenSpec.ofChange chunkStaysSpec)

/-- ITS FALSE NEIGHBOUR: 'it returns false'. Refute it at one input. -/
def chunkStaysWrong : ChangeSpec := { name := "chunkStays", fn := fun _ => fun
  | [d1, d2] => { results := [.lit (.bool false)], args := [d1, d2] }
  | _ => none }
def ChunkStaysWrongFalsely : Prop := chunkStaysRow.holds Tryd.pinned (OpenSpec.ofChange chunkStaysWrong)

/- THE SECOND FORM. 'bulk': how many values and letters a reading holds, each counted each time it is reached (what is shared counts as often as it is met; a slice's spare places count too). A statement '..UptoSaid' is the law's where the arguments, and the package variables that the reading takes, are together of bulk at most 1048576: NARROWER than '..Said'. Prove '..Said' where nothing that the law and all that it calls make is longer than what came in: it says more and counts as full. Else prove '..UptoSaid'. A law counts once. -/
mutual
def uptoBulk {H : Type} : DataW H → Nat
  | .lit (.string bytes) => bytes.length + 1
  | .lit _ => 1
  | .nil => 1
  | .ptr d => uptoBulk d + 1
  | .slice elems spare => uptoBulkAll elems + uptoBulkAll spare + 1
  | .agg parts => uptoBulkAll parts + 1
  | .iface _ d => uptoBulk d + 1
  | .map entries => uptoBulkEntries entries + 1
  | .held _ => 1
def uptoBulkAll {H : Type} : List (DataW H) → Nat
  | [] => 0
  | d :: r => uptoBulk d + uptoBulkAll r
def uptoBulkEntries {H : Type} : List (Lit × DataW H) → Nat
  | [] => 0
  | x :: r => uptoBulkEntry x + uptoBulkEntries r
def uptoBulkEntry {H : Type} : Lit × DataW H → Nat
  | (.string bytes, d) => bytes.length + uptoBulk d + 1
  | (_, d) => uptoBulk d + 1
 end
def uptoSmall : (H : Type) → List (DataW H) → Bool := fun _ ds => decide (uptoBulkAll ds ≤ 1048576)
def OpenSpec.upto (s : _root_.Go.ChangeSpec) : _root_.Go.OpenSpec := { _root_.Go.OpenSpec.ofChange s with cond := some uptoSmall }

/-- 'heartwoodlaw04.TreeDigests', WHERE WHAT IT READS IS OF BULK AT MOST 1048576: true; the input reads as it did. -/
def treeDigestsUptoRow : OpenClaim := { program := "ytebiajdkgpcidaadoor", sum := "3f647c4a7a7bca1706c0c0242a0ea40da07071b66636465c3e5bb6a308570c33", func := "heartwood/heartwoodlaw04.TreeDigests", spec := "treeDigests", unfollowed := true, recurses := true, named := ["heartwood/sha.first", "heartwood/sha.constants"], loops := true, apart := false, laid := [("heartwood/sha.constants", laid_heartwood_sha_constants), ("heartwood/sha.first", laid_heartwood_sha_first)], narrowed := true }
def TreeDigestsUptoSaid : Prop := treeDigestsUptoRow.holds Tryd.pinned (OpenSpec.upto treeDigestsSpec)

/-- 'heartwoodlaw04.TreeHides', WHERE WHAT IT READS IS OF BULK AT MOST 1048576: true; the input reads as it did. -/
def treeHidesUptoRow : OpenClaim := { program := "ytebiajdkgpcidaadoor", sum := "3f647c4a7a7bca1706c0c0242a0ea40da07071b66636465c3e5bb6a308570c33", func := "heartwood/heartwoodlaw04.TreeHides", spec := "treeHides", unfollowed := true, recurses := true, named := ["heartwood/sha.first", "heartwood/sha.constants"], loops := true, apart := false, laid := [("heartwood/sha.constants", laid_heartwood_sha_constants), ("heartwood/sha.first", laid_heartwood_sha_first)], narrowed := true }
def TreeHidesUptoSaid : Prop := treeHidesUptoRow.holds Tryd.pinned (OpenSpec.upto treeHidesSpec)

/-- 'heartwoodlaw04.TreeLists', WHERE WHAT IT READS IS OF BULK AT MOST 1048576: true; the input reads as it did. -/
def treeListsUptoRow : OpenClaim := { program := "ytebiajdkgpcidaadoor", sum := "3f647c4a7a7bca1706c0c0242a0ea40da07071b66636465c3e5bb6a308570c33", func := "heartwood/heartwoodlaw04.TreeLists", spec := "treeLists", unfollowed := true, recurses := true, named := ["heartwood/sha.first", "heartwood/sha.constants"], loops := true, apart := false, laid := [("heartwood/sha.constants", laid_heartwood_sha_constants), ("heartwood/sha.first", laid_heartwood_sha_first)], narrowed := true }
def TreeListsUptoSaid : Prop := treeListsUptoRow.holds Tryd.pinned (OpenSpec.upto treeListsSpec)

/-- 'heartwoodlaw04.TreeStays', WHERE WHAT IT READS IS OF BULK AT MOST 1048576: true; the input reads as it did. -/
def treeStaysUptoRow : OpenClaim := { program := "ytebiajdkgpcidaadoor", sum := "3f647c4a7a7bca1706c0c0242a0ea40da07071b66636465c3e5bb6a308570c33", func := "heartwood/heartwoodlaw04.TreeStays", spec := "treeStays", unfollowed := true, recurses := true, named := ["heartwood/sha.first", "heartwood/sha.constants"], loops := true, apart := false, laid := [("heartwood/sha.constants", laid_heartwood_sha_constants), ("heartwood/sha.first", laid_heartwood_sha_first)], narrowed := true }
def TreeStaysUptoSaid : Prop := treeStaysUptoRow.holds Tryd.pinned (OpenSpec.upto treeStaysSpec)

/-- 'heartwoodlaw11.ChunkCuts', WHERE WHAT IT READS IS OF BULK AT MOST 1048576: true; the input reads as it did. -/
def chunkCutsUptoRow : OpenClaim := { program := "ytebiajdkgpcidaadoor", sum := "3f647c4a7a7bca1706c0c0242a0ea40da07071b66636465c3e5bb6a308570c33", func := "heartwood/heartwoodlaw11.ChunkCuts", spec := "chunkCuts", unfollowed := true, recurses := true, named := ["heartwood/sha.first", "heartwood/sha.constants"], loops := true, apart := false, laid := [("heartwood/sha.constants", laid_heartwood_sha_constants), ("heartwood/sha.first", laid_heartwood_sha_first)], narrowed := true }
def ChunkCutsUptoSaid : Prop := chunkCutsUptoRow.holds Tryd.pinned (OpenSpec.upto chunkCutsSpec)

/-- 'heartwoodlaw11.ChunkFits', WHERE WHAT IT READS IS OF BULK AT MOST 1048576: true; the input reads as it did. -/
def chunkFitsUptoRow : OpenClaim := { program := "ytebiajdkgpcidaadoor", sum := "3f647c4a7a7bca1706c0c0242a0ea40da07071b66636465c3e5bb6a308570c33", func := "heartwood/heartwoodlaw11.ChunkFits", spec := "chunkFits", unfollowed := true, recurses := true, named := ["heartwood/sha.first", "heartwood/sha.constants"], loops := true, apart := false, laid := [("heartwood/sha.constants", laid_heartwood_sha_constants), ("heartwood/sha.first", laid_heartwood_sha_first)], narrowed := true }
def ChunkFitsUptoSaid : Prop := chunkFitsUptoRow.holds Tryd.pinned (OpenSpec.upto chunkFitsSpec)

/-- 'heartwoodlaw11.ChunkBack', WHERE WHAT IT READS IS OF BULK AT MOST 1048576: true; the input reads as it did. -/
def chunkBackUptoRow : OpenClaim := { program := "ytebiajdkgpcidaadoor", sum := "3f647c4a7a7bca1706c0c0242a0ea40da07071b66636465c3e5bb6a308570c33", func := "heartwood/heartwoodlaw11.ChunkBack", spec := "chunkBack", unfollowed := true, recurses := true, named := ["heartwood/sha.first", "heartwood/sha.constants"], apart := false, laid := [("heartwood/sha.constants", laid_heartwood_sha_constants), ("heartwood/sha.first", laid_heartwood_sha_first)], narrowed := true }
def ChunkBackUptoSaid : Prop := chunkBackUptoRow.holds Tryd.pinned (OpenSpec.upto chunkBackSpec)

/-- 'heartwoodlaw11.ChunkRoots', WHERE WHAT IT READS IS OF BULK AT MOST 1048576: true; the input reads as it did. -/
def chunkRootsUptoRow : OpenClaim := { program := "ytebiajdkgpcidaadoor", sum := "3f647c4a7a7bca1706c0c0242a0ea40da07071b66636465c3e5bb6a308570c33", func := "heartwood/heartwoodlaw11.ChunkRoots", spec := "chunkRoots", unfollowed := true, recurses := true, named := ["heartwood/sha.first", "heartwood/sha.constants"], loops := true, apart := false, laid := [("heartwood/sha.constants", laid_heartwood_sha_constants), ("heartwood/sha.first", laid_heartwood_sha_first)], narrowed := true }
def ChunkRootsUptoSaid : Prop := chunkRootsUptoRow.holds Tryd.pinned (OpenSpec.upto chunkRootsSpec)

/-- 'heartwoodlaw11.ChunkStays', WHERE WHAT IT READS IS OF BULK AT MOST 1048576: true; the input reads as it did. -/
def chunkStaysUptoRow : OpenClaim := { program := "ytebiajdkgpcidaadoor", sum := "3f647c4a7a7bca1706c0c0242a0ea40da07071b66636465c3e5bb6a308570c33", func := "heartwood/heartwoodlaw11.ChunkStays", spec := "chunkStays", unfollowed := true, recurses := true, named := ["heartwood/sha.first", "heartwood/sha.constants"], apart := false, laid := [("heartwood/sha.constants", laid_heartwood_sha_constants), ("heartwood/sha.first", laid_heartwood_sha_first)], narrowed := true }
def ChunkStaysUptoSaid : Prop := chunkStaysUptoRow.holds Tryd.pinned (OpenSpec.upto chunkStaysSpec)

end Rows
end Go.Proofs.YtebiajdkgpcidaaDoor
