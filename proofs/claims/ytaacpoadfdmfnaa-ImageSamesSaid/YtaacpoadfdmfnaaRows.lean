/-
  No cell of these rows narrows 'for every input' (looked for: loops, veiled, ifaces, maps, wideKeys, modest, calm, conditions, laid).
  DERIVED. THE GIVEN ROWS OF THIS SEAT. 15 by the template 'for every input the law returns true; each argument reads behind the call as it read before'; 0 by the template 'total and deterministic' (their statements: YtaacpoadfdmfnaaTotals.lean).
  GIVEN WITH THE SEED: the statements are not yours to turn. If you find one false, say at which input.
  Laid BY PROGRAM, IN A SANDBOX (cutbox-rows.mjs): the forced cells as the released guide's own fill.sh prints them over the translation 75021efda05e84ef… (all of the seat's roots in one cut). By AI agents, Wed Nov 11 2026. No macro, syntax, notation, axiom, sorry.
-/
import Derived.Test.YtaacpoadfdmfnaaChecked
import GoSem.Claim
import GoSem.ClaimJoined
import GoSem.ClaimMapViews
import Derived.JoinedTies
import Derived.KernelRfl
namespace Go.Proofs.Ytaacpoadfdmfnaa
/- THE CELL 'sum', in the pinned program and in every row, IS THE sha256 OF THE DUMP (.gsa) THAT YtaacpoadfdmfnaaProg.lean LOADS. Nothing in Lean hashes anything: it is a label: what it is worth is what the hold of that sum in a sandbox is worth. -/
noncomputable def Try.pinned : Pinned := { name := "ytaacpoadfdmfnaa", sum := "75021efda05e84efef5e837652564e393b8d0bf9b5a45ffe4ee86663ccb9dfb3", checked := Try.checked }
namespace Rows
def none {H : Type} : Left H := { results := [], args := [] }

/-- 'aquatintlaw11.ImageRights': WHATEVER THE INPUT: true; the input reads as it did. -/
def imageRightsSpec : ChangeSpec := { name := "imageRights", fn := fun _ => fun
  | [d] => { results := [.lit (.bool true)], args := [d] }
  | _ => none }
def imageRightsRow : OpenClaim := { program := "ytaacpoadfdmfnaa", sum := "75021efda05e84efef5e837652564e393b8d0bf9b5a45ffe4ee86663ccb9dfb3", func := "aquatint/aquatintlaw11.ImageRights", spec := "imageRights", unfollowed := true, recurses := true, apart := false }
def ImageRightsSaid : Prop := imageRightsRow.holds Try.pinned (OpenSpec.ofChange imageRightsSpec)

/-- ITS FALSE NEIGHBOUR: 'it returns false'. Refute it at one input. -/
def imageRightsWrong : ChangeSpec := { name := "imageRights", fn := fun _ => fun
  | [d] => { results := [.lit (.bool false)], args := [d] }
  | _ => none }
def ImageRightsWrongFalsely : Prop := imageRightsRow.holds Try.pinned (OpenSpec.ofChange imageRightsWrong)

/-- 'aquatintlaw11.ImageTables': WHATEVER THE INPUT: true; the input reads as it did. -/
def imageTablesSpec : ChangeSpec := { name := "imageTables", fn := fun _ => fun
  | [d1, d2] => { results := [.lit (.bool true)], args := [d1, d2] }
  | _ => none }
def imageTablesRow : OpenClaim := { program := "ytaacpoadfdmfnaa", sum := "75021efda05e84efef5e837652564e393b8d0bf9b5a45ffe4ee86663ccb9dfb3", func := "aquatint/aquatintlaw11.ImageTables", spec := "imageTables", unfollowed := true, recurses := true, apart := false }
def ImageTablesSaid : Prop := imageTablesRow.holds Try.pinned (OpenSpec.ofChange imageTablesSpec)

/-- ITS FALSE NEIGHBOUR: 'it returns false'. Refute it at one input. -/
def imageTablesWrong : ChangeSpec := { name := "imageTables", fn := fun _ => fun
  | [d1, d2] => { results := [.lit (.bool false)], args := [d1, d2] }
  | _ => none }
def ImageTablesWrongFalsely : Prop := imageTablesRow.holds Try.pinned (OpenSpec.ofChange imageTablesWrong)

/-- 'aquatintlaw11.ImageBlanks': WHATEVER THE INPUT: true; the input reads as it did. -/
def imageBlanksSpec : ChangeSpec := { name := "imageBlanks", fn := fun _ => fun
  | [d1, d2, d3, d4] => { results := [.lit (.bool true)], args := [d1, d2, d3, d4] }
  | _ => none }
def imageBlanksRow : OpenClaim := { program := "ytaacpoadfdmfnaa", sum := "75021efda05e84efef5e837652564e393b8d0bf9b5a45ffe4ee86663ccb9dfb3", func := "aquatint/aquatintlaw11.ImageBlanks", spec := "imageBlanks", unfollowed := true, recurses := true, apart := false }
def ImageBlanksSaid : Prop := imageBlanksRow.holds Try.pinned (OpenSpec.ofChange imageBlanksSpec)

/-- ITS FALSE NEIGHBOUR: 'it returns false'. Refute it at one input. -/
def imageBlanksWrong : ChangeSpec := { name := "imageBlanks", fn := fun _ => fun
  | [d1, d2, d3, d4] => { results := [.lit (.bool false)], args := [d1, d2, d3, d4] }
  | _ => none }
def ImageBlanksWrongFalsely : Prop := imageBlanksRow.holds Try.pinned (OpenSpec.ofChange imageBlanksWrong)

/-- 'aquatintlaw11.ImageBlocks': WHATEVER THE INPUT: true; the input reads as it did. -/
def imageBlocksSpec : ChangeSpec := { name := "imageBlocks", fn := fun _ => fun
  | [d1, d2] => { results := [.lit (.bool true)], args := [d1, d2] }
  | _ => none }
def imageBlocksRow : OpenClaim := { program := "ytaacpoadfdmfnaa", sum := "75021efda05e84efef5e837652564e393b8d0bf9b5a45ffe4ee86663ccb9dfb3", func := "aquatint/aquatintlaw11.ImageBlocks", spec := "imageBlocks", unfollowed := true, recurses := true, apart := false }
def ImageBlocksSaid : Prop := imageBlocksRow.holds Try.pinned (OpenSpec.ofChange imageBlocksSpec)

/-- ITS FALSE NEIGHBOUR: 'it returns false'. Refute it at one input. -/
def imageBlocksWrong : ChangeSpec := { name := "imageBlocks", fn := fun _ => fun
  | [d1, d2] => { results := [.lit (.bool false)], args := [d1, d2] }
  | _ => none }
def ImageBlocksWrongFalsely : Prop := imageBlocksRow.holds Try.pinned (OpenSpec.ofChange imageBlocksWrong)

/-- 'aquatintlaw11.ImageSames': WHATEVER THE INPUT: true; the input reads as it did. -/
def imageSamesSpec : ChangeSpec := { name := "imageSames", fn := fun _ => fun
  | [d1, d2] => { results := [.lit (.bool true)], args := [d1, d2] }
  | _ => none }
def imageSamesRow : OpenClaim := { program := "ytaacpoadfdmfnaa", sum := "75021efda05e84efef5e837652564e393b8d0bf9b5a45ffe4ee86663ccb9dfb3", func := "aquatint/aquatintlaw11.ImageSames", spec := "imageSames", unfollowed := true, recurses := true, apart := false }
def ImageSamesSaid : Prop := imageSamesRow.holds Try.pinned (OpenSpec.ofChange imageSamesSpec)

/-- ITS FALSE NEIGHBOUR: 'it returns false'. Refute it at one input. -/
def imageSamesWrong : ChangeSpec := { name := "imageSames", fn := fun _ => fun
  | [d1, d2] => { results := [.lit (.bool false)], args := [d1, d2] }
  | _ => none }
def ImageSamesWrongFalsely : Prop := imageSamesRow.holds Try.pinned (OpenSpec.ofChange imageSamesWrong)

/-- 'aquatintlaw11.ImageCopies': WHATEVER THE INPUT: true; the input reads as it did. -/
def imageCopiesSpec : ChangeSpec := { name := "imageCopies", fn := fun _ => fun
  | [d1, d2] => { results := [.lit (.bool true)], args := [d1, d2] }
  | _ => none }
def imageCopiesRow : OpenClaim := { program := "ytaacpoadfdmfnaa", sum := "75021efda05e84efef5e837652564e393b8d0bf9b5a45ffe4ee86663ccb9dfb3", func := "aquatint/aquatintlaw11.ImageCopies", spec := "imageCopies", unfollowed := true, recurses := true, apart := false }
def ImageCopiesSaid : Prop := imageCopiesRow.holds Try.pinned (OpenSpec.ofChange imageCopiesSpec)

/-- ITS FALSE NEIGHBOUR: 'it returns false'. Refute it at one input. -/
def imageCopiesWrong : ChangeSpec := { name := "imageCopies", fn := fun _ => fun
  | [d1, d2] => { results := [.lit (.bool false)], args := [d1, d2] }
  | _ => none }
def ImageCopiesWrongFalsely : Prop := imageCopiesRow.holds Try.pinned (OpenSpec.ofChange imageCopiesWrong)

/-- 'aquatintlaw19.CutBlocks': WHATEVER THE INPUT: true; the input reads as it did. -/
def cutBlocksSpec : ChangeSpec := { name := "cutBlocks", fn := fun _ => fun
  | [d1, d2, d3] => { results := [.lit (.bool true)], args := [d1, d2, d3] }
  | _ => none }
def cutBlocksRow : OpenClaim := { program := "ytaacpoadfdmfnaa", sum := "75021efda05e84efef5e837652564e393b8d0bf9b5a45ffe4ee86663ccb9dfb3", func := "aquatint/aquatintlaw19.CutBlocks", spec := "cutBlocks", unfollowed := true, recurses := true, apart := false }
def CutBlocksSaid : Prop := cutBlocksRow.holds Try.pinned (OpenSpec.ofChange cutBlocksSpec)

/-- ITS FALSE NEIGHBOUR: 'it returns false'. Refute it at one input. -/
def cutBlocksWrong : ChangeSpec := { name := "cutBlocks", fn := fun _ => fun
  | [d1, d2, d3] => { results := [.lit (.bool false)], args := [d1, d2, d3] }
  | _ => none }
def CutBlocksWrongFalsely : Prop := cutBlocksRow.holds Try.pinned (OpenSpec.ofChange cutBlocksWrong)

/-- 'aquatintlaw19.CutPlays': WHATEVER THE INPUT: true; the input reads as it did. -/
def cutPlaysSpec : ChangeSpec := { name := "cutPlays", fn := fun _ => fun
  | [d1, d2] => { results := [.lit (.bool true)], args := [d1, d2] }
  | _ => none }
def cutPlaysRow : OpenClaim := { program := "ytaacpoadfdmfnaa", sum := "75021efda05e84efef5e837652564e393b8d0bf9b5a45ffe4ee86663ccb9dfb3", func := "aquatint/aquatintlaw19.CutPlays", spec := "cutPlays", unfollowed := true, recurses := true, apart := false }
def CutPlaysSaid : Prop := cutPlaysRow.holds Try.pinned (OpenSpec.ofChange cutPlaysSpec)

/-- ITS FALSE NEIGHBOUR: 'it returns false'. Refute it at one input. -/
def cutPlaysWrong : ChangeSpec := { name := "cutPlays", fn := fun _ => fun
  | [d1, d2] => { results := [.lit (.bool false)], args := [d1, d2] }
  | _ => none }
def CutPlaysWrongFalsely : Prop := cutPlaysRow.holds Try.pinned (OpenSpec.ofChange cutPlaysWrong)

/-- 'aquatintlaw19.CutTwice': WHATEVER THE INPUT: true; the input reads as it did. -/
def cutTwiceSpec : ChangeSpec := { name := "cutTwice", fn := fun _ => fun
  | [d1, d2, d3] => { results := [.lit (.bool true)], args := [d1, d2, d3] }
  | _ => none }
def cutTwiceRow : OpenClaim := { program := "ytaacpoadfdmfnaa", sum := "75021efda05e84efef5e837652564e393b8d0bf9b5a45ffe4ee86663ccb9dfb3", func := "aquatint/aquatintlaw19.CutTwice", spec := "cutTwice", unfollowed := true, recurses := true, apart := false }
def CutTwiceSaid : Prop := cutTwiceRow.holds Try.pinned (OpenSpec.ofChange cutTwiceSpec)

/-- ITS FALSE NEIGHBOUR: 'it returns false'. Refute it at one input. -/
def cutTwiceWrong : ChangeSpec := { name := "cutTwice", fn := fun _ => fun
  | [d1, d2, d3] => { results := [.lit (.bool false)], args := [d1, d2, d3] }
  | _ => none }
def CutTwiceWrongFalsely : Prop := cutTwiceRow.holds Try.pinned (OpenSpec.ofChange cutTwiceWrong)

/-- 'aquatintlaw19.CutRight': WHATEVER THE INPUT: true; the input reads as it did. -/
def cutRightSpec : ChangeSpec := { name := "cutRight", fn := fun _ => fun
  | [d1, d2] => { results := [.lit (.bool true)], args := [d1, d2] }
  | _ => none }
def cutRightRow : OpenClaim := { program := "ytaacpoadfdmfnaa", sum := "75021efda05e84efef5e837652564e393b8d0bf9b5a45ffe4ee86663ccb9dfb3", func := "aquatint/aquatintlaw19.CutRight", spec := "cutRight", unfollowed := true, recurses := true, apart := false }
def CutRightSaid : Prop := cutRightRow.holds Try.pinned (OpenSpec.ofChange cutRightSpec)

/-- ITS FALSE NEIGHBOUR: 'it returns false'. Refute it at one input. -/
def cutRightWrong : ChangeSpec := { name := "cutRight", fn := fun _ => fun
  | [d1, d2] => { results := [.lit (.bool false)], args := [d1, d2] }
  | _ => none }
def CutRightWrongFalsely : Prop := cutRightRow.holds Try.pinned (OpenSpec.ofChange cutRightWrong)

/-- 'aquatintlaw19.CutBlots': WHATEVER THE INPUT: true; the input reads as it did. -/
def cutBlotsSpec : ChangeSpec := { name := "cutBlots", fn := fun _ => fun
  | [d1, d2] => { results := [.lit (.bool true)], args := [d1, d2] }
  | _ => none }
def cutBlotsRow : OpenClaim := { program := "ytaacpoadfdmfnaa", sum := "75021efda05e84efef5e837652564e393b8d0bf9b5a45ffe4ee86663ccb9dfb3", func := "aquatint/aquatintlaw19.CutBlots", spec := "cutBlots", unfollowed := true, recurses := true, apart := false }
def CutBlotsSaid : Prop := cutBlotsRow.holds Try.pinned (OpenSpec.ofChange cutBlotsSpec)

/-- ITS FALSE NEIGHBOUR: 'it returns false'. Refute it at one input. -/
def cutBlotsWrong : ChangeSpec := { name := "cutBlots", fn := fun _ => fun
  | [d1, d2] => { results := [.lit (.bool false)], args := [d1, d2] }
  | _ => none }
def CutBlotsWrongFalsely : Prop := cutBlotsRow.holds Try.pinned (OpenSpec.ofChange cutBlotsWrong)

/-- 'aquatintlaw18.FlipImages': WHATEVER THE INPUT: true; the input reads as it did. -/
def flipImagesSpec : ChangeSpec := { name := "flipImages", fn := fun _ => fun
  | [d1, d2] => { results := [.lit (.bool true)], args := [d1, d2] }
  | _ => none }
def flipImagesRow : OpenClaim := { program := "ytaacpoadfdmfnaa", sum := "75021efda05e84efef5e837652564e393b8d0bf9b5a45ffe4ee86663ccb9dfb3", func := "aquatint/aquatintlaw18.FlipImages", spec := "flipImages", unfollowed := true, recurses := true, apart := false }
def FlipImagesSaid : Prop := flipImagesRow.holds Try.pinned (OpenSpec.ofChange flipImagesSpec)

/-- ITS FALSE NEIGHBOUR: 'it returns false'. Refute it at one input. -/
def flipImagesWrong : ChangeSpec := { name := "flipImages", fn := fun _ => fun
  | [d1, d2] => { results := [.lit (.bool false)], args := [d1, d2] }
  | _ => none }
def FlipImagesWrongFalsely : Prop := flipImagesRow.holds Try.pinned (OpenSpec.ofChange flipImagesWrong)

/-- 'aquatintlaw18.FlipSides': WHATEVER THE INPUT: true; the input reads as it did. -/
def flipSidesSpec : ChangeSpec := { name := "flipSides", fn := fun _ => fun
  | [d] => { results := [.lit (.bool true)], args := [d] }
  | _ => none }
def flipSidesRow : OpenClaim := { program := "ytaacpoadfdmfnaa", sum := "75021efda05e84efef5e837652564e393b8d0bf9b5a45ffe4ee86663ccb9dfb3", func := "aquatint/aquatintlaw18.FlipSides", spec := "flipSides", unfollowed := true, recurses := true, apart := false }
def FlipSidesSaid : Prop := flipSidesRow.holds Try.pinned (OpenSpec.ofChange flipSidesSpec)

/-- ITS FALSE NEIGHBOUR: 'it returns false'. Refute it at one input. -/
def flipSidesWrong : ChangeSpec := { name := "flipSides", fn := fun _ => fun
  | [d] => { results := [.lit (.bool false)], args := [d] }
  | _ => none }
def FlipSidesWrongFalsely : Prop := flipSidesRow.holds Try.pinned (OpenSpec.ofChange flipSidesWrong)

/-- 'aquatintlaw18.FlipRight': WHATEVER THE INPUT: true; the input reads as it did. -/
def flipRightSpec : ChangeSpec := { name := "flipRight", fn := fun _ => fun
  | [d1, d2] => { results := [.lit (.bool true)], args := [d1, d2] }
  | _ => none }
def flipRightRow : OpenClaim := { program := "ytaacpoadfdmfnaa", sum := "75021efda05e84efef5e837652564e393b8d0bf9b5a45ffe4ee86663ccb9dfb3", func := "aquatint/aquatintlaw18.FlipRight", spec := "flipRight", unfollowed := true, recurses := true, apart := false }
def FlipRightSaid : Prop := flipRightRow.holds Try.pinned (OpenSpec.ofChange flipRightSpec)

/-- ITS FALSE NEIGHBOUR: 'it returns false'. Refute it at one input. -/
def flipRightWrong : ChangeSpec := { name := "flipRight", fn := fun _ => fun
  | [d1, d2] => { results := [.lit (.bool false)], args := [d1, d2] }
  | _ => none }
def FlipRightWrongFalsely : Prop := flipRightRow.holds Try.pinned (OpenSpec.ofChange flipRightWrong)

/-- 'aquatintlaw18.FlipGroup': WHATEVER THE INPUT: true; the input reads as it did. -/
def flipGroupSpec : ChangeSpec := { name := "flipGroup", fn := fun _ => fun
  | [d1, d2, d3] => { results := [.lit (.bool true)], args := [d1, d2, d3] }
  | _ => none }
def flipGroupRow : OpenClaim := { program := "ytaacpoadfdmfnaa", sum := "75021efda05e84efef5e837652564e393b8d0bf9b5a45ffe4ee86663ccb9dfb3", func := "aquatint/aquatintlaw18.FlipGroup", spec := "flipGroup", unfollowed := true, recurses := true, apart := false }
def FlipGroupSaid : Prop := flipGroupRow.holds Try.pinned (OpenSpec.ofChange flipGroupSpec)

/-- ITS FALSE NEIGHBOUR: 'it returns false'. Refute it at one input. -/
def flipGroupWrong : ChangeSpec := { name := "flipGroup", fn := fun _ => fun
  | [d1, d2, d3] => { results := [.lit (.bool false)], args := [d1, d2, d3] }
  | _ => none }
def FlipGroupWrongFalsely : Prop := flipGroupRow.holds Try.pinned (OpenSpec.ofChange flipGroupWrong)

/- THE SECOND FORM. 'bulk': how many values and letters a reading holds, each counted each time it is reached (what is shared counts as often as it is met; a slice's spare places count too). A statement '..UptoSaid' is the law's where the arguments, and the package variables that the reading takes, are together of bulk at most 1048576: NARROWER than '..Said'. Prove '..Said' where nothing that the law and all that it calls make is longer than what came in: it says more and counts as full. Else prove '..UptoSaid'. A law counts once. -/
mutual
def uptoBulk {H : Type} : DataW H → Nat
  | .lit (.string bytes) => bytes.length + 1
  | .lit _ => 1
  | .nil => 1
  | .ptr d => uptoBulk d + 1
  | .slice elems spare => uptoBulkAll elems + uptoBulkAll spare + 1
  | .agg parts => uptoBulkAll parts + 1
  | .iface _ d => uptoBulk d + 1
  | .map entries => uptoBulkEntries entries + 1
  | .held _ => 1
def uptoBulkAll {H : Type} : List (DataW H) → Nat
  | [] => 0
  | d :: r => uptoBulk d + uptoBulkAll r
def uptoBulkEntries {H : Type} : List (Lit × DataW H) → Nat
  | [] => 0
  | x :: r => uptoBulkEntry x + uptoBulkEntries r
def uptoBulkEntry {H : Type} : Lit × DataW H → Nat
  | (.string bytes, d) => bytes.length + uptoBulk d + 1
  | (_, d) => uptoBulk d + 1
 end
def uptoSmall : (H : Type) → List (DataW H) → Bool := fun _ ds => decide (uptoBulkAll ds ≤ 1048576)
def OpenSpec.upto (s : _root_.Go.ChangeSpec) : _root_.Go.OpenSpec := { _root_.Go.OpenSpec.ofChange s with cond := some uptoSmall }

/-- 'aquatintlaw11.ImageRights', WHERE WHAT IT READS IS OF BULK AT MOST 1048576: true; the input reads as it did. -/
def imageRightsUptoRow : OpenClaim := { program := "ytaacpoadfdmfnaa", sum := "75021efda05e84efef5e837652564e393b8d0bf9b5a45ffe4ee86663ccb9dfb3", func := "aquatint/aquatintlaw11.ImageRights", spec := "imageRights", unfollowed := true, recurses := true, apart := false, narrowed := true }
def ImageRightsUptoSaid : Prop := imageRightsUptoRow.holds Try.pinned (OpenSpec.upto imageRightsSpec)

/-- 'aquatintlaw11.ImageTables', WHERE WHAT IT READS IS OF BULK AT MOST 1048576: true; the input reads as it did. -/
def imageTablesUptoRow : OpenClaim := { program := "ytaacpoadfdmfnaa", sum := "75021efda05e84efef5e837652564e393b8d0bf9b5a45ffe4ee86663ccb9dfb3", func := "aquatint/aquatintlaw11.ImageTables", spec := "imageTables", unfollowed := true, recurses := true, apart := false, narrowed := true }
def ImageTablesUptoSaid : Prop := imageTablesUptoRow.holds Try.pinned (OpenSpec.upto imageTablesSpec)

/-- 'aquatintlaw11.ImageBlanks', WHERE WHAT IT READS IS OF BULK AT MOST 1048576: true; the input reads as it did. -/
def imageBlanksUptoRow : OpenClaim := { program := "ytaacpoadfdmfnaa", sum := "75021efda05e84efef5e837652564e393b8d0bf9b5a45ffe4ee86663ccb9dfb3", func := "aquatint/aquatintlaw11.ImageBlanks", spec := "imageBlanks", unfollowed := true, recurses := true, apart := false, narrowed := true }
def ImageBlanksUptoSaid : Prop := imageBlanksUptoRow.holds Try.pinned (OpenSpec.upto imageBlanksSpec)

/-- 'aquatintlaw11.ImageBlocks', WHERE WHAT IT READS IS OF BULK AT MOST 1048576: true; the input reads as it did. -/
def imageBlocksUptoRow : OpenClaim := { program := "ytaacpoadfdmfnaa", sum := "75021efda05e84efef5e837652564e393b8d0bf9b5a45ffe4ee86663ccb9dfb3", func := "aquatint/aquatintlaw11.ImageBlocks", spec := "imageBlocks", unfollowed := true, recurses := true, apart := false, narrowed := true }
def ImageBlocksUptoSaid : Prop := imageBlocksUptoRow.holds Try.pinned (OpenSpec.upto imageBlocksSpec)

/-- 'aquatintlaw11.ImageSames', WHERE WHAT IT READS IS OF BULK AT MOST 1048576: true; the input reads as it did. -/
def imageSamesUptoRow : OpenClaim := { program := "ytaacpoadfdmfnaa", sum := "75021efda05e84efef5e837652564e393b8d0bf9b5a45ffe4ee86663ccb9dfb3", func := "aquatint/aquatintlaw11.ImageSames", spec := "imageSames", unfollowed := true, recurses := true, apart := false, narrowed := true }
def ImageSamesUptoSaid : Prop := imageSamesUptoRow.holds Try.pinned (OpenSpec.upto imageSamesSpec)

/-- 'aquatintlaw11.ImageCopies', WHERE WHAT IT READS IS OF BULK AT MOST 1048576: true; the input reads as it did. -/
def imageCopiesUptoRow : OpenClaim := { program := "ytaacpoadfdmfnaa", sum := "75021efda05e84efef5e837652564e393b8d0bf9b5a45ffe4ee86663ccb9dfb3", func := "aquatint/aquatintlaw11.ImageCopies", spec := "imageCopies", unfollowed := true, recurses := true, apart := false, narrowed := true }
def ImageCopiesUptoSaid : Prop := imageCopiesUptoRow.holds Try.pinned (OpenSpec.upto imageCopiesSpec)

/-- 'aquatintlaw19.CutBlocks', WHERE WHAT IT READS IS OF BULK AT MOST 1048576: true; the input reads as it did. -/
def cutBlocksUptoRow : OpenClaim := { program := "ytaacpoadfdmfnaa", sum := "75021efda05e84efef5e837652564e393b8d0bf9b5a45ffe4ee86663ccb9dfb3", func := "aquatint/aquatintlaw19.CutBlocks", spec := "cutBlocks", unfollowed := true, recurses := true, apart := false, narrowed := true }
def CutBlocksUptoSaid : Prop := cutBlocksUptoRow.holds Try.pinned (OpenSpec.upto cutBlocksSpec)

/-- 'aquatintlaw19.CutPlays', WHERE WHAT IT READS IS OF BULK AT MOST 1048576: true; the input reads as it did. -/
def cutPlaysUptoRow : OpenClaim := { program := "ytaacpoadfdmfnaa", sum := "75021efda05e84efef5e837652564e393b8d0bf9b5a45ffe4ee86663ccb9dfb3", func := "aquatint/aquatintlaw19.CutPlays", spec := "cutPlays", unfollowed := true, recurses := true, apart := false, narrowed := true }
def CutPlaysUptoSaid : Prop := cutPlaysUptoRow.holds Try.pinned (OpenSpec.upto cutPlaysSpec)

/-- 'aquatintlaw19.CutTwice', WHERE WHAT IT READS IS OF BULK AT MOST 1048576: true; the input reads as it did. -/
def cutTwiceUptoRow : OpenClaim := { program := "ytaacpoadfdmfnaa", sum := "75021efda05e84efef5e837652564e393b8d0bf9b5a45ffe4ee86663ccb9dfb3", func := "aquatint/aquatintlaw19.CutTwice", spec := "cutTwice", unfollowed := true, recurses := true, apart := false, narrowed := true }
def CutTwiceUptoSaid : Prop := cutTwiceUptoRow.holds Try.pinned (OpenSpec.upto cutTwiceSpec)

/-- 'aquatintlaw19.CutRight', WHERE WHAT IT READS IS OF BULK AT MOST 1048576: true; the input reads as it did. -/
def cutRightUptoRow : OpenClaim := { program := "ytaacpoadfdmfnaa", sum := "75021efda05e84efef5e837652564e393b8d0bf9b5a45ffe4ee86663ccb9dfb3", func := "aquatint/aquatintlaw19.CutRight", spec := "cutRight", unfollowed := true, recurses := true, apart := false, narrowed := true }
def CutRightUptoSaid : Prop := cutRightUptoRow.holds Try.pinned (OpenSpec.upto cutRightSpec)

/-- 'aquatintlaw19.CutBlots', WHERE WHAT IT READS IS OF BULK AT MOST 1048576: true; the input reads as it did. -/
def cutBlotsUptoRow : OpenClaim := { program := "ytaacpoadfdmfnaa", sum := "75021efda05e84efef5e837652564e393b8d0bf9b5a45ffe4ee86663ccb9dfb3", func := "aquatint/aquatintlaw19.CutBlots", spec := "cutBlots", unfollowed := true, recurses := true, apart := false, narrowed := true }
def CutBlotsUptoSaid : Prop := cutBlotsUptoRow.holds Try.pinned (OpenSpec.upto cutBlotsSpec)

/-- 'aquatintlaw18.FlipImages', WHERE WHAT IT READS IS OF BULK AT MOST 1048576: true; the input reads as it did. -/
def flipImagesUptoRow : OpenClaim := { program := "ytaacpoadfdmfnaa", sum := "75021efda05e84efef5e837652564e393b8d0bf9b5a45ffe4ee86663ccb9dfb3", func := "aquatint/aquatintlaw18.FlipImages", spec := "flipImages", unfollowed := true, recurses := true, apart := false, narrowed := true }
def FlipImagesUptoSaid : Prop := flipImagesUptoRow.holds Try.pinned (OpenSpec.upto flipImagesSpec)

/-- 'aquatintlaw18.FlipSides', WHERE WHAT IT READS IS OF BULK AT MOST 1048576: true; the input reads as it did. -/
def flipSidesUptoRow : OpenClaim := { program := "ytaacpoadfdmfnaa", sum := "75021efda05e84efef5e837652564e393b8d0bf9b5a45ffe4ee86663ccb9dfb3", func := "aquatint/aquatintlaw18.FlipSides", spec := "flipSides", unfollowed := true, recurses := true, apart := false, narrowed := true }
def FlipSidesUptoSaid : Prop := flipSidesUptoRow.holds Try.pinned (OpenSpec.upto flipSidesSpec)

/-- 'aquatintlaw18.FlipRight', WHERE WHAT IT READS IS OF BULK AT MOST 1048576: true; the input reads as it did. -/
def flipRightUptoRow : OpenClaim := { program := "ytaacpoadfdmfnaa", sum := "75021efda05e84efef5e837652564e393b8d0bf9b5a45ffe4ee86663ccb9dfb3", func := "aquatint/aquatintlaw18.FlipRight", spec := "flipRight", unfollowed := true, recurses := true, apart := false, narrowed := true }
def FlipRightUptoSaid : Prop := flipRightUptoRow.holds Try.pinned (OpenSpec.upto flipRightSpec)

/-- 'aquatintlaw18.FlipGroup', WHERE WHAT IT READS IS OF BULK AT MOST 1048576: true; the input reads as it did. -/
def flipGroupUptoRow : OpenClaim := { program := "ytaacpoadfdmfnaa", sum := "75021efda05e84efef5e837652564e393b8d0bf9b5a45ffe4ee86663ccb9dfb3", func := "aquatint/aquatintlaw18.FlipGroup", spec := "flipGroup", unfollowed := true, recurses := true, apart := false, narrowed := true }
def FlipGroupUptoSaid : Prop := flipGroupUptoRow.holds Try.pinned (OpenSpec.upto flipGroupSpec)

end Rows
end Go.Proofs.Ytaacpoadfdmfnaa
