/-
  No cell of these rows narrows 'for every input' (looked for: loops, veiled, ifaces, maps, wideKeys, modest, calm, conditions, laid).
  DERIVED. THE GIVEN ROWS OF THIS SEAT. 12 by the template 'for every input the law returns true; each argument reads behind the call as it read before'; 0 by the template 'total and deterministic' (their statements: YtdoikehkibefpaaTotals.lean).
  GIVEN WITH THE SEED: the statements are not yours to turn. If you find one false, say at which input.
  Laid BY PROGRAM, IN A SANDBOX (cutbox-rows.mjs): the forced cells as the released guide's own fill.sh prints them over the translation 35f0b4ed10b6c156… (all of the seat's roots in one cut). By AI agents, Wed Nov 11 2026. No macro, syntax, notation, axiom, sorry.
-/
import Derived.Test.YtdoikehkibefpaaChecked
import GoSem.Claim
import GoSem.ClaimJoined
import GoSem.ClaimMapViews
import Derived.JoinedTies
import Derived.KernelRfl
namespace Go.Proofs.Ytdoikehkibefpaa
/- THE CELL 'sum', in the pinned program and in every row, IS THE sha256 OF THE DUMP (.gsa) THAT YtdoikehkibefpaaProg.lean LOADS. Nothing in Lean hashes anything: it is a label: what it is worth is what the hold of that sum in a sandbox is worth. -/
noncomputable def Try.pinned : Pinned := { name := "ytdoikehkibefpaa", sum := "35f0b4ed10b6c156139727d6042768f43e9d4e66eec875b9267f1ec151071e35", checked := Try.checked }
namespace Rows
def none {H : Type} : Left H := { results := [], args := [] }

/-- 'dailieslaw06.PlaneNames': WHATEVER THE INPUT: true; the input reads as it did. -/
def planeNamesSpec : ChangeSpec := { name := "planeNames", fn := fun _ => fun
  | [] => { results := [.lit (.bool true)], args := [] }
  | _ => none }
def planeNamesRow : OpenClaim := { program := "ytdoikehkibefpaa", sum := "35f0b4ed10b6c156139727d6042768f43e9d4e66eec875b9267f1ec151071e35", func := "dailies/dailieslaw06.PlaneNames", spec := "planeNames", apart := false }
def PlaneNamesSaid : Prop := planeNamesRow.holds Try.pinned (OpenSpec.ofChange planeNamesSpec)

/-- ITS FALSE NEIGHBOUR: 'it returns false'. Refute it at one input. -/
def planeNamesWrong : ChangeSpec := { name := "planeNames", fn := fun _ => fun
  | [] => { results := [.lit (.bool false)], args := [] }
  | _ => none }
def PlaneNamesWrongFalsely : Prop := planeNamesRow.holds Try.pinned (OpenSpec.ofChange planeNamesWrong)

/-- 'dailieslaw06.PlaneShapes': WHATEVER THE INPUT: true; the input reads as it did. -/
def planeShapesSpec : ChangeSpec := { name := "planeShapes", fn := fun _ => fun
  | [d1, d2] => { results := [.lit (.bool true)], args := [d1, d2] }
  | _ => none }
def planeShapesRow : OpenClaim := { program := "ytdoikehkibefpaa", sum := "35f0b4ed10b6c156139727d6042768f43e9d4e66eec875b9267f1ec151071e35", func := "dailies/dailieslaw06.PlaneShapes", spec := "planeShapes", unfollowed := true, recurses := true, apart := false }
def PlaneShapesSaid : Prop := planeShapesRow.holds Try.pinned (OpenSpec.ofChange planeShapesSpec)

/-- ITS FALSE NEIGHBOUR: 'it returns false'. Refute it at one input. -/
def planeShapesWrong : ChangeSpec := { name := "planeShapes", fn := fun _ => fun
  | [d1, d2] => { results := [.lit (.bool false)], args := [d1, d2] }
  | _ => none }
def PlaneShapesWrongFalsely : Prop := planeShapesRow.holds Try.pinned (OpenSpec.ofChange planeShapesWrong)

/-- 'dailieslaw06.PlaneFrames': WHATEVER THE INPUT: true; the input reads as it did. -/
def planeFramesSpec : ChangeSpec := { name := "planeFrames", fn := fun _ => fun
  | [d] => { results := [.lit (.bool true)], args := [d] }
  | _ => none }
def planeFramesRow : OpenClaim := { program := "ytdoikehkibefpaa", sum := "35f0b4ed10b6c156139727d6042768f43e9d4e66eec875b9267f1ec151071e35", func := "dailies/dailieslaw06.PlaneFrames", spec := "planeFrames", unfollowed := true, recurses := true, apart := false }
def PlaneFramesSaid : Prop := planeFramesRow.holds Try.pinned (OpenSpec.ofChange planeFramesSpec)

/-- ITS FALSE NEIGHBOUR: 'it returns false'. Refute it at one input. -/
def planeFramesWrong : ChangeSpec := { name := "planeFrames", fn := fun _ => fun
  | [d] => { results := [.lit (.bool false)], args := [d] }
  | _ => none }
def PlaneFramesWrongFalsely : Prop := planeFramesRow.holds Try.pinned (OpenSpec.ofChange planeFramesWrong)

/-- 'dailieslaw06.PlaneCrops': WHATEVER THE INPUT: true; the input reads as it did. -/
def planeCropsSpec : ChangeSpec := { name := "planeCrops", fn := fun _ => fun
  | [d1, d2, d3] => { results := [.lit (.bool true)], args := [d1, d2, d3] }
  | _ => none }
def planeCropsRow : OpenClaim := { program := "ytdoikehkibefpaa", sum := "35f0b4ed10b6c156139727d6042768f43e9d4e66eec875b9267f1ec151071e35", func := "dailies/dailieslaw06.PlaneCrops", spec := "planeCrops", unfollowed := true, recurses := true, apart := false }
def PlaneCropsSaid : Prop := planeCropsRow.holds Try.pinned (OpenSpec.ofChange planeCropsSpec)

/-- ITS FALSE NEIGHBOUR: 'it returns false'. Refute it at one input. -/
def planeCropsWrong : ChangeSpec := { name := "planeCrops", fn := fun _ => fun
  | [d1, d2, d3] => { results := [.lit (.bool false)], args := [d1, d2, d3] }
  | _ => none }
def PlaneCropsWrongFalsely : Prop := planeCropsRow.holds Try.pinned (OpenSpec.ofChange planeCropsWrong)

/-- 'dailieslaw06.PlaneHalves': WHATEVER THE INPUT: true; the input reads as it did. -/
def planeHalvesSpec : ChangeSpec := { name := "planeHalves", fn := fun _ => fun
  | [d1, d2, d3] => { results := [.lit (.bool true)], args := [d1, d2, d3] }
  | _ => none }
def planeHalvesRow : OpenClaim := { program := "ytdoikehkibefpaa", sum := "35f0b4ed10b6c156139727d6042768f43e9d4e66eec875b9267f1ec151071e35", func := "dailies/dailieslaw06.PlaneHalves", spec := "planeHalves", unfollowed := true, recurses := true, apart := false }
def PlaneHalvesSaid : Prop := planeHalvesRow.holds Try.pinned (OpenSpec.ofChange planeHalvesSpec)

/-- ITS FALSE NEIGHBOUR: 'it returns false'. Refute it at one input. -/
def planeHalvesWrong : ChangeSpec := { name := "planeHalves", fn := fun _ => fun
  | [d1, d2, d3] => { results := [.lit (.bool false)], args := [d1, d2, d3] }
  | _ => none }
def PlaneHalvesWrongFalsely : Prop := planeHalvesRow.holds Try.pinned (OpenSpec.ofChange planeHalvesWrong)

/-- 'dailieslaw06.PlaneTiled': WHATEVER THE INPUT: true; the input reads as it did. -/
def planeTiledSpec : ChangeSpec := { name := "planeTiled", fn := fun _ => fun
  | [d1, d2, d3] => { results := [.lit (.bool true)], args := [d1, d2, d3] }
  | _ => none }
def planeTiledRow : OpenClaim := { program := "ytdoikehkibefpaa", sum := "35f0b4ed10b6c156139727d6042768f43e9d4e66eec875b9267f1ec151071e35", func := "dailies/dailieslaw06.PlaneTiled", spec := "planeTiled", unfollowed := true, recurses := true, apart := false }
def PlaneTiledSaid : Prop := planeTiledRow.holds Try.pinned (OpenSpec.ofChange planeTiledSpec)

/-- ITS FALSE NEIGHBOUR: 'it returns false'. Refute it at one input. -/
def planeTiledWrong : ChangeSpec := { name := "planeTiled", fn := fun _ => fun
  | [d1, d2, d3] => { results := [.lit (.bool false)], args := [d1, d2, d3] }
  | _ => none }
def PlaneTiledWrongFalsely : Prop := planeTiledRow.holds Try.pinned (OpenSpec.ofChange planeTiledWrong)

/-- 'dailieslaw06.PlanePastes': WHATEVER THE INPUT: true; the input reads as it did. -/
def planePastesSpec : ChangeSpec := { name := "planePastes", fn := fun _ => fun
  | [d1, d2] => { results := [.lit (.bool true)], args := [d1, d2] }
  | _ => none }
def planePastesRow : OpenClaim := { program := "ytdoikehkibefpaa", sum := "35f0b4ed10b6c156139727d6042768f43e9d4e66eec875b9267f1ec151071e35", func := "dailies/dailieslaw06.PlanePastes", spec := "planePastes", unfollowed := true, recurses := true, apart := false }
def PlanePastesSaid : Prop := planePastesRow.holds Try.pinned (OpenSpec.ofChange planePastesSpec)

/-- ITS FALSE NEIGHBOUR: 'it returns false'. Refute it at one input. -/
def planePastesWrong : ChangeSpec := { name := "planePastes", fn := fun _ => fun
  | [d1, d2] => { results := [.lit (.bool false)], args := [d1, d2] }
  | _ => none }
def PlanePastesWrongFalsely : Prop := planePastesRow.holds Try.pinned (OpenSpec.ofChange planePastesWrong)

/-- 'dailieslaw06.PlaneCuts': WHATEVER THE INPUT: true; the input reads as it did. -/
def planeCutsSpec : ChangeSpec := { name := "planeCuts", fn := fun _ => fun
  | [d1, d2] => { results := [.lit (.bool true)], args := [d1, d2] }
  | _ => none }
def planeCutsRow : OpenClaim := { program := "ytdoikehkibefpaa", sum := "35f0b4ed10b6c156139727d6042768f43e9d4e66eec875b9267f1ec151071e35", func := "dailies/dailieslaw06.PlaneCuts", spec := "planeCuts", unfollowed := true, recurses := true, apart := false }
def PlaneCutsSaid : Prop := planeCutsRow.holds Try.pinned (OpenSpec.ofChange planeCutsSpec)

/-- ITS FALSE NEIGHBOUR: 'it returns false'. Refute it at one input. -/
def planeCutsWrong : ChangeSpec := { name := "planeCuts", fn := fun _ => fun
  | [d1, d2] => { results := [.lit (.bool false)], args := [d1, d2] }
  | _ => none }
def PlaneCutsWrongFalsely : Prop := planeCutsRow.holds Try.pinned (OpenSpec.ofChange planeCutsWrong)

/-- 'dailieslaw06.PlaneTwice': WHATEVER THE INPUT: true; the input reads as it did. -/
def planeTwiceSpec : ChangeSpec := { name := "planeTwice", fn := fun _ => fun
  | [d1, d2, d3] => { results := [.lit (.bool true)], args := [d1, d2, d3] }
  | _ => none }
def planeTwiceRow : OpenClaim := { program := "ytdoikehkibefpaa", sum := "35f0b4ed10b6c156139727d6042768f43e9d4e66eec875b9267f1ec151071e35", func := "dailies/dailieslaw06.PlaneTwice", spec := "planeTwice", unfollowed := true, recurses := true, apart := false }
def PlaneTwiceSaid : Prop := planeTwiceRow.holds Try.pinned (OpenSpec.ofChange planeTwiceSpec)

/-- ITS FALSE NEIGHBOUR: 'it returns false'. Refute it at one input. -/
def planeTwiceWrong : ChangeSpec := { name := "planeTwice", fn := fun _ => fun
  | [d1, d2, d3] => { results := [.lit (.bool false)], args := [d1, d2, d3] }
  | _ => none }
def PlaneTwiceWrongFalsely : Prop := planeTwiceRow.holds Try.pinned (OpenSpec.ofChange planeTwiceWrong)

/-- 'dailieslaw06.PlaneApart': WHATEVER THE INPUT: true; the input reads as it did. -/
def planeApartSpec : ChangeSpec := { name := "planeApart", fn := fun _ => fun
  | [d1, d2, d3] => { results := [.lit (.bool true)], args := [d1, d2, d3] }
  | _ => none }
def planeApartRow : OpenClaim := { program := "ytdoikehkibefpaa", sum := "35f0b4ed10b6c156139727d6042768f43e9d4e66eec875b9267f1ec151071e35", func := "dailies/dailieslaw06.PlaneApart", spec := "planeApart", unfollowed := true, recurses := true, apart := false }
def PlaneApartSaid : Prop := planeApartRow.holds Try.pinned (OpenSpec.ofChange planeApartSpec)

/-- ITS FALSE NEIGHBOUR: 'it returns false'. Refute it at one input. -/
def planeApartWrong : ChangeSpec := { name := "planeApart", fn := fun _ => fun
  | [d1, d2, d3] => { results := [.lit (.bool false)], args := [d1, d2, d3] }
  | _ => none }
def PlaneApartWrongFalsely : Prop := planeApartRow.holds Try.pinned (OpenSpec.ofChange planeApartWrong)

/-- 'dailieslaw06.PlaneNear': WHATEVER THE INPUT: true; the input reads as it did. -/
def planeNearSpec : ChangeSpec := { name := "planeNear", fn := fun _ => fun
  | [d1, d2, d3] => { results := [.lit (.bool true)], args := [d1, d2, d3] }
  | _ => none }
def planeNearRow : OpenClaim := { program := "ytdoikehkibefpaa", sum := "35f0b4ed10b6c156139727d6042768f43e9d4e66eec875b9267f1ec151071e35", func := "dailies/dailieslaw06.PlaneNear", spec := "planeNear", unfollowed := true, recurses := true, apart := false }
def PlaneNearSaid : Prop := planeNearRow.holds Try.pinned (OpenSpec.ofChange planeNearSpec)

/-- ITS FALSE NEIGHBOUR: 'it returns false'. Refute it at one input. -/
def planeNearWrong : ChangeSpec := { name := "planeNear", fn := fun _ => fun
  | [d1, d2, d3] => { results := [.lit (.bool false)], args := [d1, d2, d3] }
  | _ => none }
def PlaneNearWrongFalsely : Prop := planeNearRow.holds Try.pinned (OpenSpec.ofChange planeNearWrong)

/-- 'dailieslaw06.PlaneBack': WHATEVER THE INPUT: true; the input reads as it did. -/
def planeBackSpec : ChangeSpec := { name := "planeBack", fn := fun _ => fun
  | [d1, d2, d3] => { results := [.lit (.bool true)], args := [d1, d2, d3] }
  | _ => none }
def planeBackRow : OpenClaim := { program := "ytdoikehkibefpaa", sum := "35f0b4ed10b6c156139727d6042768f43e9d4e66eec875b9267f1ec151071e35", func := "dailies/dailieslaw06.PlaneBack", spec := "planeBack", unfollowed := true, recurses := true, apart := false }
def PlaneBackSaid : Prop := planeBackRow.holds Try.pinned (OpenSpec.ofChange planeBackSpec)

/-- ITS FALSE NEIGHBOUR: 'it returns false'. Refute it at one input. -/
def planeBackWrong : ChangeSpec := { name := "planeBack", fn := fun _ => fun
  | [d1, d2, d3] => { results := [.lit (.bool false)], args := [d1, d2, d3] }
  | _ => none }
def PlaneBackWrongFalsely : Prop := planeBackRow.holds Try.pinned (OpenSpec.ofChange planeBackWrong)

/- THE SECOND FORM. 'bulk': how many values and letters a reading holds, each counted each time it is reached (what is shared counts as often as it is met; a slice's spare places count too). A statement '..UptoSaid' is the law's where the arguments, and the package variables that the reading takes, are together of bulk at most 1048576: NARROWER than '..Said'. Prove '..Said' where nothing that the law and all that it calls make is longer than what came in: it says more and counts as full. Else prove '..UptoSaid'. A law counts once. -/
mutual
def uptoBulk {H : Type} : DataW H → Nat
  | .lit (.string bytes) => bytes.length + 1
  | .lit _ => 1
  | .nil => 1
  | .ptr d => uptoBulk d + 1
  | .slice elems spare => uptoBulkAll elems + uptoBulkAll spare + 1
  | .agg parts => uptoBulkAll parts + 1
  | .iface _ d => uptoBulk d + 1
  | .map entries => uptoBulkEntries entries + 1
  | .held _ => 1
def uptoBulkAll {H : Type} : List (DataW H) → Nat
  | [] => 0
  | d :: r => uptoBulk d + uptoBulkAll r
def uptoBulkEntries {H : Type} : List (Lit × DataW H) → Nat
  | [] => 0
  | x :: r => uptoBulkEntry x + uptoBulkEntries r
def uptoBulkEntry {H : Type} : Lit × DataW H → Nat
  | (.string bytes, d) => bytes.length + uptoBulk d + 1
  | (_, d) => uptoBulk d + 1
 end
def uptoSmall : (H : Type) → List (DataW H) → Bool := fun _ ds => decide (uptoBulkAll ds ≤ 1048576)
def OpenSpec.upto (s : _root_.Go.ChangeSpec) : _root_.Go.OpenSpec := { _root_.Go.OpenSpec.ofChange s with cond := some uptoSmall }

/-- 'dailieslaw06.PlaneNames', WHERE WHAT IT READS IS OF BULK AT MOST 1048576: true; the input reads as it did. -/
def planeNamesUptoRow : OpenClaim := { program := "ytdoikehkibefpaa", sum := "35f0b4ed10b6c156139727d6042768f43e9d4e66eec875b9267f1ec151071e35", func := "dailies/dailieslaw06.PlaneNames", spec := "planeNames", apart := false, narrowed := true }
def PlaneNamesUptoSaid : Prop := planeNamesUptoRow.holds Try.pinned (OpenSpec.upto planeNamesSpec)

/-- 'dailieslaw06.PlaneShapes', WHERE WHAT IT READS IS OF BULK AT MOST 1048576: true; the input reads as it did. -/
def planeShapesUptoRow : OpenClaim := { program := "ytdoikehkibefpaa", sum := "35f0b4ed10b6c156139727d6042768f43e9d4e66eec875b9267f1ec151071e35", func := "dailies/dailieslaw06.PlaneShapes", spec := "planeShapes", unfollowed := true, recurses := true, apart := false, narrowed := true }
def PlaneShapesUptoSaid : Prop := planeShapesUptoRow.holds Try.pinned (OpenSpec.upto planeShapesSpec)

/-- 'dailieslaw06.PlaneFrames', WHERE WHAT IT READS IS OF BULK AT MOST 1048576: true; the input reads as it did. -/
def planeFramesUptoRow : OpenClaim := { program := "ytdoikehkibefpaa", sum := "35f0b4ed10b6c156139727d6042768f43e9d4e66eec875b9267f1ec151071e35", func := "dailies/dailieslaw06.PlaneFrames", spec := "planeFrames", unfollowed := true, recurses := true, apart := false, narrowed := true }
def PlaneFramesUptoSaid : Prop := planeFramesUptoRow.holds Try.pinned (OpenSpec.upto planeFramesSpec)

/-- 'dailieslaw06.PlaneCrops', WHERE WHAT IT READS IS OF BULK AT MOST 1048576: true; the input reads as it did. -/
def planeCropsUptoRow : OpenClaim := { program := "ytdoikehkibefpaa", sum := "35f0b4ed10b6c156139727d6042768f43e9d4e66eec875b9267f1ec151071e35", func := "dailies/dailieslaw06.PlaneCrops", spec := "planeCrops", unfollowed := true, recurses := true, apart := false, narrowed := true }
def PlaneCropsUptoSaid : Prop := planeCropsUptoRow.holds Try.pinned (OpenSpec.upto planeCropsSpec)

/-- 'dailieslaw06.PlaneHalves', WHERE WHAT IT READS IS OF BULK AT MOST 1048576: true; the input reads as it did. -/
def planeHalvesUptoRow : OpenClaim := { program := "ytdoikehkibefpaa", sum := "35f0b4ed10b6c156139727d6042768f43e9d4e66eec875b9267f1ec151071e35", func := "dailies/dailieslaw06.PlaneHalves", spec := "planeHalves", unfollowed := true, recurses := true, apart := false, narrowed := true }
def PlaneHalvesUptoSaid : Prop := planeHalvesUptoRow.holds Try.pinned (OpenSpec.upto planeHalvesSpec)

/-- 'dailieslaw06.PlaneTiled', WHERE WHAT IT READS IS OF BULK AT MOST 1048576: true; the input reads as it did. -/
def planeTiledUptoRow : OpenClaim := { program := "ytdoikehkibefpaa", sum := "35f0b4ed10b6c156139727d6042768f43e9d4e66eec875b9267f1ec151071e35", func := "dailies/dailieslaw06.PlaneTiled", spec := "planeTiled", unfollowed := true, recurses := true, apart := false, narrowed := true }
def PlaneTiledUptoSaid : Prop := planeTiledUptoRow.holds Try.pinned (OpenSpec.upto planeTiledSpec)

/-- 'dailieslaw06.PlanePastes', WHERE WHAT IT READS IS OF BULK AT MOST 1048576: true; the input reads as it did. -/
def planePastesUptoRow : OpenClaim := { program := "ytdoikehkibefpaa", sum := "35f0b4ed10b6c156139727d6042768f43e9d4e66eec875b9267f1ec151071e35", func := "dailies/dailieslaw06.PlanePastes", spec := "planePastes", unfollowed := true, recurses := true, apart := false, narrowed := true }
def PlanePastesUptoSaid : Prop := planePastesUptoRow.holds Try.pinned (OpenSpec.upto planePastesSpec)

/-- 'dailieslaw06.PlaneCuts', WHERE WHAT IT READS IS OF BULK AT MOST 1048576: true; the input reads as it did. -/
def planeCutsUptoRow : OpenClaim := { program := "ytdoikehkibefpaa", sum := "35f0b4ed10b6c156139727d6042768f43e9d4e66eec875b9267f1ec151071e35", func := "dailies/dailieslaw06.PlaneCuts", spec := "planeCuts", unfollowed := true, recurses := true, apart := false, narrowed := true }
def PlaneCutsUptoSaid : Prop := planeCutsUptoRow.holds Try.pinned (OpenSpec.upto planeCutsSpec)

/-- 'dailieslaw06.PlaneTwice', WHERE WHAT IT READS IS OF BULK AT MOST 1048576: true; the input reads as it did. -/
def planeTwiceUptoRow : OpenClaim := { program := "ytdoikehkibefpaa", sum := "35f0b4ed10b6c156139727d6042768f43e9d4e66eec875b9267f1ec151071e35", func := "dailies/dailieslaw06.PlaneTwice", spec := "planeTwice", unfollowed := true, recurses := true, apart := false, narrowed := true }
def PlaneTwiceUptoSaid : Prop := planeTwiceUptoRow.holds Try.pinned (OpenSpec.upto planeTwiceSpec)

/-- 'dailieslaw06.PlaneApart', WHERE WHAT IT READS IS OF BULK AT MOST 1048576: true; the input reads as it did. -/
def planeApartUptoRow : OpenClaim := { program := "ytdoikehkibefpaa", sum := "35f0b4ed10b6c156139727d6042768f43e9d4e66eec875b9267f1ec151071e35", func := "dailies/dailieslaw06.PlaneApart", spec := "planeApart", unfollowed := true, recurses := true, apart := false, narrowed := true }
def PlaneApartUptoSaid : Prop := planeApartUptoRow.holds Try.pinned (OpenSpec.upto planeApartSpec)

/-- 'dailieslaw06.PlaneNear', WHERE WHAT IT READS IS OF BULK AT MOST 1048576: true; the input reads as it did. -/
def planeNearUptoRow : OpenClaim := { program := "ytdoikehkibefpaa", sum := "35f0b4ed10b6c156139727d6042768f43e9d4e66eec875b9267f1ec151071e35", func := "dailies/dailieslaw06.PlaneNear", spec := "planeNear", unfollowed := true, recurses := true, apart := false, narrowed := true }
def PlaneNearUptoSaid : Prop := planeNearUptoRow.holds Try.pinned (OpenSpec.upto planeNearSpec)

/-- 'dailieslaw06.PlaneBack', WHERE WHAT IT READS IS OF BULK AT MOST 1048576: true; the input reads as it did. -/
def planeBackUptoRow : OpenClaim := { program := "ytdoikehkibefpaa", sum := "35f0b4ed10b6c156139727d6042768f43e9d4e66eec875b9267f1ec151071e35", func := "dailies/dailieslaw06.PlaneBack", spec := "planeBack", unfollowed := true, recurses := true, apart := false, narrowed := true }
def PlaneBackUptoSaid : Prop := planeBackUptoRow.holds Try.pinned (OpenSpec.upto planeBackSpec)

end Rows
end Go.Proofs.Ytdoikehkibefpaa
