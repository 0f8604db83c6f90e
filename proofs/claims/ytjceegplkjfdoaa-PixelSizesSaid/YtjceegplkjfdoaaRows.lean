/-
  No cell of these rows narrows 'for every input' (looked for: loops, veiled, ifaces, maps, wideKeys, modest, calm, conditions, laid).
  DERIVED. THE GIVEN ROWS OF THIS SEAT. 6 by the template 'for every input the law returns true; each argument reads behind the call as it read before'; 0 by the template 'total and deterministic' (their statements: YtjceegplkjfdoaaTotals.lean).
  GIVEN WITH THE SEED: the statements are not yours to turn. If you find one false, say at which input.
  Laid BY PROGRAM, IN A SANDBOX (cutbox-rows.mjs): the forced cells as the released guide's own fill.sh prints them over the translation eb9c4056f410a57e… (all of the seat's roots in one cut). By AI agents, Wed Nov 11 2026. No macro, syntax, notation, axiom, sorry.
-/
import Derived.Test.YtjceegplkjfdoaaChecked
import GoSem.Claim
import GoSem.ClaimJoined
import GoSem.ClaimMapViews
import Derived.JoinedTies
import Derived.KernelRfl
namespace Go.Proofs.Ytjceegplkjfdoaa
/- THE CELL 'sum', in the pinned program and in every row, IS THE sha256 OF THE DUMP (.gsa) THAT YtjceegplkjfdoaaProg.lean LOADS. Nothing in Lean hashes anything: it is a label: what it is worth is what the hold of that sum in a sandbox is worth. -/
noncomputable def Try.pinned : Pinned := { name := "ytjceegplkjfdoaa", sum := "eb9c4056f410a57e1cef51eec2f66a2d00442fd469f21a16064cea551282ac5d", checked := Try.checked }
namespace Rows
def none {H : Type} : Left H := { results := [], args := [] }

/-- 'dailieslaw07.PixelNames': WHATEVER THE INPUT: true; the input reads as it did. -/
def pixelNamesSpec : ChangeSpec := { name := "pixelNames", fn := fun _ => fun
  | [] => { results := [.lit (.bool true)], args := [] }
  | _ => none }
def pixelNamesRow : OpenClaim := { program := "ytjceegplkjfdoaa", sum := "eb9c4056f410a57e1cef51eec2f66a2d00442fd469f21a16064cea551282ac5d", func := "dailies/dailieslaw07.PixelNames", spec := "pixelNames", unfollowed := true, recurses := true, apart := false }
def PixelNamesSaid : Prop := pixelNamesRow.holds Try.pinned (OpenSpec.ofChange pixelNamesSpec)

/-- ITS FALSE NEIGHBOUR: 'it returns false'. Refute it at one input. -/
def pixelNamesWrong : ChangeSpec := { name := "pixelNames", fn := fun _ => fun
  | [] => { results := [.lit (.bool false)], args := [] }
  | _ => none }
def PixelNamesWrongFalsely : Prop := pixelNamesRow.holds Try.pinned (OpenSpec.ofChange pixelNamesWrong)

/-- 'dailieslaw07.PixelPacks': WHATEVER THE INPUT: true; the input reads as it did. -/
def pixelPacksSpec : ChangeSpec := { name := "pixelPacks", fn := fun _ => fun
  | [d] => { results := [.lit (.bool true)], args := [d] }
  | _ => none }
def pixelPacksRow : OpenClaim := { program := "ytjceegplkjfdoaa", sum := "eb9c4056f410a57e1cef51eec2f66a2d00442fd469f21a16064cea551282ac5d", func := "dailies/dailieslaw07.PixelPacks", spec := "pixelPacks", unfollowed := true, recurses := true, apart := false }
def PixelPacksSaid : Prop := pixelPacksRow.holds Try.pinned (OpenSpec.ofChange pixelPacksSpec)

/-- ITS FALSE NEIGHBOUR: 'it returns false'. Refute it at one input. -/
def pixelPacksWrong : ChangeSpec := { name := "pixelPacks", fn := fun _ => fun
  | [d] => { results := [.lit (.bool false)], args := [d] }
  | _ => none }
def PixelPacksWrongFalsely : Prop := pixelPacksRow.holds Try.pinned (OpenSpec.ofChange pixelPacksWrong)

/-- 'dailieslaw07.PixelSizes': WHATEVER THE INPUT: true; the input reads as it did. -/
def pixelSizesSpec : ChangeSpec := { name := "pixelSizes", fn := fun _ => fun
  | [d] => { results := [.lit (.bool true)], args := [d] }
  | _ => none }
def pixelSizesRow : OpenClaim := { program := "ytjceegplkjfdoaa", sum := "eb9c4056f410a57e1cef51eec2f66a2d00442fd469f21a16064cea551282ac5d", func := "dailies/dailieslaw07.PixelSizes", spec := "pixelSizes", unfollowed := true, recurses := true, apart := false }
def PixelSizesSaid : Prop := pixelSizesRow.holds Try.pinned (OpenSpec.ofChange pixelSizesSpec)

/-- ITS FALSE NEIGHBOUR: 'it returns false'. Refute it at one input. -/
def pixelSizesWrong : ChangeSpec := { name := "pixelSizes", fn := fun _ => fun
  | [d] => { results := [.lit (.bool false)], args := [d] }
  | _ => none }
def PixelSizesWrongFalsely : Prop := pixelSizesRow.holds Try.pinned (OpenSpec.ofChange pixelSizesWrong)

/-- 'dailieslaw07.PixelUnpacks': WHATEVER THE INPUT: true; the input reads as it did. -/
def pixelUnpacksSpec : ChangeSpec := { name := "pixelUnpacks", fn := fun _ => fun
  | [d1, d2, d3] => { results := [.lit (.bool true)], args := [d1, d2, d3] }
  | _ => none }
def pixelUnpacksRow : OpenClaim := { program := "ytjceegplkjfdoaa", sum := "eb9c4056f410a57e1cef51eec2f66a2d00442fd469f21a16064cea551282ac5d", func := "dailies/dailieslaw07.PixelUnpacks", spec := "pixelUnpacks", unfollowed := true, recurses := true, apart := false }
def PixelUnpacksSaid : Prop := pixelUnpacksRow.holds Try.pinned (OpenSpec.ofChange pixelUnpacksSpec)

/-- ITS FALSE NEIGHBOUR: 'it returns false'. Refute it at one input. -/
def pixelUnpacksWrong : ChangeSpec := { name := "pixelUnpacks", fn := fun _ => fun
  | [d1, d2, d3] => { results := [.lit (.bool false)], args := [d1, d2, d3] }
  | _ => none }
def PixelUnpacksWrongFalsely : Prop := pixelUnpacksRow.holds Try.pinned (OpenSpec.ofChange pixelUnpacksWrong)

/-- 'dailieslaw07.PixelOne': WHATEVER THE INPUT: true; the input reads as it did. -/
def pixelOneSpec : ChangeSpec := { name := "pixelOne", fn := fun _ => fun
  | [d1, d2, d3] => { results := [.lit (.bool true)], args := [d1, d2, d3] }
  | _ => none }
def pixelOneRow : OpenClaim := { program := "ytjceegplkjfdoaa", sum := "eb9c4056f410a57e1cef51eec2f66a2d00442fd469f21a16064cea551282ac5d", func := "dailies/dailieslaw07.PixelOne", spec := "pixelOne", unfollowed := true, recurses := true, apart := false }
def PixelOneSaid : Prop := pixelOneRow.holds Try.pinned (OpenSpec.ofChange pixelOneSpec)

/-- ITS FALSE NEIGHBOUR: 'it returns false'. Refute it at one input. -/
def pixelOneWrong : ChangeSpec := { name := "pixelOne", fn := fun _ => fun
  | [d1, d2, d3] => { results := [.lit (.bool false)], args := [d1, d2, d3] }
  | _ => none }
def PixelOneWrongFalsely : Prop := pixelOneRow.holds Try.pinned (OpenSpec.ofChange pixelOneWrong)

/-- 'dailieslaw07.PixelBack': WHATEVER THE INPUT: true; the input reads as it did. -/
def pixelBackSpec : ChangeSpec := { name := "pixelBack", fn := fun _ => fun
  | [d] => { results := [.lit (.bool true)], args := [d] }
  | _ => none }
def pixelBackRow : OpenClaim := { program := "ytjceegplkjfdoaa", sum := "eb9c4056f410a57e1cef51eec2f66a2d00442fd469f21a16064cea551282ac5d", func := "dailies/dailieslaw07.PixelBack", spec := "pixelBack", unfollowed := true, recurses := true, apart := false }
def PixelBackSaid : Prop := pixelBackRow.holds Try.pinned (OpenSpec.ofChange pixelBackSpec)

/-- ITS FALSE NEIGHBOUR: 'it returns false'. Refute it at one input. -/
def pixelBackWrong : ChangeSpec := { name := "pixelBack", fn := fun _ => fun
  | [d] => { results := [.lit (.bool false)], args := [d] }
  | _ => none }
def PixelBackWrongFalsely : Prop := pixelBackRow.holds Try.pinned (OpenSpec.ofChange pixelBackWrong)

/- THE SECOND FORM. 'bulk': how many values and letters a reading holds, each counted each time it is reached (what is shared counts as often as it is met; a slice's spare places count too). A statement '..UptoSaid' is the law's where the arguments, and the package variables that the reading takes, are together of bulk at most 1048576: NARROWER than '..Said'. Prove '..Said' where nothing that the law and all that it calls make is longer than what came in: it says more and counts as full. Else prove '..UptoSaid'. A law counts once. -/
mutual
def uptoBulk {H : Type} : DataW H → Nat
  | .lit (.string bytes) => bytes.length + 1
  | .lit _ => 1
  | .nil => 1
  | .ptr d => uptoBulk d + 1
  | .slice elems spare => uptoBulkAll elems + uptoBulkAll spare + 1
  | .agg parts => uptoBulkAll parts + 1
  | .iface _ d => uptoBulk d + 1
  | .map entries => uptoBulkEntries entries + 1
  | .held _ => 1
def uptoBulkAll {H : Type} : List (DataW H) → Nat
  | [] => 0
  | d :: r => uptoBulk d + uptoBulkAll r
def uptoBulkEntries {H : Type} : List (Lit × DataW H) → Nat
  | [] => 0
  | x :: r => uptoBulkEntry x + uptoBulkEntries r
def uptoBulkEntry {H : Type} : Lit × DataW H → Nat
  | (.string bytes, d) => bytes.length + uptoBulk d + 1
  | (_, d) => uptoBulk d + 1
 end
def uptoSmall : (H : Type) → List (DataW H) → Bool := fun _ ds => decide (uptoBulkAll ds ≤ 1048576)
def OpenSpec.upto (s : _root_.Go.ChangeSpec) : _root_.Go.OpenSpec := { _root_.Go.OpenSpec.ofChange s with cond := some uptoSmall }

/-- 'dailieslaw07.PixelNames', WHERE WHAT IT READS IS OF BULK AT MOST 1048576: true; the input reads as it did. -/
def pixelNamesUptoRow : OpenClaim := { program := "ytjceegplkjfdoaa", sum := "eb9c4056f410a57e1cef51eec2f66a2d00442fd469f21a16064cea551282ac5d", func := "dailies/dailieslaw07.PixelNames", spec := "pixelNames", unfollowed := true, recurses := true, apart := false, narrowed := true }
def PixelNamesUptoSaid : Prop := pixelNamesUptoRow.holds Try.pinned (OpenSpec.upto pixelNamesSpec)

/-- 'dailieslaw07.PixelPacks', WHERE WHAT IT READS IS OF BULK AT MOST 1048576: true; the input reads as it did. -/
def pixelPacksUptoRow : OpenClaim := { program := "ytjceegplkjfdoaa", sum := "eb9c4056f410a57e1cef51eec2f66a2d00442fd469f21a16064cea551282ac5d", func := "dailies/dailieslaw07.PixelPacks", spec := "pixelPacks", unfollowed := true, recurses := true, apart := false, narrowed := true }
def PixelPacksUptoSaid : Prop := pixelPacksUptoRow.holds Try.pinned (OpenSpec.upto pixelPacksSpec)

/-- 'dailieslaw07.PixelSizes', WHERE WHAT IT READS IS OF BULK AT MOST 1048576: true; the input reads as it did. -/
def pixelSizesUptoRow : OpenClaim := { program := "ytjceegplkjfdoaa", sum := "eb9c4056f410a57e1cef51eec2f66a2d00442fd469f21a16064cea551282ac5d", func := "dailies/dailieslaw07.PixelSizes", spec := "pixelSizes", unfollowed := true, recurses := true, apart := false, narrowed := true }
def PixelSizesUptoSaid : Prop := pixelSizesUptoRow.holds Try.pinned (OpenSpec.upto pixelSizesSpec)

/-- 'dailieslaw07.PixelUnpacks', WHERE WHAT IT READS IS OF BULK AT MOST 1048576: true; the input reads as it did. -/
def pixelUnpacksUptoRow : OpenClaim := { program := "ytjceegplkjfdoaa", sum := "eb9c4056f410a57e1cef51eec2f66a2d00442fd469f21a16064cea551282ac5d", func := "dailies/dailieslaw07.PixelUnpacks", spec := "pixelUnpacks", unfollowed := true, recurses := true, apart := false, narrowed := true }
def PixelUnpacksUptoSaid : Prop := pixelUnpacksUptoRow.holds Try.pinned (OpenSpec.upto pixelUnpacksSpec)

/-- 'dailieslaw07.PixelOne', WHERE WHAT IT READS IS OF BULK AT MOST 1048576: true; the input reads as it did. -/
def pixelOneUptoRow : OpenClaim := { program := "ytjceegplkjfdoaa", sum := "eb9c4056f410a57e1cef51eec2f66a2d00442fd469f21a16064cea551282ac5d", func := "dailies/dailieslaw07.PixelOne", spec := "pixelOne", unfollowed := true, recurses := true, apart := false, narrowed := true }
def PixelOneUptoSaid : Prop := pixelOneUptoRow.holds Try.pinned (OpenSpec.upto pixelOneSpec)

/-- 'dailieslaw07.PixelBack', WHERE WHAT IT READS IS OF BULK AT MOST 1048576: true; the input reads as it did. -/
def pixelBackUptoRow : OpenClaim := { program := "ytjceegplkjfdoaa", sum := "eb9c4056f410a57e1cef51eec2f66a2d00442fd469f21a16064cea551282ac5d", func := "dailies/dailieslaw07.PixelBack", spec := "pixelBack", unfollowed := true, recurses := true, apart := false, narrowed := true }
def PixelBackUptoSaid : Prop := pixelBackUptoRow.holds Try.pinned (OpenSpec.upto pixelBackSpec)

end Rows
end Go.Proofs.Ytjceegplkjfdoaa
