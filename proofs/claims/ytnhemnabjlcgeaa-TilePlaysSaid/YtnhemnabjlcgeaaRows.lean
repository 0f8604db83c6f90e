/-
  No cell of these rows narrows 'for every input' (looked for: loops, veiled, ifaces, maps, wideKeys, modest, calm, conditions, laid).
  DERIVED. THE GIVEN ROWS OF THIS SEAT. 4 by the template 'for every input the law returns true; each argument reads behind the call as it read before'; 0 by the template 'total and deterministic' (their statements: YtnhemnabjlcgeaaTotals.lean).
  GIVEN WITH THE SEED: the statements are not yours to turn. If you find one false, say at which input.
  Laid BY PROGRAM, IN A SANDBOX (cutbox-rows.mjs): the forced cells as the released guide's own fill.sh prints them over the translation 66f64c0d2991c1e8… (all of the seat's roots in one cut). By AI agents, Wed Nov 11 2026. No macro, syntax, notation, axiom, sorry.
-/
import Derived.Test.YtnhemnabjlcgeaaChecked
import GoSem.Claim
import GoSem.ClaimJoined
import GoSem.ClaimMapViews
import Derived.JoinedTies
import Derived.KernelRfl
namespace Go.Proofs.Ytnhemnabjlcgeaa
/- THE CELL 'sum', in the pinned program and in every row, IS THE sha256 OF THE DUMP (.gsa) THAT YtnhemnabjlcgeaaProg.lean LOADS. Nothing in Lean hashes anything: it is a label: what it is worth is what the hold of that sum in a sandbox is worth. -/
noncomputable def Try.pinned : Pinned := { name := "ytnhemnabjlcgeaa", sum := "66f64c0d2991c1e887ddd8de21b831a487f3a0765c4c1d9462f817cb6dc41c0a", checked := Try.checked }
namespace Rows
def none {H : Type} : Left H := { results := [], args := [] }

/-- 'dailieslaw08.TileNames': WHATEVER THE INPUT: true; the input reads as it did. -/
def tileNamesSpec : ChangeSpec := { name := "tileNames", fn := fun _ => fun
  | [] => { results := [.lit (.bool true)], args := [] }
  | _ => none }
def tileNamesRow : OpenClaim := { program := "ytnhemnabjlcgeaa", sum := "66f64c0d2991c1e887ddd8de21b831a487f3a0765c4c1d9462f817cb6dc41c0a", func := "dailies/dailieslaw08.TileNames", spec := "tileNames", apart := false }
def TileNamesSaid : Prop := tileNamesRow.holds Try.pinned (OpenSpec.ofChange tileNamesSpec)

/-- ITS FALSE NEIGHBOUR: 'it returns false'. Refute it at one input. -/
def tileNamesWrong : ChangeSpec := { name := "tileNames", fn := fun _ => fun
  | [] => { results := [.lit (.bool false)], args := [] }
  | _ => none }
def TileNamesWrongFalsely : Prop := tileNamesRow.holds Try.pinned (OpenSpec.ofChange tileNamesWrong)

/-- 'dailieslaw08.TileTouched': WHATEVER THE INPUT: true; the input reads as it did. -/
def tileTouchedSpec : ChangeSpec := { name := "tileTouched", fn := fun _ => fun
  | [d1, d2] => { results := [.lit (.bool true)], args := [d1, d2] }
  | _ => none }
def tileTouchedRow : OpenClaim := { program := "ytnhemnabjlcgeaa", sum := "66f64c0d2991c1e887ddd8de21b831a487f3a0765c4c1d9462f817cb6dc41c0a", func := "dailies/dailieslaw08.TileTouched", spec := "tileTouched", unfollowed := true, recurses := true, apart := false }
def TileTouchedSaid : Prop := tileTouchedRow.holds Try.pinned (OpenSpec.ofChange tileTouchedSpec)

/-- ITS FALSE NEIGHBOUR: 'it returns false'. Refute it at one input. -/
def tileTouchedWrong : ChangeSpec := { name := "tileTouched", fn := fun _ => fun
  | [d1, d2] => { results := [.lit (.bool false)], args := [d1, d2] }
  | _ => none }
def TileTouchedWrongFalsely : Prop := tileTouchedRow.holds Try.pinned (OpenSpec.ofChange tileTouchedWrong)

/-- 'dailieslaw08.TilePlays': WHATEVER THE INPUT: true; the input reads as it did. -/
def tilePlaysSpec : ChangeSpec := { name := "tilePlays", fn := fun _ => fun
  | [d] => { results := [.lit (.bool true)], args := [d] }
  | _ => none }
def tilePlaysRow : OpenClaim := { program := "ytnhemnabjlcgeaa", sum := "66f64c0d2991c1e887ddd8de21b831a487f3a0765c4c1d9462f817cb6dc41c0a", func := "dailies/dailieslaw08.TilePlays", spec := "tilePlays", unfollowed := true, recurses := true, apart := false }
def TilePlaysSaid : Prop := tilePlaysRow.holds Try.pinned (OpenSpec.ofChange tilePlaysSpec)

/-- ITS FALSE NEIGHBOUR: 'it returns false'. Refute it at one input. -/
def tilePlaysWrong : ChangeSpec := { name := "tilePlays", fn := fun _ => fun
  | [d] => { results := [.lit (.bool false)], args := [d] }
  | _ => none }
def TilePlaysWrongFalsely : Prop := tilePlaysRow.holds Try.pinned (OpenSpec.ofChange tilePlaysWrong)

/-- 'dailieslaw08.TileApart': WHATEVER THE INPUT: true; the input reads as it did. -/
def tileApartSpec : ChangeSpec := { name := "tileApart", fn := fun _ => fun
  | [d1, d2, d3] => { results := [.lit (.bool true)], args := [d1, d2, d3] }
  | _ => none }
def tileApartRow : OpenClaim := { program := "ytnhemnabjlcgeaa", sum := "66f64c0d2991c1e887ddd8de21b831a487f3a0765c4c1d9462f817cb6dc41c0a", func := "dailies/dailieslaw08.TileApart", spec := "tileApart", unfollowed := true, recurses := true, apart := false }
def TileApartSaid : Prop := tileApartRow.holds Try.pinned (OpenSpec.ofChange tileApartSpec)

/-- ITS FALSE NEIGHBOUR: 'it returns false'. Refute it at one input. -/
def tileApartWrong : ChangeSpec := { name := "tileApart", fn := fun _ => fun
  | [d1, d2, d3] => { results := [.lit (.bool false)], args := [d1, d2, d3] }
  | _ => none }
def TileApartWrongFalsely : Prop := tileApartRow.holds Try.pinned (OpenSpec.ofChange tileApartWrong)

/- THE SECOND FORM. 'bulk': how many values and letters a reading holds, each counted each time it is reached (what is shared counts as often as it is met; a slice's spare places count too). A statement '..UptoSaid' is the law's where the arguments, and the package variables that the reading takes, are together of bulk at most 1048576: NARROWER than '..Said'. Prove '..Said' where nothing that the law and all that it calls make is longer than what came in: it says more and counts as full. Else prove '..UptoSaid'. A law counts once. -/
mutual
def uptoBulk {H : Type} : DataW H → Nat
  | .lit (.string bytes) => bytes.length + 1
  | .lit _ => 1
  | .nil => 1
  | .ptr d => uptoBulk d + 1
  | .slice elems spare => uptoBulkAll elems + uptoBulkAll spare + 1
  | .agg parts => uptoBulkAll parts + 1
  | .iface _ d => uptoBulk d + 1
  | .map entries => uptoBulkEntries entries + 1
  | .held _ => 1
def uptoBulkAll {H : Type} : List (DataW H) → Nat
  | [] => 0
  | d :: r => uptoBulk d + uptoBulkAll r
def uptoBulkEntries {H : Type} : List (Lit × DataW H) → Nat
  | [] => 0
  | x :: r => uptoBulkEntry x + uptoBulkEntries r
def uptoBulkEntry {H : Type} : Lit × DataW H → Nat
  | (.string bytes, d) => bytes.length + uptoBulk d + 1
  | (_, d) => uptoBulk d + 1
 end
def uptoSmall : (H : Type) → List (DataW H) → Bool := fun _ ds => decide (uptoBulkAll ds ≤ 1048576)
def OpenSpec.upto (s : _root_.Go.ChangeSpec) : _root_.Go.OpenSpec := { _root_.Go.OpenSpec.ofChange s with cond := some uptoSmall }

/-- 'dailieslaw08.TileNames', WHERE WHAT IT READS IS OF BULK AT MOST 1048576: true; the input reads as it did. -/
def tileNamesUptoRow : OpenClaim := { program := "ytnhemnabjlcgeaa", sum := "66f64c0d2991c1e887ddd8de21b831a487f3a0765c4c1d9462f817cb6dc41c0a", func := "dailies/dailieslaw08.TileNames", spec := "tileNames", apart := false, narrowed := true }
def TileNamesUptoSaid : Prop := tileNamesUptoRow.holds Try.pinned (OpenSpec.upto tileNamesSpec)

/-- 'dailieslaw08.TileTouched', WHERE WHAT IT READS IS OF BULK AT MOST 1048576: true; the input reads as it did. -/
def tileTouchedUptoRow : OpenClaim := { program := "ytnhemnabjlcgeaa", sum := "66f64c0d2991c1e887ddd8de21b831a487f3a0765c4c1d9462f817cb6dc41c0a", func := "dailies/dailieslaw08.TileTouched", spec := "tileTouched", unfollowed := true, recurses := true, apart := false, narrowed := true }
def TileTouchedUptoSaid : Prop := tileTouchedUptoRow.holds Try.pinned (OpenSpec.upto tileTouchedSpec)

/-- 'dailieslaw08.TilePlays', WHERE WHAT IT READS IS OF BULK AT MOST 1048576: true; the input reads as it did. -/
def tilePlaysUptoRow : OpenClaim := { program := "ytnhemnabjlcgeaa", sum := "66f64c0d2991c1e887ddd8de21b831a487f3a0765c4c1d9462f817cb6dc41c0a", func := "dailies/dailieslaw08.TilePlays", spec := "tilePlays", unfollowed := true, recurses := true, apart := false, narrowed := true }
def TilePlaysUptoSaid : Prop := tilePlaysUptoRow.holds Try.pinned (OpenSpec.upto tilePlaysSpec)

/-- 'dailieslaw08.TileApart', WHERE WHAT IT READS IS OF BULK AT MOST 1048576: true; the input reads as it did. -/
def tileApartUptoRow : OpenClaim := { program := "ytnhemnabjlcgeaa", sum := "66f64c0d2991c1e887ddd8de21b831a487f3a0765c4c1d9462f817cb6dc41c0a", func := "dailies/dailieslaw08.TileApart", spec := "tileApart", unfollowed := true, recurses := true, apart := false, narrowed := true }
def TileApartUptoSaid : Prop := tileApartUptoRow.holds Try.pinned (OpenSpec.upto tileApartSpec)

end Rows
end Go.Proofs.Ytnhemnabjlcgeaa
