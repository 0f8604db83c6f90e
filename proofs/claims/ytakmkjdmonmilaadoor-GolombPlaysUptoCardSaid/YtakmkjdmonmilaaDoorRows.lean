/-
  NARROWER THAN 'FOR EVERY INPUT', by the rows' own cells (each row's printed sentence says how): GolombApart: laid · GolombRows: laid · GolombFolds: laid · GolombBack: laid · GolombAgain: laid · GolombRuns: laid · GolombPlays: laid.
  DERIVED. THE GIVEN ROWS OF THIS SEAT. 7 by the template 'for every input the law returns true; each argument reads behind the call as it read before'; 0 by the template 'total and deterministic' (their statements: YtakmkjdmonmilaaDoorTotals.lean).
  GIVEN WITH THE SEED: the statements are not yours to turn. If you find one false, say at which input.
  Laid BY PROGRAM, IN A SANDBOX (cutbox-rows.mjs): the forced cells as the released guide's own fill.sh prints them over the translation 6a87324b5a9fec1a… (all of the seat's roots in one cut). By AI agents, Wed Nov 11 2026. No macro, syntax, notation, axiom, sorry.
-/
import Derived.Test.YtakmkjdmonmilaaDoorChecked
import GoSem.Claim
import GoSem.ClaimJoined
import GoSem.ClaimMapViews
import Derived.JoinedTies
import Derived.KernelRfl
namespace Go.Proofs.YtakmkjdmonmilaaDoor
/- THE CELL 'sum', in the pinned program and in every row, IS THE sha256 OF THE DUMP (.gsa) THAT YtakmkjdmonmilaaDoorProg.lean LOADS. Nothing in Lean hashes anything: it is a label: what it is worth is what the hold of that sum in a sandbox is worth. -/
noncomputable def Tryd.pinned : Pinned := { name := "ytakmkjdmonmilaadoor", sum := "6a87324b5a9fec1ab0c1737da5aceceae3f6f3dea1781c9ee5fdd91771e6c1bc", checked := Tryd.checked }
namespace Rows
def none {H : Type} : Left H := { results := [], args := [] }

/- WHAT THE LISTED PACKAGE-LEVEL VARIABLES READ AS WHEN THE CALL BEGINS. Each datum BY PROGRAM (the guide's laid-datum.mjs) off the statement by which the dump's own 'gosem.cut.vars' lays the variable. In a bare row this is a premise. The card (YtakmkjdmonmilaaDoorCards.lean) ties it to the program's text. -/
def laid_dailies_golomb_rates {H : Type} : DataW H := .agg [.lit (.int .i64 0), .lit (.int .i64 0), .lit (.int .i64 0), .lit (.int .i64 0), .lit (.int .i64 1), .lit (.int .i64 1), .lit (.int .i64 1), .lit (.int .i64 1), .lit (.int .i64 2), .lit (.int .i64 2), .lit (.int .i64 2), .lit (.int .i64 3), .lit (.int .i64 3), .lit (.int .i64 4), .lit (.int .i64 4), .lit (.int .i64 5), .lit (.int .i64 6), .lit (.int .i64 7), .lit (.int .i64 8), .lit (.int .i64 9), .lit (.int .i64 10), .lit (.int .i64 11), .lit (.int .i64 12)]

/-- 'dailieslaw02.GolombApart': WHATEVER THE INPUT: true; the input reads as it did. -/
def golombApartSpec : ChangeSpec := { name := "golombApart", fn := fun _ => fun
  | [d1, d2] => { results := [.lit (.bool true)], args := [d1, d2] }
  | _ => none }
def golombApartRow : OpenClaim := { program := "ytakmkjdmonmilaadoor", sum := "6a87324b5a9fec1ab0c1737da5aceceae3f6f3dea1781c9ee5fdd91771e6c1bc", func := "dailies/dailieslaw02.GolombApart", spec := "golombApart", named := ["dailies/golomb.rates"], apart := false, laid := [("dailies/golomb.rates", laid_dailies_golomb_rates)] }
def GolombApartSaid : Prop := golombApartRow.holds Tryd.pinned (OpenSpec.ofChange golombApartSpec)

/-- ITS FALSE NEIGHBOUR: 'it returns false'. Refute it at one input. -/
def golombApartWrong : ChangeSpec := { name := "golombApart", fn := fun _ => fun
  | [d1, d2] => { results := [.lit (.bool false)], args := [d1, d2] }
  | _ => none }
def GolombApartWrongFalsely : Prop := golombApartRow.holds Tryd.pinned (OpenSpec.ofChange golombApartWrong)

/-- 'dailieslaw02.GolombRows': WHATEVER THE INPUT: true; the input reads as it did. -/
def golombRowsSpec : ChangeSpec := { name := "golombRows", fn := fun _ => fun
  | [d] => { results := [.lit (.bool true)], args := [d] }
  | _ => none }
def golombRowsRow : OpenClaim := { program := "ytakmkjdmonmilaadoor", sum := "6a87324b5a9fec1ab0c1737da5aceceae3f6f3dea1781c9ee5fdd91771e6c1bc", func := "dailies/dailieslaw02.GolombRows", spec := "golombRows", named := ["dailies/golomb.rates"], apart := false, laid := [("dailies/golomb.rates", laid_dailies_golomb_rates)] }
def GolombRowsSaid : Prop := golombRowsRow.holds Tryd.pinned (OpenSpec.ofChange golombRowsSpec)

/-- ITS FALSE NEIGHBOUR: 'it returns false'. Refute it at one input. -/
def golombRowsWrong : ChangeSpec := { name := "golombRows", fn := fun _ => fun
  | [d] => { results := [.lit (.bool false)], args := [d] }
  | _ => none }
def GolombRowsWrongFalsely : Prop := golombRowsRow.holds Tryd.pinned (OpenSpec.ofChange golombRowsWrong)

/-- 'dailieslaw02.GolombFolds': WHATEVER THE INPUT: true; the input reads as it did. -/
def golombFoldsSpec : ChangeSpec := { name := "golombFolds", fn := fun _ => fun
  | [d1, d2] => { results := [.lit (.bool true)], args := [d1, d2] }
  | _ => none }
def golombFoldsRow : OpenClaim := { program := "ytakmkjdmonmilaadoor", sum := "6a87324b5a9fec1ab0c1737da5aceceae3f6f3dea1781c9ee5fdd91771e6c1bc", func := "dailies/dailieslaw02.GolombFolds", spec := "golombFolds", named := ["dailies/golomb.rates"], apart := false, laid := [("dailies/golomb.rates", laid_dailies_golomb_rates)] }
def GolombFoldsSaid : Prop := golombFoldsRow.holds Tryd.pinned (OpenSpec.ofChange golombFoldsSpec)

/-- ITS FALSE NEIGHBOUR: 'it returns false'. Refute it at one input. -/
def golombFoldsWrong : ChangeSpec := { name := "golombFolds", fn := fun _ => fun
  | [d1, d2] => { results := [.lit (.bool false)], args := [d1, d2] }
  | _ => none }
def GolombFoldsWrongFalsely : Prop := golombFoldsRow.holds Tryd.pinned (OpenSpec.ofChange golombFoldsWrong)

/-- 'dailieslaw02.GolombBack': WHATEVER THE INPUT: true; the input reads as it did. -/
def golombBackSpec : ChangeSpec := { name := "golombBack", fn := fun _ => fun
  | [d] => { results := [.lit (.bool true)], args := [d] }
  | _ => none }
def golombBackRow : OpenClaim := { program := "ytakmkjdmonmilaadoor", sum := "6a87324b5a9fec1ab0c1737da5aceceae3f6f3dea1781c9ee5fdd91771e6c1bc", func := "dailies/dailieslaw02.GolombBack", spec := "golombBack", named := ["dailies/golomb.rates"], apart := false, laid := [("dailies/golomb.rates", laid_dailies_golomb_rates)] }
def GolombBackSaid : Prop := golombBackRow.holds Tryd.pinned (OpenSpec.ofChange golombBackSpec)

/-- ITS FALSE NEIGHBOUR: 'it returns false'. Refute it at one input. -/
def golombBackWrong : ChangeSpec := { name := "golombBack", fn := fun _ => fun
  | [d] => { results := [.lit (.bool false)], args := [d] }
  | _ => none }
def GolombBackWrongFalsely : Prop := golombBackRow.holds Tryd.pinned (OpenSpec.ofChange golombBackWrong)

/-- 'dailieslaw02.GolombAgain': WHATEVER THE INPUT: true; the input reads as it did. -/
def golombAgainSpec : ChangeSpec := { name := "golombAgain", fn := fun _ => fun
  | [d1, d2] => { results := [.lit (.bool true)], args := [d1, d2] }
  | _ => none }
def golombAgainRow : OpenClaim := { program := "ytakmkjdmonmilaadoor", sum := "6a87324b5a9fec1ab0c1737da5aceceae3f6f3dea1781c9ee5fdd91771e6c1bc", func := "dailies/dailieslaw02.GolombAgain", spec := "golombAgain", named := ["dailies/golomb.rates"], apart := false, laid := [("dailies/golomb.rates", laid_dailies_golomb_rates)] }
def GolombAgainSaid : Prop := golombAgainRow.holds Tryd.pinned (OpenSpec.ofChange golombAgainSpec)

/-- ITS FALSE NEIGHBOUR: 'it returns false'. Refute it at one input. -/
def golombAgainWrong : ChangeSpec := { name := "golombAgain", fn := fun _ => fun
  | [d1, d2] => { results := [.lit (.bool false)], args := [d1, d2] }
  | _ => none }
def GolombAgainWrongFalsely : Prop := golombAgainRow.holds Tryd.pinned (OpenSpec.ofChange golombAgainWrong)

/-- 'dailieslaw02.GolombRuns': WHATEVER THE INPUT: true; the input reads as it did. -/
def golombRunsSpec : ChangeSpec := { name := "golombRuns", fn := fun _ => fun
  | [d] => { results := [.lit (.bool true)], args := [d] }
  | _ => none }
def golombRunsRow : OpenClaim := { program := "ytakmkjdmonmilaadoor", sum := "6a87324b5a9fec1ab0c1737da5aceceae3f6f3dea1781c9ee5fdd91771e6c1bc", func := "dailies/dailieslaw02.GolombRuns", spec := "golombRuns", named := ["dailies/golomb.rates"], apart := false, laid := [("dailies/golomb.rates", laid_dailies_golomb_rates)] }
def GolombRunsSaid : Prop := golombRunsRow.holds Tryd.pinned (OpenSpec.ofChange golombRunsSpec)

/-- ITS FALSE NEIGHBOUR: 'it returns false'. Refute it at one input. -/
def golombRunsWrong : ChangeSpec := { name := "golombRuns", fn := fun _ => fun
  | [d] => { results := [.lit (.bool false)], args := [d] }
  | _ => none }
def GolombRunsWrongFalsely : Prop := golombRunsRow.holds Tryd.pinned (OpenSpec.ofChange golombRunsWrong)

/-- 'dailieslaw02.GolombPlays': WHATEVER THE INPUT: true; the input reads as it did. -/
def golombPlaysSpec : ChangeSpec := { name := "golombPlays", fn := fun _ => fun
  | [d] => { results := [.lit (.bool true)], args := [d] }
  | _ => none }
def golombPlaysRow : OpenClaim := { program := "ytakmkjdmonmilaadoor", sum := "6a87324b5a9fec1ab0c1737da5aceceae3f6f3dea1781c9ee5fdd91771e6c1bc", func := "dailies/dailieslaw02.GolombPlays", spec := "golombPlays", named := ["dailies/golomb.rates"], apart := false, laid := [("dailies/golomb.rates", laid_dailies_golomb_rates)] }
def GolombPlaysSaid : Prop := golombPlaysRow.holds Tryd.pinned (OpenSpec.ofChange golombPlaysSpec)

/-- ITS FALSE NEIGHBOUR: 'it returns false'. Refute it at one input. -/
def golombPlaysWrong : ChangeSpec := { name := "golombPlays", fn := fun _ => fun
  | [d] => { results := [.lit (.bool false)], args := [d] }
  | _ => none }
def GolombPlaysWrongFalsely : Prop := golombPlaysRow.holds Tryd.pinned (OpenSpec.ofChange golombPlaysWrong)

/- THE SECOND FORM. 'bulk': how many values and letters a reading holds, each counted each time it is reached (what is shared counts as often as it is met; a slice's spare places count too). A statement '..UptoSaid' is the law's where the arguments, and the package variables that the reading takes, are together of bulk at most 1048576: NARROWER than '..Said'. Prove '..Said' where nothing that the law and all that it calls make is longer than what came in: it says more and counts as full. Else prove '..UptoSaid'. A law counts once. -/
mutual
def uptoBulk {H : Type} : DataW H → Nat
  | .lit (.string bytes) => bytes.length + 1
  | .lit _ => 1
  | .nil => 1
  | .ptr d => uptoBulk d + 1
  | .slice elems spare => uptoBulkAll elems + uptoBulkAll spare + 1
  | .agg parts => uptoBulkAll parts + 1
  | .iface _ d => uptoBulk d + 1
  | .map entries => uptoBulkEntries entries + 1
  | .held _ => 1
def uptoBulkAll {H : Type} : List (DataW H) → Nat
  | [] => 0
  | d :: r => uptoBulk d + uptoBulkAll r
def uptoBulkEntries {H : Type} : List (Lit × DataW H) → Nat
  | [] => 0
  | x :: r => uptoBulkEntry x + uptoBulkEntries r
def uptoBulkEntry {H : Type} : Lit × DataW H → Nat
  | (.string bytes, d) => bytes.length + uptoBulk d + 1
  | (_, d) => uptoBulk d + 1
 end
def uptoSmall : (H : Type) → List (DataW H) → Bool := fun _ ds => decide (uptoBulkAll ds ≤ 1048576)
def OpenSpec.upto (s : _root_.Go.ChangeSpec) : _root_.Go.OpenSpec := { _root_.Go.OpenSpec.ofChange s with cond := some uptoSmall }

/-- 'dailieslaw02.GolombApart', WHERE WHAT IT READS IS OF BULK AT MOST 1048576: true; the input reads as it did. -/
def golombApartUptoRow : OpenClaim := { program := "ytakmkjdmonmilaadoor", sum := "6a87324b5a9fec1ab0c1737da5aceceae3f6f3dea1781c9ee5fdd91771e6c1bc", func := "dailies/dailieslaw02.GolombApart", spec := "golombApart", named := ["dailies/golomb.rates"], apart := false, laid := [("dailies/golomb.rates", laid_dailies_golomb_rates)], narrowed := true }
def GolombApartUptoSaid : Prop := golombApartUptoRow.holds Tryd.pinned (OpenSpec.upto golombApartSpec)

/-- 'dailieslaw02.GolombRows', WHERE WHAT IT READS IS OF BULK AT MOST 1048576: true; the input reads as it did. -/
def golombRowsUptoRow : OpenClaim := { program := "ytakmkjdmonmilaadoor", sum := "6a87324b5a9fec1ab0c1737da5aceceae3f6f3dea1781c9ee5fdd91771e6c1bc", func := "dailies/dailieslaw02.GolombRows", spec := "golombRows", named := ["dailies/golomb.rates"], apart := false, laid := [("dailies/golomb.rates", laid_dailies_golomb_rates)], narrowed := true }
def GolombRowsUptoSaid : Prop := golombRowsUptoRow.holds Tryd.pinned (OpenSpec.upto golombRowsSpec)

/-- 'dailieslaw02.GolombFolds', WHERE WHAT IT READS IS OF BULK AT MOST 1048576: true; the input reads as it did. -/
def golombFoldsUptoRow : OpenClaim := { program := "ytakmkjdmonmilaadoor", sum := "6a87324b5a9fec1ab0c1737da5aceceae3f6f3dea1781c9ee5fdd91771e6c1bc", func := "dailies/dailieslaw02.GolombFolds", spec := "golombFolds", named := ["dailies/golomb.rates"], apart := false, laid := [("dailies/golomb.rates", laid_dailies_golomb_rates)], narrowed := true }
def GolombFoldsUptoSaid : Prop := golombFoldsUptoRow.holds Tryd.pinned (OpenSpec.upto golombFoldsSpec)

/-- 'dailieslaw02.GolombBack', WHERE WHAT IT READS IS OF BULK AT MOST 1048576: true; the input reads as it did. -/
def golombBackUptoRow : OpenClaim := { program := "ytakmkjdmonmilaadoor", sum := "6a87324b5a9fec1ab0c1737da5aceceae3f6f3dea1781c9ee5fdd91771e6c1bc", func := "dailies/dailieslaw02.GolombBack", spec := "golombBack", named := ["dailies/golomb.rates"], apart := false, laid := [("dailies/golomb.rates", laid_dailies_golomb_rates)], narrowed := true }
def GolombBackUptoSaid : Prop := golombBackUptoRow.holds Tryd.pinned (OpenSpec.upto golombBackSpec)

/-- 'dailieslaw02.GolombAgain', WHERE WHAT IT READS IS OF BULK AT MOST 1048576: true; the input reads as it did. -/
def golombAgainUptoRow : OpenClaim := { program := "ytakmkjdmonmilaadoor", sum := "6a87324b5a9fec1ab0c1737da5aceceae3f6f3dea1781c9ee5fdd91771e6c1bc", func := "dailies/dailieslaw02.GolombAgain", spec := "golombAgain", named := ["dailies/golomb.rates"], apart := false, laid := [("dailies/golomb.rates", laid_dailies_golomb_rates)], narrowed := true }
def GolombAgainUptoSaid : Prop := golombAgainUptoRow.holds Tryd.pinned (OpenSpec.upto golombAgainSpec)

/-- 'dailieslaw02.GolombRuns', WHERE WHAT IT READS IS OF BULK AT MOST 1048576: true; the input reads as it did. -/
def golombRunsUptoRow : OpenClaim := { program := "ytakmkjdmonmilaadoor", sum := "6a87324b5a9fec1ab0c1737da5aceceae3f6f3dea1781c9ee5fdd91771e6c1bc", func := "dailies/dailieslaw02.GolombRuns", spec := "golombRuns", named := ["dailies/golomb.rates"], apart := false, laid := [("dailies/golomb.rates", laid_dailies_golomb_rates)], narrowed := true }
def GolombRunsUptoSaid : Prop := golombRunsUptoRow.holds Tryd.pinned (OpenSpec.upto golombRunsSpec)

/-- 'dailieslaw02.GolombPlays', WHERE WHAT IT READS IS OF BULK AT MOST 1048576: true; the input reads as it did. -/
def golombPlaysUptoRow : OpenClaim := { program := "ytakmkjdmonmilaadoor", sum := "6a87324b5a9fec1ab0c1737da5aceceae3f6f3dea1781c9ee5fdd91771e6c1bc", func := "dailies/dailieslaw02.GolombPlays", spec := "golombPlays", named := ["dailies/golomb.rates"], apart := false, laid := [("dailies/golomb.rates", laid_dailies_golomb_rates)], narrowed := true }
def GolombPlaysUptoSaid : Prop := golombPlaysUptoRow.holds Tryd.pinned (OpenSpec.upto golombPlaysSpec)

end Rows
end Go.Proofs.YtakmkjdmonmilaaDoor
