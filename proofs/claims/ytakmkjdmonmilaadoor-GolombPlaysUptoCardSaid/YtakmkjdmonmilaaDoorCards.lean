/-
  DERIVED. GIVEN WITH THE SEED: THE CARDS: each row of YtakmkjdmonmilaaDoorRows.lean that lists a variable, with what it lists TIED to the program's text (the seventh form; the later family's looks); each row that meets fmt, with fmt's text TOLD by the authors' own Lean function (tested against real Go, not proved from fmt's source: count such statements apart). THE CARD IS WHAT COUNTS. Prove the row's statement (the work); the ties are given (YtakmkjdmonmilaaDoorTie.lean); close each card by the builder's one call (the guide's Derived/Test/ToyasCard.lean, 'card_holds'). Laid BY PROGRAM, IN A SANDBOX (cutbox-door.mjs). By AI agents, Wed Nov 11 2026. No macro, syntax, notation, axiom, sorry.
-/
import Derived.Test.YtakmkjdmonmilaaDoorRows
import GoSem.ClaimSeven
namespace Go.Proofs.YtakmkjdmonmilaaDoor
namespace Rows

/-- THE TIED CARD OF 'dailieslaw02.GolombApart'. -/
def golombApartCard : Claim7 := { stood := { row := golombApartRow, standIns := [], harness := (true, "89c9ce4ab98cba37ecf6bb55efc1e26f320b5ac4b6ecd8d6996a4f28d285c45c"), looks := false }, kinds := [], alts := [], laidByText := true, laidKinds := [.data], laidTests := true, laidLooks := .later }
def GolombApartCardSaid : Prop := Claim7.holds Tryd.pinned (.plain (OpenSpec.ofChange golombApartSpec)) golombApartCard

/-- THE TIED CARD OF 'dailieslaw02.GolombRows'. -/
def golombRowsCard : Claim7 := { stood := { row := golombRowsRow, standIns := [], harness := (true, "89c9ce4ab98cba37ecf6bb55efc1e26f320b5ac4b6ecd8d6996a4f28d285c45c"), looks := false }, kinds := [], alts := [], laidByText := true, laidKinds := [.data], laidTests := true, laidLooks := .later }
def GolombRowsCardSaid : Prop := Claim7.holds Tryd.pinned (.plain (OpenSpec.ofChange golombRowsSpec)) golombRowsCard

/-- THE TIED CARD OF 'dailieslaw02.GolombFolds'. -/
def golombFoldsCard : Claim7 := { stood := { row := golombFoldsRow, standIns := [], harness := (true, "89c9ce4ab98cba37ecf6bb55efc1e26f320b5ac4b6ecd8d6996a4f28d285c45c"), looks := false }, kinds := [], alts := [], laidByText := true, laidKinds := [.data], laidTests := true, laidLooks := .later }
def GolombFoldsCardSaid : Prop := Claim7.holds Tryd.pinned (.plain (OpenSpec.ofChange golombFoldsSpec)) golombFoldsCard

/-- THE TIED CARD OF 'dailieslaw02.GolombBack'. -/
def golombBackCard : Claim7 := { stood := { row := golombBackRow, standIns := [], harness := (true, "89c9ce4ab98cba37ecf6bb55efc1e26f320b5ac4b6ecd8d6996a4f28d285c45c"), looks := false }, kinds := [], alts := [], laidByText := true, laidKinds := [.data], laidTests := true, laidLooks := .later }
def GolombBackCardSaid : Prop := Claim7.holds Tryd.pinned (.plain (OpenSpec.ofChange golombBackSpec)) golombBackCard

/-- THE TIED CARD OF 'dailieslaw02.GolombAgain'. -/
def golombAgainCard : Claim7 := { stood := { row := golombAgainRow, standIns := [], harness := (true, "89c9ce4ab98cba37ecf6bb55efc1e26f320b5ac4b6ecd8d6996a4f28d285c45c"), looks := false }, kinds := [], alts := [], laidByText := true, laidKinds := [.data], laidTests := true, laidLooks := .later }
def GolombAgainCardSaid : Prop := Claim7.holds Tryd.pinned (.plain (OpenSpec.ofChange golombAgainSpec)) golombAgainCard

/-- THE TIED CARD OF 'dailieslaw02.GolombRuns'. -/
def golombRunsCard : Claim7 := { stood := { row := golombRunsRow, standIns := [], harness := (true, "89c9ce4ab98cba37ecf6bb55efc1e26f320b5ac4b6ecd8d6996a4f28d285c45c"), looks := false }, kinds := [], alts := [], laidByText := true, laidKinds := [.data], laidTests := true, laidLooks := .later }
def GolombRunsCardSaid : Prop := Claim7.holds Tryd.pinned (.plain (OpenSpec.ofChange golombRunsSpec)) golombRunsCard

/-- THE TIED CARD OF 'dailieslaw02.GolombPlays'. -/
def golombPlaysCard : Claim7 := { stood := { row := golombPlaysRow, standIns := [], harness := (true, "89c9ce4ab98cba37ecf6bb55efc1e26f320b5ac4b6ecd8d6996a4f28d285c45c"), looks := false }, kinds := [], alts := [], laidByText := true, laidKinds := [.data], laidTests := true, laidLooks := .later }
def GolombPlaysCardSaid : Prop := Claim7.holds Tryd.pinned (.plain (OpenSpec.ofChange golombPlaysSpec)) golombPlaysCard

/-- THE SECOND FORM's CARD OF 'dailieslaw02.GolombApart'. -/
def golombApartUptoCard : Claim7 := { stood := { row := golombApartUptoRow, standIns := [], harness := (true, "89c9ce4ab98cba37ecf6bb55efc1e26f320b5ac4b6ecd8d6996a4f28d285c45c"), looks := false }, kinds := [], alts := [], laidByText := true, laidKinds := [.data], laidTests := true, laidLooks := .later }
def GolombApartUptoCardSaid : Prop := Claim7.holds Tryd.pinned (.plain (OpenSpec.upto golombApartSpec)) golombApartUptoCard

/-- THE SECOND FORM's CARD OF 'dailieslaw02.GolombRows'. -/
def golombRowsUptoCard : Claim7 := { stood := { row := golombRowsUptoRow, standIns := [], harness := (true, "89c9ce4ab98cba37ecf6bb55efc1e26f320b5ac4b6ecd8d6996a4f28d285c45c"), looks := false }, kinds := [], alts := [], laidByText := true, laidKinds := [.data], laidTests := true, laidLooks := .later }
def GolombRowsUptoCardSaid : Prop := Claim7.holds Tryd.pinned (.plain (OpenSpec.upto golombRowsSpec)) golombRowsUptoCard

/-- THE SECOND FORM's CARD OF 'dailieslaw02.GolombFolds'. -/
def golombFoldsUptoCard : Claim7 := { stood := { row := golombFoldsUptoRow, standIns := [], harness := (true, "89c9ce4ab98cba37ecf6bb55efc1e26f320b5ac4b6ecd8d6996a4f28d285c45c"), looks := false }, kinds := [], alts := [], laidByText := true, laidKinds := [.data], laidTests := true, laidLooks := .later }
def GolombFoldsUptoCardSaid : Prop := Claim7.holds Tryd.pinned (.plain (OpenSpec.upto golombFoldsSpec)) golombFoldsUptoCard

/-- THE SECOND FORM's CARD OF 'dailieslaw02.GolombBack'. -/
def golombBackUptoCard : Claim7 := { stood := { row := golombBackUptoRow, standIns := [], harness := (true, "89c9ce4ab98cba37ecf6bb55efc1e26f320b5ac4b6ecd8d6996a4f28d285c45c"), looks := false }, kinds := [], alts := [], laidByText := true, laidKinds := [.data], laidTests := true, laidLooks := .later }
def GolombBackUptoCardSaid : Prop := Claim7.holds Tryd.pinned (.plain (OpenSpec.upto golombBackSpec)) golombBackUptoCard

/-- THE SECOND FORM's CARD OF 'dailieslaw02.GolombAgain'. -/
def golombAgainUptoCard : Claim7 := { stood := { row := golombAgainUptoRow, standIns := [], harness := (true, "89c9ce4ab98cba37ecf6bb55efc1e26f320b5ac4b6ecd8d6996a4f28d285c45c"), looks := false }, kinds := [], alts := [], laidByText := true, laidKinds := [.data], laidTests := true, laidLooks := .later }
def GolombAgainUptoCardSaid : Prop := Claim7.holds Tryd.pinned (.plain (OpenSpec.upto golombAgainSpec)) golombAgainUptoCard

/-- THE SECOND FORM's CARD OF 'dailieslaw02.GolombRuns'. -/
def golombRunsUptoCard : Claim7 := { stood := { row := golombRunsUptoRow, standIns := [], harness := (true, "89c9ce4ab98cba37ecf6bb55efc1e26f320b5ac4b6ecd8d6996a4f28d285c45c"), looks := false }, kinds := [], alts := [], laidByText := true, laidKinds := [.data], laidTests := true, laidLooks := .later }
def GolombRunsUptoCardSaid : Prop := Claim7.holds Tryd.pinned (.plain (OpenSpec.upto golombRunsSpec)) golombRunsUptoCard

/-- THE SECOND FORM's CARD OF 'dailieslaw02.GolombPlays'. -/
def golombPlaysUptoCard : Claim7 := { stood := { row := golombPlaysUptoRow, standIns := [], harness := (true, "89c9ce4ab98cba37ecf6bb55efc1e26f320b5ac4b6ecd8d6996a4f28d285c45c"), looks := false }, kinds := [], alts := [], laidByText := true, laidKinds := [.data], laidTests := true, laidLooks := .later }
def GolombPlaysUptoCardSaid : Prop := Claim7.holds Tryd.pinned (.plain (OpenSpec.upto golombPlaysSpec)) golombPlaysUptoCard
end Rows
end Go.Proofs.YtakmkjdmonmilaaDoor
