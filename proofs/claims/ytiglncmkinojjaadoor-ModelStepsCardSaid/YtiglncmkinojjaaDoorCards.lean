/-
  DERIVED. GIVEN WITH THE SEED: THE CARDS: each row of YtiglncmkinojjaaDoorRows.lean that lists a variable, with what it lists TIED to the program's text (the seventh form; the later family's looks); each row that meets fmt, with fmt's text TOLD by the authors' own Lean function (tested against real Go, not proved from fmt's source: count such statements apart). THE CARD IS WHAT COUNTS. Prove the row's statement (the work); the ties are given (YtiglncmkinojjaaDoorTie.lean); close each card by the builder's one call (the guide's Derived/Test/ToyasCard.lean, 'card_holds'). Laid BY PROGRAM, IN A SANDBOX (cutbox-door.mjs). By AI agents, Wed Nov 11 2026. No macro, syntax, notation, axiom, sorry.
-/
import Derived.Test.YtiglncmkinojjaaDoorRows
import GoSem.ClaimSeven
namespace Go.Proofs.YtiglncmkinojjaaDoor
namespace Rows

/-- THE TIED CARD OF 'dailieslaw09.ModelNear'. -/
def modelNearCard : Claim7 := { stood := { row := modelNearRow, standIns := [], harness := (true, "c1c468bf4ae0b89da9a57ca355e2993813cc56de11d869b69ceb6416a3c87e56"), looks := false }, kinds := [], alts := [], laidByText := true, laidKinds := [.data, .data], laidTests := true, laidLooks := .later }
def ModelNearCardSaid : Prop := Claim7.holds Tryd.pinned (.plain (OpenSpec.ofChange modelNearSpec)) modelNearCard

/-- THE TIED CARD OF 'dailieslaw09.ModelFar'. -/
def modelFarCard : Claim7 := { stood := { row := modelFarRow, standIns := [], harness := (true, "c1c468bf4ae0b89da9a57ca355e2993813cc56de11d869b69ceb6416a3c87e56"), looks := false }, kinds := [], alts := [], laidByText := true, laidKinds := [.data, .data], laidTests := true, laidLooks := .later }
def ModelFarCardSaid : Prop := Claim7.holds Tryd.pinned (.plain (OpenSpec.ofChange modelFarSpec)) modelFarCard

/-- THE TIED CARD OF 'dailieslaw09.ModelLearns'. -/
def modelLearnsCard : Claim7 := { stood := { row := modelLearnsRow, standIns := [], harness := (true, "c1c468bf4ae0b89da9a57ca355e2993813cc56de11d869b69ceb6416a3c87e56"), looks := false }, kinds := [], alts := [], laidByText := true, laidKinds := [.data, .data], laidTests := true, laidLooks := .later }
def ModelLearnsCardSaid : Prop := Claim7.holds Tryd.pinned (.plain (OpenSpec.ofChange modelLearnsSpec)) modelLearnsCard

/-- THE TIED CARD OF 'dailieslaw09.ModelTurned'. -/
def modelTurnedCard : Claim7 := { stood := { row := modelTurnedRow, standIns := [], harness := (true, "c1c468bf4ae0b89da9a57ca355e2993813cc56de11d869b69ceb6416a3c87e56"), looks := false }, kinds := [], alts := [], laidByText := true, laidKinds := [.data, .data], laidTests := true, laidLooks := .later }
def ModelTurnedCardSaid : Prop := Claim7.holds Tryd.pinned (.plain (OpenSpec.ofChange modelTurnedSpec)) modelTurnedCard

/-- THE TIED CARD OF 'dailieslaw09.ModelSteps'. -/
def modelStepsCard : Claim7 := { stood := { row := modelStepsRow, standIns := [], harness := (true, "c1c468bf4ae0b89da9a57ca355e2993813cc56de11d869b69ceb6416a3c87e56"), looks := false }, kinds := [], alts := [], laidByText := true, laidKinds := [.data, .data], laidTests := true, laidLooks := .later }
def ModelStepsCardSaid : Prop := Claim7.holds Tryd.pinned (.plain (OpenSpec.ofChange modelStepsSpec)) modelStepsCard

/-- THE TIED CARD OF 'dailieslaw09.ModelAlike'. -/
def modelAlikeCard : Claim7 := { stood := { row := modelAlikeRow, standIns := [], harness := (true, "c1c468bf4ae0b89da9a57ca355e2993813cc56de11d869b69ceb6416a3c87e56"), looks := false }, kinds := [], alts := [], laidByText := true, laidKinds := [.data, .data], laidTests := true, laidLooks := .later }
def ModelAlikeCardSaid : Prop := Claim7.holds Tryd.pinned (.plain (OpenSpec.ofChange modelAlikeSpec)) modelAlikeCard

/-- THE SECOND FORM's CARD OF 'dailieslaw09.ModelNear'. -/
def modelNearUptoCard : Claim7 := { stood := { row := modelNearUptoRow, standIns := [], harness := (true, "c1c468bf4ae0b89da9a57ca355e2993813cc56de11d869b69ceb6416a3c87e56"), looks := false }, kinds := [], alts := [], laidByText := true, laidKinds := [.data, .data], laidTests := true, laidLooks := .later }
def ModelNearUptoCardSaid : Prop := Claim7.holds Tryd.pinned (.plain (OpenSpec.upto modelNearSpec)) modelNearUptoCard

/-- THE SECOND FORM's CARD OF 'dailieslaw09.ModelFar'. -/
def modelFarUptoCard : Claim7 := { stood := { row := modelFarUptoRow, standIns := [], harness := (true, "c1c468bf4ae0b89da9a57ca355e2993813cc56de11d869b69ceb6416a3c87e56"), looks := false }, kinds := [], alts := [], laidByText := true, laidKinds := [.data, .data], laidTests := true, laidLooks := .later }
def ModelFarUptoCardSaid : Prop := Claim7.holds Tryd.pinned (.plain (OpenSpec.upto modelFarSpec)) modelFarUptoCard

/-- THE SECOND FORM's CARD OF 'dailieslaw09.ModelLearns'. -/
def modelLearnsUptoCard : Claim7 := { stood := { row := modelLearnsUptoRow, standIns := [], harness := (true, "c1c468bf4ae0b89da9a57ca355e2993813cc56de11d869b69ceb6416a3c87e56"), looks := false }, kinds := [], alts := [], laidByText := true, laidKinds := [.data, .data], laidTests := true, laidLooks := .later }
def ModelLearnsUptoCardSaid : Prop := Claim7.holds Tryd.pinned (.plain (OpenSpec.upto modelLearnsSpec)) modelLearnsUptoCard

/-- THE SECOND FORM's CARD OF 'dailieslaw09.ModelTurned'. -/
def modelTurnedUptoCard : Claim7 := { stood := { row := modelTurnedUptoRow, standIns := [], harness := (true, "c1c468bf4ae0b89da9a57ca355e2993813cc56de11d869b69ceb6416a3c87e56"), looks := false }, kinds := [], alts := [], laidByText := true, laidKinds := [.data, .data], laidTests := true, laidLooks := .later }
def ModelTurnedUptoCardSaid : Prop := Claim7.holds Tryd.pinned (.plain (OpenSpec.upto modelTurnedSpec)) modelTurnedUptoCard

/-- THE SECOND FORM's CARD OF 'dailieslaw09.ModelSteps'. -/
def modelStepsUptoCard : Claim7 := { stood := { row := modelStepsUptoRow, standIns := [], harness := (true, "c1c468bf4ae0b89da9a57ca355e2993813cc56de11d869b69ceb6416a3c87e56"), looks := false }, kinds := [], alts := [], laidByText := true, laidKinds := [.data, .data], laidTests := true, laidLooks := .later }
def ModelStepsUptoCardSaid : Prop := Claim7.holds Tryd.pinned (.plain (OpenSpec.upto modelStepsSpec)) modelStepsUptoCard

/-- THE SECOND FORM's CARD OF 'dailieslaw09.ModelAlike'. -/
def modelAlikeUptoCard : Claim7 := { stood := { row := modelAlikeUptoRow, standIns := [], harness := (true, "c1c468bf4ae0b89da9a57ca355e2993813cc56de11d869b69ceb6416a3c87e56"), looks := false }, kinds := [], alts := [], laidByText := true, laidKinds := [.data, .data], laidTests := true, laidLooks := .later }
def ModelAlikeUptoCardSaid : Prop := Claim7.holds Tryd.pinned (.plain (OpenSpec.upto modelAlikeSpec)) modelAlikeUptoCard
end Rows
end Go.Proofs.YtiglncmkinojjaaDoor
