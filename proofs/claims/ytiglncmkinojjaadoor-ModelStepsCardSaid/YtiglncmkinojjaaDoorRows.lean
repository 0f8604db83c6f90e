/-
  NARROWER THAN 'FOR EVERY INPUT', by the rows' own cells (each row's printed sentence says how): ModelNear: laid · ModelFar: laid · ModelLearns: laid · ModelTurned: laid · ModelSteps: laid · ModelAlike: laid.
  DERIVED. THE GIVEN ROWS OF THIS SEAT. 6 by the template 'for every input the law returns true; each argument reads behind the call as it read before'; 0 by the template 'total and deterministic' (their statements: YtiglncmkinojjaaDoorTotals.lean).
  GIVEN WITH THE SEED: the statements are not yours to turn. If you find one false, say at which input.
  Laid BY PROGRAM, IN A SANDBOX (cutbox-rows.mjs): the forced cells as the released guide's own fill.sh prints them over the translation c9c1172b1b3832d5… (all of the seat's roots in one cut). By AI agents, Wed Nov 11 2026. No macro, syntax, notation, axiom, sorry.
-/
import Derived.Test.YtiglncmkinojjaaDoorChecked
import GoSem.Claim
import GoSem.ClaimJoined
import GoSem.ClaimMapViews
import Derived.JoinedTies
import Derived.KernelRfl
namespace Go.Proofs.YtiglncmkinojjaaDoor
/- THE CELL 'sum', in the pinned program and in every row, IS THE sha256 OF THE DUMP (.gsa) THAT YtiglncmkinojjaaDoorProg.lean LOADS. Nothing in Lean hashes anything: it is a label: what it is worth is what the hold of that sum in a sandbox is worth. -/
noncomputable def Tryd.pinned : Pinned := { name := "ytiglncmkinojjaadoor", sum := "c9c1172b1b3832d5fd61b9aa5ad91290b837f0506fd1c6df3bef780f6699e1a9", checked := Tryd.checked }
namespace Rows
def none {H : Type} : Left H := { results := [], args := [] }

/- WHAT THE LISTED PACKAGE-LEVEL VARIABLES READ AS WHEN THE CALL BEGINS. Each datum BY PROGRAM (the guide's laid-datum.mjs) off the statement by which the dump's own 'gosem.cut.vars' lays the variable. In a bare row this is a premise. The card (YtiglncmkinojjaaDoorCards.lean) ties it to the program's text. -/
def laid_dailies_model_starts {H : Type} : DataW H := .agg [.agg [.lit (.int .i64 6), .lit (.int .i64 19), .lit (.int .i64 72)], .agg [.lit (.int .i64 18), .lit (.int .i64 67), .lit (.int .i64 276)]]
def laid_dailies_model_rises {H : Type} : DataW H := .agg [.lit (.int .i64 3), .lit (.int .i64 5), .lit (.int .i64 7)]

/-- 'dailieslaw09.ModelNear': WHATEVER THE INPUT: true; the input reads as it did. -/
def modelNearSpec : ChangeSpec := { name := "modelNear", fn := fun _ => fun
  | [d1, d2, d3] => { results := [.lit (.bool true)], args := [d1, d2, d3] }
  | _ => none }
def modelNearRow : OpenClaim := { program := "ytiglncmkinojjaadoor", sum := "c9c1172b1b3832d5fd61b9aa5ad91290b837f0506fd1c6df3bef780f6699e1a9", func := "dailies/dailieslaw09.ModelNear", spec := "modelNear", named := ["dailies/model.starts", "dailies/model.rises"], apart := false, laid := [("dailies/model.starts", laid_dailies_model_starts), ("dailies/model.rises", laid_dailies_model_rises)] }
def ModelNearSaid : Prop := modelNearRow.holds Tryd.pinned (OpenSpec.ofChange modelNearSpec)

/-- ITS FALSE NEIGHBOUR: 'it returns false'. Refute it at one input. -/
def modelNearWrong : ChangeSpec := { name := "modelNear", fn := fun _ => fun
  | [d1, d2, d3] => { results := [.lit (.bool false)], args := [d1, d2, d3] }
  | _ => none }
def ModelNearWrongFalsely : Prop := modelNearRow.holds Tryd.pinned (OpenSpec.ofChange modelNearWrong)

/-- 'dailieslaw09.ModelFar': WHATEVER THE INPUT: true; the input reads as it did. -/
def modelFarSpec : ChangeSpec := { name := "modelFar", fn := fun _ => fun
  | [d1, d2, d3] => { results := [.lit (.bool true)], args := [d1, d2, d3] }
  | _ => none }
def modelFarRow : OpenClaim := { program := "ytiglncmkinojjaadoor", sum := "c9c1172b1b3832d5fd61b9aa5ad91290b837f0506fd1c6df3bef780f6699e1a9", func := "dailies/dailieslaw09.ModelFar", spec := "modelFar", named := ["dailies/model.starts", "dailies/model.rises"], apart := false, laid := [("dailies/model.starts", laid_dailies_model_starts), ("dailies/model.rises", laid_dailies_model_rises)] }
def ModelFarSaid : Prop := modelFarRow.holds Tryd.pinned (OpenSpec.ofChange modelFarSpec)

/-- ITS FALSE NEIGHBOUR: 'it returns false'. Refute it at one input. -/
def modelFarWrong : ChangeSpec := { name := "modelFar", fn := fun _ => fun
  | [d1, d2, d3] => { results := [.lit (.bool false)], args := [d1, d2, d3] }
  | _ => none }
def ModelFarWrongFalsely : Prop := modelFarRow.holds Tryd.pinned (OpenSpec.ofChange modelFarWrong)

/-- 'dailieslaw09.ModelLearns': WHATEVER THE INPUT: true; the input reads as it did. -/
def modelLearnsSpec : ChangeSpec := { name := "modelLearns", fn := fun _ => fun
  | [d1, d2] => { results := [.lit (.bool true)], args := [d1, d2] }
  | _ => none }
def modelLearnsRow : OpenClaim := { program := "ytiglncmkinojjaadoor", sum := "c9c1172b1b3832d5fd61b9aa5ad91290b837f0506fd1c6df3bef780f6699e1a9", func := "dailies/dailieslaw09.ModelLearns", spec := "modelLearns", named := ["dailies/model.starts", "dailies/model.rises"], apart := false, laid := [("dailies/model.starts", laid_dailies_model_starts), ("dailies/model.rises", laid_dailies_model_rises)] }
def ModelLearnsSaid : Prop := modelLearnsRow.holds Tryd.pinned (OpenSpec.ofChange modelLearnsSpec)

/-- ITS FALSE NEIGHBOUR: 'it returns false'. Refute it at one input. -/
def modelLearnsWrong : ChangeSpec := { name := "modelLearns", fn := fun _ => fun
  | [d1, d2] => { results := [.lit (.bool false)], args := [d1, d2] }
  | _ => none }
def ModelLearnsWrongFalsely : Prop := modelLearnsRow.holds Tryd.pinned (OpenSpec.ofChange modelLearnsWrong)

/-- 'dailieslaw09.ModelTurned': WHATEVER THE INPUT: true; the input reads as it did. -/
def modelTurnedSpec : ChangeSpec := { name := "modelTurned", fn := fun _ => fun
  | [d1, d2] => { results := [.lit (.bool true)], args := [d1, d2] }
  | _ => none }
def modelTurnedRow : OpenClaim := { program := "ytiglncmkinojjaadoor", sum := "c9c1172b1b3832d5fd61b9aa5ad91290b837f0506fd1c6df3bef780f6699e1a9", func := "dailies/dailieslaw09.ModelTurned", spec := "modelTurned", named := ["dailies/model.starts", "dailies/model.rises"], apart := false, laid := [("dailies/model.starts", laid_dailies_model_starts), ("dailies/model.rises", laid_dailies_model_rises)] }
def ModelTurnedSaid : Prop := modelTurnedRow.holds Tryd.pinned (OpenSpec.ofChange modelTurnedSpec)

/-- ITS FALSE NEIGHBOUR: 'it returns false'. Refute it at one input. -/
def modelTurnedWrong : ChangeSpec := { name := "modelTurned", fn := fun _ => fun
  | [d1, d2] => { results := [.lit (.bool false)], args := [d1, d2] }
  | _ => none }
def ModelTurnedWrongFalsely : Prop := modelTurnedRow.holds Tryd.pinned (OpenSpec.ofChange modelTurnedWrong)

/-- 'dailieslaw09.ModelSteps': WHATEVER THE INPUT: true; the input reads as it did. -/
def modelStepsSpec : ChangeSpec := { name := "modelSteps", fn := fun _ => fun
  | [d1, d2, d3] => { results := [.lit (.bool true)], args := [d1, d2, d3] }
  | _ => none }
def modelStepsRow : OpenClaim := { program := "ytiglncmkinojjaadoor", sum := "c9c1172b1b3832d5fd61b9aa5ad91290b837f0506fd1c6df3bef780f6699e1a9", func := "dailies/dailieslaw09.ModelSteps", spec := "modelSteps", named := ["dailies/model.starts", "dailies/model.rises"], apart := false, laid := [("dailies/model.starts", laid_dailies_model_starts), ("dailies/model.rises", laid_dailies_model_rises)] }
def ModelStepsSaid : Prop := modelStepsRow.holds Tryd.pinned (OpenSpec.ofChange modelStepsSpec)

/-- ITS FALSE NEIGHBOUR: 'it returns false'. Refute it at one input. -/
def modelStepsWrong : ChangeSpec := { name := "modelSteps", fn := fun _ => fun
  | [d1, d2, d3] => { results := [.lit (.bool false)], args := [d1, d2, d3] }
  | _ => none }
def ModelStepsWrongFalsely : Prop := modelStepsRow.holds Tryd.pinned (OpenSpec.ofChange modelStepsWrong)

/-- 'dailieslaw09.ModelAlike': WHATEVER THE INPUT: true; the input reads as it did. -/
def modelAlikeSpec : ChangeSpec := { name := "modelAlike", fn := fun _ => fun
  | [d1, d2, d3] => { results := [.lit (.bool true)], args := [d1, d2, d3] }
  | _ => none }
def modelAlikeRow : OpenClaim := { program := "ytiglncmkinojjaadoor", sum := "c9c1172b1b3832d5fd61b9aa5ad91290b837f0506fd1c6df3bef780f6699e1a9", func := "dailies/dailieslaw09.ModelAlike", spec := "modelAlike", named := ["dailies/model.starts", "dailies/model.rises"], apart := false, laid := [("dailies/model.starts", laid_dailies_model_starts), ("dailies/model.rises", laid_dailies_model_rises)] }
def ModelAlikeSaid : Prop := modelAlikeRow.holds Tryd.pinned (OpenSpec.ofChange modelAlikeSpec)

/-- ITS FALSE NEIGHBOUR: 'it returns false'. Refute it at one input. -/
def modelAlikeWrong : ChangeSpec := { name := "modelAlike", fn := fun _ => fun
  | [d1, d2, d3] => { results := [.lit (.bool false)], args := [d1, d2, d3] }
  | _ => none }
def ModelAlikeWrongFalsely : Prop := modelAlikeRow.holds Tryd.pinned (OpenSpec.ofChange modelAlikeWrong)

/- THE SECOND FORM. 'bulk': how many values and letters a reading holds, each counted each time it is reached (what is shared counts as often as it is met; a slice's spare places count too). A statement '..UptoSaid' is the law's where the arguments, and the package variables that the reading takes, are together of bulk at most 1048576: NARROWER than '..Said'. Prove '..Said' where nothing that the law and all that it calls make is longer than what came in: it says more and counts as full. Else prove '..UptoSaid'. A law counts once. -/
mutual
def uptoBulk {H : Type} : DataW H → Nat
  | .lit (.string bytes) => bytes.length + 1
  | .lit _ => 1
  | .nil => 1
  | .ptr d => uptoBulk d + 1
  | .slice elems spare => uptoBulkAll elems + uptoBulkAll spare + 1
  | .agg parts => uptoBulkAll parts + 1
  | .iface _ d => uptoBulk d + 1
  | .map entries => uptoBulkEntries entries + 1
  | .held _ => 1
def uptoBulkAll {H : Type} : List (DataW H) → Nat
  | [] => 0
  | d :: r => uptoBulk d + uptoBulkAll r
def uptoBulkEntries {H : Type} : List (Lit × DataW H) → Nat
  | [] => 0
  | x :: r => uptoBulkEntry x + uptoBulkEntries r
def uptoBulkEntry {H : Type} : Lit × DataW H → Nat
  | (.string bytes, d) => bytes.length + uptoBulk d + 1
  | (_, d) => uptoBulk d + 1
 end
def uptoSmall : (H : Type) → List (DataW H) → Bool := fun _ ds => decide (uptoBulkAll ds ≤ 1048576)
def OpenSpec.upto (s : _root_.Go.ChangeSpec) : _root_.Go.OpenSpec := { _root_.Go.OpenSpec.ofChange s with cond := some uptoSmall }

/-- 'dailieslaw09.ModelNear', WHERE WHAT IT READS IS OF BULK AT MOST 1048576: true; the input reads as it did. -/
def modelNearUptoRow : OpenClaim := { program := "ytiglncmkinojjaadoor", sum := "c9c1172b1b3832d5fd61b9aa5ad91290b837f0506fd1c6df3bef780f6699e1a9", func := "dailies/dailieslaw09.ModelNear", spec := "modelNear", named := ["dailies/model.starts", "dailies/model.rises"], apart := false, laid := [("dailies/model.starts", laid_dailies_model_starts), ("dailies/model.rises", laid_dailies_model_rises)], narrowed := true }
def ModelNearUptoSaid : Prop := modelNearUptoRow.holds Tryd.pinned (OpenSpec.upto modelNearSpec)

/-- 'dailieslaw09.ModelFar', WHERE WHAT IT READS IS OF BULK AT MOST 1048576: true; the input reads as it did. -/
def modelFarUptoRow : OpenClaim := { program := "ytiglncmkinojjaadoor", sum := "c9c1172b1b3832d5fd61b9aa5ad91290b837f0506fd1c6df3bef780f6699e1a9", func := "dailies/dailieslaw09.ModelFar", spec := "modelFar", named := ["dailies/model.starts", "dailies/model.rises"], apart := false, laid := [("dailies/model.starts", laid_dailies_model_starts), ("dailies/model.rises", laid_dailies_model_rises)], narrowed := true }
def ModelFarUptoSaid : Prop := modelFarUptoRow.holds Tryd.pinned (OpenSpec.upto modelFarSpec)

/-- 'dailieslaw09.ModelLearns', WHERE WHAT IT READS IS OF BULK AT MOST 1048576: true; the input reads as it did. -/
def modelLearnsUptoRow : OpenClaim := { program := "ytiglncmkinojjaadoor", sum := "c9c1172b1b3832d5fd61b9aa5ad91290b837f0506fd1c6df3bef780f6699e1a9", func := "dailies/dailieslaw09.ModelLearns", spec := "modelLearns", named := ["dailies/model.starts", "dailies/model.rises"], apart := false, laid := [("dailies/model.starts", laid_dailies_model_starts), ("dailies/model.rises", laid_dailies_model_rises)], narrowed := true }
def ModelLearnsUptoSaid : Prop := modelLearnsUptoRow.holds Tryd.pinned (OpenSpec.upto modelLearnsSpec)

/-- 'dailieslaw09.ModelTurned', WHERE WHAT IT READS IS OF BULK AT MOST 1048576: true; the input reads as it did. -/
def modelTurnedUptoRow : OpenClaim := { program := "ytiglncmkinojjaadoor", sum := "c9c1172b1b3832d5fd61b9aa5ad91290b837f0506fd1c6df3bef780f6699e1a9", func := "dailies/dailieslaw09.ModelTurned", spec := "modelTurned", named := ["dailies/model.starts", "dailies/model.rises"], apart := false, laid := [("dailies/model.starts", laid_dailies_model_starts), ("dailies/model.rises", laid_dailies_model_rises)], narrowed := true }
def ModelTurnedUptoSaid : Prop := modelTurnedUptoRow.holds Tryd.pinned (OpenSpec.upto modelTurnedSpec)

/-- 'dailieslaw09.ModelSteps', WHERE WHAT IT READS IS OF BULK AT MOST 1048576: true; the input reads as it did. -/
def modelStepsUptoRow : OpenClaim := { program := "ytiglncmkinojjaadoor", sum := "c9c1172b1b3832d5fd61b9aa5ad91290b837f0506fd1c6df3bef780f6699e1a9", func := "dailies/dailieslaw09.ModelSteps", spec := "modelSteps", named := ["dailies/model.starts", "dailies/model.rises"], apart := false, laid := [("dailies/model.starts", laid_dailies_model_starts), ("dailies/model.rises", laid_dailies_model_rises)], narrowed := true }
def ModelStepsUptoSaid : Prop := modelStepsUptoRow.holds Tryd.pinned (OpenSpec.upto modelStepsSpec)

/-- 'dailieslaw09.ModelAlike', WHERE WHAT IT READS IS OF BULK AT MOST 1048576: true; the input reads as it did. -/
def modelAlikeUptoRow : OpenClaim := { program := "ytiglncmkinojjaadoor", sum := "c9c1172b1b3832d5fd61b9aa5ad91290b837f0506fd1c6df3bef780f6699e1a9", func := "dailies/dailieslaw09.ModelAlike", spec := "modelAlike", named := ["dailies/model.starts", "dailies/model.rises"], apart := false, laid := [("dailies/model.starts", laid_dailies_model_starts), ("dailies/model.rises", laid_dailies_model_rises)], narrowed := true }
def ModelAlikeUptoSaid : Prop := modelAlikeUptoRow.holds Tryd.pinned (OpenSpec.upto modelAlikeSpec)

end Rows
end Go.Proofs.YtiglncmkinojjaaDoor
