-- Laid by a program of this session (wip/tools/prx.py), over the kit's printer of walks; Lean checks it.
import Derived.Test.YtnhemnabjlcgeaaProg
import Derived.Below
import Derived.Deep.Draws
import Derived.Deep.AppendLies
import Derived.Maps.AppendAt
import Derived.OwnWalk
import Derived.Laws.BytesArg
import Derived.Laws.MakeOwn
import Derived.Laws.OwnMore
import Derived.Deep.OwnRows
import Derived.Tactics
import Derived.Lib.ConvBytes
import Derived.Laws.Slices
import Derived.WalkKit
import Derived.KernelRfl
import Derived.RowKit3
import Derived.Deep.LoopGhost
import Derived.Deep.QuietTactic
import Derived.BigQuiet
import Derived.WideLaws
import Derived.Deep.DeepCutAuto
import Derived.Deep.CutBlock
import Derived.Deep.RegionHeld3
import Derived.Laws.Rows
import Derived.Lib.AppendStr
import Derived.ArgAppend
import Derived.Laws.IdiomCopy
import Derived.OrdersHeld
import Derived.Laws.BitsLemmas
import Derived.RowKit
import Derived.Test.YtnhemnabjlcgeaaPMore
import Derived.Test.YtnhemnabjlcgeaaWWords
import Derived.Test.YtnhemnabjlcgeaaWLast
import Derived.Test.YtnhemnabjlcgeaaWTab
import Derived.Test.YtnhemnabjlcgeaaWFour
import Derived.Test.YtnhemnabjlcgeaaWQPut
import Derived.Test.YtnhemnabjlcgeaaWApart
import Derived.Test.YtnhemnabjlcgeaaWArr
import Derived.Test.YtnhemnabjlcgeaaWZeros
import Derived.Test.YtnhemnabjlcgeaaWFoot
import Derived.Test.YtnhemnabjlcgeaaWKept
import Derived.Test.YtnhemnabjlcgeaaWShare
import Derived.Test.YtnhemnabjlcgeaaWN
import Derived.Test.YtnhemnabjlcgeaaWFootNe
import Derived.Test.YtnhemnabjlcgeaaWAt
import Derived.Test.YtnhemnabjlcgeaaWEqStruct
import Derived.Test.YtnhemnabjlcgeaaWRepsOne
import Derived.Test.YtnhemnabjlcgeaaWInv
import Derived.Test.YtnhemnabjlcgeaaWInvWords
import Derived.Test.YtnhemnabjlcgeaaWGuard
import Derived.Test.YtnhemnabjlcgeaaWNEv
import Derived.Test.YtnhemnabjlcgeaaWMore
namespace Go.Proofs.Ytnhemnabjlcgeaa.PPa
open Go.RowKit Go.Proofs.YtnhemnabjlcgeaaW.PrintWords Go.Proofs.YtnhemnabjlcgeaaW.PrintLast Go.Proofs.YtnhemnabjlcgeaaW.PrintMore
attribute [local go_sem] max2_int min2_int max_two min_two max_three min_three max_four min_four   -- for this text's walks alone
set_option linter.unusedVariables false
set_option linter.unusedSimpArgs false



def errW : Option Int → Value
 | none => .nilIface
 | some c => .iface 0 (.int .i64 c)
theorem errW_none : errW none = .nilIface := rfl
theorem errW_some (c : Int) : errW (some c) = .iface 0 (.int .i64 c) := rfl

-- the values' own types

end Go.Proofs.Ytnhemnabjlcgeaa.PPa
