import Derived.Test.YtdoikehkibefpaaRowC
import Derived.Test.YtdoikehkibefpaaSteps
import Derived.Test.YtdoikehkibefpaaPlaneCc
/-! A frame and an error, answered. -/
namespace Go.Proofs.Ytdoikehkibefpaa
set_option linter.unusedSimpArgs false
set_option linter.unusedVariables false
open Go Go.RowKit

abbrev rcutPost (w : World) (r1 r2 r3 : Int) (r4 : Bool) (L : List (List Int)) (r6 : Int) : Ending → World → Prop := fun e w' => ∃ v, e = .returned (.tuple #[.agg #[.int .i64 r1, .int .i64 r2, .int .i64 r3, .bool r4, v], .int .i64 r6]) ∧ St (top w) [mat 53 72 .u16 v L] w'

end Go.Proofs.Ytdoikehkibefpaa
