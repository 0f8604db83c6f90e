-- Laid by a program of this session (wip/tools/prx.py), over the kit's printer of walks; Lean checks it.
import Derived.Test.YthpkdephkhcgmaaPPnx0
import Derived.Test.YthpkdephkhcgmaaPPnx1
namespace Go.Proofs.Ythpkdephkhcgmaa.PPn
open Go.RowKit Go.Proofs.YthpkdephkhcgmaaW.PrintWords Go.Proofs.YthpkdephkhcgmaaW.PrintLast Go.Proofs.YthpkdephkhcgmaaW.PrintMore
set_option linter.unusedVariables false
set_option linter.unusedSimpArgs false

end Go.Proofs.Ythpkdephkhcgmaa.PPn
