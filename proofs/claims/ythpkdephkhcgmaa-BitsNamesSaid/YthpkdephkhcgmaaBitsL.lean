import Derived.Test.YthpkdephkhcgmaaBitsC
import Derived.Test.YthpkdephkhcgmaaArg
namespace Go.Proofs.Ythpkdephkhcgmaa
set_option linter.unusedSimpArgs false
set_option linter.unusedVariables false
open Go Go.RowKit

theorem bitsNames_walk (W : World) :
    Calls Try.prog 3 #[] W fun e W' => e = .returned (.bool true) ∧ Below W.heap.size W W' := by
  go_enter Try.func3, Try.ntmps3
  go_wp2_with (go_at_call 8; go_must (with_reducible refine (alive_ok (top W) [] _ (St.top W)).mono ?_); rintro e w1 ⟨rfl, hS⟩)
  go_ret
  exact ⟨rfl, hS.below⟩

end Go.Proofs.Ythpkdephkhcgmaa
