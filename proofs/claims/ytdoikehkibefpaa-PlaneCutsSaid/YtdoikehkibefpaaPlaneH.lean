import Derived.Test.YtdoikehkibefpaaProg
import Derived.Test.YtdoikehkibefpaaWWords
import Derived.Test.YtdoikehkibefpaaPlaneG
/-! The statement's own rectangles: place, part, whole. -/
namespace Go.Proofs.Ytdoikehkibefpaa
set_option linter.unusedSimpArgs false
set_option linter.unusedVariables false
open Go Go.RowKit Go.Proofs.YtdoikehkibefpaaW.PrintWords

def in64 (c : Int) : Prop := -9223372036854775808 ≤ c ∧ c ≤ 9223372036854775807
instance (c : Int) : Decidable (in64 c) := by unfold in64; infer_instance
/-- Which of n the raw number c speaks of. -/
def placeN (c n : Int) : Int := (if c < 0 then -(c + 1) else c) % n
/-- What part says. -/
def partV (W H x y : Int) : Int × Int × Int × Int := (placeN x W, placeN y H, 1 + placeN (Int.tdiv x 4096) (W - placeN x W), 1 + placeN (Int.tdiv y 4096) (H - placeN y H))

/-- What whole says. -/
def wholeV (W H x y : Int) : Int × Int × Int × Int :=
  let r := partV W H x y
  let X := r.1 - r.1 % 2
  let w := r.2.2.1 + r.1 % 2
  (X, r.2.1, if w % 2 = 1 ∧ X + w < W then w + 1 else w, r.2.2.2)

end Go.Proofs.Ytdoikehkibefpaa
