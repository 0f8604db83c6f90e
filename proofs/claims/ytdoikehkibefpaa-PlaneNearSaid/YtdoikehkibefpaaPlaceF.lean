import Derived.Test.YtdoikehkibefpaaPPbx9
import Derived.Test.YtdoikehkibefpaaPlaneQb
/-! The statement's own choice of a number: plain. -/
namespace Go.Proofs.Ytdoikehkibefpaa
set_option linter.unusedSimpArgs false
set_option linter.unusedVariables false
open Go Go.RowKit Go.Proofs.Ytdoikehkibefpaa.PPb Go.Proofs.YtdoikehkibefpaaW.PrintWords

theorem place_f {c n : Int} (hc : -9223372036854775808 ≤ c ∧ c ≤ 9223372036854775807) (hn : 0 < n) : ∃ r, dailieslaw06_place.f c n = some r ∧ 0 ≤ r ∧ r < n := by
  unfold dailieslaw06_place.f
  by_cases h : c < 0
  · rw [if_pos h, if_neg (by omega), w64 (x := c + 1) (by omega) (by omega), w64 (x := -(c + 1)) (by omega) (by omega), Int.tmod_eq_emod_of_nonneg (by omega)]
    exact ⟨_, rfl, Int.emod_nonneg _ (by omega), Int.emod_lt_of_pos _ hn⟩
  · rw [if_neg h, if_neg (by omega), Int.tmod_eq_emod_of_nonneg (by omega)]
    exact ⟨_, rfl, Int.emod_nonneg _ (by omega), Int.emod_lt_of_pos _ hn⟩

end Go.Proofs.Ytdoikehkibefpaa
