import Derived.Test.YtdoikehkibefpaaPPbx6
import Derived.Test.YtdoikehkibefpaaPPbx7
import Derived.Test.YtdoikehkibefpaaPlaneVb
/-! Where a rectangle lies, by the reference: plain. -/
namespace Go.Proofs.Ytdoikehkibefpaa
set_option linter.unusedSimpArgs false
set_option linter.unusedVariables false
open Go Go.RowKit Go.Proofs.Ytdoikehkibefpaa.PPb Go.Proofs.YtdoikehkibefpaaW.PrintWords

theorem rthere_d (W H D : Int) (A : Bool) (p : Int) : dailiesref06_there.f W H D A p = some (decide (0 ≤ p ∧ p < plN A)) := by
  unfold dailiesref06_there.f
  by_cases h : p ≥ 0
  · rw [if_pos h, count_f]
    simp only [Option.bind_some]
    congr 1
    by_cases h2 : p < plN A
    · rw [decide_eq_true h2, decide_eq_true ⟨h, h2⟩]
    · rw [decide_eq_false h2, decide_eq_false (fun h3 => h2 h3.2)]
  · rw [if_neg h, decide_eq_false (fun h3 => h h3.1)]
theorem rlies_f (x y w h : Int) {W H : Int} (hW : 0 ≤ W ∧ W ≤ 4294967296) (hH : 0 ≤ H ∧ H ≤ 4294967296) : dailiesref06_lies.f x y w h W H = some (decide (liesIn x y w h W H)) := by
  unfold dailiesref06_lies.f
  have no : ¬ liesIn x y w h W H → decide (liesIn x y w h W H) = false := decide_eq_false
  by_cases h1 : w < 1
  · rw [if_pos h1, no (by unfold liesIn; omega)]
  rw [if_neg h1]
  by_cases h2 : h < 1
  · rw [if_pos h2, no (by unfold liesIn; omega)]
  rw [if_neg h2]
  by_cases h3 : x < 0
  · rw [if_pos h3, no (by unfold liesIn; omega)]
  rw [if_neg h3]
  by_cases h4 : y < 0
  · rw [if_pos h4, no (by unfold liesIn; omega)]
  rw [if_neg h4]
  by_cases h5 : w > W
  · rw [if_pos h5, no (by unfold liesIn; omega)]
  rw [if_neg h5]
  by_cases h6 : h > H
  · rw [if_pos h6, no (by unfold liesIn; omega)]
  rw [if_neg h6, w64 (x := W - w) (by omega) (by omega), w64 (x := H - h) (by omega) (by omega)]
  by_cases h7 : x ≤ W - w
  · rw [if_pos h7]
    congr 1
    by_cases h8 : y ≤ H - h
    · rw [decide_eq_true h8, decide_eq_true (show liesIn x y w h W H by unfold liesIn; omega)]
    · rw [decide_eq_false h8, no (by unfold liesIn; omega)]
  · rw [if_neg h7, no (by unfold liesIn; omega)]

end Go.Proofs.Ytdoikehkibefpaa
