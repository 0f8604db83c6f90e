import Derived.Test.YtdoikehkibefpaaPPbx9
import Derived.Test.YtdoikehkibefpaaPlaneQb
/-! A frame of noughts: plain. -/
namespace Go.Proofs.Ytdoikehkibefpaa
set_option linter.unusedSimpArgs false
set_option linter.unusedVariables false
open Go Go.RowKit Go.Proofs.Ytdoikehkibefpaa.PPb Go.Proofs.YtdoikehkibefpaaW.PrintWords

def zerosL (W H : Int) (A : Bool) : List (List Int) := (List.range (plN A).toNat).map fun i : Nat => List.replicate (wd W i * H).toNat 0
theorem zerosL_length (W H : Int) (A : Bool) : (zerosL W H A).length = (plN A).toNat := by simp [zerosL]
theorem zerosL_get (W H : Int) (A : Bool) (i : Nat) (hi : i < (plN A).toNat) : (zerosL W H A).getD i [] = List.replicate (wd W i * H).toNat 0 := by
  rw [List.getD_eq_getElem?_getD, List.getElem?_eq_getElem (by rw [zerosL_length]; exact hi)]
  simp [zerosL]
theorem blank_f {W H : Int} (D : Int) (A : Bool) (hW : 1 ≤ W ∧ W ≤ 4096) (hH : 1 ≤ H ∧ H ≤ 4096) (k : Nat) : plane_blank.f (k + 5) W H D A = some (W, H, D, A, zerosL W H A) := by
  have step : ∀ k x9 (acc : List (List Int)), x9 < plN A → 0 ≤ x9 → acc.length ≤ 10 → plane_blank.l0 (k + 1) (plN A) x9 W H D A W H D A acc = plane_blank.l0 k (plN A) (x9 + 1) W H D A W H D A (acc ++ [List.replicate (wd W x9 * H).toNat 0]) := by
    intro k x9 acc h1 h2 h3
    have hp : plN A ≤ 4 := plN_le A
    have hw := wd_bd (p := x9) hW.1 hW.2
    have hm := mul_bd (a := wd W x9) (b := H) (m := 4096) (n := 4096) (by omega) hw.2 (by omega) hH.2
    simp only [plane_blank.l0]
    rw [if_pos h1, width_f x9 (by omega) (by omega)]
    simp only [Option.bind_some]
    rw [w64 (x := wd W x9 * H) (by omega) (by omega), if_pos hm.1, if_pos (by omega), if_pos (by omega), w64 (x := x9 + 1) (by omega) (by omega)]
  have last : ∀ k (acc : List (List Int)), plane_blank.l0 (k + 1) (plN A) (plN A) W H D A W H D A acc = some (W, H, D, A, acc) := by
    intro k acc
    simp only [plane_blank.l0]
    rw [if_neg (by omega)]
  unfold plane_blank.f
  rw [planes_f]
  simp only [Option.bind_some]
  cases A with
  | true =>
    have e : plN true = 4 := rfl
    rw [e] at step last ⊢
    rw [step _ 0 [] (by omega) (by omega) (by simp), step _ _ _ (by omega) (by omega) (by simp), step _ _ _ (by omega) (by omega) (by simp), step _ _ _ (by omega) (by omega) (by simp)]
    exact last _ _
  | false =>
    have e : plN false = 3 := rfl
    rw [e] at step last ⊢
    rw [step _ 0 [] (by omega) (by omega) (by simp), step _ _ _ (by omega) (by omega) (by simp), step _ _ _ (by omega) (by omega) (by simp)]
    exact last _ _

end Go.Proofs.Ytdoikehkibefpaa
