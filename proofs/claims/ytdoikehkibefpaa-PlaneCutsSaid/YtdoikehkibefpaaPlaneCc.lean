import Derived.Test.YtdoikehkibefpaaPlaneVb
/-! Frames that may be. -/
namespace Go.Proofs.Ytdoikehkibefpaa
set_option linter.unusedSimpArgs false
set_option linter.unusedVariables false
open Go Go.RowKit Go.Proofs.Ytdoikehkibefpaa.PPb Go.Proofs.YtdoikehkibefpaaW.PrintWords Go.Proofs.YtdoikehkibefpaaW.PrintMore

/-- A frame that may be. -/
structure FrameOk (W H D : Int) (A : Bool) (ls : List (List Int)) : Prop where
  shape : okShape W H D A
  len : (ls.length : Int) = plN A
  rows : rowsOk W H ls
  low : ls.any (bigIn D) = false
theorem valF_ok {W H D : Int} {A : Bool} {ls : List (List Int)} (h : FrameOk W H D A ls) : valF W H D A ls = 0 := by
  unfold valF
  rw [if_pos h.shape, if_pos h.len, if_pos h.rows, h.low]; rfl
theorem ok_of_valF {W H D : Int} {A : Bool} {ls : List (List Int)} (h : valF W H D A ls = 0) : FrameOk W H D A ls := by
  unfold valF at h
  by_cases h1 : okShape W H D A
  · rw [if_pos h1] at h
    by_cases h2 : (ls.length : Int) = plN A
    · rw [if_pos h2] at h
      by_cases h3 : rowsOk W H ls
      · rw [if_pos h3] at h
        cases h4 : ls.any (bigIn D)
        · exact ⟨h1, h2, h3, h4⟩
        · rw [h4] at h; simp at h
      · rw [if_neg h3] at h; simp at h
    · rw [if_neg h2] at h; simp at h
  · rw [if_neg h1] at h; simp at h

theorem rows_at {W H : Int} {ls : List (List Int)} (hr : rowsOk W H ls) (hW : 1 ≤ W ∧ W ≤ 4096) (hH : 1 ≤ H ∧ H ≤ 4096) (i : Nat) (hi : i < ls.length) : (ls.getD i []).length = (wd W i).toNat * H.toNat := by
  have h1 := hr i hi
  have h2 := wd_bd (p := (i : Int)) hW.1 hW.2
  have e1 : wd W i = ((wd W i).toNat : Int) := by omega
  have e2 : H = (H.toNat : Int) := by omega
  rw [e1, e2] at h1
  exact_mod_cast h1

end Go.Proofs.Ytdoikehkibefpaa
