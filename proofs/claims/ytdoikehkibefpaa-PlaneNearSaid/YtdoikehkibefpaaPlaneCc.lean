import Derived.Test.YtdoikehkibefpaaPlaneVb
/-! Frames that may be. -/
namespace Go.Proofs.Ytdoikehkibefpaa
set_option linter.unusedSimpArgs false
set_option linter.unusedVariables false
open Go Go.RowKit Go.Proofs.Ytdoikehkibefpaa.PPb Go.Proofs.YtdoikehkibefpaaW.PrintWords Go.Proofs.YtdoikehkibefpaaW.PrintMore

/-- A frame that may be. -/
structure FrameOk (W H D : Int) (A : Bool) (ls : List (List Int)) : Prop where
  shape : okShape W H D A
  len : (ls.length : Int) = plN A
  rows : rowsOk W H ls
  low : ls.any (bigIn D) = false
theorem valF_ok {W H D : Int} {A : Bool} {ls : List (List Int)} (h : FrameOk W H D A ls) : valF W H D A ls = 0 := by
  unfold valF
  rw [if_pos h.shape, if_pos h.len, if_pos h.rows, h.low]; rfl
theorem ok_of_valF {W H D : Int} {A : Bool} {ls : List (List Int)} (h : valF W H D A ls = 0) : FrameOk W H D A ls := by
  unfold valF at h
  by_cases h1 : okShape W H D A
  · rw [if_pos h1] at h
    by_cases h2 : (ls.length : Int) = plN A
    · rw [if_pos h2] at h
      by_cases h3 : rowsOk W H ls
      · rw [if_pos h3] at h
        cases h4 : ls.any (bigIn D)
        · exact ⟨h1, h2, h3, h4⟩
        · rw [h4] at h; simp at h
      · rw [if_neg h3] at h; simp at h
    · rw [if_neg h2] at h; simp at h
  · rw [if_neg h1] at h; simp at h

theorem rows_at {W H : Int} {ls : List (List Int)} (hr : rowsOk W H ls) (hW : 1 ≤ W ∧ W ≤ 4096) (hH : 1 ≤ H ∧ H ≤ 4096) (i : Nat) (hi : i < ls.length) : (ls.getD i []).length = (wd W i).toNat * H.toNat := by
  have h1 := hr i hi
  have h2 := wd_bd (p := (i : Int)) hW.1 hW.2
  have e1 : wd W i = ((wd W i).toNat : Int) := by omega
  have e2 : H = (H.toNat : Int) := by omega
  rw [e1, e2] at h1
  exact_mod_cast h1

theorem takenS_mem {l : List Int} {w x y rw rh : Nat} (hw : x + rw ≤ w) (hh : (y + rh) * w ≤ l.length) : ∀ v ∈ takenS l w x y rw rh, v ∈ l := by
  intro v hv
  obtain ⟨i, hi, rfl⟩ := List.mem_map.1 hv
  have hi' : i < rw * rh := by simpa using hi
  have h0 : 0 < rw := by
    rcases Nat.eq_zero_or_pos rw with h | h
    · subst h; simp at hi'
    · exact h
  refine getD_mem 0 l _ ?_
  have h1 : i / rw < rh := Nat.div_lt_of_lt_mul hi'
  have h2 : i % rw < rw := Nat.mod_lt _ h0
  have h3 : (y + i / rw) * w + w ≤ (y + rh) * w := by
    rw [show (y + i / rw) * w + w = (y + i / rw + 1) * w by rw [Nat.add_mul (y + i / rw) 1, Nat.one_mul]]
    exact Nat.mul_le_mul_right _ (by omega)
  omega

theorem low_of {D : Int} {l m : List Int} (h : ∀ v ∈ m, v ∈ l) (hl : bigIn D l = false) : bigIn D m = false := by
  unfold bigIn at *
  rw [List.any_eq_false] at *
  exact fun v hv => hl v (h v hv)

theorem any_false_mem {α : Type} {l : List α} {f : α → Bool} (h : l.any f = false) (x : α) (hx : x ∈ l) : f x = false := by
  rw [List.any_eq_false] at h
  simpa using h x hx

end Go.Proofs.Ytdoikehkibefpaa
