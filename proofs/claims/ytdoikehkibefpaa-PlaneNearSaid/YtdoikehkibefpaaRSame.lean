import Derived.Test.YtdoikehkibefpaaPPbx8
import Derived.Test.YtdoikehkibefpaaPlaneQb
namespace Go.Proofs.Ytdoikehkibefpaa
set_option linter.unusedSimpArgs false
set_option linter.unusedVariables false
open Go Go.RowKit Go.Proofs.Ytdoikehkibefpaa.PPb Go.Proofs.YtdoikehkibefpaaW.PrintWords Go.Proofs.YtdoikehkibefpaaW.PrintMore
/-! The reference's Same, of one and the same -/
theorem rsame_l1 (a b c : Int) (d : Bool) (L : List (List Int)) (hL : L.length ≤ 1000000000000) (hl : ∀ l ∈ L, l.length ≤ 140737488355328) (i : Nat) (hi : i < L.length) (K : Nat) (hK : ∀ k, K ≤ k → dailiesref06_Same.l0 k ((i + 1 : Nat) : Int) a b c d L a b c d L = some true) :
    ∀ (e j : Nat), j + e = (rd_L1 L (i : Int)).length → ∀ k, K + e + 1 ≤ k → dailiesref06_Same.l1 k (i : Int) (j : Int) a b c d L a b c d L = some true := by
  have hlen : (rd_L1 L (i : Int)).length ≤ 140737488355328 := hl _ (getD_mem [] L i hi)
  intro e
  induction e with
  | zero =>
    intro j hj k hk
    obtain ⟨k, rfl⟩ : ∃ m, k = m + 1 := ⟨k - 1, by omega⟩
    simp only [dailiesref06_Same.l1]
    rw [if_pos (by omega), if_pos (by omega), if_neg (by omega), w64 (x := (i : Int) + 1) (by omega) (by omega)]
    exact hK k (by omega)
  | succ e ih =>
    intro j hj k hk
    obtain ⟨k, rfl⟩ : ∃ m, k = m + 1 := ⟨k - 1, by omega⟩
    simp only [dailiesref06_Same.l1]
    rw [if_pos (by omega), if_pos (by omega), if_pos (by omega), if_pos (by omega), if_pos (by omega), if_pos (by omega), if_pos trivial, w64 (x := (j : Int) + 1) (by omega) (by omega)]
    exact ih (j + 1) (by omega) k (by omega)
theorem rsame_l0 (a b c : Int) (d : Bool) (L : List (List Int)) (hL : L.length ≤ 1000000000000) (hl : ∀ l ∈ L, l.length ≤ 140737488355328) : ∀ (e i : Nat), i + e = L.length → ∃ K, ∀ k, K ≤ k → dailiesref06_Same.l0 k (i : Int) a b c d L a b c d L = some true := by
  intro e
  induction e with
  | zero =>
    intro i hi
    refine ⟨1, fun k hk => ?_⟩
    obtain ⟨k, rfl⟩ : ∃ m, k = m + 1 := ⟨k - 1, by omega⟩
    simp only [dailiesref06_Same.l0]
    rw [if_neg (by omega)]
  | succ e ih =>
    intro i hi
    obtain ⟨K, hK⟩ := ih (i + 1) (by omega)
    refine ⟨K + (rd_L1 L (i : Int)).length + 3, fun k hk => ?_⟩
    obtain ⟨k, rfl⟩ : ∃ m, k = m + 1 := ⟨k - 1, by omega⟩
    simp only [dailiesref06_Same.l0]
    rw [if_pos (by omega), if_pos (by omega), if_pos (by omega), if_pos trivial]
    exact rsame_l1 a b c d L hL hl i (by omega) K hK (rd_L1 L (i : Int)).length 0 (by omega) k (by omega)
theorem rsame_f (a b c : Int) (d : Bool) (L : List (List Int)) (hL : L.length ≤ 1000000000000) (hl : ∀ l ∈ L, l.length ≤ 140737488355328) : ∃ k, dailiesref06_Same.f k a b c d L a b c d L = some true := by
  obtain ⟨K, hK⟩ := rsame_l0 a b c d L hL hl L.length 0 (by omega)
  refine ⟨K + 1, ?_⟩
  unfold dailiesref06_Same.f
  have e1 : (!(a == a) || (!(b == b) || (!(c == c) || !(d == d)))) = false := by simp
  have e2 : ((L.length : Int) != (L.length : Int)) = false := by simp
  rw [e1, if_neg (by decide), e2]
  simp only [dailiesref06_Same.j0]
  rw [if_neg (by decide)]
  exact hK K (Nat.le_refl _)
end Go.Proofs.Ytdoikehkibefpaa
