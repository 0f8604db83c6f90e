import Derived.Test.YtnhemnabjlcgeaaTiS
import Derived.Test.YtnhemnabjlcgeaaPPax2
/-! What the document's Shaped answers (split off PlaneQb). -/
namespace Go.Proofs.Ytnhemnabjlcgeaa
set_option linter.unusedSimpArgs false
set_option linter.unusedVariables false
open Go Go.RowKit Go.Proofs.Ytnhemnabjlcgeaa.PPa Go.Proofs.YtnhemnabjlcgeaaW.PrintWords

theorem rhalf_f {W : Int} (h0 : 0 ≤ W) (h1 : W ≤ 4294967296) : dailiesref06_half.f W = some ((W + 1) / 2) := by
  unfold dailiesref06_half.f
  rw [tdiv2 h0, tmod2 h0, w64 (x := W / 2) (by omega) (by omega), w64 (by omega) (by omega)]
  congr 1
  omega
theorem rwide_f {W H D : Int} {A : Bool} (p : Int) (h0 : 0 ≤ W) (h1 : W ≤ 4294967296) : dailiesref06_wide.f W H D A p = some (wd W p) := by
  unfold dailiesref06_wide.f wd
  rw [rhalf_f h0 h1]
  by_cases e1 : p = 1
  · simp [e1]
  · by_cases e2 : p = 2
    · simp [e2]
    · simp [e1, e2]
theorem count_f (W H D : Int) (A : Bool) : dailiesref06_count.f W H D A = some (plN A) := by
  unfold dailiesref06_count.f plN
  cases A <;> rfl
theorem rtotal_f {W H : Int} (D : Int) (A : Bool) (hW : 1 ≤ W ∧ W ≤ 4096) (hH : 1 ≤ H ∧ H ≤ 4096) (k : Nat) : dailiesref06_total.f (k + 5) W H D A = some (tot W H A) := by
  have step : ∀ k x3 x7, x7 < plN A → 0 ≤ x3 → x3 ≤ 100000000 → 0 ≤ x7 → x7 ≤ 10 → dailiesref06_total.l0 (k + 1) x3 x7 W H D A = dailiesref06_total.l0 k (x3 + wd W x7 * H) (x7 + 1) W H D A := by
    intro k x3 x7 h1 h2 h3 h4 h5
    have hb := mul_bd (a := wd W x7) (b := H) (m := 4096) (n := 4096) (by have := wd_bd (p := x7) hW.1 hW.2; omega) (wd_bd hW.1 hW.2).2 (by omega) hH.2
    simp only [dailiesref06_total.l0]
    rw [count_f]
    simp only [Option.bind_some]
    rw [if_pos h1, rwide_f x7 (by omega) (by omega)]
    simp only [Option.bind_some]
    rw [w64 (x := wd W x7 * H) (by omega) (by omega), w64 (x := x3 + wd W x7 * H) (by omega) (by omega), w64 (x := x7 + 1) (by omega) (by omega)]
  have stop : ∀ k x3 x7, ¬ x7 < plN A → dailiesref06_total.l0 (k + 1) x3 x7 W H D A = some x3 := by
    intro k x3 x7 h
    simp only [dailiesref06_total.l0]
    rw [count_f]
    simp only [Option.bind_some]
    rw [if_neg h]
  have b0 := mul_bd (a := W) (b := H) (m := 4096) (n := 4096) (by omega) hW.2 (by omega) hH.2
  have b1 := mul_bd (a := (W + 1) / 2) (b := H) (m := 4096) (n := 4096) (by omega) (by omega) (by omega) hH.2
  have e0 : wd W 0 = W := rfl
  have e1 : wd W 1 = (W + 1) / 2 := rfl
  have e2 : wd W (1 + 1) = (W + 1) / 2 := rfl
  have e3 : wd W (1 + 1 + 1) = W := rfl
  have pF : plN false = 3 := rfl
  have pT : plN true = 4 := rfl
  unfold dailiesref06_total.f tot
  cases A
  · simp only [Bool.false_eq_true, if_false]
    rw [step _ _ _ (by omega) (by omega) (by omega) (by omega) (by omega), step _ _ _ (by omega) (by rw [e0]; omega) (by rw [e0]; omega) (by omega) (by omega), Int.zero_add 1,
      step _ _ _ (by omega) (by rw [e0, e1]; omega) (by rw [e0, e1]; omega) (by omega) (by omega), stop _ _ _ (by omega), e0, e1, e2]
    congr 1
    omega
  · simp only [if_true]
    rw [step _ _ _ (by omega) (by omega) (by omega) (by omega) (by omega), step _ _ _ (by omega) (by rw [e0]; omega) (by rw [e0]; omega) (by omega) (by omega), Int.zero_add 1,
      step _ _ _ (by omega) (by rw [e0, e1]; omega) (by rw [e0, e1]; omega) (by omega) (by omega), step _ _ _ (by omega) (by rw [e0, e1, e2]; omega) (by rw [e0, e1, e2]; omega) (by omega) (by omega), stop _ _ _ (by omega), e0, e1, e2, e3]
    congr 1
    omega

theorem rshaped_f (W H D : Int) (A : Bool) (k : Nat) : dailiesref06_Shaped.f (k + 6) W H D A = some (shp W H D A) := by
  have jt : dailiesref06_Shaped.j0 (k + 6) true W H D A = some 61 := by simp [dailiesref06_Shaped.j0]
  unfold dailiesref06_Shaped.f shp
  by_cases h1 : 1 ≤ W ∧ W ≤ 4096
  · rw [if_neg (by omega), if_neg (by omega)]
    by_cases h2 : 1 ≤ H ∧ H ≤ 4096
    · rw [if_neg (by omega), if_neg (by omega)]
      have jf : dailiesref06_Shaped.j0 (k + 6) false W H D A = if tot W H A > 4194304 then some 61 else some 0 := by
        simp only [dailiesref06_Shaped.j0, Bool.false_eq_true, if_false]
        rw [rtotal_f D A h1 h2]; rfl
      by_cases h3 : D = 10 ∨ D = 12
      · have : (if D = 10 then dailiesref06_Shaped.j0 (k + 6) false W H D A else dailiesref06_Shaped.j0 (k + 6) (D != 12) W H D A) = dailiesref06_Shaped.j0 (k + 6) false W H D A := by
          rcases h3 with rfl | rfl <;> simp
        rw [this, jf]
        by_cases h4 : tot W H A ≤ 4194304
        · rw [if_pos (show okShape W H D A from ⟨h1, h2, h3, h4⟩), if_neg (by omega)]
        · rw [if_neg (show ¬ okShape W H D A from fun h => h4 h.2.2.2), if_pos (by omega)]
      · rw [if_neg (show ¬ okShape W H D A from fun h => h3 h.2.2.1), if_neg (by omega)]
        have : (D != 12) = true := by rw [bne_iff_ne]; omega
        rw [this, jt]
    · rw [if_neg (show ¬ okShape W H D A from fun h => h2 h.2.1)]
      by_cases h5 : H < 1
      · rw [if_pos h5, jt]
      · rw [if_neg h5, if_pos (by omega), jt]
  · rw [if_neg (show ¬ okShape W H D A from fun h => h1 h.1)]
    by_cases h5 : W < 1
    · rw [if_pos h5, jt]
    · rw [if_neg h5, if_pos (by omega), jt]

end Go.Proofs.Ytnhemnabjlcgeaa
