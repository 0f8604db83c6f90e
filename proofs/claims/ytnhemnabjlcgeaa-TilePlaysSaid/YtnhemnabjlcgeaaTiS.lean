import Derived.Test.YtnhemnabjlcgeaaPPax1
/-! What Shaped answers (split off PlaneQb). -/
namespace Go.Proofs.Ytnhemnabjlcgeaa
set_option linter.unusedSimpArgs false
set_option linter.unusedVariables false
open Go Go.RowKit Go.Proofs.Ytnhemnabjlcgeaa.PPa Go.Proofs.YtnhemnabjlcgeaaW.PrintWords

theorem w64 {x : Int} (h1 : -9223372036854775808 ≤ x) (h2 : x ≤ 9223372036854775807) : wrap64 x = x := by unfold wrap64; omega
theorem tdiv2 {x : Int} (h : 0 ≤ x) : Int.tdiv x 2 = x / 2 := Int.tdiv_eq_ediv_of_nonneg h
theorem tmod2 {x : Int} (h : 0 ≤ x) : Int.tmod x 2 = x % 2 := Int.tmod_eq_emod_of_nonneg h

/-- How wide a plane is. -/
def wd (W p : Int) : Int := if p = 1 ∨ p = 2 then (W + 1) / 2 else W
def plN (A : Bool) : Int := if A = true then 4 else 3
/-- All samples. -/
def tot (W H : Int) (A : Bool) : Int := W * H + (W + 1) / 2 * H + (W + 1) / 2 * H + if A = true then W * H else 0
def okShape (W H D : Int) (A : Bool) : Prop := (1 ≤ W ∧ W ≤ 4096) ∧ (1 ≤ H ∧ H ≤ 4096) ∧ (D = 10 ∨ D = 12) ∧ tot W H A ≤ 4194304
instance (W H D : Int) (A : Bool) : Decidable (okShape W H D A) := by unfold okShape; infer_instance

theorem half_f {W : Int} (h0 : 0 ≤ W) (h1 : W ≤ 4294967296) : plane_half.f W = some ((W + 1) / 2) := by
  unfold plane_half.f
  rw [w64 (x := W + 1) (by omega) (by omega), tdiv2 (by omega), w64 (by omega) (by omega)]
theorem width_f {W H D : Int} {A : Bool} (p : Int) (h0 : 0 ≤ W) (h1 : W ≤ 4294967296) : plane_width.f W H D A p = some (wd W p) := by
  unfold plane_width.f wd
  rw [half_f h0 h1]
  by_cases e1 : p = 1
  · simp [e1]
  · by_cases e2 : p = 2
    · simp [e2]
    · simp [e1, e2]
theorem planes_f (W H D : Int) (A : Bool) : plane_planes.f W H D A = some (plN A) := by
  unfold plane_planes.f plN
  cases A <;> rfl
theorem mul_bd {a b m n : Int} (h0 : 0 ≤ a) (h1 : a ≤ m) (h2 : 0 ≤ b) (h3 : b ≤ n) : 0 ≤ a * b ∧ a * b ≤ m * n :=
  ⟨Int.mul_nonneg h0 h2, Int.mul_le_mul h1 h3 h2 (Int.le_trans h0 h1)⟩

theorem wd_bd {W p : Int} (h0 : 1 ≤ W) (h1 : W ≤ 4096) : 1 ≤ wd W p ∧ wd W p ≤ 4096 := by unfold wd; split <;> omega

theorem total_f {W H : Int} (D : Int) (A : Bool) (hW : 1 ≤ W ∧ W ≤ 4096) (hH : 1 ≤ H ∧ H ≤ 4096) (k : Nat) : plane_total.f (k + 5) W H D A = some (tot W H A) := by
  have step : ∀ k x3 x6 x7, x7 < x6 → 0 ≤ x3 → x3 ≤ 100000000 → 0 ≤ x7 → x7 ≤ 10 → plane_total.l0 (k + 1) x3 x6 x7 W H D A = plane_total.l0 k (x3 + wd W x7 * H) x6 (x7 + 1) W H D A := by
    intro k x3 x6 x7 h1 h2 h3 h4 h5
    have hb := mul_bd (a := wd W x7) (b := H) (m := 4096) (n := 4096) (by have := wd_bd (p := x7) hW.1 hW.2; omega) (wd_bd hW.1 hW.2).2 (by omega) hH.2
    simp only [plane_total.l0]
    rw [if_pos h1, width_f x7 (by omega) (by omega)]
    simp only [Option.bind_some]
    rw [w64 (x := wd W x7 * H) (by omega) (by omega), w64 (x := x3 + wd W x7 * H) (by omega) (by omega), w64 (x := x7 + 1) (by omega) (by omega)]
  have stop : ∀ k x3 x6 x7, ¬ x7 < x6 → plane_total.l0 (k + 1) x3 x6 x7 W H D A = some x3 := by
    intro k x3 x6 x7 h
    simp only [plane_total.l0]
    rw [if_neg h]
  have b0 := mul_bd (a := W) (b := H) (m := 4096) (n := 4096) (by omega) hW.2 (by omega) hH.2
  have b1 := mul_bd (a := (W + 1) / 2) (b := H) (m := 4096) (n := 4096) (by omega) (by omega) (by omega) hH.2
  have e0 : wd W 0 = W := rfl
  have e1 : wd W 1 = (W + 1) / 2 := rfl
  have e2 : wd W (1 + 1) = (W + 1) / 2 := rfl
  have e3 : wd W (1 + 1 + 1) = W := rfl
  unfold plane_total.f
  rw [planes_f]
  simp only [Option.bind_some]
  unfold plN tot
  cases A
  · simp only [Bool.false_eq_true, if_false]
    rw [step _ _ _ _ (by omega) (by omega) (by omega) (by omega) (by omega), step _ _ _ _ (by omega) (by rw [e0]; omega) (by rw [e0]; omega) (by omega) (by omega), Int.zero_add 1,
      step _ _ _ _ (by omega) (by rw [e0, e1]; omega) (by rw [e0, e1]; omega) (by omega) (by omega), stop _ _ _ _ (by omega), e0, e1, e2]
    congr 1
    omega
  · simp only [if_true]
    rw [step _ _ _ _ (by omega) (by omega) (by omega) (by omega) (by omega), step _ _ _ _ (by omega) (by rw [e0]; omega) (by rw [e0]; omega) (by omega) (by omega), Int.zero_add 1,
      step _ _ _ _ (by omega) (by rw [e0, e1]; omega) (by rw [e0, e1]; omega) (by omega) (by omega), step _ _ _ _ (by omega) (by rw [e0, e1, e2]; omega) (by rw [e0, e1, e2]; omega) (by omega) (by omega), stop _ _ _ _ (by omega), e0, e1, e2, e3]
    congr 1
    omega

/-- What Shaped answers. -/
def shp (W H D : Int) (A : Bool) : Int := if okShape W H D A then 0 else 61

theorem shaped_f (W H D : Int) (A : Bool) (k : Nat) : plane_Shaped.f (k + 5) W H D A = some (shp W H D A) := by
  unfold plane_Shaped.f plane_side.f shp
  by_cases h1 : 1 ≤ W ∧ W ≤ 4096
  · rw [if_pos (by omega), decide_eq_true h1.2]
    simp only [Option.bind_some, if_true]
    by_cases h2 : 1 ≤ H ∧ H ≤ 4096
    · rw [if_pos (by omega), decide_eq_true h2.2]
      simp only [Option.bind_some, if_true]
      rw [total_f D A h1 h2]
      simp only [Option.bind_some]
      by_cases h3 : D = 10 ∨ D = 12
      · by_cases h4 : tot W H A ≤ 4194304
        · rw [if_pos (show okShape W H D A from ⟨h1, h2, h3, h4⟩)]
          have hc : (if tot W H A > 4194304 then (some 61 : Option Int) else some 0) = some 0 := if_neg (by omega)
          rw [hc]
          rcases h3 with rfl | rfl <;> rfl
        · rw [if_neg (show ¬ okShape W H D A from fun h => h4 h.2.2.2)]
          have hc : (if tot W H A > 4194304 then (some 61 : Option Int) else some 0) = some 61 := if_pos (by omega)
          rw [hc]
          rcases h3 with rfl | rfl <;> rfl
      · rw [if_neg (show ¬ okShape W H D A from fun h => h3 h.2.2.1), if_neg (by omega), if_neg (by omega)]
    · rw [if_neg (show ¬ okShape W H D A from fun h => h2 h.2.1)]
      by_cases h5 : H ≥ 1
      · rw [if_pos h5, decide_eq_false (by omega)]; rfl
      · rw [if_neg h5]; rfl
  · rw [if_neg (show ¬ okShape W H D A from fun h => h1 h.1)]
    by_cases h5 : W ≥ 1
    · rw [if_pos h5, decide_eq_false (by omega)]; rfl
    · rw [if_neg h5]; rfl

theorem shp_ok {W H D : Int} {A : Bool} (h : okShape W H D A) : shp W H D A = 0 := if_pos h
theorem shp_no {W H D : Int} {A : Bool} (h : ¬ okShape W H D A) : shp W H D A = 61 := if_neg h
end Go.Proofs.Ytnhemnabjlcgeaa
