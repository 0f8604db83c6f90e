import Derived.Test.YtdoikehkibefpaaPPbx4
import Derived.Test.YtdoikehkibefpaaPPbx6
/-! The plane's printed functions by plain words: shapes, sizes, rectangles. -/
namespace Go.Proofs.Ytdoikehkibefpaa
set_option linter.unusedSimpArgs false
set_option linter.unusedVariables false
open Go Go.RowKit Go.Proofs.Ytdoikehkibefpaa.PPb Go.Proofs.YtdoikehkibefpaaW.PrintWords

theorem w64 {x : Int} (h1 : -9223372036854775808 ≤ x) (h2 : x ≤ 9223372036854775807) : wrap64 x = x := by unfold wrap64; omega
theorem tdiv2 {x : Int} (h : 0 ≤ x) : Int.tdiv x 2 = x / 2 := Int.tdiv_eq_ediv_of_nonneg h
theorem tmod2 {x : Int} (h : 0 ≤ x) : Int.tmod x 2 = x % 2 := Int.tmod_eq_emod_of_nonneg h

/-- How wide a plane is. -/
def wd (W p : Int) : Int := if p = 1 ∨ p = 2 then (W + 1) / 2 else W
def plN (A : Bool) : Int := if A = true then 4 else 3
/-- All samples. -/
def tot (W H : Int) (A : Bool) : Int := W * H + (W + 1) / 2 * H + (W + 1) / 2 * H + if A = true then W * H else 0
def okShape (W H D : Int) (A : Bool) : Prop := (1 ≤ W ∧ W ≤ 4096) ∧ (1 ≤ H ∧ H ≤ 4096) ∧ (D = 10 ∨ D = 12) ∧ tot W H A ≤ 4194304
instance (W H D : Int) (A : Bool) : Decidable (okShape W H D A) := by unfold okShape; infer_instance

theorem half_f {W : Int} (h0 : 0 ≤ W) (h1 : W ≤ 4294967296) : plane_half.f W = some ((W + 1) / 2) := by
  unfold plane_half.f
  rw [w64 (x := W + 1) (by omega) (by omega), tdiv2 (by omega), w64 (by omega) (by omega)]
theorem rhalf_f {W : Int} (h0 : 0 ≤ W) (h1 : W ≤ 4294967296) : dailiesref06_half.f W = some ((W + 1) / 2) := by
  unfold dailiesref06_half.f
  rw [tdiv2 h0, tmod2 h0, w64 (x := W / 2) (by omega) (by omega), w64 (by omega) (by omega)]
  congr 1
  omega
theorem width_f {W H D : Int} {A : Bool} (p : Int) (h0 : 0 ≤ W) (h1 : W ≤ 4294967296) : plane_width.f W H D A p = some (wd W p) := by
  unfold plane_width.f wd
  rw [half_f h0 h1]
  by_cases e1 : p = 1
  · simp [e1]
  · by_cases e2 : p = 2
    · simp [e2]
    · simp [e1, e2]
theorem rwide_f {W H D : Int} {A : Bool} (p : Int) (h0 : 0 ≤ W) (h1 : W ≤ 4294967296) : dailiesref06_wide.f W H D A p = some (wd W p) := by
  unfold dailiesref06_wide.f wd
  rw [rhalf_f h0 h1]
  by_cases e1 : p = 1
  · simp [e1]
  · by_cases e2 : p = 2
    · simp [e2]
    · simp [e1, e2]
theorem planes_f (W H D : Int) (A : Bool) : plane_planes.f W H D A = some (plN A) := by
  unfold plane_planes.f plN
  cases A <;> rfl
theorem count_f (W H D : Int) (A : Bool) : dailiesref06_count.f W H D A = some (plN A) := by
  unfold dailiesref06_count.f plN
  cases A <;> rfl
theorem there_f (W H D : Int) (A : Bool) (p : Int) : plane_there.f W H D A p = some (decide (0 ≤ p ∧ p < plN A)) := by
  unfold plane_there.f
  rw [planes_f]
  by_cases h : p ≥ 0
  · rw [if_pos h]
    simp only [Option.bind_some]
    congr 1
    exact decide_eq_decide.2 ⟨fun h2 => ⟨h, h2⟩, fun h2 => h2.2⟩
  · rw [if_neg h, decide_eq_false (fun h2 => h h2.1)]
theorem mul_bd {a b m n : Int} (h0 : 0 ≤ a) (h1 : a ≤ m) (h2 : 0 ≤ b) (h3 : b ≤ n) : 0 ≤ a * b ∧ a * b ≤ m * n :=
  ⟨Int.mul_nonneg h0 h2, Int.mul_le_mul h1 h3 h2 (Int.le_trans h0 h1)⟩

theorem wd_bd {W p : Int} (h0 : 1 ≤ W) (h1 : W ≤ 4096) : 1 ≤ wd W p ∧ wd W p ≤ 4096 := by unfold wd; split <;> omega

theorem total_f {W H : Int} (D : Int) (A : Bool) (hW : 1 ≤ W ∧ W ≤ 4096) (hH : 1 ≤ H ∧ H ≤ 4096) (k : Nat) : plane_total.f (k + 5) W H D A = some (tot W H A) := by
  have step : ∀ k x3 x6 x7, x7 < x6 → 0 ≤ x3 → x3 ≤ 100000000 → 0 ≤ x7 → x7 ≤ 10 → plane_total.l0 (k + 1) x3 x6 x7 W H D A = plane_total.l0 k (x3 + wd W x7 * H) x6 (x7 + 1) W H D A := by
    intro k x3 x6 x7 h1 h2 h3 h4 h5
    have hb := mul_bd (a := wd W x7) (b := H) (m := 4096) (n := 4096) (by have := wd_bd (p := x7) hW.1 hW.2; omega) (wd_bd hW.1 hW.2).2 (by omega) hH.2
    simp only [plane_total.l0]
    rw [if_pos h1, width_f x7 (by omega) (by omega)]
    simp only [Option.bind_some]
    rw [w64 (x := wd W x7 * H) (by omega) (by omega), w64 (x := x3 + wd W x7 * H) (by omega) (by omega), w64 (x := x7 + 1) (by omega) (by omega)]
  have stop : ∀ k x3 x6 x7, ¬ x7 < x6 → plane_total.l0 (k + 1) x3 x6 x7 W H D A = some x3 := by
    intro k x3 x6 x7 h
    simp only [plane_total.l0]
    rw [if_neg h]
  have b0 := mul_bd (a := W) (b := H) (m := 4096) (n := 4096) (by omega) hW.2 (by omega) hH.2
  have b1 := mul_bd (a := (W + 1) / 2) (b := H) (m := 4096) (n := 4096) (by omega) (by omega) (by omega) hH.2
  have e0 : wd W 0 = W := rfl
  have e1 : wd W 1 = (W + 1) / 2 := rfl
  have e2 : wd W (1 + 1) = (W + 1) / 2 := rfl
  have e3 : wd W (1 + 1 + 1) = W := rfl
  unfold plane_total.f
  rw [planes_f]
  simp only [Option.bind_some]
  unfold plN tot
  cases A
  · simp only [Bool.false_eq_true, if_false]
    rw [step _ _ _ _ (by omega) (by omega) (by omega) (by omega) (by omega), step _ _ _ _ (by omega) (by rw [e0]; omega) (by rw [e0]; omega) (by omega) (by omega), Int.zero_add 1,
      step _ _ _ _ (by omega) (by rw [e0, e1]; omega) (by rw [e0, e1]; omega) (by omega) (by omega), stop _ _ _ _ (by omega), e0, e1, e2]
    congr 1
    omega
  · simp only [if_true]
    rw [step _ _ _ _ (by omega) (by omega) (by omega) (by omega) (by omega), step _ _ _ _ (by omega) (by rw [e0]; omega) (by rw [e0]; omega) (by omega) (by omega), Int.zero_add 1,
      step _ _ _ _ (by omega) (by rw [e0, e1]; omega) (by rw [e0, e1]; omega) (by omega) (by omega), step _ _ _ _ (by omega) (by rw [e0, e1, e2]; omega) (by rw [e0, e1, e2]; omega) (by omega) (by omega), stop _ _ _ _ (by omega), e0, e1, e2, e3]
    congr 1
    omega

theorem rtotal_f {W H : Int} (D : Int) (A : Bool) (hW : 1 ≤ W ∧ W ≤ 4096) (hH : 1 ≤ H ∧ H ≤ 4096) (k : Nat) : dailiesref06_total.f (k + 5) W H D A = some (tot W H A) := by
  have step : ∀ k x3 x7, x7 < plN A → 0 ≤ x3 → x3 ≤ 100000000 → 0 ≤ x7 → x7 ≤ 10 → dailiesref06_total.l0 (k + 1) x3 x7 W H D A = dailiesref06_total.l0 k (x3 + wd W x7 * H) (x7 + 1) W H D A := by
    intro k x3 x7 h1 h2 h3 h4 h5
    have hb := mul_bd (a := wd W x7) (b := H) (m := 4096) (n := 4096) (by have := wd_bd (p := x7) hW.1 hW.2; omega) (wd_bd hW.1 hW.2).2 (by omega) hH.2
    simp only [dailiesref06_total.l0]
    rw [count_f]
    simp only [Option.bind_some]
    rw [if_pos h1, rwide_f x7 (by omega) (by omega)]
    simp only [Option.bind_some]
    rw [w64 (x := wd W x7 * H) (by omega) (by omega), w64 (x := x3 + wd W x7 * H) (by omega) (by omega), w64 (x := x7 + 1) (by omega) (by omega)]
  have stop : ∀ k x3 x7, ¬ x7 < plN A → dailiesref06_total.l0 (k + 1) x3 x7 W H D A = some x3 := by
    intro k x3 x7 h
    simp only [dailiesref06_total.l0]
    rw [count_f]
    simp only [Option.bind_some]
    rw [if_neg h]
  have b0 := mul_bd (a := W) (b := H) (m := 4096) (n := 4096) (by omega) hW.2 (by omega) hH.2
  have b1 := mul_bd (a := (W + 1) / 2) (b := H) (m := 4096) (n := 4096) (by omega) (by omega) (by omega) hH.2
  have e0 : wd W 0 = W := rfl
  have e1 : wd W 1 = (W + 1) / 2 := rfl
  have e2 : wd W (1 + 1) = (W + 1) / 2 := rfl
  have e3 : wd W (1 + 1 + 1) = W := rfl
  have pF : plN false = 3 := rfl
  have pT : plN true = 4 := rfl
  unfold dailiesref06_total.f tot
  cases A
  · simp only [Bool.false_eq_true, if_false]
    rw [step _ _ _ (by omega) (by omega) (by omega) (by omega) (by omega), step _ _ _ (by omega) (by rw [e0]; omega) (by rw [e0]; omega) (by omega) (by omega), Int.zero_add 1,
      step _ _ _ (by omega) (by rw [e0, e1]; omega) (by rw [e0, e1]; omega) (by omega) (by omega), stop _ _ _ (by omega), e0, e1, e2]
    congr 1
    omega
  · simp only [if_true]
    rw [step _ _ _ (by omega) (by omega) (by omega) (by omega) (by omega), step _ _ _ (by omega) (by rw [e0]; omega) (by rw [e0]; omega) (by omega) (by omega), Int.zero_add 1,
      step _ _ _ (by omega) (by rw [e0, e1]; omega) (by rw [e0, e1]; omega) (by omega) (by omega), step _ _ _ (by omega) (by rw [e0, e1, e2]; omega) (by rw [e0, e1, e2]; omega) (by omega) (by omega), stop _ _ _ (by omega), e0, e1, e2, e3]
    congr 1
    omega

/-- What Shaped answers. -/
def shp (W H D : Int) (A : Bool) : Int := if okShape W H D A then 0 else 61

theorem shaped_f (W H D : Int) (A : Bool) (k : Nat) : plane_Shaped.f (k + 5) W H D A = some (shp W H D A) := by
  unfold plane_Shaped.f plane_side.f shp
  by_cases h1 : 1 ≤ W ∧ W ≤ 4096
  · rw [if_pos (by omega), decide_eq_true h1.2]
    simp only [Option.bind_some, if_true]
    by_cases h2 : 1 ≤ H ∧ H ≤ 4096
    · rw [if_pos (by omega), decide_eq_true h2.2]
      simp only [Option.bind_some, if_true]
      rw [total_f D A h1 h2]
      simp only [Option.bind_some]
      by_cases h3 : D = 10 ∨ D = 12
      · by_cases h4 : tot W H A ≤ 4194304
        · rw [if_pos (show okShape W H D A from ⟨h1, h2, h3, h4⟩)]
          have hc : (if tot W H A > 4194304 then (some 61 : Option Int) else some 0) = some 0 := if_neg (by omega)
          rw [hc]
          rcases h3 with rfl | rfl <;> rfl
        · rw [if_neg (show ¬ okShape W H D A from fun h => h4 h.2.2.2)]
          have hc : (if tot W H A > 4194304 then (some 61 : Option Int) else some 0) = some 61 := if_pos (by omega)
          rw [hc]
          rcases h3 with rfl | rfl <;> rfl
      · rw [if_neg (show ¬ okShape W H D A from fun h => h3 h.2.2.1), if_neg (by omega), if_neg (by omega)]
    · rw [if_neg (show ¬ okShape W H D A from fun h => h2 h.2.1)]
      by_cases h5 : H ≥ 1
      · rw [if_pos h5, decide_eq_false (by omega)]; rfl
      · rw [if_neg h5]; rfl
  · rw [if_neg (show ¬ okShape W H D A from fun h => h1 h.1)]
    by_cases h5 : W ≥ 1
    · rw [if_pos h5, decide_eq_false (by omega)]; rfl
    · rw [if_neg h5]; rfl

theorem rshaped_f (W H D : Int) (A : Bool) (k : Nat) : dailiesref06_Shaped.f (k + 6) W H D A = some (shp W H D A) := by
  have jt : dailiesref06_Shaped.j0 (k + 6) true W H D A = some 61 := by simp [dailiesref06_Shaped.j0]
  unfold dailiesref06_Shaped.f shp
  by_cases h1 : 1 ≤ W ∧ W ≤ 4096
  · rw [if_neg (by omega), if_neg (by omega)]
    by_cases h2 : 1 ≤ H ∧ H ≤ 4096
    · rw [if_neg (by omega), if_neg (by omega)]
      have jf : dailiesref06_Shaped.j0 (k + 6) false W H D A = if tot W H A > 4194304 then some 61 else some 0 := by
        simp only [dailiesref06_Shaped.j0, Bool.false_eq_true, if_false]
        rw [rtotal_f D A h1 h2]; rfl
      by_cases h3 : D = 10 ∨ D = 12
      · have : (if D = 10 then dailiesref06_Shaped.j0 (k + 6) false W H D A else dailiesref06_Shaped.j0 (k + 6) (D != 12) W H D A) = dailiesref06_Shaped.j0 (k + 6) false W H D A := by
          rcases h3 with rfl | rfl <;> simp
        rw [this, jf]
        by_cases h4 : tot W H A ≤ 4194304
        · rw [if_pos (show okShape W H D A from ⟨h1, h2, h3, h4⟩), if_neg (by omega)]
        · rw [if_neg (show ¬ okShape W H D A from fun h => h4 h.2.2.2), if_pos (by omega)]
      · rw [if_neg (show ¬ okShape W H D A from fun h => h3 h.2.2.1), if_neg (by omega)]
        have : (D != 12) = true := by rw [bne_iff_ne]; omega
        rw [this, jt]
    · rw [if_neg (show ¬ okShape W H D A from fun h => h2 h.2.1)]
      by_cases h5 : H < 1
      · rw [if_pos h5, jt]
      · rw [if_neg h5, if_pos (by omega), jt]
  · rw [if_neg (show ¬ okShape W H D A from fun h => h1 h.1)]
    by_cases h5 : W < 1
    · rw [if_pos h5, jt]
    · rw [if_neg h5, if_pos (by omega), jt]

theorem shp_ok {W H D : Int} {A : Bool} (h : okShape W H D A) : shp W H D A = 0 := if_pos h
theorem shp_no {W H D : Int} {A : Bool} (h : ¬ okShape W H D A) : shp W H D A = 61 := if_neg h

/-- A rectangle lies in w by h samples. -/
def liesIn (x y w h W H : Int) : Prop := 1 ≤ w ∧ 1 ≤ h ∧ 0 ≤ x ∧ 0 ≤ y ∧ x < W ∧ y < H ∧ w ≤ W - x ∧ h ≤ H - y
instance (x y w h W H : Int) : Decidable (liesIn x y w h W H) := by unfold liesIn; infer_instance
theorem lies_f (x y w h : Int) {W H : Int} (hW : 0 ≤ W ∧ W ≤ 4294967296) (hH : 0 ≤ H ∧ H ≤ 4294967296) : plane_lies.f x y w h W H = some (decide (liesIn x y w h W H)) := by
  unfold plane_lies.f
  by_cases h1 : w ≥ 1
  · rw [if_pos h1]
    by_cases h2 : h ≥ 1
    · rw [if_pos h2]
      by_cases h3 : x ≥ 0
      · rw [if_pos h3]
        by_cases h4 : y ≥ 0
        · rw [if_pos h4]
          by_cases h5 : x < W
          · rw [if_pos h5]
            by_cases h6 : y < H
            · rw [if_pos h6, w64 (x := W - x) (by omega) (by omega), w64 (x := H - y) (by omega) (by omega)]
              by_cases h7 : w ≤ W - x
              · rw [if_pos h7]
                congr 1
                exact decide_eq_decide.2 ⟨fun h8 => ⟨h1, h2, h3, h4, h5, h6, h7, h8⟩, fun h8 => h8.2.2.2.2.2.2.2⟩
              · rw [if_neg h7, decide_eq_false (fun h8 => h7 h8.2.2.2.2.2.2.1)]
            · rw [if_neg h6, decide_eq_false (fun h8 => h6 h8.2.2.2.2.2.1)]
          · rw [if_neg h5, decide_eq_false (fun h8 => h5 h8.2.2.2.2.1)]
        · rw [if_neg h4, decide_eq_false (fun h8 => h4 h8.2.2.2.1)]
      · rw [if_neg h3, decide_eq_false (fun h8 => h3 h8.2.2.1)]
    · rw [if_neg h2, decide_eq_false (fun h8 => h2 h8.2.1)]
  · rw [if_neg h1, decide_eq_false (fun h8 => h1 h8.1)]


theorem plN_le (A : Bool) : plN A ≤ 4 := by unfold plN; cases A <;> decide
theorem getD_mem {α : Type} (z : α) (l : List α) (i : Nat) (hi : i < l.length) : l.getD i z ∈ l := by
  rw [List.getD_eq_getElem?_getD, List.getElem?_eq_getElem hi]; exact List.getElem_mem hi

end Go.Proofs.Ytdoikehkibefpaa
