import Derived.Test.YtdoikehkibefpaaPPbx7
import Derived.Test.YtdoikehkibefpaaPPbx8
import Derived.Test.YtdoikehkibefpaaPlaneDc
/-! The reference's Crop: plain. -/
namespace Go.Proofs.Ytdoikehkibefpaa
set_option linter.unusedSimpArgs false
set_option linter.unusedVariables false
open Go Go.RowKit Go.Proofs.Ytdoikehkibefpaa.PPb Go.Proofs.YtdoikehkibefpaaW.PrintWords Go.Proofs.YtdoikehkibefpaaW.PrintMore

theorem rthere_d (W H D : Int) (A : Bool) (p : Int) : dailiesref06_there.f W H D A p = some (decide (0 ≤ p ∧ p < plN A)) := by
  unfold dailiesref06_there.f
  by_cases h : p ≥ 0
  · rw [if_pos h, count_f]
    simp only [Option.bind_some]
    congr 1
    by_cases h2 : p < plN A
    · rw [decide_eq_true h2, decide_eq_true ⟨h, h2⟩]
    · rw [decide_eq_false h2, decide_eq_false (fun h3 => h2 h3.2)]
  · rw [if_neg h, decide_eq_false (fun h3 => h h3.1)]
theorem rlies_f (x y w h : Int) {W H : Int} (hW : 0 ≤ W ∧ W ≤ 4294967296) (hH : 0 ≤ H ∧ H ≤ 4294967296) : dailiesref06_lies.f x y w h W H = some (decide (liesIn x y w h W H)) := by
  unfold dailiesref06_lies.f
  have no : ¬ liesIn x y w h W H → decide (liesIn x y w h W H) = false := decide_eq_false
  by_cases h1 : w < 1
  · rw [if_pos h1, no (by unfold liesIn; omega)]
  rw [if_neg h1]
  by_cases h2 : h < 1
  · rw [if_pos h2, no (by unfold liesIn; omega)]
  rw [if_neg h2]
  by_cases h3 : x < 0
  · rw [if_pos h3, no (by unfold liesIn; omega)]
  rw [if_neg h3]
  by_cases h4 : y < 0
  · rw [if_pos h4, no (by unfold liesIn; omega)]
  rw [if_neg h4]
  by_cases h5 : w > W
  · rw [if_pos h5, no (by unfold liesIn; omega)]
  rw [if_neg h5]
  by_cases h6 : h > H
  · rw [if_pos h6, no (by unfold liesIn; omega)]
  rw [if_neg h6, w64 (x := W - w) (by omega) (by omega), w64 (x := H - h) (by omega) (by omega)]
  by_cases h7 : x ≤ W - w
  · rw [if_pos h7]
    congr 1
    by_cases h8 : y ≤ H - h
    · rw [decide_eq_true h8, decide_eq_true (show liesIn x y w h W H by unfold liesIn; omega)]
    · rw [decide_eq_false h8, no (by unfold liesIn; omega)]
  · rw [if_neg h7, no (by unfold liesIn; omega)]

section
variable {W H D : Int} {A : Bool} {ls : List (List Int)} {p : Int} (hp : 0 ≤ p ∧ p < ls.length) (l : List Int) (hll : rd_L1 ls p = l) (w x y rw rh : Nat) (hl : l.length ≤ 16777216) (hw : x + rw ≤ w) (hh : (y + rh) * w ≤ l.length) (h0 : 0 < rw) (hy : y + rh ≤ 4096) (hw2 : w ≤ 4096)
include hp hll hl hw hh h0 hy hw2
theorem rcrop_l1 (j K : Nat) (hj : j < rh) (hK : ∀ k, K ≤ k → dailiesref06_Crop.l0 k p (w : Int) ((j + 1 : Nat) : Int) W H D A ls (x : Int) (y : Int) (rw : Int) (rh : Int) (rw : Int) (rh : Int) (takenS l w x y rw (j + 1)) = some ((rw : Int), (rh : Int), takenS l w x y rw rh, 0)) :
    ∀ (e i : Nat), i + e = rw → ∀ k, K + e + 1 ≤ k → dailiesref06_Crop.l1 k p (w : Int) (j : Int) (i : Int) W H D A ls (x : Int) (y : Int) (rw : Int) (rh : Int) (rw : Int) (rh : Int) (takenS l w x y rw j ++ (List.range i).map fun t => l.getD ((y + j) * w + x + t) 0) = some ((rw : Int), (rh : Int), takenS l w x y rw rh, 0) := by
  have hrow : (y + j) * w + w ≤ (y + rh) * w := by
    rw [show (y + j) * w + w = (y + j + 1) * w by rw [Nat.add_mul (y + j) 1, Nat.one_mul]]
    exact Nat.mul_le_mul_right _ (by omega)
  have hcs := takenS_length l w x y rw j
  have hlen : rw * j ≤ 16777216 := Nat.le_trans (Nat.mul_le_mul (show rw ≤ 4096 by omega) (show j ≤ 4096 by omega)) (by decide)
  intro e
  induction e with
  | zero =>
    intro i hi k hk
    obtain ⟨k, rfl⟩ : ∃ m, k = m + 1 := ⟨k - 1, by omega⟩
    have hi2 : i = rw := by omega
    subst hi2
    simp only [dailiesref06_Crop.l1]
    rw [if_neg (by omega), w64 (x := (j : Int) + 1) (by omega) (by omega), ← takenS_succ l w x y i j h0]
    exact hK k (by omega)
  | succ e ih =>
    intro i hi k hk
    obtain ⟨k, rfl⟩ : ∃ m, k = m + 1 := ⟨k - 1, by omega⟩
    obtain ⟨q, hq⟩ : ∃ q, (y + j) * w = q := ⟨_, rfl⟩
    have hih := ih (i + 1) (by omega) k (by omega)
    rw [List.range_succ, List.map_append, ← List.append_assoc] at hih
    simp only [dailiesref06_Crop.l1]
    rw [if_pos (by omega), if_pos hp.1, if_pos hp.2, w64_addN y j (by omega), w64_mulN (y + j) w (by omega), hq, w64_addN q x (by omega), w64_addN (q + x) i (by omega), if_pos (by omega), hll, if_pos (by omega), if_pos (by simp [hcs]; omega), w64_succN i (by omega)]
    rw [hq] at hih
    exact hih
theorem rcrop_l0 : ∀ (e j : Nat), j + e = rh → ∃ K, ∀ k, K ≤ k → dailiesref06_Crop.l0 k p (w : Int) (j : Int) W H D A ls (x : Int) (y : Int) (rw : Int) (rh : Int) (rw : Int) (rh : Int) (takenS l w x y rw j) = some ((rw : Int), (rh : Int), takenS l w x y rw rh, 0) := by
  intro e
  induction e with
  | zero =>
    intro j hj
    refine ⟨1, fun k hk => ?_⟩
    obtain ⟨k, rfl⟩ : ∃ m, k = m + 1 := ⟨k - 1, by omega⟩
    simp only [dailiesref06_Crop.l0]
    rw [if_neg (by omega), show j = rh by omega]
  | succ e ih =>
    intro j hj
    obtain ⟨K, hK⟩ := ih (j + 1) (by omega)
    refine ⟨K + rw + 3, fun k hk => ?_⟩
    obtain ⟨k, rfl⟩ : ∃ m, k = m + 1 := ⟨k - 1, by omega⟩
    simp only [dailiesref06_Crop.l0]
    rw [if_pos (by omega)]
    have h := rcrop_l1 (W := W) (H := H) (D := D) (A := A) hp l hll w x y rw rh hl hw hh h0 hy hw2 j K (by omega) hK rw 0 (by omega) k (by omega)
    simpa using h
end

theorem rcrop_f (W H D : Int) (A : Bool) (l : List (List Int)) (M : Nat) (hM : ∀ x ∈ l, x.length ≤ M) (hM2 : M ≤ 140737488355328) (hs : smp l) (p x y w h : Int) : ∃ k, dailiesref06_Crop.f k W H D A l p x y w h = some (cropF W H D A l p x y w h) := by
  by_cases hv : valF W H D A l = 0
  · have hok := ok_of_valF hv
    have hW := hok.shape.1
    have hH := hok.shape.2.1
    have hlen := hok.len
    by_cases hp : 0 ≤ p ∧ p < plN A
    · have hwd := wd_bd (p := p) hW.1 hW.2
      by_cases hl : liesIn x y w h (wd W p) H
      · obtain ⟨f1, f2, f3⟩ := row_fits hok hp hl
        have hl' := hl
        obtain ⟨h1, h2, h3, h4, h5, h6, h7, h8⟩ := hl'
        obtain ⟨K, hK⟩ := rcrop_l0 (W := W) (H := H) (D := D) (A := A) (ls := l) (p := p) ⟨hp.1, by omega⟩ (rd_L1 l p) rfl (wd W p).toNat x.toNat y.toNat w.toNat h.toNat f1 f2 f3 (by omega) (by omega) (by omega) h.toNat 0 (by omega)
        refine ⟨K + M + 14, ?_⟩
        unfold dailiesref06_Crop.f cropF
        rw [rvalid_f W H D A l M hM hM2 hs K, hv, if_pos rfl, if_pos ⟨hp, hl⟩]
        simp only [Option.bind_some, if_true]
        rw [rthere_d, decide_eq_true hp]
        simp only [Option.bind_some, if_true]
        rw [rwide_f p (by omega) (by omega)]
        simp only [Option.bind_some]
        rw [rlies_f x y w h (by omega) (by omega), decide_eq_true hl]
        simp only [Option.bind_some, if_true]
        have hh := hK (K + M + 14) (by omega)
        have e0 : takenS (rd_L1 l p) (wd W p).toNat x.toNat y.toNat w.toNat 0 = [] := by simp [takenS]
        rw [e0, Int.toNat_of_nonneg (by omega), Int.toNat_of_nonneg (by omega), Int.toNat_of_nonneg (by omega), Int.toNat_of_nonneg (by omega), Int.toNat_of_nonneg (by omega)] at hh
        exact hh
      · refine ⟨0 + M + 14, ?_⟩
        unfold dailiesref06_Crop.f cropF
        rw [rvalid_f W H D A l M hM hM2 hs 0, hv, if_pos rfl, if_neg (fun h => hl h.2)]
        simp only [Option.bind_some, if_true]
        rw [rthere_d, decide_eq_true hp]
        simp only [Option.bind_some, if_true]
        rw [rwide_f p (by omega) (by omega)]
        simp only [Option.bind_some]
        rw [rlies_f x y w h (by omega) (by omega), decide_eq_false hl]
        rfl
    · refine ⟨0 + M + 14, ?_⟩
      unfold dailiesref06_Crop.f cropF
      rw [rvalid_f W H D A l M hM hM2 hs 0, hv, if_pos rfl, if_neg (fun h => hp h.1)]
      simp only [Option.bind_some, if_true]
      rw [rthere_d, decide_eq_false hp]
      rfl
  · refine ⟨0 + M + 14, ?_⟩
    unfold dailiesref06_Crop.f cropF
    rw [rvalid_f W H D A l M hM hM2 hs 0]
    simp only [Option.bind_some]
    rw [if_neg hv, if_neg hv]
end Go.Proofs.Ytdoikehkibefpaa
