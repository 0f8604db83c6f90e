import Derived.Test.YtdoikehkibefpaaPPbx10
import Derived.Test.YtdoikehkibefpaaPPbx11
import Derived.Test.YtdoikehkibefpaaPPbx12
import Derived.Test.YtdoikehkibefpaaPPbx6
import Derived.Test.YtdoikehkibefpaaPPbx8
import Derived.Test.YtdoikehkibefpaaPPbx9
import Derived.Test.YtdoikehkibefpaaPlaneZb
/-! Size, Samples, New, the reference's Same: plain. -/
namespace Go.Proofs.Ytdoikehkibefpaa
set_option linter.unusedSimpArgs false
set_option linter.unusedVariables false
open Go Go.RowKit Go.Proofs.Ytdoikehkibefpaa.PPb Go.Proofs.YtdoikehkibefpaaW.PrintWords Go.Proofs.YtdoikehkibefpaaW.PrintMore

theorem shp_cases (W H D : Int) (A : Bool) : (okShape W H D A ∧ shp W H D A = 0) ∨ (¬ okShape W H D A ∧ shp W H D A = 61) := by
  by_cases h : okShape W H D A
  · exact .inl ⟨h, shp_ok h⟩
  · exact .inr ⟨h, shp_no h⟩
def sizeF (W H D : Int) (A : Bool) (p : Int) : Int × Int × Int := if shp W H D A = 0 then (if 0 ≤ p ∧ p < plN A then (wd W p, H, 0) else (0, 0, 65)) else (0, 0, shp W H D A)
theorem rthere_f (W H D : Int) (A : Bool) (p : Int) : dailiesref06_there.f W H D A p = some (decide (0 ≤ p ∧ p < plN A)) := by
  unfold dailiesref06_there.f
  by_cases h : p ≥ 0
  · rw [if_pos h, count_f]
    simp only [Option.bind_some]
    congr 1
    by_cases h2 : p < plN A
    · rw [decide_eq_true h2, decide_eq_true ⟨h, h2⟩]
    · rw [decide_eq_false h2, decide_eq_false (fun h3 => h2 h3.2)]
  · rw [if_neg h, decide_eq_false (fun h3 => h h3.1)]
theorem size_all (W H D : Int) (A : Bool) (p : Int) (k : Nat) : plane_Size.f (k + 6) W H D A p = some (sizeF W H D A p) := by
  unfold plane_Size.f sizeF
  rw [shaped_f W H D A (k + 1)]
  simp only [Option.bind_some]
  rcases shp_cases W H D A with ⟨hok, e⟩ | ⟨-, e⟩
  · rw [e, if_pos rfl, if_pos rfl, there_f]
    simp only [Option.bind_some]
    by_cases hp : 0 ≤ p ∧ p < plN A
    · rw [decide_eq_true hp, if_pos rfl, if_pos hp, width_f p (by have := hok.1; omega) (by have := hok.1; omega)]; rfl
    · rw [decide_eq_false hp, if_neg (by decide), if_neg hp]
  · rw [e, if_neg (by decide), if_neg (by decide)]
theorem rsize_all (W H D : Int) (A : Bool) (p : Int) (k : Nat) : dailiesref06_Size.f (k + 6) W H D A p = some (sizeF W H D A p) := by
  unfold dailiesref06_Size.f sizeF
  rw [rshaped_f W H D A k]
  simp only [Option.bind_some]
  rcases shp_cases W H D A with ⟨hok, e⟩ | ⟨-, e⟩
  · rw [e, if_pos rfl, if_pos rfl, rthere_f]
    simp only [Option.bind_some]
    by_cases hp : 0 ≤ p ∧ p < plN A
    · rw [decide_eq_true hp, if_pos rfl, if_pos hp, rwide_f p (by have := hok.1; omega) (by have := hok.1; omega)]; rfl
    · rw [decide_eq_false hp, if_neg (by decide), if_neg hp]
  · rw [e, if_neg (by decide), if_neg (by decide)]
def samplesF (W H D : Int) (A : Bool) : Int × Int := if shp W H D A = 0 then (tot W H A, 0) else (0, shp W H D A)
theorem samples_f (W H D : Int) (A : Bool) (k : Nat) : plane_Samples.f (k + 6) W H D A = some (samplesF W H D A) := by
  unfold plane_Samples.f samplesF
  rw [shaped_f W H D A (k + 1)]
  simp only [Option.bind_some]
  rcases shp_cases W H D A with ⟨hok, e⟩ | ⟨-, e⟩
  · rw [e, if_pos rfl, if_pos rfl, total_f D A hok.1 hok.2.1 (k + 1)]; rfl
  · rw [e, if_neg (by decide), if_neg (by decide)]
theorem rsamples_f (W H D : Int) (A : Bool) (k : Nat) : dailiesref06_Samples.f (k + 6) W H D A = some (samplesF W H D A) := by
  unfold dailiesref06_Samples.f samplesF
  rw [rshaped_f W H D A k]
  simp only [Option.bind_some]
  rcases shp_cases W H D A with ⟨hok, e⟩ | ⟨-, e⟩
  · rw [e, if_pos rfl, if_pos rfl, rtotal_f D A hok.1 hok.2.1 (k + 1)]; rfl
  · rw [e, if_neg (by decide), if_neg (by decide)]
def newF (W H D : Int) (A : Bool) : Int × Int × Int × Bool × (List (List Int)) × Int := if shp W H D A = 0 then (W, H, D, A, zerosL W H A, 0) else (0, 0, 0, false, [], shp W H D A)
theorem new_f (W H D : Int) (A : Bool) (k : Nat) : plane_New.f (k + 6) W H D A = some (newF W H D A) := by
  unfold plane_New.f newF
  rw [shaped_f W H D A (k + 1)]
  simp only [Option.bind_some]
  rcases shp_cases W H D A with ⟨hok, e⟩ | ⟨-, e⟩
  · rw [e, if_pos rfl, if_pos rfl, blank_f D A hok.1 hok.2.1 (k + 1)]; rfl
  · rw [e, if_neg (by decide), if_neg (by decide)]
theorem rnew_f (W H D : Int) (A : Bool) (k : Nat) : dailiesref06_New.f (k + 6) W H D A = some (newF W H D A) := by
  unfold dailiesref06_New.f newF
  rw [rshaped_f W H D A k]
  simp only [Option.bind_some]
  rcases shp_cases W H D A with ⟨hok, e⟩ | ⟨-, e⟩
  · rw [e, if_pos rfl, if_pos rfl]
    have hW := hok.1
    have hH := hok.2.1
    have step : ∀ k x9 (acc : List (List Int)), x9 < plN A → 0 ≤ x9 → acc.length ≤ 10 → dailiesref06_New.l0 (k + 1) x9 W H D A W H D A acc = dailiesref06_New.l0 k (x9 + 1) W H D A W H D A (acc ++ [List.replicate (wd W x9 * H).toNat 0]) := by
      intro k x9 acc h1 h2 h3
      have hp : plN A ≤ 4 := plN_le A
      have hw := wd_bd (p := x9) hW.1 hW.2
      have hm := mul_bd (a := wd W x9) (b := H) (m := 4096) (n := 4096) (by omega) hw.2 (by omega) hH.2
      simp only [dailiesref06_New.l0]
      rw [count_f]
      simp only [Option.bind_some]
      rw [if_pos h1, rwide_f x9 (by omega) (by omega)]
      simp only [Option.bind_some]
      rw [w64 (x := wd W x9 * H) (by omega) (by omega), if_pos hm.1, if_pos (by omega), if_pos (by omega), w64 (x := x9 + 1) (by omega) (by omega)]
    have last : ∀ k (acc : List (List Int)), dailiesref06_New.l0 (k + 1) (plN A) W H D A W H D A acc = some (W, H, D, A, acc, 0) := by
      intro k acc
      simp only [dailiesref06_New.l0]
      rw [count_f]
      simp only [Option.bind_some]
      rw [if_neg (by omega)]
    cases A with
    | true =>
      have e : plN true = 4 := rfl
      rw [e] at step last
      rw [step _ 0 [] (by omega) (by omega) (by simp), step _ _ _ (by omega) (by omega) (by simp), step _ _ _ (by omega) (by omega) (by simp), step _ _ _ (by omega) (by omega) (by simp)]
      exact last _ _
    | false =>
      have e : plN false = 3 := rfl
      rw [e] at step last
      rw [step _ 0 [] (by omega) (by omega) (by simp), step _ _ _ (by omega) (by omega) (by simp), step _ _ _ (by omega) (by omega) (by simp)]
      exact last _ _
  · rw [e, if_neg (by decide), if_neg (by decide)]

/-! The reference's Same, of one and the same -/
theorem rsame_l1 (a b c : Int) (d : Bool) (L : List (List Int)) (hL : L.length ≤ 1000000000000) (hl : ∀ l ∈ L, l.length ≤ 140737488355328) (i : Nat) (hi : i < L.length) (K : Nat) (hK : ∀ k, K ≤ k → dailiesref06_Same.l0 k ((i + 1 : Nat) : Int) a b c d L a b c d L = some true) :
    ∀ (e j : Nat), j + e = (rd_L1 L (i : Int)).length → ∀ k, K + e + 1 ≤ k → dailiesref06_Same.l1 k (i : Int) (j : Int) a b c d L a b c d L = some true := by
  have hlen : (rd_L1 L (i : Int)).length ≤ 140737488355328 := hl _ (getD_mem [] L i hi)
  intro e
  induction e with
  | zero =>
    intro j hj k hk
    obtain ⟨k, rfl⟩ : ∃ m, k = m + 1 := ⟨k - 1, by omega⟩
    simp only [dailiesref06_Same.l1]
    rw [if_pos (by omega), if_pos (by omega), if_neg (by omega), w64 (x := (i : Int) + 1) (by omega) (by omega)]
    exact hK k (by omega)
  | succ e ih =>
    intro j hj k hk
    obtain ⟨k, rfl⟩ : ∃ m, k = m + 1 := ⟨k - 1, by omega⟩
    simp only [dailiesref06_Same.l1]
    rw [if_pos (by omega), if_pos (by omega), if_pos (by omega), if_pos (by omega), if_pos (by omega), if_pos (by omega), if_pos trivial, w64 (x := (j : Int) + 1) (by omega) (by omega)]
    exact ih (j + 1) (by omega) k (by omega)
theorem rsame_l0 (a b c : Int) (d : Bool) (L : List (List Int)) (hL : L.length ≤ 1000000000000) (hl : ∀ l ∈ L, l.length ≤ 140737488355328) : ∀ (e i : Nat), i + e = L.length → ∃ K, ∀ k, K ≤ k → dailiesref06_Same.l0 k (i : Int) a b c d L a b c d L = some true := by
  intro e
  induction e with
  | zero =>
    intro i hi
    refine ⟨1, fun k hk => ?_⟩
    obtain ⟨k, rfl⟩ : ∃ m, k = m + 1 := ⟨k - 1, by omega⟩
    simp only [dailiesref06_Same.l0]
    rw [if_neg (by omega)]
  | succ e ih =>
    intro i hi
    obtain ⟨K, hK⟩ := ih (i + 1) (by omega)
    refine ⟨K + (rd_L1 L (i : Int)).length + 3, fun k hk => ?_⟩
    obtain ⟨k, rfl⟩ : ∃ m, k = m + 1 := ⟨k - 1, by omega⟩
    simp only [dailiesref06_Same.l0]
    rw [if_pos (by omega), if_pos (by omega), if_pos (by omega), if_pos trivial]
    exact rsame_l1 a b c d L hL hl i (by omega) K hK (rd_L1 L (i : Int)).length 0 (by omega) k (by omega)
theorem rsame_f (a b c : Int) (d : Bool) (L : List (List Int)) (hL : L.length ≤ 1000000000000) (hl : ∀ l ∈ L, l.length ≤ 140737488355328) : ∃ k, dailiesref06_Same.f k a b c d L a b c d L = some true := by
  obtain ⟨K, hK⟩ := rsame_l0 a b c d L hL hl L.length 0 (by omega)
  refine ⟨K + 1, ?_⟩
  unfold dailiesref06_Same.f
  have e1 : (!(a == a) || (!(b == b) || (!(c == c) || !(d == d)))) = false := by simp
  have e2 : ((L.length : Int) != (L.length : Int)) = false := by simp
  rw [e1, if_neg (by decide), e2]
  simp only [dailiesref06_Same.j0]
  rw [if_neg (by decide)]
  exact hK K (Nat.le_refl _)
end Go.Proofs.Ytdoikehkibefpaa
