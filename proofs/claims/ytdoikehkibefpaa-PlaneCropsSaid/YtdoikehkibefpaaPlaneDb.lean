import Derived.Test.YtdoikehkibefpaaPPbx6
import Derived.Test.YtdoikehkibefpaaPPbx7
import Derived.Test.YtdoikehkibefpaaPPbx8
import Derived.Test.YtdoikehkibefpaaPlaneCb
/-! Crop, Size, sameBlock: plain. -/
namespace Go.Proofs.Ytdoikehkibefpaa
set_option linter.unusedSimpArgs false
set_option linter.unusedVariables false
open Go Go.RowKit Go.Proofs.Ytdoikehkibefpaa.PPb Go.Proofs.YtdoikehkibefpaaW.PrintWords Go.Proofs.YtdoikehkibefpaaW.PrintMore

/-- A block taken out of a plane. -/
def cropV (W : Int) (l : List (List Int)) (p x y w h : Int) : List Int := takenS (rd_L1 l p) (wd W p).toNat x.toNat y.toNat w.toNat h.toNat
/-- What Crop answers. -/
def cropF (W H D : Int) (A : Bool) (l : List (List Int)) (p x y w h : Int) : Int × Int × List Int × Int :=
  if valF W H D A l = 0 then (if (0 ≤ p ∧ p < plN A) ∧ liesIn x y w h (wd W p) H then (w, h, cropV W l p x y w h, 0) else (0, 0, [], 65)) else (0, 0, [], valF W H D A l)

theorem row_fits {W H D : Int} {A : Bool} {l : List (List Int)} (hok : FrameOk W H D A l) {p : Int} (hp : 0 ≤ p ∧ p < plN A) {x y w h : Int} (hl : liesIn x y w h (wd W p) H) :
    (rd_L1 l p).length ≤ 16777216 ∧ x.toNat + w.toNat ≤ (wd W p).toNat ∧ (y.toNat + h.toNat) * (wd W p).toNat ≤ (rd_L1 l p).length := by
  have hW := hok.shape.1
  have hH := hok.shape.2.1
  have hlen := hok.len
  have hwd := wd_bd (p := p) hW.1 hW.2
  obtain ⟨h1, h2, h3, h4, h5, h6, h7, h8⟩ := hl
  have e : rd_L1 l p = l.getD p.toNat [] := rfl
  have hr := rows_at hok.rows hW hH p.toNat (by omega)
  rw [Int.toNat_of_nonneg hp.1] at hr
  rw [e, hr]
  refine ⟨Nat.le_trans (Nat.mul_le_mul (show (wd W p).toNat ≤ 4096 by omega) (show H.toNat ≤ 4096 by omega)) (by decide), by omega, ?_⟩
  rw [Nat.mul_comm]
  exact Nat.mul_le_mul_left _ (by omega)

theorem crop_f (W H D : Int) (A : Bool) (l : List (List Int)) (hs : smp l) (p x y w h : Int) (k : Nat) : plane_Crop.f (k + 5000) W H D A l p x y w h = some (cropF W H D A l p x y w h) := by
  unfold plane_Crop.f cropF
  rw [valid_f W H D A l hs (k + 4988)]
  simp only [Option.bind_some]
  by_cases hv : valF W H D A l = 0
  · have hok := ok_of_valF hv
    have hW := hok.shape.1
    have hH := hok.shape.2.1
    have hlen := hok.len
    rw [if_pos hv, if_pos hv, there_f]
    simp only [Option.bind_some]
    by_cases hp : 0 ≤ p ∧ p < plN A
    · have hwd := wd_bd (p := p) hW.1 hW.2
      rw [decide_eq_true hp, if_pos rfl, width_f p (by omega) (by omega)]
      simp only [Option.bind_some]
      rw [lies_f x y w h (by omega) (by omega)]
      simp only [Option.bind_some]
      by_cases hl : liesIn x y w h (wd W p) H
      · rw [decide_eq_true hl, if_pos ⟨hp, hl⟩]
        simp only [plane_Crop.j0, Bool.not_true]
        rw [if_neg (by decide), if_pos hp.1, if_pos (by omega), width_f p (by omega) (by omega)]
        simp only [Option.bind_some]
        obtain ⟨f1, f2, f3⟩ := row_fits hok hp hl
        obtain ⟨h1, h2, h3, h4, h5, h6, h7, h8⟩ := hl
        have ht := taken_f (rd_L1 l p) (wd W p).toNat x.toNat y.toNat w.toNat h.toNat (by omega) f2 f3 (by omega) (by omega) (k + 4999) (by omega)
        rw [Int.toNat_of_nonneg (by omega), Int.toNat_of_nonneg (by omega), Int.toNat_of_nonneg (by omega), Int.toNat_of_nonneg (by omega), Int.toNat_of_nonneg (by omega)] at ht
        rw [ht]
        rfl
      · rw [decide_eq_false hl, if_neg (fun h => hl h.2)]
        simp only [plane_Crop.j0, Bool.not_false, if_true]
    · rw [decide_eq_false hp, if_neg (by decide), if_neg (fun h => hp h.1)]
      simp only [plane_Crop.j0, if_true]
  · rw [if_neg hv, if_neg hv]

theorem size_f {W H D : Int} {A : Bool} (hok : okShape W H D A) {p : Int} (hp : 0 ≤ p ∧ p < plN A) (k : Nat) : plane_Size.f (k + 5) W H D A p = some (wd W p, H, 0) := by
  unfold plane_Size.f
  rw [shaped_f, shp_ok hok]
  simp only [Option.bind_some, if_true]
  rw [there_f, decide_eq_true hp]
  simp only [Option.bind_some, if_true]
  have := hok.1
  rw [width_f p (by omega) (by omega)]
  rfl

theorem same_l0 (a b : Int) (l : List Int) (hl : l.length ≤ 140737488355328) : ∀ (d k i : Nat), i + d = l.length → d < k → dailieslaw06_sameBlock.l0 k (i : Int) a b l a b l = some true := by
  intro d
  induction d with
  | zero =>
    intro k i hi hk
    obtain ⟨k, rfl⟩ : ∃ m, k = m + 1 := ⟨k - 1, by omega⟩
    simp only [dailieslaw06_sameBlock.l0]
    rw [if_neg (by omega)]
  | succ d ih =>
    intro k i hi hk
    obtain ⟨k, rfl⟩ : ∃ m, k = m + 1 := ⟨k - 1, by omega⟩
    simp only [dailieslaw06_sameBlock.l0]
    rw [if_pos (by omega), if_pos (by omega), if_pos (by omega), if_pos trivial, w64 (x := (i : Int) + 1) (by omega) (by omega)]
    exact ih k (i + 1) (by omega) (by omega)
theorem sameBlock_f (a b : Int) (l : List Int) (hl : l.length ≤ 140737488355328) (k : Nat) : dailieslaw06_sameBlock.f (k + l.length + 2) a b l a b l = some true := by
  unfold dailieslaw06_sameBlock.f
  rw [if_pos rfl, if_pos rfl]
  have e : ((l.length : Int) != (l.length : Int)) = false := by simp
  rw [e]
  simp only [dailieslaw06_sameBlock.j0]
  rw [if_neg (by decide)]
  exact same_l0 a b l hl l.length _ 0 (by omega) (by omega)

/-- A plane that was put over: the frame may be. -/
theorem set_getD (l : List (List Int)) (p i : Nat) (b : List Int) : (l.set p b).getD i [] = if i = p ∧ p < l.length then b else l.getD i [] := by
  simp only [List.getD_eq_getElem?_getD, List.getElem?_set]
  by_cases h : p = i
  · subst h
    by_cases h2 : p < l.length
    · simp [h2]
    · simp [h2]
  · have h' : ¬ i = p := fun e => h e.symm
    simp [h, h']
theorem any_set_false {α : Type} {l : List α} {f : α → Bool} (h : l.any f = false) (p : Nat) (b : α) (hb : f b = false) : (l.set p b).any f = false := by
  rw [List.any_eq_false] at *
  intro x hx
  rcases List.mem_or_eq_of_mem_set hx with h1 | h1
  · exact h x h1
  · subst h1; simp [hb]
theorem set_ok {W H D : Int} {A : Bool} {l : List (List Int)} (hok : FrameOk W H D A l) (p : Nat) (b : List Int) (hb : b.length = (l.getD p []).length) (hl : bigIn D b = false) : FrameOk W H D A (l.set p b) := by
  refine ⟨hok.shape, by rw [List.length_set]; exact hok.len, fun i hi => ?_, any_set_false hok.low p b hl⟩
  rw [List.length_set] at hi
  rw [set_getD]
  by_cases h : i = p ∧ p < l.length
  · rw [if_pos h, hb, ← h.1]
    exact hok.rows i hi
  · rw [if_neg h]
    exact hok.rows i hi
theorem set_smp {l : List (List Int)} (hs : smp l) (p : Nat) (b : List Int) (hb : ∀ v ∈ b, 0 ≤ v ∧ v ≤ 65535) : smp (l.set p b) := by
  intro x hx
  rcases List.mem_or_eq_of_mem_set hx with h1 | h1
  · exact hs x h1
  · subst h1; exact hb
end Go.Proofs.Ytdoikehkibefpaa
