import Derived.Test.YtdoikehkibefpaaPPbx6
import Derived.Test.YtdoikehkibefpaaPPbx7
import Derived.Test.YtdoikehkibefpaaPPbx9
import Derived.Test.YtdoikehkibefpaaPlaneFb
/-! Cut: plain. -/
namespace Go.Proofs.Ytdoikehkibefpaa
set_option linter.unusedSimpArgs false
set_option linter.unusedVariables false
open Go Go.RowKit Go.Proofs.Ytdoikehkibefpaa.PPb Go.Proofs.YtdoikehkibefpaaW.PrintWords Go.Proofs.YtdoikehkibefpaaW.PrintMore

def wholeIn (x y w h W H : Int) : Prop := liesIn x y w h W H ∧ x % 2 = 0 ∧ (w % 2 = 0 ∨ x + w = W)
instance (x y w h W H : Int) : Decidable (wholeIn x y w h W H) := by unfold wholeIn; infer_instance
theorem whole_f (D : Int) (A : Bool) (x y w h : Int) {W H : Int} (hW : 0 ≤ W ∧ W ≤ 4294967296) (hH : 0 ≤ H ∧ H ≤ 4294967296) : plane_whole.f W H D A x y w h = some (decide (wholeIn x y w h W H)) := by
  unfold plane_whole.f
  rw [lies_f x y w h hW hH]
  simp only [Option.bind_some]
  by_cases hl : liesIn x y w h W H
  · rw [decide_eq_true hl, if_pos rfl]
    have hl' := hl
    obtain ⟨h1, h2, h3, h4, h5, h6, h7, h8⟩ := hl'
    rw [tmod2 (by omega), tmod2 (by omega), w64 (x := x + w) (by omega) (by omega)]
    by_cases e1 : x % 2 = 0
    · rw [if_pos e1]
      by_cases e2 : w % 2 = 0
      · rw [if_pos e2, decide_eq_true ⟨hl, e1, .inl e2⟩]
      · rw [if_neg e2]
        congr 1
        by_cases e3 : x + w = W
        · rw [decide_eq_true ⟨hl, e1, .inr e3⟩]; simpa using e3
        · rw [decide_eq_false (fun h => h.2.2.elim e2 e3)]; simpa using e3
    · rw [if_neg e1, decide_eq_false (fun h => e1 h.2.1)]
  · rw [decide_eq_false hl, if_neg (by simp), decide_eq_false (fun h => hl h.1)]
/-- What of a plane belongs to a rectangle that is whole. -/
def partX (p x : Int) : Int := if p = 1 ∨ p = 2 then x / 2 else x
def partW (p w : Int) : Int := if p = 1 ∨ p = 2 then (w + 1) / 2 else w
theorem part_f (p x y w h : Int) (hx : 0 ≤ x ∧ x ≤ 4294967296) (hw : 0 ≤ w ∧ w ≤ 4294967296) : plane_part.f p x y w h = some (partX p x, y, partW p w, h) := by
  unfold plane_part.f partX partW
  rw [half_f hw.1 hw.2, tdiv2 hx.1, w64 (x := x / 2) (by omega) (by omega)]
  by_cases e1 : p = 1
  · simp [e1]
  · by_cases e2 : p = 2
    · simp [e2]
    · simp [e1, e2]


/-- The parts of a rectangle, plane by plane. -/
def cutL (W : Int) (ls : List (List Int)) (x y w h : Int) : List (List Int) :=
  (List.range ls.length).map fun p => takenS (ls.getD p []) (wd W p).toNat (partX p x).toNat y.toNat (partW p w).toNat h.toNat

theorem part_fits {x y w h W H : Int} (hw : wholeIn x y w h W H) (p : Int) : 0 ≤ partX p x ∧ 1 ≤ partW p w ∧ partX p x + partW p w ≤ wd W p := by
  obtain ⟨⟨h1, h2, h3, h4, h5, h6, h7, h8⟩, e1, e2⟩ := hw
  unfold partX partW wd
  split <;> omega

theorem cutL_length (W : Int) (ls : List (List Int)) (x y w h : Int) : (cutL W ls x y w h).length = ls.length := by simp [cutL]
theorem cutL_get (W : Int) (ls : List (List Int)) (x y w h : Int) (p : Nat) (hp : p < ls.length) : (cutL W ls x y w h).getD p [] = takenS (ls.getD p []) (wd W p).toNat (partX p x).toNat y.toNat (partW p w).toNat h.toNat := by
  rw [List.getD_eq_getElem?_getD]
  simp [cutL, hp]


/-- What Cut answers. -/
def cutF (W H D : Int) (A : Bool) (l : List (List Int)) (x y w h : Int) : Int × Int × Int × Bool × List (List Int) × Int :=
  if valF W H D A l = 0 then (if wholeIn x y w h W H then (w, h, D, A, cutL W l x y w h, 0) else (0, 0, 0, false, [], 65)) else (0, 0, 0, false, [], valF W H D A l)
theorem rwhole_f (W H D : Int) (A : Bool) (x y w h : Int) (hW : 0 ≤ W ∧ W ≤ 4294967296) (hH : 0 ≤ H ∧ H ≤ 4294967296) : dailiesref06_Whole.f W H D A x y w h = some (decide (wholeIn x y w h W H)) := by
  unfold dailiesref06_Whole.f
  rw [rlies_f x y w h hW hH]
  simp only [Option.bind_some]
  by_cases hl : liesIn x y w h W H
  · rw [decide_eq_true hl, if_pos rfl]
    have hl' := hl
    obtain ⟨h1, h2, h3, h4, h5, h6, h7, h8⟩ := hl'
    rw [tmod2 (by omega), tmod2 (by omega), w64 (x := x + w) (by omega) (by omega)]
    by_cases e1 : x % 2 = 0
    · rw [if_pos e1]
      by_cases e2 : w % 2 = 0
      · rw [if_pos e2, decide_eq_true ⟨hl, e1, .inl e2⟩]
      · rw [if_neg e2]
        congr 1
        by_cases e3 : x + w = W
        · rw [decide_eq_true ⟨hl, e1, .inr e3⟩]; simpa using e3
        · rw [decide_eq_false (fun h => h.2.2.elim e2 e3)]; simpa using e3
    · rw [if_neg e1, decide_eq_false (fun h => e1 h.2.1)]
  · rw [decide_eq_false hl, if_neg (by simp), decide_eq_false (fun h => hl h.1)]
theorem rhalf_all {W H D : Int} {A : Bool} (hok : okShape W H D A) {x y w h : Int} (hw : wholeIn x y w h W H) (p : Int) (hp : 0 ≤ p ∧ p < plN A) (k : Nat) : dailiesref06_Half.f (k + 6) W H D A p x y w h = some (partX p x, y, partW p w, h, 0) := by
  have hW := hok.1
  have hH := hok.2.1
  obtain ⟨h1, h2, h3, h4, h5, h6, h7, h8⟩ := hw.1
  unfold dailiesref06_Half.f
  rw [rshaped_f W H D A k, shp_ok hok]
  simp only [Option.bind_some, if_true]
  rw [rthere_d, decide_eq_true hp]
  simp only [Option.bind_some]
  rw [rwhole_f W H D A x y w h (by omega) (by omega), decide_eq_true hw]
  simp only [Option.bind_some, if_true, Bool.not_true, dailiesref06_Half.j0]
  rw [if_neg (by decide), rhalf_f (by omega) (by omega), tdiv2 h3, w64 (x := x / 2) (by omega) (by omega)]
  unfold partX partW
  by_cases e1 : p = 1
  · rw [if_pos e1, if_pos (.inl e1), if_pos (.inl e1)]; rfl
  · rw [if_neg e1]
    by_cases e2 : p = 2
    · rw [if_pos e2, if_pos (.inr e2), if_pos (.inr e2)]; rfl
    · rw [if_neg e2, if_neg (fun h => h.elim e1 e2), if_neg (fun h => h.elim e1 e2)]
/-- A plane's part, by Crop. -/
theorem part_crop {W H D : Int} {A : Bool} {l : List (List Int)} (hok : FrameOk W H D A l) {x y w h : Int} (hw : wholeIn x y w h W H) (i : Nat) (hi : i < l.length) :
    cropF W H D A l i (partX i x) y (partW i w) h = (partW i w, h, (cutL W l x y w h).getD i [], 0) := by
  have hlen := hok.len
  have hp := part_fits hw (i : Int)
  obtain ⟨h1, h2, h3, h4, h5, h6, h7, h8⟩ := hw.1
  unfold cropF
  rw [valF_ok hok, if_pos rfl, if_pos ⟨by omega, by unfold liesIn; omega⟩, cutL_get W l x y w h i hi]
  rfl
theorem cutF_len {W H D : Int} {A : Bool} {l : List (List Int)} {x y w h r1 r2 r3 : Int} {r4 : Bool} {L : List (List Int)} {r6 : Int} (e : cutF W H D A l x y w h = (r1, r2, r3, r4, L, r6)) : L.length ≤ 4 ∧ ∀ c ∈ L, c.length ≤ 16777216 := by
  unfold cutF at e
  split at e
  · rename_i hv
    have hok := ok_of_valF hv
    split at e
    · rename_i hw
      simp only [Prod.mk.injEq] at e
      obtain ⟨-, -, -, -, rfl, -⟩ := e
      refine ⟨by rw [cutL_length]; have := hok.len; have := plN_le A; omega, fun c hc => ?_⟩
      obtain ⟨i, hi, rfl⟩ := List.mem_map.1 hc
      rw [takenS_length]
      have hp := part_fits hw (i : Int)
      have hwd := wd_bd (p := (i : Int)) hok.shape.1.1 hok.shape.1.2
      have hh := hw.1
      unfold liesIn at hh
      have hH := hok.shape.2.1
      exact Nat.le_trans (Nat.mul_le_mul (show (partW i w).toNat ≤ 4096 by omega) (show h.toNat ≤ 4096 by omega)) (by decide)
    · simp only [Prod.mk.injEq] at e
      obtain ⟨-, -, -, -, rfl, -⟩ := e
      exact ⟨Nat.zero_le _, fun c hc => by cases hc⟩
  · simp only [Prod.mk.injEq] at e
    obtain ⟨-, -, -, -, rfl, -⟩ := e
    exact ⟨Nat.zero_le _, fun c hc => by cases hc⟩
end Go.Proofs.Ytdoikehkibefpaa
