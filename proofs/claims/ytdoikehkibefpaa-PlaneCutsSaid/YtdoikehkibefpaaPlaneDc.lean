import Derived.Test.YtdoikehkibefpaaPlaneCc
/-! Crop: what it answers. -/
namespace Go.Proofs.Ytdoikehkibefpaa
set_option linter.unusedSimpArgs false
set_option linter.unusedVariables false
open Go Go.RowKit Go.Proofs.Ytdoikehkibefpaa.PPb Go.Proofs.YtdoikehkibefpaaW.PrintWords Go.Proofs.YtdoikehkibefpaaW.PrintMore

/-- A block taken out of a plane. -/
def cropV (W : Int) (l : List (List Int)) (p x y w h : Int) : List Int := takenS (rd_L1 l p) (wd W p).toNat x.toNat y.toNat w.toNat h.toNat
/-- What Crop answers. -/
def cropF (W H D : Int) (A : Bool) (l : List (List Int)) (p x y w h : Int) : Int × Int × List Int × Int :=
  if valF W H D A l = 0 then (if (0 ≤ p ∧ p < plN A) ∧ liesIn x y w h (wd W p) H then (w, h, cropV W l p x y w h, 0) else (0, 0, [], 65)) else (0, 0, [], valF W H D A l)

theorem row_fits {W H D : Int} {A : Bool} {l : List (List Int)} (hok : FrameOk W H D A l) {p : Int} (hp : 0 ≤ p ∧ p < plN A) {x y w h : Int} (hl : liesIn x y w h (wd W p) H) :
    (rd_L1 l p).length ≤ 16777216 ∧ x.toNat + w.toNat ≤ (wd W p).toNat ∧ (y.toNat + h.toNat) * (wd W p).toNat ≤ (rd_L1 l p).length := by
  have hW := hok.shape.1
  have hH := hok.shape.2.1
  have hlen := hok.len
  have hwd := wd_bd (p := p) hW.1 hW.2
  obtain ⟨h1, h2, h3, h4, h5, h6, h7, h8⟩ := hl
  have e : rd_L1 l p = l.getD p.toNat [] := rfl
  have hr := rows_at hok.rows hW hH p.toNat (by omega)
  rw [Int.toNat_of_nonneg hp.1] at hr
  rw [e, hr]
  refine ⟨Nat.le_trans (Nat.mul_le_mul (show (wd W p).toNat ≤ 4096 by omega) (show H.toNat ≤ 4096 by omega)) (by decide), by omega, ?_⟩
  rw [Nat.mul_comm]
  exact Nat.mul_le_mul_left _ (by omega)

end Go.Proofs.Ytdoikehkibefpaa
