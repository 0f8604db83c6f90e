import Derived.Test.YtdoikehkibefpaaPlaneCc
/-! A block put into a plane: plain. -/
namespace Go.Proofs.Ytdoikehkibefpaa
set_option linter.unusedSimpArgs false
set_option linter.unusedVariables false
open Go Go.RowKit

/-- s laid over l at o. -/
def spl (l s : List Int) (o : Nat) : List Int := l.take o ++ (s ++ l.drop (o + s.length))
theorem spl_length {l s : List Int} {o : Nat} (h : o + s.length ≤ l.length) : (spl l s o).length = l.length := by
  simp [spl]; omega
theorem spl_get {l s : List Int} {o : Nat} (h : o + s.length ≤ l.length) (t : Nat) : (spl l s o).getD t 0 = if o ≤ t ∧ t < o + s.length then s.getD (t - o) 0 else l.getD t 0 := by
  have hl : (l.take o).length = o := by simp; omega
  unfold spl
  simp only [List.getD_eq_getElem?_getD]
  by_cases h1 : t < o
  · rw [List.getElem?_append_left (by omega), if_neg (by omega), List.getElem?_take, if_pos h1]
  · rw [List.getElem?_append_right (by omega), hl]
    by_cases h2 : t < o + s.length
    · rw [List.getElem?_append_left (by omega), if_pos ⟨by omega, h2⟩]
    · rw [List.getElem?_append_right (by omega), if_neg (by omega), List.getElem?_drop]
      congr 2
      omega

/-- The row j of a block that is bw wide. -/
def brow (b : List Int) (bw j : Nat) : List Int := (b.take ((j + 1) * bw)).drop (j * bw)
theorem brow_length {b : List Int} {bw rh j : Nat} (hb : b.length = bw * rh) (hj : j < rh) : (brow b bw j).length = bw := by
  have h1 : (j + 1) * bw ≤ bw * rh := by rw [Nat.mul_comm bw rh]; exact Nat.mul_le_mul_right _ hj
  have h2 : (j + 1) * bw = j * bw + bw := Nat.succ_mul ..
  simp [brow]; omega
theorem brow_get {b : List Int} {bw rh j : Nat} (hb : b.length = bw * rh) (hj : j < rh) (i : Nat) (hi : i < bw) : (brow b bw j).getD i 0 = b.getD (j * bw + i) 0 := by
  have h2 : (j + 1) * bw = j * bw + bw := Nat.succ_mul ..
  unfold brow
  simp only [List.getD_eq_getElem?_getD]
  rw [List.getElem?_drop, List.getElem?_take, if_pos (by omega)]

/-- j rows of the block put into l, whose rows are w wide, at x, y. -/
def pst (l b : List Int) (w x y bw : Nat) : Nat → List Int
  | 0 => l
  | j + 1 => spl (pst l b w x y bw j) (brow b bw j) ((y + j) * w + x)

theorem pst_room {w x y bw rh j : Nat} (hx : x + bw ≤ w) (hj : j < rh) : (y + j) * w + x + bw ≤ (y + rh) * w := by
  have h1 : (y + j + 1) * w ≤ (y + rh) * w := Nat.mul_le_mul_right _ (by omega)
  have h2 : (y + j + 1) * w = (y + j) * w + w := Nat.succ_mul ..
  omega
section
variable {l b : List Int} {w x y bw rh : Nat} (hb : b.length = bw * rh) (hx : x + bw ≤ w) (hl : (y + rh) * w ≤ l.length)
include hb hx hl
theorem pst_length : ∀ j, j ≤ rh → (pst l b w x y bw j).length = l.length
  | 0, _ => rfl
  | j + 1, hj => by
    have ih := pst_length j (by omega)
    have := pst_room (y := y) hx (show j < rh by omega)
    rw [pst, spl_length (by rw [brow_length hb (show j < rh by omega), ih]; omega), ih]
theorem pst_get : ∀ j, j ≤ rh → ∀ r, r < j → ∀ i, i < bw → (pst l b w x y bw j).getD ((y + r) * w + x + i) 0 = b.getD (r * bw + i) 0
  | 0, _, _, hr, _, _ => absurd hr (Nat.not_lt_zero _)
  | j + 1, hj, r, hr, i, hi => by
    have hj' : j < rh := by omega
    have hbl := brow_length hb hj'
    have hroom := pst_room (y := y) hx hj'
    rw [pst, spl_get (by rw [hbl, pst_length hb hx hl j (by omega)]; omega), hbl]
    by_cases hrj : r = j
    · subst hrj
      rw [if_pos ⟨by omega, by omega⟩, show (y + r) * w + x + i - ((y + r) * w + x) = i by omega, brow_get hb hj' i hi]
    · have h1 : (y + r + 1) * w ≤ (y + j) * w := Nat.mul_le_mul_right _ (by omega)
      have h2 : (y + r + 1) * w = (y + r) * w + w := Nat.succ_mul ..
      rw [if_neg (by omega)]
      exact pst_get j (by omega) r (by omega) i hi
/-- What was put in is taken out. -/
theorem taken_pst (h0 : 0 < bw) : takenS (pst l b w x y bw rh) w x y bw rh = b := by
  apply List.ext_getElem
  · rw [takenS_length, hb]
  · intro i h1 h2
    rw [takenS_length] at h1
    have e := takenS_get (pst l b w x y bw rh) w x y bw rh i h1
    have hr : i / bw < rh := Nat.div_lt_of_lt_mul h1
    have hm : i % bw < bw := Nat.mod_lt _ h0
    have hd : i / bw * bw + i % bw = i := by rw [Nat.mul_comm]; exact Nat.div_add_mod i bw
    rw [pst_get hb hx hl rh (Nat.le_refl _) (i / bw) hr (i % bw) hm, hd] at e
    rw [List.getD_eq_getElem?_getD, List.getD_eq_getElem?_getD, List.getElem?_eq_getElem h2, List.getElem?_eq_getElem (by rw [takenS_length]; exact h1)] at e
    exact e
end
/-- What was taken out, put back. -/
theorem pst_taken {l : List Int} {w x y bw rh : Nat} (hx : x + bw ≤ w) (hl : (y + rh) * w ≤ l.length) (h0 : 0 < bw) : ∀ j, j ≤ rh → pst l (takenS l w x y bw rh) w x y bw j = l
  | 0, _ => rfl
  | j + 1, hj => by
    have hj' : j < rh := by omega
    have hb := takenS_length l w x y bw rh
    have hbl := brow_length hb hj'
    have hroom := pst_room (y := y) hx hj'
    rw [pst, pst_taken hx hl h0 j (by omega)]
    apply List.ext_getElem
    · rw [spl_length (by rw [hbl]; omega)]
    · intro t h1 h2
      have e := spl_get (l := l) (s := brow (takenS l w x y bw rh) bw j) (o := (y + j) * w + x) (by rw [hbl]; omega) t
      rw [hbl] at e
      have key : (spl l (brow (takenS l w x y bw rh) bw j) ((y + j) * w + x)).getD t 0 = l.getD t 0 := by
        rw [e]
        by_cases ht : (y + j) * w + x ≤ t ∧ t < (y + j) * w + x + bw
        · rw [if_pos ht]
          obtain ⟨i, rfl⟩ : ∃ i, t = (y + j) * w + x + i := ⟨t - ((y + j) * w + x), by omega⟩
          have hi : i < bw := by omega
          have hlt : j * bw + i < bw * rh := by
            have h3 : (j + 1) * bw ≤ rh * bw := Nat.mul_le_mul_right _ hj'
            have h4 : (j + 1) * bw = j * bw + bw := Nat.succ_mul ..
            rw [Nat.mul_comm bw rh]; omega
          have hd : (j * bw + i) / bw = j := by rw [Nat.mul_comm, Nat.mul_add_div h0, Nat.div_eq_of_lt hi, Nat.add_zero]
          have hm : (j * bw + i) % bw = i := by rw [Nat.mul_comm, Nat.mul_add_mod, Nat.mod_eq_of_lt hi]
          rw [show (y + j) * w + x + i - ((y + j) * w + x) = i by omega, brow_get hb hj' i hi, takenS_get _ _ _ _ _ _ _ hlt, hd, hm]
        · rw [if_neg ht]
      rw [List.getD_eq_getElem?_getD, List.getD_eq_getElem?_getD, List.getElem?_eq_getElem h2, List.getElem?_eq_getElem h1] at key
      exact key

end Go.Proofs.Ytdoikehkibefpaa
