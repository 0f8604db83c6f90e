import Derived.Test.YtakmkjdmonmilaaDoorGoP
import Derived.Test.YtakmkjdmonmilaaDoorGoB
/-! Plain: what the document's readers tell, on lists of bits. -/
namespace Go.Proofs.YtakmkjdmonmilaaDoor
set_option linter.unusedSimpArgs false
set_option linter.unusedVariables false
open Go

/-- The noughts ahead, m at most. -/
def lead : List Bool → Nat → Nat
  | _, 0 => 0
  | [], _ + 1 => 0
  | true :: _, _ + 1 => 0
  | false :: t, m + 1 => lead t m + 1
theorem lead_le : ∀ (l : List Bool) (m : Nat), lead l m ≤ m
  | _, 0 => by simp [lead]
  | [], _ + 1 => by simp [lead]
  | true :: _, _ + 1 => by simp [lead]
  | false :: t, m + 1 => by have := lead_le t m; simp [lead]; omega
theorem lead_eq : ∀ (l : List Bool) (m z : Nat), (∀ j, j < z → l[j]? = some false) → z ≤ m → (z = m ∨ l.length = z ∨ l[z]? = some true) → lead l m = z
  | l, 0, z, _, hz, _ => by
    have : z = 0 := by omega
    subst this
    cases l <;> simp [lead]
  | [], m + 1, z, h0, hz, _ => by
    cases z with
    | zero => simp [lead]
    | succ z => have := h0 0 (by omega); simp at this
  | true :: t, m + 1, z, h0, hz, _ => by
    cases z with
    | zero => simp [lead]
    | succ z => have := h0 0 (by omega); simp at this
  | false :: t, m + 1, z, h0, hz, he => by
    cases z with
    | zero =>
      rcases he with h | h | h
      · cases h
      · simp at h
      · simp at h
    | succ z =>
      simp only [lead]
      rw [lead_eq t m z (fun j hj => by have := h0 (j + 1) (by omega); simpa using this) (by omega) (by
        rcases he with h | h | h
        · exact .inl (by omega)
        · exact .inr (.inl (by simpa using h))
        · exact .inr (.inr (by simpa using h)))]
/-- Get: the number, the error, how many bits are taken. -/
def getL (l : List Bool) (k wide : Nat) : Nat × Int × Nat :=
  if lead l 24 = 24 then
    if l.length < 24 + wide then (0, 23, 0)
    else if num ((l.drop 24).take wide) / 2 ^ k < 24 then (0, 24, 0) else (num ((l.drop 24).take wide), 0, 24 + wide)
  else if l.length < lead l 24 + 1 + k then (0, 23, 0)
    else if 2 ^ wide ≤ lead l 24 * 2 ^ k + num ((l.drop (lead l 24 + 1)).take k) then (0, 24, 0) else (lead l 24 * 2 ^ k + num ((l.drop (lead l 24 + 1)).take k), 0, lead l 24 + 1 + k)
/-- A run's Get: the error, what is left of the room, how many bits are taken, the rate. -/
def runL : List Bool → Nat → Nat → Int × Nat × Nat × Nat
  | _, r, 0 => (0, 0, 0, r)
  | [], r, _ + 1 => (23, 0, 0, r)
  | true :: t, r, left + 1 => if 2 ^ J r ≤ left + 1 then ((runL t (min (r + 1) 22) (left + 1 - 2 ^ J r)).1, (runL t (min (r + 1) 22) (left + 1 - 2 ^ J r)).2.1, (runL t (min (r + 1) 22) (left + 1 - 2 ^ J r)).2.2.1 + 1, (runL t (min (r + 1) 22) (left + 1 - 2 ^ J r)).2.2.2) else (0, 0, 1, r)
  | false :: t, r, left + 1 => if t.length < J r then (23, 0, 0, r) else if left + 1 ≤ num (t.take (J r)) then (24, 0, 0, r) else (0, left + 1 - num (t.take (J r)), 1 + J r, r - 1)
theorem runL_zero (l : List Bool) (r : Nat) : runL l r 0 = (0, 0, 0, r) := by cases l <;> rfl
def bump (i : Nat) (x : Int × Nat × Nat × Nat) : Int × Nat × Nat × Nat := (x.1, x.2.1, x.2.2.1 + i, x.2.2.2)
theorem bump_zero (x : Int × Nat × Nat × Nat) : bump 0 x = x := rfl
theorem runL_in {l : List Bool} {r left i : Nat} (h0 : 0 < left) (hb : l[i]? = some true) (hp : 2 ^ J r ≤ left) : bump i (runL (l.drop i) r left) = bump (i + 1) (runL (l.drop (i + 1)) (min (r + 1) 22) (left - 2 ^ J r)) := by
  obtain ⟨n, rfl⟩ : ∃ n, left = n + 1 := ⟨left - 1, by omega⟩
  have hd : l.drop i = true :: l.drop (i + 1) := by
    have hi := (List.getElem?_eq_some_iff.1 hb).1
    rw [List.drop_eq_getElem_cons hi, (List.getElem?_eq_some_iff.1 hb).2]
  rw [hd]
  simp only [runL, if_pos hp, bump]
  simp only [Prod.mk.injEq, true_and, and_true]
  omega
theorem runL_full {l : List Bool} {r left i : Nat} (h0 : 0 < left) (hb : l[i]? = some true) (hp : ¬ 2 ^ J r ≤ left) : bump i (runL (l.drop i) r left) = (0, 0, 1 + i, r) := by
  obtain ⟨n, rfl⟩ : ∃ n, left = n + 1 := ⟨left - 1, by omega⟩
  have hd : l.drop i = true :: l.drop (i + 1) := by
    have hi := (List.getElem?_eq_some_iff.1 hb).1
    rw [List.drop_eq_getElem_cons hi, (List.getElem?_eq_some_iff.1 hb).2]
  rw [hd]
  simp only [runL, if_neg hp, bump]
theorem runL_end {l : List Bool} {r left i : Nat} (h0 : 0 < left) (hb : l.length ≤ i) : (bump i (runL (l.drop i) r left)).1 = 23 := by
  obtain ⟨n, rfl⟩ : ∃ n, left = n + 1 := ⟨left - 1, by omega⟩
  rw [List.drop_eq_nil_of_le hb]
  rfl
theorem runL_low {l : List Bool} {r left i : Nat} (h0 : 0 < left) (hb : l[i]? = some false) : bump i (runL (l.drop i) r left) = if l.length < i + 1 + J r then (23, 0, i, r) else if left ≤ num ((l.drop (i + 1)).take (J r)) then (24, 0, i, r) else (0, left - num ((l.drop (i + 1)).take (J r)), 1 + J r + i, r - 1) := by
  obtain ⟨n, rfl⟩ : ∃ n, left = n + 1 := ⟨left - 1, by omega⟩
  have hi := (List.getElem?_eq_some_iff.1 hb).1
  have hd : l.drop i = false :: l.drop (i + 1) := by
    rw [List.drop_eq_getElem_cons hi, (List.getElem?_eq_some_iff.1 hb).2]
  rw [hd]
  simp only [runL, List.length_drop]
  by_cases h1 : l.length < i + 1 + J r
  · rw [if_pos h1, if_pos (by omega)]
    simp [bump]
  · rw [if_neg h1, if_neg (by omega)]
    split <;> simp [bump]
/-- Bits, each a byte. -/
def bitB (l : List Bool) : List Nat := l.map b2n
theorem bitB_len (l : List Bool) : (bitB l).length = l.length := by simp [bitB]
theorem bitB_append (a b : List Bool) : bitB (a ++ b) = bitB a ++ bitB b := by simp [bitB]
theorem digit_eq (v i : Nat) : v / 2 ^ i % 2 = b2n (v.testBit i) := by
  have := Nat.toNat_testBit v i
  cases h : v.testBit i <;> rw [h] at this <;> simp [b2n] at this ⊢ <;> omega
end Go.Proofs.YtakmkjdmonmilaaDoor
