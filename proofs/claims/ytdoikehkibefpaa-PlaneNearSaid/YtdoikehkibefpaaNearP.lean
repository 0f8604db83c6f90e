import Derived.Test.YtdoikehkibefpaaApE
/-! One sample that is another one: plain. -/
namespace Go.Proofs.Ytdoikehkibefpaa
set_option linter.unusedSimpArgs false
set_option linter.unusedVariables false
open Go Go.RowKit Go.Proofs.Ytdoikehkibefpaa.PPb Go.Proofs.YtdoikehkibefpaaW.PrintWords

theorem adf_self (u : Int) : adf u u = 0 := by unfold adf; split <;> omega
theorem adf_comm (u v : Int) : adf u v = adf v u := by unfold adf; split <;> split <;> omega
theorem farK_self (X : List Int) : ∀ k, farK X X k = 0
  | 0 => rfl
  | k + 1 => by rw [farK, farK_self X k, adf_self]; rfl
theorem getD_set (X : List Int) (k : Nat) (v : Int) (hk : k < X.length) (j : Nat) : (X.set k v).getD j 0 = if j = k then v else X.getD j 0 := by
  by_cases h : j = k
  · subst h
    rw [if_pos rfl, List.getD_eq_getElem?_getD, List.getElem?_set_self hk]; rfl
  · rw [if_neg h, List.getD_eq_getElem?_getD, List.getElem?_set_ne (fun e => h e.symm), ← List.getD_eq_getElem?_getD]
section
variable (X : List Int) (k : Nat) (v : Int) (hk : k < X.length)
include hk
theorem farK_one : ∀ j, farK X (X.set k v) j = if k < j then adf (X.getD k 0) v else 0
  | 0 => rfl
  | j + 1 => by
    have h0 : 0 ≤ adf (X.getD k 0) v := by unfold adf; split <;> omega
    rw [farK, farK_one j, getD_set X k v hk]
    by_cases h : j = k
    · subst h
      rw [if_pos rfl, if_neg (Nat.lt_irrefl _), if_pos (Nat.lt_succ_self _)]
      split <;> omega
    · rw [if_neg h, adf_self]
      by_cases h2 : k < j
      · rw [if_pos h2, if_pos (show k < j + 1 by omega), if_neg (show ¬ adf (X.getD k 0) v < 0 by omega)]
      · rw [if_neg h2, if_neg (show ¬ k < j + 1 by omega)]; rfl
theorem sqK_one : ∀ j, sqK X (X.set k v) j = if k < j then adf (X.getD k 0) v * adf (X.getD k 0) v else 0
  | 0 => rfl
  | j + 1 => by
    rw [sqK, sqK_one j, getD_set X k v hk]
    by_cases h : j = k
    · subst h
      rw [if_pos rfl, if_neg (Nat.lt_irrefl _), if_pos (Nat.lt_succ_self _)]
      omega
    · rw [if_neg h, adf_self]
      by_cases h2 : k < j
      · rw [if_pos h2, if_pos (by omega)]; omega
      · rw [if_neg h2, if_neg (by omega)]; rfl
theorem sqK_one' : ∀ j, sqK (X.set k v) X j = if k < j then adf (X.getD k 0) v * adf (X.getD k 0) v else 0
  | 0 => rfl
  | j + 1 => by
    rw [sqK, sqK_one' j, getD_set X k v hk]
    by_cases h : j = k
    · subst h
      rw [if_pos rfl, if_neg (Nat.lt_irrefl _), if_pos (Nat.lt_succ_self _), adf_comm v]
      omega
    · rw [if_neg h, adf_self]
      by_cases h2 : k < j
      · rw [if_pos h2, if_pos (by omega)]; omega
      · rw [if_neg h2, if_neg (by omega)]; rfl
end
section
variable {W H D : Int} {A : Bool} {l : List (List Int)} (hok : FrameOk W H D A l) (p k : Nat) (v : Int) (hp : p < l.length) (hk : k < (l.getD p []).length) (hv : 0 ≤ v ∧ v < 2 ^ D.toNat)
/-- The frame with one sample that is v. -/
def oneL (l : List (List Int)) (p k : Nat) (v : Int) : List (List Int) := l.set p ((l.getD p []).set k v)
include hp in
theorem oneL_at (j : Nat) : (oneL l p k v).getD j [] = if j = p then (l.getD p []).set k v else l.getD j [] := by
  unfold oneL
  by_cases h : j = p
  · subst h
    rw [if_pos rfl, List.getD_eq_getElem?_getD, List.getElem?_set_self hp]; rfl
  · rw [if_neg h, List.getD_eq_getElem?_getD, List.getElem?_set_ne (fun e => h e.symm), ← List.getD_eq_getElem?_getD]
theorem oneL_length : (oneL l p k v).length = l.length := List.length_set ..
include hok hp hk hv
theorem oneL_ok : FrameOk W H D A (oneL l p k v) := by
  refine ⟨hok.shape, by rw [oneL_length]; exact hok.len, fun i hi => ?_, ?_⟩
  · rw [oneL_length] at hi
    rw [oneL_at p k v hp]
    have := hok.rows i hi
    by_cases h : i = p
    · subst h
      rw [if_pos rfl, List.length_set]
      exact this
    · rw [if_neg h]
      exact this
  · rw [List.any_eq_false]
    intro x hx
    have hl := List.any_eq_false.1 hok.low
    unfold oneL at hx
    rcases List.mem_or_eq_of_mem_set hx with h | rfl
    · exact hl x h
    · have h0 := hl _ (getD_mem [] l p hp)
      unfold bigIn at h0 ⊢
      simp only [Bool.not_eq_true, List.any_eq_false, decide_eq_true_eq, Int.not_le] at h0 ⊢
      intro y hy
      rcases List.mem_or_eq_of_mem_set hy with h | rfl
      · exact h0 y h
      · exact hv.2
theorem one_pair : pairF W H D A l W H D A l = 0 ∧ pairF W H D A l W H D A (oneL l p k v) = 0 ∧ pairF W H D A (oneL l p k v) W H D A l = 0 := by
  have h1 := valF_ok hok
  have h2 := valF_ok (oneL_ok hok p k v hp hk hv)
  unfold pairF
  rw [h1, h2]
  simp
theorem one_apart0 : apartF W H D A l W H D A l = ([0, 0, 0, 0], 0) := by
  unfold apartF
  rw [if_pos (one_pair hok p k v hp hk hv).1]
  congr 1
  apply List.ext_getElem
  · rw [farL_len]; rfl
  · intro j h1 h2
    rw [farL_len] at h1
    have e : ([0, 0, 0, 0] : List Int)[j] = 0 := by
      match j, h1 with
      | 0, _ => rfl
      | 1, _ => rfl
      | 2, _ => rfl
      | 3, _ => rfl
    rw [e]
    simp only [farL, List.getElem_map, List.getElem_range]
    split
    · exact farK_self _ _
    · split <;> rfl
theorem one_apart1 : apartF W H D A l W H D A (oneL l p k v) = (([0, 0, 0, 0] : List Int).set p (adf ((l.getD p []).getD k 0) v), 0) := by
  have hl := plN_le A
  have hlen := hok.len
  unfold apartF
  rw [if_pos (one_pair hok p k v hp hk hv).2.1]
  congr 1
  apply List.ext_getElem
  · rw [farL_len, List.length_set]; rfl
  · intro j h1 h2
    rw [farL_len] at h1
    have e : ([0, 0, 0, 0] : List Int)[j] = 0 := by
      match j, h1 with
      | 0, _ => rfl
      | 1, _ => rfl
      | 2, _ => rfl
      | 3, _ => rfl
    rw [List.getElem_set, e]
    simp only [farL, List.getElem_map, List.getElem_range]
    rw [oneL_at p k v hp]
    by_cases hj : p = j
    · subst hj
      rw [if_pos hp, if_pos rfl, if_pos rfl, farK_one _ k v hk, if_pos hk]
    · rw [if_neg (show ¬ (j = p) from fun e => hj e.symm), if_neg hj]
      split
      · exact farK_self _ _
      · split <;> rfl
theorem one_err : errF W H D A l W H D A (oneL l p k v) (p : Int) = (quoF (adf ((l.getD p []).getD k 0) v * adf ((l.getD p []).getD k 0) v) (l.getD p []).length, 0) ∧
    errF W H D A (oneL l p k v) W H D A l (p : Int) = (quoF (adf ((l.getD p []).getD k 0) v * adf ((l.getD p []).getD k 0) v) (l.getD p []).length, 0) := by
  have hlen := hok.len
  obtain ⟨-, h1, h2⟩ := one_pair hok p k v hp hk hv
  have hpp : 0 ≤ (p : Int) ∧ (p : Int) < plN A := by omega
  unfold errF
  rw [h1, h2, if_pos rfl, if_pos rfl, if_pos hpp, if_pos hpp, Int.toNat_natCast, oneL_at p k v hp, if_pos rfl, List.length_set, sqK_one _ k v hk, sqK_one' _ k v hk, if_pos hk]
  exact ⟨rfl, rfl⟩
end
theorem one_same {W H D : Int} {A : Bool} {l : List (List Int)} (p k : Nat) (v : Int) (hp : p < l.length) (hk : k < (l.getD p []).length) : sameF W H D A l W H D A (oneL l p k v) = decide (adf ((l.getD p []).getD k 0) v = 0) := by
  unfold sameF
  rw [Bool.eq_iff_iff, decide_eq_true_eq, decide_eq_true_eq]
  constructor
  · rintro ⟨-, h⟩
    have h2 : (l.getD p []).getD k 0 = ((oneL l p k v).getD p []).getD k 0 := congrArg (fun L : List (List Int) => (L.getD p []).getD k 0) h
    rw [oneL_at p k v hp, if_pos rfl, getD_set _ k v hk, if_pos rfl] at h2
    rw [h2, adf_self]
  · intro h
    refine ⟨⟨rfl, rfl, rfl, rfl⟩, ?_⟩
    have hu : (l.getD p []).getD k 0 = v := by
      unfold adf at h
      split at h <;> omega
    unfold oneL
    have e1 : (l.getD p []).set k v = l.getD p [] := by
      rw [← hu, List.getD_eq_getElem?_getD (l := l.getD p []), List.getElem?_eq_getElem hk]
      exact List.set_getElem_self hk
    rw [e1, List.getD_eq_getElem?_getD, List.getElem?_eq_getElem hp]
    exact (List.set_getElem_self hp).symm
end Go.Proofs.Ytdoikehkibefpaa
