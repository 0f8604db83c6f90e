import Derived.Test.YthpkdephkhcgmaaSteps
import Derived.Laws.BytesArg
/-! Lists that are written full: plain. -/
namespace Go.Proofs.Ythpkdephkhcgmaa
set_option linter.unusedSimpArgs false
set_option linter.unusedVariables false
open Go Go.RowKit Go.Proofs.YthpkdephkhcgmaaW.PrintWords

theorem w64k {x : Int} (h1 : -9223372036854775808 ≤ x) (h2 : x ≤ 9223372036854775807) : wrap64 x = x := by unfold wrap64; omega
def fillR (l : List Int) (m : Int) (k : Nat) : List Int := List.replicate k m ++ l.drop k
theorem fillR_length (l : List Int) (m : Int) (k : Nat) (h : k ≤ l.length) : (fillR l m k).length = l.length := by simp [fillR]; omega
theorem fillR_zero (l : List Int) (m : Int) : fillR l m 0 = l := by simp [fillR]
theorem fillR_all (l : List Int) (m : Int) : fillR l m l.length = List.replicate l.length m := by simp [fillR]
theorem fillR_set (l : List Int) (m : Int) (k : Nat) (h : k < l.length) : (fillR l m k).set k m = fillR l m (k + 1) := by
  unfold fillR
  rw [List.set_append_right _ _ (by simp), List.length_replicate, Nat.sub_self, List.drop_eq_getElem_cons h, List.set_cons_zero, List.replicate_succ', List.append_assoc]
  rfl
section
variable (mk : Nat → Int) (ls : List (List Int))
/-- The lists, those before i full of their marks, of the i-th k elements. -/
def fillL (i k : Nat) : List (List Int) := (List.range ls.length).map fun j => if j < i then List.replicate (ls.getD j []).length (mk j) else if j = i then fillR (ls.getD j []) (mk j) k else ls.getD j []
def fullL : List (List Int) := (List.range ls.length).map fun j => List.replicate (ls.getD j []).length (mk j)
theorem fillL_length (i k : Nat) : (fillL mk ls i k).length = ls.length := by simp [fillL]
theorem fullL_length : (fullL mk ls).length = ls.length := by simp [fullL]
theorem fillL_get (i k j : Nat) (hj : j < ls.length) : (fillL mk ls i k).getD j [] = if j < i then List.replicate (ls.getD j []).length (mk j) else if j = i then fillR (ls.getD j []) (mk j) k else ls.getD j [] := by
  unfold fillL
  rw [List.getD_eq_getElem?_getD, List.getElem?_map, List.getElem?_range hj]; rfl
theorem fillL_at (i k : Nat) (hi : i < ls.length) : (fillL mk ls i k).getD i [] = fillR (ls.getD i []) (mk i) k := by
  rw [fillL_get mk ls i k i hi, if_neg (Nat.lt_irrefl _), if_pos rfl]
theorem fillL_set (i k : Nat) (hi : i < ls.length) (hk : k < (ls.getD i []).length) : (fillL mk ls i k).set i ((fillR (ls.getD i []) (mk i) k).set k (mk i)) = fillL mk ls i (k + 1) := by
  rw [fillR_set _ _ _ hk]
  apply List.ext_getElem
  · simp [fillL]
  · intro j h1 h2
    rw [List.length_set, fillL_length] at h1
    rw [List.getElem_set]
    simp only [fillL, List.getElem_map, List.getElem_range]
    by_cases hj : i = j
    · subst hj
      rw [if_pos rfl, if_neg (Nat.lt_irrefl _), if_pos rfl]
    · rw [if_neg hj]
      by_cases h3 : j < i
      · rw [if_pos h3, if_pos h3]
      · rw [if_neg h3, if_neg h3, if_neg (fun e => hj e.symm), if_neg (fun e => hj e.symm)]
theorem fillL_next (i : Nat) : fillL mk ls i (ls.getD i []).length = fillL mk ls (i + 1) 0 := by
  unfold fillL
  apply List.map_congr_left
  intro j _
  by_cases h1 : j < i
  · rw [if_pos h1, if_pos (show j < i + 1 by omega)]
  · rw [if_neg h1]
    by_cases h2 : j = i
    · subst h2
      rw [if_pos rfl, if_pos (show j < j + 1 by omega), fillR_all]
    · rw [if_neg h2, if_neg (show ¬ j < i + 1 by omega)]
      split
      · rw [fillR_zero]
      · rfl
theorem fillL_zero : fillL mk ls 0 0 = ls := by
  apply List.ext_getElem
  · exact fillL_length mk ls 0 0
  · intro j h1 h2
    have e : ls.getD j [] = ls[j] := by rw [List.getD_eq_getElem?_getD, List.getElem?_eq_getElem h2]; rfl
    simp only [fillL, List.getElem_map, List.getElem_range, e]
    rw [if_neg (Nat.not_lt_zero _)]
    split
    · exact fillR_zero _ _
    · rfl
theorem fillL_all : fillL mk ls ls.length 0 = fullL mk ls := by
  unfold fillL fullL
  apply List.map_congr_left
  intro j hj
  rw [if_pos (List.mem_range.1 hj)]
theorem fullL_get (j : Nat) (hj : j < ls.length) : (fullL mk ls).getD j [] = List.replicate (ls.getD j []).length (mk j) := by
  unfold fullL
  rw [List.getD_eq_getElem?_getD, List.getElem?_map, List.getElem?_range hj]; rfl
end

/-- Rows that are full of marks come into a pool. -/
theorem sepPool {c : Ctx} {w : World} {E : TypeId} {K : IntKind} : ∀ (mk : Nat → Int) (vs : List Value) (ls : List (List Int)) (R : List HP) (P : List (Value × Value)), vs.length = ls.length → (∀ j, j < ls.length → ls.getD j [] = List.replicate (ls.getD j []).length (mk j)) →
    St c (Sep (List.zipWith (inner E K) vs ls) :: pool E P :: R) w → ∃ P', (∀ p ∈ P, p ∈ P') ∧ (∀ j, j < vs.length → (vs.getD j (.slice none 0 0), .int K (mk j)) ∈ P') ∧ St c (pool E P' :: R) w
  | _, [], [], R, P, _, _, h => ⟨P, fun p hp => hp, fun j hj => absurd hj (Nat.not_lt_zero _), h.drop⟩
  | _, [], _ :: _, _, _, hl, _, _ => by simp at hl
  | _, _ :: _, [], _, _, hl, _, _ => by simp at hl
  | mk, v :: vs, l :: ls, R, P, hl, hm, h => by
    obtain ⟨n, hn⟩ : ∃ n, l.length = n := ⟨_, rfl⟩
    have h0 : l = List.replicate l.length (mk 0) := hm 0 (by simp)
    rw [hn] at h0
    subst h0
    have h1 : St c (inner E K v (List.replicate n (mk 0)) :: Sep (List.zipWith (inner E K) vs ls) :: pool E P :: R) w := h.star
    have h2 : St c (row E 1 v n (List.replicate n (.int K (mk 0))) :: pool E P :: Sep (List.zipWith (inner E K) vs ls) :: R) w := by
      have h3 := h1.reo 3 [0, 2, 1] (by decide)
      have e : inner E K v (List.replicate n (mk 0)) = row E 1 v n (List.replicate n (.int K (mk 0))) := by unfold inner nums; rw [List.length_replicate, List.map_replicate]
      have h4 : St c (inner E K v (List.replicate n (mk 0)) :: pool E P :: Sep (List.zipWith (inner E K) vs ls) :: R) w := h3
      rw [e] at h4
      exact h4
    have h3 := h2.poolAdd
    obtain ⟨P', q1, q2, q4⟩ := sepPool (fun j => mk (j + 1)) vs ls R _ (by simpa using hl) (fun j hj => hm (j + 1) (by simpa using hj)) h3.swap
    refine ⟨P', fun p hp => q1 p (List.mem_cons_of_mem _ hp), fun j hj => ?_, q4⟩
    cases j with
    | zero => exact q1 _ List.mem_cons_self
    | succ j => exact q2 j (by simpa using hj)
end Go.Proofs.Ythpkdephkhcgmaa
