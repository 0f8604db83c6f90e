import Derived.Test.YtdoikehkibefpaaLendC
import Derived.Deep.RegionHeld3
import Derived.Laws.BitsAllLaws
/-! turn: words -/
namespace Go.Proofs.Ytdoikehkibefpaa
set_option linter.unusedSimpArgs false
set_option linter.unusedVariables false
open Go Go.RowKit Go.Proofs.YtdoikehkibefpaaW.PrintWords

/-- What an owner writes over a sample. -/
def turnV (v : Int) (k : Nat) : Int := bits .xor .u16 v (1 + ((k % 5 : Nat) : Int))
def turnTo (n : Nat) (l : List Int) : List Int := l.mapIdx fun j v => if j < n then turnV v j else v
def turnRow (l : List Int) : List Int := turnTo l.length l
theorem turnTo_length (n : Nat) (l : List Int) : (turnTo n l).length = l.length := by simp [turnTo]
theorem turnRow_length (l : List Int) : (turnRow l).length = l.length := turnTo_length _ _
theorem turnTo_get (n : Nat) (l : List Int) (j : Nat) (h : j < l.length) : (turnTo n l)[j]? = some (if j < n then turnV (l.getD j 0) j else l.getD j 0) := by
  simp [turnTo, List.getElem?_mapIdx, List.getElem?_eq_getElem h, List.getD_eq_getElem?_getD]
theorem turnTo_zero (l : List Int) : turnTo 0 l = l := by
  apply List.ext_getElem?
  intro j
  by_cases h : j < l.length
  · rw [turnTo_get 0 l j h, if_neg (by omega), List.getD_eq_getElem?_getD, List.getElem?_eq_getElem h]; rfl
  · rw [List.getElem?_eq_none (by rw [turnTo_length]; omega), List.getElem?_eq_none (by omega)]
theorem turnTo_set (l : List Int) (k : Nat) (h : k < l.length) : (turnTo k l).set k (turnV (l.getD k 0) k) = turnTo (k + 1) l := by
  apply List.ext_getElem?
  intro j
  by_cases hj : j < l.length
  · rw [turnTo_get (k + 1) l j hj]
    by_cases e : j = k
    · subst e
      rw [List.getElem?_set_self (by rw [turnTo_length]; omega), if_pos (by omega)]
    · rw [List.getElem?_set_ne (by omega), turnTo_get k l j hj]
      by_cases h2 : j < k
      · rw [if_pos h2, if_pos (by omega)]
      · rw [if_neg h2, if_neg (by omega)]
  · rw [List.getElem?_eq_none (by rw [List.length_set, turnTo_length]; omega), List.getElem?_eq_none (by rw [turnTo_length]; omega)]
theorem turnTo_at (l : List Int) (k : Nat) (h : k < l.length) : (turnTo k l).getD k 0 = l.getD k 0 := by
  rw [List.getD_eq_getElem?_getD, turnTo_get k l k h, if_neg (by omega)]; rfl
theorem turnV_bd (v : Int) (k : Nat) (h0 : 0 ≤ v) (h1 : v ≤ 65535) : 0 ≤ turnV v k ∧ turnV v k ≤ 65535 := by
  obtain ⟨n, rfl⟩ := Int.eq_ofNat_of_zero_le h0
  unfold turnV
  rw [show (1 : Int) + ((k % 5 : Nat) : Int) = ((1 + k % 5 : Nat) : Int) by push_cast; rfl, u16_xor_nat _ _ (by omega) (by omega)]
  have : n ^^^ (1 + k % 5) < 2 ^ 16 := Nat.xor_lt_two_pow (by omega) (by omega)
  omega

/-- The lists, i of them turned, and k samples of the next. -/
def T (ls : List (List Int)) (i k : Nat) : List (List Int) := ls.mapIdx fun j l => if j < i then turnRow l else if j = i then turnTo k l else l
theorem T_length (ls : List (List Int)) (i k : Nat) : (T ls i k).length = ls.length := by simp [T]
theorem T_get (ls : List (List Int)) (i k j : Nat) (h : j < ls.length) : (T ls i k)[j]? = some (if j < i then turnRow (ls.getD j []) else if j = i then turnTo k (ls.getD j []) else ls.getD j []) := by
  simp [T, List.getElem?_mapIdx, List.getElem?_eq_getElem h, List.getD_eq_getElem?_getD]
theorem T_getD (ls : List (List Int)) (i k : Nat) (h : i < ls.length) : (T ls i k).getD i [] = turnTo k (ls.getD i []) := by
  rw [List.getD_eq_getElem?_getD, T_get ls i k i h, if_neg (by omega), if_pos rfl]; rfl
theorem T_lens (ls : List (List Int)) (i k : Nat) (j : Nat) : ((T ls i k).getD j []).length = (ls.getD j []).length := by
  by_cases h : j < ls.length
  · rw [List.getD_eq_getElem?_getD, T_get ls i k j h]
    simp only [Option.getD_some]
    split
    · exact turnRow_length _
    · split
      · exact turnTo_length _ _
      · rfl
  · rw [List.getD_eq_getElem?_getD, List.getElem?_eq_none (by rw [T_length]; omega), List.getD_eq_getElem?_getD, List.getElem?_eq_none (by omega)]
theorem T_zero (ls : List (List Int)) : T ls 0 0 = ls := by
  apply List.ext_getElem?
  intro j
  by_cases h : j < ls.length
  · rw [T_get ls 0 0 j h, if_neg (by omega), turnTo_zero, ite_self, List.getD_eq_getElem?_getD, List.getElem?_eq_getElem h]; rfl
  · rw [List.getElem?_eq_none (by rw [T_length]; omega), List.getElem?_eq_none (by omega)]
theorem T_next (ls : List (List Int)) (i : Nat) (h : i < ls.length) : T ls i (ls.getD i []).length = T ls (i + 1) 0 := by
  apply List.ext_getElem?
  intro j
  by_cases hj : j < ls.length
  · rw [T_get ls _ _ j hj, T_get ls _ _ j hj]
    by_cases h1 : j < i
    · rw [if_pos h1, if_pos (by omega)]
    · rw [if_neg h1]
      by_cases h2 : j = i
      · subst h2; rw [if_pos rfl, if_pos (by omega)]; rfl
      · rw [if_neg h2, if_neg (by omega), turnTo_zero, ite_self]
  · rw [List.getElem?_eq_none (by rw [T_length]; omega), List.getElem?_eq_none (by rw [T_length]; omega)]
theorem T_all (ls : List (List Int)) : T ls ls.length 0 = ls.map turnRow := by
  apply List.ext_getElem?
  intro j
  by_cases hj : j < ls.length
  · rw [T_get ls _ _ j hj, if_pos hj, List.getElem?_map, List.getElem?_eq_getElem hj, List.getD_eq_getElem?_getD, List.getElem?_eq_getElem hj]; rfl
  · rw [List.getElem?_eq_none (by rw [T_length]; omega), List.getElem?_eq_none (by rw [List.length_map]; omega)]
theorem T_set (ls : List (List Int)) (i k : Nat) (h : i < ls.length) (hk : k < (ls.getD i []).length) : (T ls i k).set i ((turnTo k (ls.getD i [])).set k (turnV ((ls.getD i []).getD k 0) k)) = T ls i (k + 1) := by
  rw [turnTo_set _ _ hk]
  apply List.ext_getElem?
  intro j
  by_cases hj : j < ls.length
  · rw [T_get ls i (k + 1) j hj]
    by_cases e : j = i
    · subst e
      rw [List.getElem?_set_self (by rw [T_length]; omega), if_neg (by omega), if_pos rfl]
    · rw [List.getElem?_set_ne (by omega), T_get ls i k j hj, if_neg e, if_neg e]
  · rw [List.getElem?_eq_none (by rw [List.length_set, T_length]; omega), List.getElem?_eq_none (by rw [T_length]; omega)]
theorem T_take (ls : List (List Int)) (i : Nat) (h : i < ls.length) : (ls.map turnRow).take i ++ [turnRow (ls.getD i [])] = (ls.map turnRow).take (i + 1) := by
  rw [take_snoc _ i [] (by rw [List.length_map]; exact h)]
  congr 2
  simp [List.getD_eq_getElem?_getD, List.getElem?_eq_getElem h]

/-! A sample of what is lent is written over. -/
theorem zip_lens {β : Type} (f : Nat → List Int → β) (hf : ∀ g l l', l.length = l'.length → f g l = f g l') : ∀ (gs : List Nat) (a b : List (List Int)), a.length = b.length → (∀ j, (a.getD j []).length = (b.getD j []).length) → List.zipWith f gs a = List.zipWith f gs b
  | [], _, _, _, _ => rfl
  | _ :: _, [], [], _, _ => rfl
  | _ :: _, [], _ :: _, h, _ => by simp at h
  | _ :: _, _ :: _, [], h, _ => by simp at h
  | g :: gs, x :: a, y :: b, h, hl => by
    rw [List.zipWith_cons_cons, List.zipWith_cons_cons, hf g x y (by simpa using hl 0), zip_lens f hf gs a b (by simpa using h) (fun j => by simpa using hl (j + 1))]


section
variable {c : Ctx} {R : List HP} {w : World} {va : Value} {gL : Nat} {gs : List Nat} {ls : List (List Int)}
theorem lentSet (h : St c (lentIs va gL gs ls :: R) w) (hg : gs.length = ls.length) (i k : Nat) (hi : i < ls.length) (hk : k < (ls.getD i []).length) :
    (w.cell? ⟨gs.getD i 0, k, none⟩ = some (.int .u16 ((ls.getD i []).getD k 0)) ∧ w.frozen? ⟨gs.getD i 0, k, none⟩ = false) ∧
    ∀ v : Int, St c (lentIs va gL gs (ls.set i ((ls.getD i []).set k v)) :: R) (w.setCell ⟨gs.getD i 0, k, none⟩ (.int .u16 v)) := by
  have h1 := h.lentOpen
  have h2 := h1.rot3.sepIn
  have hz : i < (List.zipWith lentRow gs ls).length := by rw [List.length_zipWith]; omega
  have h3 := h2.pick i hz
  have e : (List.zipWith lentRow gs ls)[i] = lentRow (gs.getD i 0) (ls.getD i []) := by
    have := zip_at lentRow gs ls i 0 [] (by omega) hi
    rw [List.getElem?_eq_getElem hz] at this
    exact Option.some.inj this
  rw [e] at h3
  have hs := h3.rowAt (by omega)
  obtain ⟨g', cap', ee, _, _, hcell, hfz⟩ := hs
  unfold lentV at ee
  cases ee
  refine ⟨⟨?_, hfz k⟩, fun v => ?_⟩
  · rw [hcell k (by omega)]
    rw [nums_at _ _ _ (by rw [lentL_length]; omega)]
    unfold lentL
    rw [List.getD_eq_getElem?_getD, List.getElem?_append_left hk, ← List.getD_eq_getElem?_getD]
  · have h4 : St c (row 72 1 (lentV (gs.getD i 0) (ls.getD i [])) ((ls.getD i []).length + 7) ((nums .u16 (lentL (ls.getD i []))).set k (.int .u16 v)) :: _) _ := St.setRow h3 k (.int .u16 v)
    rw [nums_set] at h4
    have e5 : (lentL (ls.getD i [])).set k v = lentL ((ls.getD i []).set k v) := by
      unfold lentL; rw [List.set_append_left _ _ hk]
    rw [e5] at h4
    have e7 : row 72 1 (lentV (gs.getD i 0) (ls.getD i [])) ((ls.getD i []).length + 7) (nums .u16 (lentL ((ls.getD i []).set k v))) = lentRow (gs.getD i 0) ((ls.getD i []).set k v) := by
      unfold lentRow lentV
      rw [List.length_set]
    rw [e7] at h4
    have h5 := h4
    have h6 := (h5.unpick hz)
    have e6 : (List.zipWith lentRow gs ls).set i (lentRow (gs.getD i 0) ((ls.getD i []).set k v)) = List.zipWith lentRow gs (ls.set i ((ls.getD i []).set k v)) := by
      have := zip_set lentRow gs ls i ((ls.getD i []).set k v) (by omega) hi
      rw [← this]
      congr 2
      rw [List.getD_eq_getElem?_getD, List.getElem?_eq_getElem (by omega)]; rfl
    rw [e6] at h6
    have h7 := h6.sepOut.back3
    have hl : ∀ j, ((ls.set i ((ls.getD i []).set k v)).getD j []).length = (ls.getD j []).length := by
      intro j
      by_cases e : j = i
      · subst e
        rw [List.getD_eq_getElem?_getD, List.getElem?_set_self (by omega)]
        simp
      · rw [List.getD_eq_getElem?_getD, List.getElem?_set_ne (by omega), ← List.getD_eq_getElem?_getD]
    refine St.lentShut ?_
    rw [zip_lens lentV (fun g l l' hh => by unfold lentV; rw [hh]) gs _ ls (by rw [List.length_set]) hl, zip_lens headV (fun g l l' hh => by unfold headV; rw [hh]) gs _ ls (by rw [List.length_set]) hl, List.length_set]
    exact h7
end
end Go.Proofs.Ytdoikehkibefpaa
