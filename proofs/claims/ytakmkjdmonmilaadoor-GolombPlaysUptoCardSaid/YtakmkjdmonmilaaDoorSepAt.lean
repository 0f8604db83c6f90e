import Derived.Test.YtakmkjdmonmilaaDoorSl
/-! One of many owned things, taken out and put back. -/
namespace Go.Proofs.YtakmkjdmonmilaaDoor
set_option linter.unusedSimpArgs false
set_option linter.unusedVariables false
open Go Go.RowKit
section
variable {c : Ctx} {R : List HP} {w : World} {α : Type} {f : α → HP} {L : List α} {i : Nat} {x : α}
theorem erase_perm (hx : L[i]? = some x) : (L.map f).Perm (f x :: (L.eraseIdx i).map f) := by
  have hi := (List.getElem?_eq_some_iff.1 hx).1
  have e : L = L.take i ++ x :: L.drop (i + 1) := by
    conv => lhs; rw [← List.take_append_drop i L]
    rw [List.drop_eq_getElem_cons hi, (List.getElem?_eq_some_iff.1 hx).2]
  rw [List.eraseIdx_eq_take_drop_succ]
  conv => lhs; rw [e]
  rw [List.map_append, List.map_cons, List.map_append]
  exact List.perm_middle
theorem St.takeAt (h : St c (Sep (L.map f) :: R) w) (hx : L[i]? = some x) : St c (f x :: Sep ((L.eraseIdx i).map f) :: R) w :=
  St.star (h.mono fun F hF => Sep.perm (erase_perm hx) hF)
theorem St.putAt (h : St c (f x :: Sep ((L.eraseIdx i).map f) :: R) w) (hi : i < L.length) : St c (Sep ((L.set i x).map f) :: R) w := by
  have hx : (L.set i x)[i]? = some x := by simp [hi]
  have e : (L.set i x).eraseIdx i = L.eraseIdx i := by
    rw [List.eraseIdx_eq_take_drop_succ, List.eraseIdx_eq_take_drop_succ, List.take_set, List.drop_set]
    simp
    rw [List.set_eq_of_length_le (by simp; omega)]
  exact (St.unstar h).mono fun F hF => Sep.perm (erase_perm (f := f) hx).symm (by rw [e]; exact hF)
theorem St.putSnoc (h : St c (f x :: Sep (L.map f) :: R) w) : St c (Sep ((L ++ [x]).map f) :: R) w :=
  (St.unstar h).mono fun F hF => Sep.perm (l := f x :: L.map f) (by rw [List.map_append]; exact (List.perm_append_singleton _ _).symm) hF
end
end Go.Proofs.YtakmkjdmonmilaaDoor
