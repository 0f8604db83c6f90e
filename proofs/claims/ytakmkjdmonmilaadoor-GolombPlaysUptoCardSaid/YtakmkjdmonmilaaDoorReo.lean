import Derived.Test.YtakmkjdmonmilaaDoorPlaneS
/-! A state's parts in another order. -/
namespace Go.Proofs.YtakmkjdmonmilaaDoor
set_option linter.unusedSimpArgs false
set_option linter.unusedVariables false
open Go Go.RowKit
variable {c : Ctx} {R : List HP} {w : World}
theorem take_map_getD {α : Type} (z : α) : ∀ (n : Nat) (L : List α), n ≤ L.length → L.take n = (List.range n).map (fun i => L.getD i z) := by
  intro n L h
  apply List.ext_getElem
  · simp; omega
  · intro i h1 h2
    simp at h1
    simp [List.getD_eq_getElem?_getD, List.getElem?_eq_getElem (show i < L.length by omega)]
theorem St.reo {L : List HP} (h : St c L w) (n : Nat) (p : List Nat) (hp : p.Perm (List.range n)) (hn : n ≤ L.length := by simp only [List.length_cons, List.map_cons, List.map_nil, List.cons_append, List.nil_append, List.drop_succ_cons, List.drop_zero]; omega) : St c (p.map (fun i => L.getD i emp) ++ L.drop n) w := by
  refine h.perm ?_
  have e : L.Perm (L.take n ++ L.drop n) := by rw [List.take_append_drop]
  rw [take_map_getD emp n L hn] at e
  exact e.trans ((hp.map _).symm.append_right _)

end Go.Proofs.YtakmkjdmonmilaaDoor
