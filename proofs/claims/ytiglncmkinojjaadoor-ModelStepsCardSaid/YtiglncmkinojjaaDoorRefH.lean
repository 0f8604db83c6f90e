import Derived.Test.YtiglncmkinojjaaDoorRefE
/-! The document's model: a table's element stored. -/
namespace Go.Proofs.YtiglncmkinojjaaDoor
set_option linter.unusedSimpArgs false
set_option linter.unusedVariables false
open Go Go.RowKit

theorem flat4_set (l : List (Int × Int × Int × Int)) : ∀ (k j : Nat) (hj : j < 4) (hk : k < l.length) (v : Int) (s' : Int × Int × Int × Int) (h : (st4 l[k]).set j (.int .i64 v) = st4 s'),
    (l.flatMap st4).set (k * 4 + j) (.int .i64 v) = (l.set k s').flatMap st4 := by
  induction l with
  | nil => intro k j hj hk; exact absurd hk (Nat.not_lt_zero k)
  | cons x l ih =>
    intro k j hj hk v s' h
    have h4 : (st4 x).length = 4 := rfl
    cases k with
    | zero =>
      rw [List.set_cons_zero, List.flatMap_cons, List.flatMap_cons, Nat.zero_mul, Nat.zero_add, List.set_append_left _ _ (by omega)]
      rw [← h]; rfl
    | succ k =>
      rw [List.set_cons_succ, List.flatMap_cons, List.flatMap_cons, List.set_append_right _ _ (by omega), h4, show (k + 1) * 4 + j - 4 = k * 4 + j by omega]
      rw [ih k j hj (by simpa using hk) v s' h]
theorem rtb_put {c : Ctx} {R : List HP} {gL cp : Nat} {M : Mo} {w : World} {k : Nat} (hS : St c (rtb gL cp M :: R) w) (hk : k < M.st.length) (a b s n : Int) :
    St c (rtb gL cp (M.put k (a, b, s, n)) :: R) ((((w.setCell ⟨gL, k * 4, none⟩ (.int .i64 a)).setCell ⟨gL, k * 4 + 1, none⟩ (.int .i64 b)).setCell ⟨gL, k * 4 + 2, none⟩ (.int .i64 s)).setCell ⟨gL, k * 4 + 3, none⟩ (.int .i64 n)) := by
  have h4 := (((St.setRow hS (k * 4 + 0) (.int .i64 a)).setRow (k * 4 + 1) (.int .i64 b)).setRow (k * 4 + 2) (.int .i64 s)).setRow (k * 4 + 3) (.int .i64 n)
  rw [flat4_set M.st k 0 (by decide) hk a (a, M.st[k].2.1, M.st[k].2.2.1, M.st[k].2.2.2) rfl] at h4
  rw [flat4_set _ k 1 (by decide) (by simpa using hk) b (a, b, M.st[k].2.2.1, M.st[k].2.2.2) (by simp [st4])] at h4
  rw [flat4_set _ k 2 (by decide) (by simpa using hk) s (a, b, s, M.st[k].2.2.2) (by simp [st4])] at h4
  rw [flat4_set _ k 3 (by decide) (by simpa using hk) n (a, b, s, n) (by simp [st4])] at h4
  simpa [rtb, Mo.put] using h4
end Go.Proofs.YtiglncmkinojjaaDoor
