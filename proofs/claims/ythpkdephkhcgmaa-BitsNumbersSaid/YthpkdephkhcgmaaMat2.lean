import Derived.Test.YthpkdephkhcgmaaMem
import Derived.Test.YthpkdephkhcgmaaWLast
import Derived.Test.YthpkdephkhcgmaaWTab
/-! Rows of rows: opened, shut, made longer; an append in a region. -/
namespace Go.Proofs.Ythpkdephkhcgmaa
set_option linter.unusedSimpArgs false
set_option linter.unusedVariables false
open Go Go.RowKit Go.Proofs.YthpkdephkhcgmaaW.PrintWords Go.Proofs.YthpkdephkhcgmaaW.PrintLast

section
variable {c : Ctx} {R : List HP} {w : World}
theorem St.matNil (h : St c R w) (e t : TypeId) (k : IntKind) : St c (mat e t k (.slice none 0 0) [] :: R) w := by
  refine St.close (A := fun vs : List Value => (row e 1 (.slice none 0 0) 0 vs).star (Sep (List.zipWith (inner t k) vs []))) [] (St.unstar ?_)
  exact (St.add (p := True) trivial (h.nilRow e 1)).swap
theorem St.emptyRow (h : St c R w) (e : TypeId) : St c (row e 1 (.slice (some ⟨w.heap.size, 0, none⟩) 0 0) 0 [] :: R) (w.alloc (.cells #[] e)) := by
  refine h.made ⟨rfl, .inr ⟨w.heap.size, 0, #[], rfl, Nat.zero_le _, heap_alloc_new w _, Nat.le_refl _, Nat.zero_le _, rfl, rfl⟩⟩ ⟨rfl, rfl, rfl, by simp, fun b hb _ => Below.heap_alloc w _ b hb⟩ fun b hb => ?_
  simp only [Value.ownBlock, Option.some.injEq] at hb
  omega
theorem St.stepAppend {P : Program} {ops : Array Oper} {o : Oper} {a : Act} {K : Act → World → Prop} {Q : Exit → Act → World → Prop} {E' : Prop} (hgd : o.guard = none) (s x : Operand) (t : TypeId)
    (ho : o.op = .call { callee := .builtin .append, args := #[s, x], argTypes := #[t, t] }) {e : TypeId} {z : Value} {size bytes : Nat} (E : Elem P t e z size bytes) {v : Value} {n : Nat} {xs : List Value}
    (hs : a.eval s = v) (hS : St c (row e size v n xs :: R) w) (ad : Addr) (m cp : Nat) (news : List Value) (hx : a.eval x = .slice (some ad) m cp) (hl : news.length = m * size) (hnews : ∀ j u, news[j]? = some u → w.cell? (ad.add j) = some u) (h1 : ∀ u ∈ news, u.oneCell' = true)
    (hb : (n + m) * bytes ≤ 140737488355328) (hb2 : n + m ≤ maxLen) (h : ∀ v' w', St c (row e size v' (n + m) (xs ++ news) :: R) w' → K (a.put o.dst v') w') :
    if Region.wanted o (yielded ops a.tmps) = true then Oper.wp P o a w K Q else E' := by
  have hw : Region.wanted o (yielded ops a.tmps) = true := by simp [Region.wanted, hgd]
  rw [if_pos hw]
  obtain ⟨v', w', hr, h2, h3, h4, h5⟩ := run_append_St E o.type hS.row_at ad m cp news hl hnews h1 hb2 hb
  unfold Oper.wp execOp
  simp only [ho, resolve, invoke, builtin, Sem.run_bind, Sem.run_pure, Result.andThen_ok, List.map_toArray, List.map_cons, List.map_nil, hs, hx, hr]
  exact h v' w' (hS.regrown h2 h3 h5)
theorem St.matOpen {e t : TypeId} {k : IntKind} {v : Value} {ls : List (List Int)} (h : St c (mat e t k v ls :: R) w) : ∃ vs : List Value, vs.length = ls.length ∧ St c (row e 1 v ls.length vs :: Sep (List.zipWith (inner t k) vs ls) :: R) w := by
  obtain ⟨vs, h⟩ := h.open_
  have h := h.star
  exact ⟨vs, by have := h.row_at.1; omega, h⟩
theorem St.matShut {e t : TypeId} {k : IntKind} {v : Value} {ls : List (List Int)} {vs : List Value} (h : St c (row e 1 v ls.length vs :: Sep (List.zipWith (inner t k) vs ls) :: R) w) : St c (mat e t k v ls :: R) w :=
  St.close (A := fun vs : List Value => (row e 1 v ls.length vs).star (Sep (List.zipWith (inner t k) vs ls))) vs (St.unstar h)
/-- A row more. -/
theorem St.matSnoc {e t : TypeId} {k : IntKind} {v u : Value} {ls : List (List Int)} {vs : List Value} {l : List Int} {n : Nat} (h : St c (row e 1 v n (vs ++ [u]) :: inner t k u l :: Sep (List.zipWith (inner t k) vs ls) :: R) w) (hl : vs.length = ls.length) (hn : n = ls.length + 1) : St c (mat e t k v (ls ++ [l]) :: R) w := by
  subst hn
  refine St.matShut (vs := vs ++ [u]) ?_
  rw [zip_snoc _ _ _ _ _ hl, List.length_append]
  exact h.back3.sepSnoc.swap
end
theorem St.matPick {c : Ctx} {R : List HP} {w : World} {e t : TypeId} {k : IntKind} {v : Value} {ls : List (List Int)} (h : St c (mat e t k v ls :: R) w) (i : Nat) (hi : i < ls.length) (h0 : 0 < (ls.getD i []).length) :
    ∃ gv cp g cap E, v = .slice (some ⟨gv, 0, none⟩) ls.length cp ∧ (ls.getD i []).length ≤ cap ∧ w.cell? ⟨gv, i, none⟩ = some (.slice (some ⟨g, 0, none⟩) (ls.getD i []).length cap) ∧
      St c (row t 1 (.slice (some ⟨g, 0, none⟩) (ls.getD i []).length cap) (ls.getD i []).length (nums k (ls.getD i [])) :: (E ++ R)) w ∧
      ∀ (w' : World) (l' : List Int), l'.length = (ls.getD i []).length → St c (row t 1 (.slice (some ⟨g, 0, none⟩) (ls.getD i []).length cap) (ls.getD i []).length (nums k l') :: (E ++ R)) w' → St c (mat e t k v (ls.set i l') :: R) w' := by
  obtain ⟨vs, hvs, h1⟩ := h.matOpen
  obtain ⟨gv, cp, rfl, -, -, hcell, -⟩ := h1.rowAt (by omega)
  have hz : (List.zipWith (inner t k) vs ls).length = ls.length := by rw [List.length_zipWith]; omega
  have hiv : i < vs.length := by omega
  have hl : ls[i] = ls.getD i [] := by rw [List.getD_eq_getElem?_getD, List.getElem?_eq_getElem hi]; rfl
  have h2 := h1.swap.sepIn
  have h3 := h2.pick i (by omega)
  have hin : (List.zipWith (inner t k) vs ls)[i]'(by omega) = inner t k vs[i] (ls.getD i []) := by rw [List.getElem_zipWith, hl]
  rw [hin] at h3
  have h4 : St c (row t 1 vs[i] (ls.getD i []).length (nums k (ls.getD i [])) :: ((List.zipWith (inner t k) vs ls).eraseIdx i ++ (row e 1 (.slice (some ⟨gv, 0, none⟩) ls.length cp) ls.length vs :: R))) w := h3
  obtain ⟨g, cap, hvi, hcap, -, -, -⟩ := h4.rowAt h0
  rw [hvi] at h4
  refine ⟨gv, cp, g, cap, (List.zipWith (inner t k) vs ls).eraseIdx i ++ [row e 1 (.slice (some ⟨gv, 0, none⟩) ls.length cp) ls.length vs], rfl, hcap, ?_, ?_, ?_⟩
  · rw [hcell i (by omega), List.getElem?_eq_getElem hiv, hvi]
  · rw [List.append_assoc]
    exact h4
  · intro w' l' hl' h5
    have h6 : St c (inner t k vs[i] l' :: ((List.zipWith (inner t k) vs ls).eraseIdx i ++ (row e 1 (.slice (some ⟨gv, 0, none⟩) ls.length cp) ls.length vs :: R))) w' := by
      unfold inner
      rw [hl', hvi]
      rw [List.append_assoc] at h5
      exact h5
    have h7 := h6.unpick (by omega)
    rw [zip_set (inner t k) vs ls i l' hiv hi] at h7
    have h8 := h7.sepOut.swap
    refine St.matShut (vs := vs) ?_
    rw [List.length_set]
    exact h8


end Go.Proofs.Ythpkdephkhcgmaa
