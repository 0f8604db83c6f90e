import Derived.Test.YthpkdephkhcgmaaMat2
import Derived.Test.YthpkdephkhcgmaaPool
/-! Lists of owned things, gone through one by one; appends onto a pool's list; rows of pairs. -/
namespace Go.Proofs.Ythpkdephkhcgmaa
set_option linter.unusedSimpArgs false
set_option linter.unusedVariables false
open Go Go.RowKit Go.Proofs.YthpkdephkhcgmaaW.PrintWords Go.Proofs.YthpkdephkhcgmaaW.PrintLast

section
variable {c : Ctx} {R : List HP} {w : World} {α β : Type}
theorem St.stepOut (f : α → β → HP) (xs : List α) (ys : List β) (i : Nat) (x0 : α) (y0 : β) (h1 : i < xs.length) (h2 : i < ys.length) (h : St c (Sep (List.zipWith f (xs.drop i) (ys.drop i)) :: R) w) :
    St c (f (xs.getD i x0) (ys.getD i y0) :: Sep (List.zipWith f (xs.drop (i + 1)) (ys.drop (i + 1))) :: R) w := by
  rw [List.drop_eq_getElem_cons h1, List.drop_eq_getElem_cons h2, List.zipWith_cons_cons] at h
  have h3 := h.star
  have e1 : xs.getD i x0 = xs[i] := by rw [List.getD_eq_getElem?_getD, List.getElem?_eq_getElem h1]; rfl
  have e2 : ys.getD i y0 = ys[i] := by rw [List.getD_eq_getElem?_getD, List.getElem?_eq_getElem h2]; rfl
  rw [e1, e2]
  exact h3
theorem St.stepIn (f : α → β → HP) (xs : List α) (ys : List β) (i : Nat) (x0 : α) (y0 : β) (h1 : i < xs.length) (h2 : i < ys.length) (h : St c (f (xs.getD i x0) (ys.getD i y0) :: Sep (List.zipWith f (xs.take i) (ys.take i)) :: R) w) :
    St c (Sep (List.zipWith f (xs.take (i + 1)) (ys.take (i + 1))) :: R) w := by
  rw [take_snoc xs i x0 h1, take_snoc ys i y0 h2, zip_snoc _ _ _ _ _ (by simp; omega)]
  exact h.sepSnoc
theorem St.sepNil (h : St c R w) : St c (Sep [] :: R) w := h.add trivial
theorem take_map_getD {α : Type} (z : α) : ∀ (n : Nat) (L : List α), n ≤ L.length → L.take n = (List.range n).map (fun i => L.getD i z) := by
  intro n L h
  apply List.ext_getElem
  · simp; omega
  · intro i h1 h2
    simp at h1
    simp [List.getD_eq_getElem?_getD, List.getElem?_eq_getElem (show i < L.length by omega)]
/-- The first n in another order. -/
theorem St.reo {L : List HP} (h : St c L w) (n : Nat) (p : List Nat) (hp : p.Perm (List.range n)) (hn : n ≤ L.length := by simp only [List.length_cons, List.map_cons, List.map_nil, List.cons_append, List.nil_append, List.drop_succ_cons, List.drop_zero]; omega) : St c (p.map (fun i => L.getD i emp) ++ L.drop n) w := by
  refine h.perm ?_
  have e : L.Perm (L.take n ++ L.drop n) := by rw [List.take_append_drop]
  rw [take_map_getD emp n L hn] at e
  exact e.trans ((hp.map _).symm.append_right _)

/-- A literal of one element. -/
theorem St.rowLit (h : St c R w) (e : TypeId) (v : Value) : St c (row e 1 (.slice (some ⟨w.heap.size, 0, none⟩) 1 1) 1 [v] :: R) (w.alloc (.cells #[v] e)) := by
  refine h.made ⟨rfl, .inr ⟨w.heap.size, 1, #[v], rfl, Nat.zero_le _, heap_alloc_new w _, Nat.le_refl _, by decide, rfl, rfl⟩⟩ ⟨rfl, rfl, rfl, by simp, fun b hb _ => Below.heap_alloc w _ b hb⟩ fun b hb => ?_
  simp only [Value.ownBlock, Option.some.injEq] at hb
  omega
theorem St.rowLit' {n : Nat} (h : St c R w) (hn : w.heap.size = n) (e : TypeId) (v : Value) : St c (row e 1 (.slice (some ⟨n, 0, none⟩) 1 1) 1 [v] :: R) (w.alloc (.cells #[v] e)) := by
  subst hn
  exact h.rowLit e v

/-- An append of its mark onto a pool's list, in a region that draws its order. -/
theorem St.stepPool {P : Program} {ops : Array Oper} {o : Oper} {a : Act} {K : Act → World → Prop} {Q : Exit → Act → World → Prop} {E' : Prop} (hgd : o.guard = none) (s x : Operand) (t : TypeId)
    (ho : o.op = .call { callee := .builtin .append, args := #[s, x], argTypes := #[t, t] }) {e : TypeId} {z : Value} {bytes : Nat} (E : Elem P t e z 1 bytes) {l : List (Value × Value)} {m : Value} {ao : Option Addr} {n cap : Nat}
    (hs : a.eval s = .slice ao n cap) (hS : St c (pool e l :: R) w) (hv : (.slice ao n cap, m) ∈ l) (ad : Addr) (cp : Nat) (hx : a.eval x = .slice (some ad) 1 cp) (hnew : w.cell? ad = some m) (h1 : m.oneCell' = true)
    (hb : (n + 1) * bytes ≤ 140737488355328) (hb2 : n + 1 ≤ maxLen) (h : ∀ g' cp' w', n + 1 ≤ cp' → St c (pool e ((.slice (some ⟨g', 0, none⟩) (n + 1) cp', m) :: l) :: R) w' → K (a.put o.dst (.slice (some ⟨g', 0, none⟩) (n + 1) cp')) w') :
    if Region.wanted o (yielded ops a.tmps) = true then Oper.wp P o a w K Q else E' := by
  have hw : Region.wanted o (yielded ops a.tmps) = true := by simp [Region.wanted, hgd]
  rw [if_pos hw]
  obtain ⟨g', cp', w', hr, h2, h3⟩ := hS.poolRun E o.type hv ad cp hnew h1 hb2 hb
  unfold Oper.wp execOp
  simp only [ho, resolve, invoke, builtin, Sem.run_bind, Sem.run_pure, Result.andThen_ok, List.map_toArray, List.map_cons, List.map_nil, hs, hx, hr]
  exact h g' cp' w' h2 h3
/-- The like, in the text's order. -/
theorem St.poolAppend {P : Program} {ops : Array Oper} {rest : List Oper} {o : Oper} {a : Act} {Q : Exit → Act → World → Prop} (hgd : o.guard = none) (s x : Operand) (t : TypeId)
    (ho : o.op = .call { callee := .builtin .append, args := #[s, x], argTypes := #[t, t] }) {e : TypeId} {z : Value} {bytes : Nat} (E : Elem P t e z 1 bytes) {l : List (Value × Value)} {m : Value} {ao : Option Addr} {n cap : Nat}
    (hs : a.eval s = .slice ao n cap) (hS : St c (pool e l :: R) w) (hv : (.slice ao n cap, m) ∈ l) (ad : Addr) (cp : Nat) (hx : a.eval x = .slice (some ad) 1 cp) (hnew : w.cell? ad = some m) (h1 : m.oneCell' = true)
    (hb : (n + 1) * bytes ≤ 140737488355328) (hb2 : n + 1 ≤ maxLen) (h : ∀ g' cp' w', n + 1 ≤ cp' → St c (pool e ((.slice (some ⟨g', 0, none⟩) (n + 1) cp', m) :: l) :: R) w' → wpList P ops Q rest (a.put o.dst (.slice (some ⟨g', 0, none⟩) (n + 1) cp')) w') :
    wpList P ops Q (o :: rest) a w := by
  obtain ⟨g', cp', w', hr, h2, h3⟩ := hS.poolRun E o.type hv ad cp hnew h1 hb2 hb
  refine wpList_plain hgd fun K hK => ?_
  unfold Oper.wp execOp
  simp only [ho, resolve, invoke, builtin, Sem.run_bind, Sem.run_pure, Result.andThen_ok, List.map_toArray, List.map_cons, List.map_nil, hs, hx, hr]
  exact hK _ _ (h g' cp' w' h2 h3)

/-- append(s, m) with the mark laid in a block of its own first. -/
theorem St.poolAppend1 {P : Program} {ops : Array Oper} {rest : List Oper} {o : Oper} {a : Act} {Q : Exit → Act → World → Prop} (hgd : o.guard = none) (s x : Operand) (t : TypeId)
    (ho : o.op = .call { callee := .builtin .append, args := #[s, x], argTypes := #[t, t] }) {e : TypeId} {z : Value} {bytes : Nat} (E : Elem P t e z 1 bytes) {l : List (Value × Value)} {m : Value} {ao : Option Addr} {n cap : Nat}
    (hs : a.eval s = .slice ao n cap) (hS : St c (pool e l :: R) w) (hv : (.slice ao n cap, m) ∈ l) (T : TypeId) (hx : a.eval x = .slice (some ⟨w.heap.size, 0, none⟩) 1 1) (h1 : m.oneCell' = true)
    (hb : (n + 1) * bytes ≤ 140737488355328) (hb2 : n + 1 ≤ maxLen) (h : ∀ g' cp' w', n + 1 ≤ cp' → St c (pool e ((.slice (some ⟨g', 0, none⟩) (n + 1) cp', m) :: l) :: R) w' → wpList P ops Q rest (a.put o.dst (.slice (some ⟨g', 0, none⟩) (n + 1) cp')) w') :
    wpList P ops Q (o :: rest) a (w.alloc (.cells #[m] T)) := by
  have hA := hS.alloc [m] T
  exact St.poolAppend hgd s x t ho E hs hA.swap hv _ 1 hx (hA.cell 0) h1 hb hb2 fun g' cp' w' h2 h3 => h g' cp' w' h2 h3.swap.drop

/-- A list of pairs, cell by cell. -/
def hc (hs : List (Value × Value)) : List Value := hs.flatMap fun p => [p.1, p.2]
theorem hc_length : ∀ hs, (hc hs).length = hs.length * 2
  | [] => rfl
  | p :: hs => by
    have := hc_length hs
    simp only [hc, List.flatMap_cons, List.length_append, List.length_cons, List.length_nil] at this ⊢
    omega
theorem hc_snoc (hs : List (Value × Value)) (p : Value × Value) : hc (hs ++ [p]) = hc hs ++ [p.1, p.2] := by simp [hc]
def z0 : Value × Value := (.slice none 0 0, .int .u16 0)
theorem hc_get0 : ∀ (hs : List (Value × Value)) (i : Nat), i < hs.length → (hc hs)[i * 2]? = some (hs.getD i z0).1
  | [], i, h => absurd h (Nat.not_lt_zero _)
  | p :: hs, 0, _ => rfl
  | p :: hs, i + 1, h => by
    have := hc_get0 hs i (by simpa using h)
    have e : hc (p :: hs) = p.1 :: p.2 :: hc hs := rfl
    rw [e, show (i + 1) * 2 = i * 2 + 1 + 1 by omega, List.getElem?_cons_succ, List.getElem?_cons_succ, this]
    rfl
theorem hc_get1 : ∀ (hs : List (Value × Value)) (i : Nat), i < hs.length → (hc hs)[i * 2 + 1]? = some (hs.getD i z0).2
  | [], i, h => absurd h (Nat.not_lt_zero _)
  | p :: hs, 0, _ => rfl
  | p :: hs, i + 1, h => by
    have := hc_get1 hs i (by simpa using h)
    have e : hc (p :: hs) = p.1 :: p.2 :: hc hs := rfl
    rw [e, show (i + 1) * 2 + 1 = (i * 2 + 1) + 1 + 1 by omega, List.getElem?_cons_succ, List.getElem?_cons_succ, this]
    rfl
theorem hc_set : ∀ (hs : List (Value × Value)) (i : Nat) (v : Value), i < hs.length → (hc hs).set (i * 2) v = hc (hs.set i (v, (hs.getD i z0).2))
  | [], i, _, h => absurd h (Nat.not_lt_zero _)
  | p :: hs, 0, v, _ => rfl
  | p :: hs, i + 1, v, h => by
    have := hc_set hs i v (by simpa using h)
    have e : hc (p :: hs) = p.1 :: p.2 :: hc hs := rfl
    rw [e, show (i + 1) * 2 = i * 2 + 1 + 1 by omega, List.set_cons_succ, List.set_cons_succ, this, List.set_cons_succ]
    rfl
/-- A pool whose list at a place was made longer. -/
theorem St.poolSet {e : TypeId} {hs : List (Value × Value)} {v m : Value} (h : St c (pool e ((v, m) :: hs) :: R) w) (i : Nat) : St c (pool e (hs.set i (v, m)) :: R) w :=
  h.poolSub fun p hp => (List.mem_or_eq_of_mem_set hp).elim (List.mem_cons_of_mem _) (fun e => by subst e; exact List.mem_cons_self)
theorem St.poolSnoc {e : TypeId} {hs : List (Value × Value)} {v m : Value} (h : St c (pool e ((v, m) :: hs) :: R) w) : St c (pool e (hs ++ [(v, m)]) :: R) w :=
  h.poolSub fun p hp => (List.mem_append.1 hp).elim (List.mem_cons_of_mem _) (fun h => by simp at h; subst h; exact List.mem_cons_self)
/-- A list's length. -/
def lenV : Value → Nat
  | .slice _ n _ => n
  | _ => 0
end
end Go.Proofs.Ythpkdephkhcgmaa
