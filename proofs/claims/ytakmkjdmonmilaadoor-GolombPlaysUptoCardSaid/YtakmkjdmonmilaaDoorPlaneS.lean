import Derived.Test.YtakmkjdmonmilaaDoorSl
import Derived.Test.YtakmkjdmonmilaaDoorWWords
/-! The state of a walk beside contracts that leave what there was. -/
namespace Go.Proofs.YtakmkjdmonmilaaDoor
set_option linter.unusedSimpArgs false
set_option linter.unusedVariables false
open Go Go.RowKit

theorem St.of_below {c : Ctx} {l : List HP} {w w' : World} (h : St c l w) (hb : Below w.heap.size w w') : St c l w' := by
  obtain ⟨F, h1, h2, h3⟩ := h
  refine ⟨F, (Sep l).loc h1 fun k hk => hb.block k ((Sep l).lt h1 hk), h2, ⟨hb.os.trans h3.os, hb.tape.trans h3.tape, hb.output.trans h3.output, Nat.le_trans h3.size hb.size, fun k h4 h5 => ?_⟩⟩
  rw [hb.block k (Nat.lt_of_lt_of_le h4 h3.size), h3.block k h4 h5]

theorem St.alloc' {c : Ctx} {R : List HP} {w : World} {n : Nat} (h : St c R w) (hn : w.heap.size = n) (cs : List Value) (T : TypeId) : St c (blk n cs T :: R) (w.alloc (.cells cs.toArray T)) := by
  subst hn
  exact h.alloc cs T

section
variable {c : Ctx} {l : List HP} {w : World} {g : Nat} {T : TypeId}
theorem St.blk_mem {cs : List Value} (H : St c l w) (h : blk g cs T ∈ l) : w.heap[g]? = some (.cells cs.toArray T (0, 0)) := by
  obtain ⟨s, t, rfl⟩ := List.append_of_mem h
  exact (H.perm List.perm_middle : St c (blk g cs T :: (s ++ t)) w).blk_at
theorem St.cells_mem {cs : List Value} (H : St c l w) (h : blk g cs T ∈ l) (i : Nat) : w.cell? ⟨g, i, none⟩ = cs[i]? := by
  obtain ⟨s, t, rfl⟩ := List.append_of_mem h
  exact (H.perm List.perm_middle : St c (blk g cs T :: (s ++ t)) w).cell i
theorem St.cells3 {a b d : Value} (H : St c l w) (h : blk g [a, b, d] T ∈ l) : w.cell? ⟨g, 0, none⟩ = some a ∧ w.cell? ⟨g, 1, none⟩ = some b ∧ w.cell? ⟨g, 2, none⟩ = some d :=
  ⟨H.cells_mem h 0, H.cells_mem h 1, H.cells_mem h 2⟩
theorem St.cells4 {a b d e : Value} (H : St c l w) (h : blk g [a, b, d, e] T ∈ l) : w.cell? ⟨g, 0, none⟩ = some a ∧ w.cell? ⟨g, 1, none⟩ = some b ∧ w.cell? ⟨g, 2, none⟩ = some d ∧ w.cell? ⟨g, 3, none⟩ = some e :=
  ⟨H.cells_mem h 0, H.cells_mem h 1, H.cells_mem h 2, H.cells_mem h 3⟩
theorem St.cells5 {a b d e f : Value} (H : St c l w) (h : blk g [a, b, d, e, f] T ∈ l) : w.cell? ⟨g, 0, none⟩ = some a ∧ w.cell? ⟨g, 1, none⟩ = some b ∧ w.cell? ⟨g, 2, none⟩ = some d ∧ w.cell? ⟨g, 3, none⟩ = some e ∧ w.cell? ⟨g, 4, none⟩ = some f :=
  ⟨H.cells_mem h 0, H.cells_mem h 1, H.cells_mem h 2, H.cells_mem h 3, H.cells_mem h 4⟩
end
section
variable {α : Type} {a b d e f g : α} {l : List α}
theorem mm0 : a ∈ a :: l := List.mem_cons_self
theorem mm1 : a ∈ b :: a :: l := List.mem_cons_of_mem _ mm0
theorem mm2 : a ∈ b :: d :: a :: l := List.mem_cons_of_mem _ mm1
theorem mm3 : a ∈ b :: d :: e :: a :: l := List.mem_cons_of_mem _ mm2
theorem mm4 : a ∈ b :: d :: e :: f :: a :: l := List.mem_cons_of_mem _ mm3
theorem mm5 : a ∈ b :: d :: e :: f :: g :: a :: l := List.mem_cons_of_mem _ mm4
end
end Go.Proofs.YtakmkjdmonmilaaDoor
