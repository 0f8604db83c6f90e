import Derived.Test.YthpkdephkhcgmaaMem
import Derived.Test.YthpkdephkhcgmaaSteps
/-! Rows that came out of the printer's contracts, and rows read by them. -/
namespace Go.Proofs.Ythpkdephkhcgmaa
set_option linter.unusedSimpArgs false
set_option linter.unusedVariables false
open Go Go.RowKit Go.Proofs.YthpkdephkhcgmaaW.PrintWords

section
variable {c : Ctx} {R : List HP} {w w' : World} {t : TypeId} {k : IntKind}
/-- A row that a call made. -/
theorem St.of_R {ok : Nat → Prop} {v : Value} {l : List Int} (h : St c R w) (hb : Below w.heap.size w w') (hR : Kd.R (Kd.int k) t w' w.heap.size ok v l) : St c (inner t k v l :: R) w' := by
  have ho := Kd.own_of_R hR
  exact h.made (own_weaken ho (Nat.zero_le _)) ⟨hb.os, hb.tape, hb.output, hb.size, fun b hb1 _ => hb.block b hb1⟩ fun b hb1 => own_base ho b hb1
/-- A row of one's own, read. -/
theorem St.innerC {u : Value} {l : List Int} (h : St c (inner t k u l :: R) w) : ∃ A cap, u = .slice A l.length cap ∧ l.length ≤ cap ∧ Kd.C (Kd.int k) w A l.length l :=
  Kd.R_reads (e := t) (base := 0) (ok := fun _ => True) (Kd.R_of_own (St.row_at h) (fun b hb => trivial))
theorem St.innerC' {A : Option Addr} {n cap : Nat} {l : List Int} (h : St c (inner t k (.slice A n cap) l :: R) w) : n = l.length ∧ l.length ≤ cap ∧ Kd.C (Kd.int k) w A l.length l := by
  obtain ⟨A', cap', e, h1, h2⟩ := h.innerC
  simp only [Value.slice.injEq] at e
  obtain ⟨rfl, e2, rfl⟩ := e
  exact ⟨e2, h1, h2⟩
theorem St.matC' {e : TypeId} {A : Option Addr} {n cap : Nat} {ls : List (List Int)} (h : St c (mat e t k (.slice A n cap) ls :: R) w) : n = ls.length ∧ ls.length ≤ cap ∧ Kd.C (Kd.slice t (Kd.int k)) w A ls.length ls := by
  obtain ⟨A', cap', e, h1, h2⟩ := h.matC
  simp only [Value.slice.injEq] at e
  obtain ⟨rfl, e2, rfl⟩ := e
  exact ⟨e2, h1, h2⟩
/-- Three rows under a list of their own. -/
theorem St.mat3 {e : TypeId} {g : Nat} {a b d : Value} {l1 l2 l3 : List Int} (h : St c (row e 1 (.slice (some ⟨g, 0, none⟩) 3 3) 3 [a, b, d] :: inner t k a l1 :: inner t k b l2 :: inner t k d l3 :: R) w) : St c (mat e t k (.slice (some ⟨g, 0, none⟩) 3 3) [l1, l2, l3] :: R) w := by
  refine St.matShut (vs := [a, b, d]) ?_
  have h1 : St c (row e 1 (.slice (some ⟨g, 0, none⟩) 3 3) 3 [a, b, d] :: [inner t k a l1, inner t k b l2, inner t k d l3] ++ R) w := h
  exact (St.sepOut (L := [inner t k a l1, inner t k b l2, inner t k d l3]) (h.reo 4 [1, 2, 3, 0] (by decide))).swap
/-- A literal of three elements. -/
theorem St.rowLit3 {n : Nat} (h : St c R w) (hn : w.heap.size = n) (e : TypeId) (a b d : Value) : St c (row e 1 (.slice (some ⟨n, 0, none⟩) 3 3) 3 [a, b, d] :: R) (w.alloc (.cells #[a, b, d] e)) := by
  subst hn
  refine h.made ⟨rfl, .inr ⟨w.heap.size, 3, #[a, b, d], rfl, Nat.zero_le _, heap_alloc_new w _, Nat.le_refl _, by decide, rfl, rfl⟩⟩ ⟨rfl, rfl, rfl, by simp, fun b hb _ => Below.heap_alloc w _ b hb⟩ fun b hb => ?_
  simp only [Value.ownBlock, Option.some.injEq] at hb
  omega
end
end Go.Proofs.Ythpkdephkhcgmaa
