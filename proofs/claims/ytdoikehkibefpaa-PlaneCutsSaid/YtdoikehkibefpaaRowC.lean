import Derived.Test.YtdoikehkibefpaaMem
import Derived.Test.YtdoikehkibefpaaSteps
/-! Rows that came out of the printer's contracts, and rows read by them. -/
namespace Go.Proofs.Ytdoikehkibefpaa
set_option linter.unusedSimpArgs false
set_option linter.unusedVariables false
open Go Go.RowKit Go.Proofs.YtdoikehkibefpaaW.PrintWords

section
variable {c : Ctx} {R : List HP} {w w' : World} {t : TypeId} {k : IntKind}
/-- A row that a call made. -/
theorem St.of_R {ok : Nat → Prop} {v : Value} {l : List Int} (h : St c R w) (hb : Below w.heap.size w w') (hR : Kd.R (Kd.int k) t w' w.heap.size ok v l) : St c (inner t k v l :: R) w' := by
  have ho := Kd.own_of_R hR
  exact h.made (own_weaken ho (Nat.zero_le _)) ⟨hb.os, hb.tape, hb.output, hb.size, fun b hb1 _ => hb.block b hb1⟩ fun b hb1 => own_base ho b hb1
theorem St.matC' {e : TypeId} {A : Option Addr} {n cap : Nat} {ls : List (List Int)} (h : St c (mat e t k (.slice A n cap) ls :: R) w) : n = ls.length ∧ ls.length ≤ cap ∧ Kd.C (Kd.slice t (Kd.int k)) w A ls.length ls := by
  obtain ⟨A', cap', e, h1, h2⟩ := h.matC
  simp only [Value.slice.injEq] at e
  obtain ⟨rfl, e2, rfl⟩ := e
  exact ⟨e2, h1, h2⟩
end
end Go.Proofs.Ytdoikehkibefpaa
