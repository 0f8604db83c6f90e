import Derived.Test.YtakmkjdmonmilaaDoorPlaneS
/-! A fact that lies on blocks of its own and only is read. -/
namespace Go.Proofs.YtakmkjdmonmilaaDoor
set_option linter.unusedSimpArgs false
set_option linter.unusedVariables false
open Go Go.RowKit

def ago (φ : World → Prop) : HP where
  on w F := (∀ k, F k → k < w.heap.size) ∧ ∀ w' : World, (∀ k, F k → w'.heap[k]? = w.heap[k]?) → φ w'
  loc := fun {w w' F} ⟨h1, h2⟩ e => ⟨fun k hk => by
    have h := e k hk
    rw [Array.getElem?_eq_getElem (h1 k hk)] at h
    exact lt_of_some h, fun w'' h => h2 w'' fun k hk => (h k hk).trans (e k hk)⟩
  lt := fun h hk => h.1 _ hk

variable {c : Ctx} {R l l' : List HP} {w w' : World} {φ ψ : World → Prop}
theorem St.agoGet (h : St c (ago φ :: R) w) : φ w := by
  obtain ⟨F, ⟨F1, F2, a, -⟩, -⟩ := h
  exact a.2 w fun _ _ => rfl
theorem St.agoMono (h : St c (ago φ :: R) w) (hm : ∀ w, φ w → ψ w) : St c (ago ψ :: R) w := h.mono fun F h => ⟨h.1, fun w' e => hm _ (h.2 w' e)⟩
theorem St.agoJoin (h : St c (ago φ :: ago ψ :: R) w) : St c (ago (fun w => φ w ∧ ψ w) :: R) w :=
  h.unstar.mono fun F ⟨F1, F2, a, b, d, u⟩ => ⟨fun k hk => ((u k).1 hk).elim (a.1 k) (b.1 k), fun w' e => ⟨a.2 w' fun k hk => e k ((u k).2 (.inl hk)), b.2 w' fun k hk => e k ((u k).2 (.inr hk))⟩⟩
theorem St.agoNil (h : St c R w) (hp : ∀ w, φ w) : St c (ago φ :: R) w := by
  obtain ⟨F, h1, h2, h3⟩ := h
  exact ⟨F, ⟨fun _ => False, F, ⟨fun _ h => h.elim, fun w' _ => hp w'⟩, h1, fun _ h => h.elim, fun k => by simp⟩, h2, h3⟩
/-- What a call laid behind all that was. -/
theorem St.agoNew (h : St c R w) (hb : Below w.heap.size w w') (hp : ∀ w'' : World, (∀ k, w.heap.size ≤ k → k < w'.heap.size → w''.heap[k]? = w'.heap[k]?) → φ w'') : St c (ago φ :: R) w' := by
  obtain ⟨F, h1, h2, h3⟩ := h
  refine ⟨fun k => (w.heap.size ≤ k ∧ k < w'.heap.size) ∨ F k, ⟨fun k => w.heap.size ≤ k ∧ k < w'.heap.size, F, ⟨fun k hk => hk.2, fun w'' e => hp w'' fun k k1 k2 => e k ⟨k1, k2⟩⟩, (Sep R).loc h1 fun k hk => hb.block k ((Sep R).lt h1 hk), fun k hk hf => ?_, fun _ => Iff.rfl⟩, ?_, ?_⟩
  · have := (Sep R).lt h1 hf
    omega
  · rintro k (hk | hk)
    · exact .inr (Nat.le_trans h3.size hk.1)
    · exact h2 k hk
  · exact ⟨hb.os.trans h3.os, hb.tape.trans h3.tape, hb.output.trans h3.output, Nat.le_trans h3.size hb.size, fun k hk hn => (hb.block k (Nat.lt_of_lt_of_le hk h3.size)).trans (h3.block k hk hn)⟩
/-- What a call laid, told as a state of its own. -/
theorem St.join (h : St c l w) (h' : St ⟨w, fun _ => False⟩ l' w') : St c (l' ++ l) w' := by
  obtain ⟨F, h1, h2, h3⟩ := h
  obtain ⟨F', k1, k2, k3⟩ := h'
  have hf : ∀ k, F' k → w.heap.size ≤ k := fun k hk => (k2 k hk).resolve_left fun h => h
  refine ⟨fun k => F' k ∨ F k, (Sep.append_on l' l w' _).2 ⟨F', F, k1, (Sep l).loc h1 fun k hk => k3.block k ((Sep l).lt h1 hk) fun h => h, fun k a b => ?_, fun _ => Iff.rfl⟩, ?_, ?_⟩
  · have := hf k a
    have := (Sep l).lt h1 b
    omega
  · rintro k (hk | hk)
    · exact .inr (Nat.le_trans h3.size (hf k hk))
    · exact h2 k hk
  · exact ⟨k3.os.trans h3.os, k3.tape.trans h3.tape, k3.output.trans h3.output, Nat.le_trans h3.size k3.size, fun k hk hn => (k3.block k (Nat.lt_of_lt_of_le hk h3.size) fun h => h).trans (h3.block k hk hn)⟩
theorem cell_of_block {a b : World} {k o : Nat} (h : b.heap[k]? = a.heap[k]?) : b.cell? ⟨k, o, none⟩ = a.cell? ⟨k, o, none⟩ := by simp only [World.cell?, h]
theorem St.frozen_mem {g : Nat} {cs : List Value} {T : TypeId} (H : St c l w) (h : blk g cs T ∈ l) (i : Nat) : w.frozen? ⟨g, i, none⟩ = false := by
  obtain ⟨s, t, rfl⟩ := List.append_of_mem h
  exact (H.perm List.perm_middle : St c (blk g cs T :: (s ++ t)) w).frozen i
end Go.Proofs.YtakmkjdmonmilaaDoor
