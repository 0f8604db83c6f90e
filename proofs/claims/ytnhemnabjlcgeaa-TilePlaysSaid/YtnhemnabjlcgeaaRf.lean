import Derived.Test.YtnhemnabjlcgeaaSl
import Derived.RangeFuncNested
import Derived.RangeFuncBound
import Derived.RangeFuncCalls
import Derived.RangeFuncLeaves
/-! Ranges over functions, walked by the state of a walk (St): what a loop's law asks of an invariant, paid once. -/
namespace Go.Proofs.Ytnhemnabjlcgeaa
set_option linter.unusedSimpArgs false
set_option linter.unusedVariables false
open Go Go.RowKit

/-- What it owns are cells. -/
def Cellsy (A : HP) : Prop := ∀ w F k, A.on w F → F k → ∃ o : Obj, w.heap[k]? = some o ∧ o.isCells = true
theorem cellsy_blk (g : Nat) (cs : List Value) (T : TypeId) : Cellsy (blk g cs T) := fun w F k h hk => by
  have := (h.2 k).1 hk
  subst this
  exact ⟨_, h.1, rfl⟩
theorem cellsy_row (e : TypeId) (size : Nat) (v : Value) (n : Nat) (xs : List Value) : Cellsy (row e size v n xs) := fun w F k h hk => by
  have hk2 := (h.2 k).1 hk
  rcases h.1.2 with ⟨rfl, -⟩ | ⟨g, cap, cur, rfl, -, hg, -⟩
  · simp [Value.ownBlock] at hk2
  · simp only [Value.ownBlock, Option.some.injEq] at hk2
    subst hk2
    exact ⟨_, hg, rfl⟩
theorem cellsy_pure (p : Prop) : Cellsy (HP.pure p) := fun w F k h hk => (h.2 k hk).elim
theorem cellsy_star {A B : HP} (ha : Cellsy A) (hb : Cellsy B) : Cellsy (A.star B) := fun w F k h hk => by
  obtain ⟨F1, F2, a, b, _, u⟩ := h
  exact ((u k).1 hk).elim (ha w F1 k a) (hb w F2 k b)
theorem cellsy_ex {α : Type} {A : α → HP} (h : ∀ x, Cellsy (A x)) : Cellsy (HP.ex A) := fun w F k ⟨x, hx⟩ hk => h x w F k hx hk
theorem cellsy_nil : Cellsy (Sep []) := cellsy_pure True
theorem cellsy_cons {A : HP} {l : List HP} (ha : Cellsy A) (hl : Cellsy (Sep l)) : Cellsy (Sep (A :: l)) := cellsy_star ha hl

/-- A block that is no cells, or a new one, is nothing to the state. -/
theorem St.ofGrown {c : Ctx} {l : List HP} {W W' : World} {row : Option Nat} (h : St c l W) (hc : Cellsy (Sep l)) (hg : W.grownBy W' row) (hr : ∀ r, row = some r → c.w.heap.size ≤ r ∧ ∃ o : Obj, W.heap[r]? = some o ∧ o.isCells = false) : St c l W' := by
  obtain ⟨F, h1, h2, h3⟩ := h
  refine ⟨F, (Sep l).loc h1 fun k hk => hg.block k ((Sep l).lt h1 hk) fun e => ?_, h2, ⟨hg.os.trans h3.os, hg.tape.trans h3.tape, hg.output.trans h3.output, Nat.le_trans h3.size hg.size, fun k hk hn => ?_⟩⟩
  · obtain ⟨_, o, ho, hf⟩ := hr k e.symm
    obtain ⟨o', ho', hf'⟩ := hc W F k h1 hk
    rw [ho] at ho'
    injection ho' with ho'
    subst ho'
    rw [hf] at hf'
    cases hf'
  · rw [hg.block k (Nat.lt_of_lt_of_le hk h3.size) fun e => ?_, h3.block k hk hn]
    have := (hr k e.symm).1
    omega
theorem ownFrom_St {β : Type} {B : Nat} (c : Ctx) (l : β → List HP) (hB : c.w.heap.size ≤ B) (hl : ∀ s, Cellsy (Sep (l s))) : OwnFrom B (fun s W => St c (l s) W) :=
  fun s W W' row hs hg hr => hs.ofGrown (hl s) hg fun r e => ⟨Nat.le_trans hB (hr r e).1, (hr r e).2⟩
theorem ownFrom_and {β : Type} {B : Nat} {I K : β → World → Prop} (h : OwnFrom B I) (k : OwnFrom B K) : OwnFrom B (fun s W => I s W ∧ K s W) :=
  fun s W W' row hs hg hr => ⟨h s W W' row hs.1 hg hr, k s W W' row hs.2 hg hr⟩
theorem ownFrom_ex {β γ : Type} {B : Nat} {I : γ → β → World → Prop} (h : ∀ x, OwnFrom B (I x)) : OwnFrom B (fun s W => ∃ x, I x s W) :=
  fun s W W' row ⟨x, hs⟩ hg hr => ⟨x, h x s W W' row hs hg hr⟩
theorem ownFrom_false {β : Type} {B : Nat} : OwnFrom B (fun (_ : β) _ => False) := fun _ _ _ _ hs _ _ => hs
theorem ownFrom_hid {β : Type} {B : Nat} {I : β → World → Prop} (h : OwnFrom B I) : OwnFrom B (fun s W => Hid (I s W)) := fun s W W' row hs hg hr => h s W W' row hs hg hr

/-- The state begun anew at a round's start: what is behind it tells what the round has kept. -/
theorem St.base {c : Ctx} {l : List HP} {W : World} (h : St c l W) (hc : Cellsy (Sep l)) (n₀ : Nat) (hn : n₀ ≤ c.w.heap.size) (hf : ∀ k, ¬ c.F k) :
    ∃ c' : Ctx, c'.w = W ∧ St c' l W ∧ ∀ l' W', St c' l' W' → St c l' W' ∧ KeepsOthers W W' ∧ Below n₀ W W' := by
  obtain ⟨F, h1, h2, h3⟩ := h
  refine ⟨⟨W, F⟩, rfl, ⟨F, h1, fun k hk => .inl hk, ⟨rfl, rfl, rfl, Nat.le_refl _, fun _ _ _ => rfl⟩⟩, ?_⟩
  rintro l' W' ⟨F', k1, k2, k3⟩
  have hF : ∀ k, F k → c.w.heap.size ≤ k := fun k hk => (h2 k hk).resolve_left (hf k)
  refine ⟨⟨F', k1, fun k hk => ?_, ⟨k3.os.trans h3.os, k3.tape.trans h3.tape, k3.output.trans h3.output, Nat.le_trans h3.size k3.size, fun k hk hn => ?_⟩⟩, ⟨k3.size, fun k o ho hno => ?_⟩, ⟨k3.os, k3.tape, k3.output, k3.size, fun k hk => ?_⟩⟩
  · rcases k2 k hk with h | h
    · exact h2 k h
    · exact .inr (Nat.le_trans h3.size h)
  · rw [k3.block k (Nat.lt_of_lt_of_le hk h3.size) (fun h => by have := hF k h; omega), h3.block k hk hn]
  · rw [k3.block k (lt_of_some ho) (fun h => ?_)]
    · exact ho
    · obtain ⟨o', ho', hf'⟩ := hc W F k h1 h
      rw [ho] at ho'
      injection ho' with ho'
      subst ho'
      rw [hno] at hf'
      cases hf'
  · exact k3.block k (Nat.lt_of_lt_of_le hk (Nat.le_trans hn h3.size)) (fun h => by have := hF k h; omega)

theorem room_of_none {F : Fence} (hd : F.depth = none) (k : Nat) : F.room k := fun d h => by rw [hd] at h; cases h
theorem RoundIn.anyDepth {F : Fence} (hd : F.depth = none) {m m' : Nat} {P : Program} {l : Nat} {f : FuncId} {tmps : Array Value} {assign body : Code} {w : World} {R : Ending → World → Prop}
    (h : RoundIn F m P l f tmps assign body w R) : RoundIn F m' P l f tmps assign body w R := ⟨h.1, fun c cs _ => h.2 c cs (room_of_none hd _)⟩
theorem YieldAt.anyDepth {F : Fence} (hd : F.depth = none) {m : Nat} (m' : Nat) {P : Program} {l : Nat} {args : Array Value} {W : World} {R : Ending → World → Prop} (h : YieldAt F m P l args W R) : YieldAt F m' P l args W R := by
  obtain ⟨fn, tmps, assign, body, hy, hR⟩ := h
  exact ⟨fn, tmps, assign, body, hy, RoundIn.anyDepth hd hR⟩
end Go.Proofs.Ytnhemnabjlcgeaa
