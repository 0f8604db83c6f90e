import Derived.Test.YtnhemnabjlcgeaaRg2
/-! The state of a walk in a loop over a function: it stays while blocks behind the loop's start turn; a round begun anew. -/
namespace Go.Proofs.Ytnhemnabjlcgeaa
set_option linter.unusedSimpArgs false
set_option linter.unusedVariables false
open Go Go.RowKit

/-- What it owns lies below n. -/
def InB (n : Nat) (A : HP) : Prop := ∀ w F k, A.on w F → F k → k < n
theorem inb_blk {n g : Nat} {cs : List Value} {T : TypeId} (h : g < n) : InB n (blk g cs T) := fun w F k hA hk => by have := (hA.2 k).1 hk; omega
theorem inb_row {n g m cap : Nat} {e : TypeId} {size : Nat} {xs : List Value} {k : Nat} (h : g < n) : InB n (row e size (.slice (some ⟨g, 0, none⟩) m cap) k xs) := fun w F j hA hj => by
  have := (hA.2 j).1 hj
  simp only [Value.ownBlock, Option.some.injEq] at this
  omega
theorem inb_nil {n : Nat} : InB n (Sep []) := fun w F k hA hk => (hA.2 k hk).elim
theorem inb_cons {n : Nat} {A : HP} {l : List HP} (ha : InB n A) (hl : InB n (Sep l)) : InB n (Sep (A :: l)) := fun w F k ⟨F1, F2, a, b, _, u⟩ hk => ((u k).1 hk).elim (ha w F1 k a) (hl w F2 k b)
theorem St.row_lt {c : Ctx} {R : List HP} {w : World} {e : TypeId} {size g n cap m : Nat} {xs : List Value} (h : St c (row e size (.slice (some ⟨g, 0, none⟩) n cap) m xs :: R) w) : g < w.heap.size := by
  rcases h.row_at.2 with ⟨h2, -⟩ | ⟨g', cap', cur, h2, -, hg, -⟩
  · cases h2
  · cases h2
    exact lt_of_some hg
theorem St.stay {c : Ctx} {l : List HP} {A B : World} {n : Nat} (h : St c l A) (hb : Below n A B) (hc : c.w.heap.size ≤ n) (hl : InB n (Sep l)) : St c l B := by
  obtain ⟨F, h1, h2, h3⟩ := h
  refine ⟨F, (Sep l).loc h1 fun k hk => hb.block k (hl A F k h1 hk), h2, ⟨hb.os.trans h3.os, hb.tape.trans h3.tape, hb.output.trans h3.output, Nat.le_trans h3.size hb.size, fun k hk hn => ?_⟩⟩
  rw [hb.block k (Nat.lt_of_lt_of_le hk hc), h3.block k hk hn]
/-- The like where a block that is no cells turns, or new ones come. -/
theorem St.stayG {c : Ctx} {l : List HP} {A B : World} {n : Nat} {row : Option Nat} (h : St c l A) (hg : A.grownBy B row) (hr : ∀ r, row = some r → n ≤ r) (hc : c.w.heap.size ≤ n) (hl : InB n (Sep l)) : St c l B := by
  obtain ⟨F, h1, h2, h3⟩ := h
  refine ⟨F, (Sep l).loc h1 fun k hk => hg.block k ((Sep l).lt h1 hk) fun e => ?_, h2, ⟨hg.os.trans h3.os, hg.tape.trans h3.tape, hg.output.trans h3.output, Nat.le_trans h3.size hg.size, fun k hk hn => ?_⟩⟩
  · have := hl A F k h1 hk
    have := hr k e.symm
    omega
  · rw [hg.block k (Nat.lt_of_lt_of_le hk h3.size) (fun e => by have := hr k e.symm; omega), h3.block k hk hn]
/-- A round begun anew: what is owned lies in M. -/
def InM (M : Nat → Prop) (A : HP) : Prop := ∀ w F k, A.on w F → F k → M k
theorem inm_blk {M : Nat → Prop} {g : Nat} {cs : List Value} {T : TypeId} (h : M g) : InM M (blk g cs T) := fun w F k hA hk => by have e := (hA.2 k).1 hk; rw [e]; exact h
theorem inm_row {M : Nat → Prop} {g m cap : Nat} {e : TypeId} {size : Nat} {xs : List Value} {k : Nat} (h : M g) : InM M (row e size (.slice (some ⟨g, 0, none⟩) m cap) k xs) := fun w F j hA hj => by
  have := (hA.2 j).1 hj
  simp only [Value.ownBlock, Option.some.injEq] at this
  rw [← this]
  exact h
theorem inm_nil {M : Nat → Prop} : InM M (Sep []) := fun w F k hA hk => (hA.2 k hk).elim
theorem inm_cons {M : Nat → Prop} {A : HP} {l : List HP} (ha : InM M A) (hl : InM M (Sep l)) : InM M (Sep (A :: l)) := fun w F k ⟨F1, F2, a, b, _, u⟩ hk => ((u k).1 hk).elim (ha w F1 k a) (hl w F2 k b)
theorem St.baseM {c : Ctx} {l : List HP} {W : World} {M : Nat → Prop} (h : St c l W) (hl : InM M (Sep l)) (hf : ∀ k, ¬ c.F k) :
    ∃ c' : Ctx, St c' l W ∧ ∀ l' W', St c' l' W' → St c l' W' ∧ KeepG M W W' := by
  obtain ⟨F, h1, h2, h3⟩ := h
  have hF : ∀ k, F k → c.w.heap.size ≤ k ∧ M k := fun k hk => ⟨(h2 k hk).resolve_left (hf k), hl W F k h1 hk⟩
  refine ⟨⟨W, F⟩, ⟨F, h1, fun k hk => .inl hk, ⟨rfl, rfl, rfl, Nat.le_refl _, fun _ _ _ => rfl⟩⟩, ?_⟩
  rintro l' W' ⟨F', k1, k2, k3⟩
  refine ⟨⟨F', k1, fun k hk => ?_, ⟨k3.os.trans h3.os, k3.tape.trans h3.tape, k3.output.trans h3.output, Nat.le_trans h3.size k3.size, fun k hk hn => ?_⟩⟩, ⟨k3.os, k3.tape, k3.output, k3.size, fun k hk hn => k3.block k hk fun h => hn (hF k h).2⟩⟩
  · rcases k2 k hk with h | h
    · exact h2 k h
    · exact .inr (Nat.le_trans h3.size h)
  · rw [k3.block k (Nat.lt_of_lt_of_le hk h3.size) (fun h => by have := (hF k h).1; omega), h3.block k hk hn]
end Go.Proofs.Ytnhemnabjlcgeaa
