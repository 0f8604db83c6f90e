/- Separation words for walks: heap predicates with footprints, a state with a frame. -/
import Derived.WalkKit
import Derived.Deep.Draws
import Derived.Laws.AppendOwnNone
import Derived.Laws.CopyOwn
namespace Go.Proofs.YtakmkjdmonmilaaDoor
set_option linter.unusedSimpArgs false
set_option linter.unusedVariables false
open Go Go.RowKit

/-- A heap predicate: what holds of a world on a set of blocks. -/
structure HP where
  on : World → (Nat → Prop) → Prop
  loc : ∀ {w w' : World} {F : Nat → Prop}, on w F → (∀ k, F k → w'.heap[k]? = w.heap[k]?) → on w' F
  lt : ∀ {w : World} {F : Nat → Prop} {k : Nat}, on w F → F k → k < w.heap.size

theorem lt_of_some {α : Type} {a : Array α} {k : Nat} {o : α} (h : a[k]? = some o) : k < a.size := (Array.getElem?_eq_some_iff.1 h).1

/-- One block of the call's own, known whole. -/
def blk (g : Nat) (cs : List Value) (T : TypeId) : HP where
  on w F := w.heap[g]? = some (.cells cs.toArray T (0, 0)) ∧ ∀ k, F k ↔ k = g
  loc := fun h e => ⟨(e g ((h.2 g).2 rfl)).trans h.1, h.2⟩
  lt := fun h hk => by have := (h.2 _).1 hk; subst this; exact lt_of_some h.1

/-- A slice value that owns its row: elements xs (cells), room behind them unknown. -/
def row (e : TypeId) (size : Nat) (v : Value) (n : Nat) (xs : List Value) : HP where
  on w F := w.ownsRow 0 e size v n xs ∧ ∀ k, F k ↔ v.ownBlock = some k
  loc := by
    rintro w w' F ⟨h, hF⟩ e
    refine ⟨⟨h.1, ?_⟩, hF⟩
    rcases h.2 with hn | ⟨g, cap, cur, rfl, hb, hgg, rest⟩
    · exact .inl hn
    · exact .inr ⟨g, cap, cur, rfl, hb, (e g ((hF g).2 rfl)).trans hgg, rest⟩
  lt := fun h hk => (h.1.lt _ ((h.2 _).1 hk)).2

def HP.star (A B : HP) : HP where
  on w F := ∃ F1 F2, A.on w F1 ∧ B.on w F2 ∧ (∀ k, F1 k → ¬ F2 k) ∧ ∀ k, F k ↔ F1 k ∨ F2 k
  loc := fun ⟨F1, F2, a, b, d, u⟩ e => ⟨F1, F2, A.loc a fun k hk => e k ((u k).2 (.inl hk)), B.loc b fun k hk => e k ((u k).2 (.inr hk)), d, u⟩
  lt := fun ⟨_, _, a, b, _, u⟩ hk => ((u _).1 hk).elim (A.lt a) (B.lt b)

def HP.ex {α : Type} (A : α → HP) : HP where
  on w F := ∃ x, (A x).on w F
  loc := fun ⟨x, h⟩ e => ⟨x, (A x).loc h e⟩
  lt := fun ⟨x, h⟩ hk => (A x).lt h hk

/-- A plain fact beside a heap predicate. -/
def HP.pure (p : Prop) : HP where
  on _ F := p ∧ ∀ k, ¬ F k
  loc := fun h _ => h
  lt := fun h hk => (h.2 _ hk).elim

def emp : HP := HP.pure True

/-- All of a list, one beside the other. -/
def Sep : List HP → HP
  | [] => emp
  | A :: l => A.star (Sep l)

theorem Sep.append_on (a b : List HP) (w : World) (F : Nat → Prop) :
    (Sep (a ++ b)).on w F ↔ ((Sep a).star (Sep b)).on w F := by
  induction a generalizing F with
  | nil =>
    constructor
    · intro h
      exact ⟨fun _ => False, F, ⟨trivial, fun _ h => h⟩, h, fun _ h => h.elim, fun k => by simp⟩
    · rintro ⟨F1, F2, ⟨_, h1⟩, h2, _, u⟩
      have : F = F2 := funext fun k => propext ⟨fun h => ((u k).1 h).elim (fun h => (h1 k h).elim) id, fun h => (u k).2 (.inr h)⟩
      subst this
      exact h2
  | cons A a ih =>
    constructor
    · rintro ⟨F1, F2, ha, hr, d, u⟩
      obtain ⟨G1, G2, hb, hc, d2, u2⟩ := (ih F2).1 hr
      refine ⟨fun k => F1 k ∨ G1 k, G2, ⟨F1, G1, ha, hb, fun k h1 h2 => d k h1 ((u2 k).2 (.inl h2)), fun k => Iff.rfl⟩, hc, ?_, ?_⟩
      · rintro k (h | h) h2
        · exact d k h ((u2 k).2 (.inr h2))
        · exact d2 k h h2
      · intro k
        rw [u k, u2 k, or_assoc]
    · rintro ⟨F1, F2, ⟨G1, G2, ha, hb, d2, u2⟩, hc, d, u⟩
      refine ⟨G1, fun k => G2 k ∨ F2 k, ha, (ih _).2 ⟨G2, F2, hb, hc, fun k h1 h2 => d k ((u2 k).2 (.inr h1)) h2, fun _ => Iff.rfl⟩, ?_, ?_⟩
      · rintro k h1 (h | h)
        · exact d2 k h1 h
        · exact d k ((u2 k).2 (.inl h1)) h
      · intro k
        rw [u k, u2 k, or_assoc]

theorem star_swap {A B : HP} {w : World} {F : Nat → Prop} (h : (A.star B).on w F) : (B.star A).on w F := by
  obtain ⟨F1, F2, a, b, d, u⟩ := h
  exact ⟨F2, F1, b, a, fun k h1 h2 => d k h2 h1, fun k => by rw [u k, or_comm]⟩

theorem star_mono {A A' B B' : HP} {w : World} {F : Nat → Prop} (ha : ∀ F, A.on w F → A'.on w F) (hb : ∀ F, B.on w F → B'.on w F) (h : (A.star B).on w F) : (A'.star B').on w F := by
  obtain ⟨F1, F2, a, b, d, u⟩ := h
  exact ⟨F1, F2, ha _ a, hb _ b, d, u⟩

theorem Sep.perm {l l' : List HP} (p : l.Perm l') {w : World} {F : Nat → Prop} (h : (Sep l).on w F) : (Sep l').on w F := by
  induction p generalizing F with
  | nil => exact h
  | cons x _ ih => exact star_mono (fun _ h => h) (fun _ h => ih h) h
  | swap x y l =>
    obtain ⟨F1, F2, ha, ⟨G1, G2, hb, hc, d2, u2⟩, d, u⟩ := h
    refine ⟨G1, fun k => F1 k ∨ G2 k, hb, ⟨F1, G2, ha, hc, fun k h1 h2 => d k h1 ((u2 k).2 (.inr h2)), fun _ => Iff.rfl⟩, ?_, ?_⟩
    · rintro k h1 (h | h)
      · exact d k h ((u2 k).2 (.inl h1))
      · exact d2 k h1 h
    · intro k
      rw [u k, u2 k]
      constructor
      · rintro (h | h | h)
        · exact .inr (.inl h)
        · exact .inl h
        · exact .inr (.inr h)
      · rintro (h | h | h)
        · exact .inr (.inl h)
        · exact .inl h
        · exact .inr (.inr h)
  | trans _ _ ih1 ih2 => exact ih2 (ih1 h)

/-- What a call may not touch: the world it began in, and the blocks it was given. -/
structure Ctx where
  w : World
  F : Nat → Prop

/-- Nothing outside F of what there was has turned. -/
structure Keeps (c : Ctx) (w' : World) : Prop where
  os : w'.os = c.w.os
  tape : w'.tape = c.w.tape
  output : w'.output = c.w.output
  size : c.w.heap.size ≤ w'.heap.size
  block : ∀ k, k < c.w.heap.size → ¬ c.F k → w'.heap[k]? = c.w.heap[k]?

/-- The state of a walk: what is owned now, beside all that is kept. -/
def St (c : Ctx) (l : List HP) (w : World) : Prop := ∃ F, (Sep l).on w F ∧ (∀ k, F k → c.F k ∨ c.w.heap.size ≤ k) ∧ Keeps c w

namespace St
variable {c : Ctx} {l R : List HP} {w w' : World} {A B : HP}

theorem keeps (h : St c l w) : Keeps c w := h.choose_spec.2.2

theorem perm {l' : List HP} (h : St c l w) (p : l.Perm l') : St c l' w := by
  obtain ⟨F, h1, h2, h3⟩ := h
  exact ⟨F, Sep.perm p h1, h2, h3⟩

theorem swap {A B : HP} (h : St c (A :: B :: R) w) : St c (B :: A :: R) w := h.perm (.swap ..)
theorem rot3 {A B C : HP} (h : St c (A :: B :: C :: R) w) : St c (C :: A :: B :: R) w := h.perm ((List.Perm.cons _ (.swap ..)).trans (.swap ..))
theorem rot4 {A B C D : HP} (h : St c (A :: B :: C :: D :: R) w) : St c (D :: A :: B :: C :: R) w := h.perm ((List.Perm.cons _ ((List.Perm.cons _ (.swap ..)).trans (.swap ..))).trans (.swap ..))
/-- The first goes behind the second, third ..: the turns back. -/
theorem back3 {A B C : HP} (h : St c (A :: B :: C :: R) w) : St c (B :: C :: A :: R) w := h.perm ((List.Perm.swap ..).trans (.cons _ (.swap ..)))
theorem back4 {A B C D : HP} (h : St c (A :: B :: C :: D :: R) w) : St c (B :: C :: D :: A :: R) w := h.perm ((List.Perm.swap ..).trans (.cons _ ((List.Perm.swap ..).trans (.cons _ (.swap ..)))))

theorem mono (h : St c (A :: R) w) (hm : ∀ F, A.on w F → B.on w F) : St c (B :: R) w := by
  obtain ⟨F, h1, h2, h3⟩ := h
  exact ⟨F, star_mono hm (fun _ h => h) h1, h2, h3⟩

theorem drop (h : St c (A :: R) w) : St c R w := by
  obtain ⟨F, ⟨F1, F2, _, b, _, u⟩, h2, h3⟩ := h
  exact ⟨F2, b, fun k hk => h2 k ((u k).2 (.inr hk)), h3⟩

theorem star (h : St c (A.star B :: R) w) : St c (A :: B :: R) w := by
  obtain ⟨F, ⟨F1, F2, ⟨G1, G2, ha, hb, d2, u2⟩, hc, d, u⟩, h2, h3⟩ := h
  refine ⟨F, ⟨G1, fun k => G2 k ∨ F2 k, ha, ⟨G2, F2, hb, hc, fun k h1 h2 => d k ((u2 k).2 (.inr h1)) h2, fun _ => Iff.rfl⟩, ?_, ?_⟩, h2, h3⟩
  · rintro k h1 (h | h)
    · exact d2 k h1 h
    · exact d k ((u2 k).2 (.inl h1)) h
  · intro k
    rw [u k, u2 k, or_assoc]

theorem unstar (h : St c (A :: B :: R) w) : St c (A.star B :: R) w := by
  obtain ⟨F, ⟨F1, F2, ha, ⟨G1, G2, hb, hc, d2, u2⟩, d, u⟩, h2, h3⟩ := h
  refine ⟨F, ⟨fun k => F1 k ∨ G1 k, G2, ⟨F1, G1, ha, hb, fun k h1 h2 => d k h1 ((u2 k).2 (.inl h2)), fun _ => Iff.rfl⟩, hc, ?_, ?_⟩, h2, h3⟩
  · rintro k (h | h) h2
    · exact d k h ((u2 k).2 (.inr h2))
    · exact d2 k h h2
  · intro k
    rw [u k, u2 k, or_assoc]

theorem open_ {α : Type} {A : α → HP} (h : St c (HP.ex A :: R) w) : ∃ x, St c (A x :: R) w := by
  obtain ⟨F, ⟨F1, F2, ⟨x, ha⟩, hb, d, u⟩, h2, h3⟩ := h
  exact ⟨x, F, ⟨F1, F2, ha, hb, d, u⟩, h2, h3⟩

theorem close {α : Type} {A : α → HP} (x : α) (h : St c (A x :: R) w) : St c (HP.ex A :: R) w :=
  h.mono fun _ h => ⟨x, h⟩

theorem fact {p : Prop} (h : St c (HP.pure p :: R) w) : p ∧ St c R w := by
  refine ⟨?_, h.drop⟩
  obtain ⟨F, ⟨F1, F2, ha, hb, d, u⟩, h2, h3⟩ := h
  exact ha.1

theorem add {p : Prop} (hp : p) (h : St c R w) : St c (HP.pure p :: R) w := by
  obtain ⟨F, h1, h2, h3⟩ := h
  exact ⟨F, ⟨fun _ => False, F, ⟨hp, fun _ h => h⟩, h1, fun _ h => h.elim, fun k => by simp⟩, h2, h3⟩

theorem drewN (h : St c l w) (n : Nat) : St c l (w.drewN n) := by
  obtain ⟨F, h1, h2, h3⟩ := h
  exact ⟨F, (Sep l).loc h1 fun _ _ => rfl, h2, ⟨h3.os, h3.tape, h3.output, h3.size, h3.block⟩⟩
theorem drew (h : St c l w) : St c l w.drew := h.drewN 1
theorem of_drewN {n : Nat} (h : St c l (w.drewN n)) : St c l w := by
  obtain ⟨F, h1, h2, h3⟩ := h
  exact ⟨F, (Sep l).loc h1 fun _ _ => rfl, h2, ⟨h3.os, h3.tape, h3.output, h3.size, h3.block⟩⟩

/-- A step that turns the first one alone, and may lay new blocks. -/
theorem step {A' : HP} (h : St c (A :: R) w) (F' : (Nat → Prop) → Nat → Prop)
    (hA : ∀ F, A.on w F → A'.on w' (F' F) ∧ ∀ k, F' F k → F k ∨ w.heap.size ≤ k)
    (os : w'.os = w.os) (tape : w'.tape = w.tape) (output : w'.output = w.output) (size : w.heap.size ≤ w'.heap.size)
    (hk : ∀ F, A.on w F → ∀ k, k < w.heap.size → ¬ F k → w'.heap[k]? = w.heap[k]?) : St c (A' :: R) w' := by
  obtain ⟨F, ⟨F1, F2, ha, hb, d, u⟩, h2, h3⟩ := h
  obtain ⟨ha', hn⟩ := hA F1 ha
  refine ⟨fun k => F' F1 k ∨ F2 k, ⟨F' F1, F2, ha', (Sep R).loc hb fun k hk2 => hk F1 ha k ((Sep R).lt hb hk2) (fun h1 => d k h1 hk2), ?_, fun _ => Iff.rfl⟩, ?_, ?_⟩
  · intro k h1 hk2
    rcases hn k h1 with h | h
    · exact d k h hk2
    · have := (Sep R).lt hb hk2; omega
  · rintro k (h | h)
    · rcases hn k h with h | h
      · exact h2 k ((u k).2 (.inl h))
      · exact .inr (Nat.le_trans h3.size h)
    · exact h2 k ((u k).2 (.inr h))
  · refine ⟨os.trans h3.os, tape.trans h3.tape, output.trans h3.output, Nat.le_trans h3.size size, fun k hk1 hk2 => ?_⟩
    rw [hk F1 ha k (Nat.lt_of_lt_of_le hk1 h3.size) (fun h1 => ?_), h3.block k hk1 hk2]
    rcases h2 k ((u k).2 (.inl h1)) with h | h
    · exact hk2 h
    · omega

/-- A new block. -/
theorem alloc (h : St c R w) (cs : List Value) (T : TypeId) : St c (blk w.heap.size cs T :: R) (w.alloc (.cells cs.toArray T)) := by
  refine (h.add trivial).step (A := HP.pure True) (fun _ k => k = w.heap.size) (fun F hF => ⟨⟨?_, fun k => Iff.rfl⟩, fun k hk => .inr (by omega)⟩) rfl rfl rfl (by simp) ?_
  · exact heap_alloc_new w _
  · intro F hF k hk _
    exact Below.heap_alloc w _ k hk

/-- A new block that is not looked at any more. -/
theorem allocSkip (h : St c R w) (o : Obj) : St c R (w.alloc o) := by
  refine (St.step (w' := w.alloc o) (A' := HP.pure True) (h.add trivial) (fun _ _ => False) (fun F hF => ⟨⟨trivial, fun _ h => h⟩, fun k hk => hk.elim⟩) rfl rfl rfl (by simp) ?_).drop
  intro F hF k hk _
  exact Below.heap_alloc w _ k hk

theorem blk_at {g : Nat} {cs : List Value} {T : TypeId} (h : St c (blk g cs T :: R) w) : w.heap[g]? = some (.cells cs.toArray T (0, 0)) := by
  obtain ⟨F, ⟨F1, F2, ha, _⟩, _⟩ := h
  exact ha.1

theorem cell {g : Nat} {cs : List Value} {T : TypeId} (h : St c (blk g cs T :: R) w) (i : Nat) : w.cell? ⟨g, i, none⟩ = cs[i]? := by
  have := h.blk_at
  simp [World.cell?, this]

theorem frozen {g : Nat} {cs : List Value} {T : TypeId} (h : St c (blk g cs T :: R) w) (i : Nat) : w.frozen? ⟨g, i, none⟩ = false := by
  have := h.blk_at
  simp [World.frozen?, this]

theorem setCell {g : Nat} {cs : List Value} {T : TypeId} (h : St c (blk g cs T :: R) w) (i : Nat) (v : Value) :
    St c (blk g (cs.set i v) T :: R) (w.setCell ⟨g, i, none⟩ v) := by
  refine h.step (fun F => F) (fun F hF => ⟨⟨?_, hF.2⟩, fun k hk => .inl hk⟩) rfl rfl rfl (by simp) ?_
  · simp only [World.setCell, Array.getElem?_modify, if_true, hF.1, Option.map_some]
    simp
  · intro F hF k hk hn
    refine Below.heap_setCell _ _ _ _ (fun e => hn ((hF.2 k).2 e))

theorem row_at {e : TypeId} {size : Nat} {v : Value} {n : Nat} {xs : List Value} (h : St c (row e size v n xs :: R) w) : w.ownsRow 0 e size v n xs := by
  obtain ⟨F, ⟨F1, F2, ha, _⟩, _⟩ := h
  exact ha.1

/-- Behind an append, a make, a copy: the row is another one. -/
theorem regrown {e e' : TypeId} {size size' : Nat} {v v' : Value} {n n' : Nat} {xs xs' : List Value} (h : St c (row e size v n xs :: R) w) (h' : w'.ownsRow 0 e' size' v' n' xs')
    (hg : w.grownBy w' v.ownBlock) (hv : ∀ k, v'.ownBlock = some k → v.ownBlock = some k ∨ w.heap.size ≤ k) : St c (row e' size' v' n' xs' :: R) w' := by
  refine h.step (fun _ k => v'.ownBlock = some k) (fun F hF => ⟨⟨h', fun _ => Iff.rfl⟩, fun k hk => (hv k hk).imp (fun h => (hF.2 k).2 h) id⟩) hg.os hg.tape hg.output hg.size ?_
  intro F hF k hk hn
  exact hg.block k hk fun e => hn ((hF.2 k).2 e.symm)

/-- A new row. -/
theorem made {e : TypeId} {size : Nat} {v' : Value} {n' : Nat} {xs' : List Value} (h : St c R w) (h' : w'.ownsRow 0 e size v' n' xs')
    (hg : w.grownBy w' none) (hv : ∀ k, v'.ownBlock = some k → w.heap.size ≤ k) : St c (row e size v' n' xs' :: R) w' := by
  refine St.step (A := HP.pure True) (h.add trivial) (fun _ k => v'.ownBlock = some k) (fun F hF => ⟨⟨h', fun _ => Iff.rfl⟩, fun k hk => .inr (hv k hk)⟩) hg.os hg.tape hg.output hg.size ?_
  intro F hF k hk hn
  exact hg.block k hk (by simp)

/-- The empty row of nil. -/
theorem nilRow (h : St c R w) (e : TypeId) (size : Nat) : St c (row e size (.slice none 0 0) 0 [] :: R) w := by
  refine St.step (A := HP.pure True) (h.add trivial) (fun _ _ => False) (fun F hF => ⟨⟨World.ownsRow_nil _ _ _ _, fun k => by simp [Value.ownBlock]⟩, fun k hk => hk.elim⟩) rfl rfl rfl (Nat.le_refl _) ?_
  intros; rfl

end St

theorem qt_trans {a b c : World} (h : ∃ m, b = a.drewN m) (k : ∃ m, c = b.drewN m) : ∃ m, c = a.drewN m := by
  obtain ⟨m, rfl⟩ := h
  obtain ⟨n, rfl⟩ := k
  exact ⟨m + n, World.drewN_drewN ..⟩
theorem qt_refl (w : World) : ∃ m, w = w.drewN m := ⟨0, rfl⟩
theorem qt_on {a b : World} (h : ∃ m, b = a.drewN m) (n : Nat) : ∃ m, b.drewN n = a.drewN m := qt_trans h ⟨n, rfl⟩

theorem St.of_quiet {c : Ctx} {l : List HP} {w w' : World} (h : St c l w) (hq : ∃ m, w' = w.drewN m) : St c l w' := by
  obtain ⟨m, rfl⟩ := hq
  exact h.drewN m

/-- A slice value's elements lie where it says, and read so. -/
def Reads (w : World) (v : Value) (xs : List Value) : Prop := ∃ a n cap, v = .slice a n cap ∧ n ≤ cap ∧ n = xs.length ∧ (a = none → n = 0 ∧ cap = 0) ∧ ∀ ad, a = some ad → ∀ j u, xs[j]? = some u → w.cell? (ad.add j) = some u

/-- It reads so in whatever world keeps to the frame. -/
def Rd (c : Ctx) (R : List HP) (v : Value) (xs : List Value) : Prop := ∀ l w, St c (l ++ R) w → Reads w v xs

theorem Rd.cons {c : Ctx} {R : List HP} {v : Value} {xs : List Value} (h : Rd c R v xs) (A : HP) : Rd c (A :: R) v xs := by
  intro l w hS
  exact h (l ++ [A]) w (by simpa using hS)

theorem splice_take {α : Type} (cur t : List α) (off n : Nat) (h1 : off + t.length ≤ n) (h2 : n ≤ cur.length) :
    (cur.take off ++ (t ++ cur.drop (off + t.length))).take n = (cur.take n).take off ++ (t ++ (cur.take n).drop (off + t.length)) := by
  obtain ⟨A, B, hA, rfl⟩ : ∃ A B, A.length = n ∧ cur = A ++ B := ⟨cur.take n, cur.drop n, by simp; omega, by simp⟩
  have e0 : (A ++ B).take n = A := by rw [← hA]; simp
  have e1 : (A ++ B).take off = A.take off := List.take_append_of_le_length (by omega)
  have e2 : (A ++ B).drop (off + t.length) = A.drop (off + t.length) ++ B := List.drop_append_of_le_length (by omega)
  have e3 : A.take off ++ (t ++ (A.drop (off + t.length) ++ B)) = (A.take off ++ (t ++ A.drop (off + t.length))) ++ B := by simp
  have : (A.take off ++ (t ++ A.drop (off + t.length))).length = n := by simp; omega
  rw [e0, e1, e2, e3, List.take_left' this]

/-- A guard: the next operation writes this slot. -/
theorem at_dst {P : Program} {ops : Array Oper} {rest : List Oper} {o : Oper} {a : Act} {w : World} {Q : Exit → Act → World → Prop} (N : Nat) (_h : o.dst = some N) (h : wpList P ops Q (o :: rest) a w) : wpList P ops Q (o :: rest) a w := h

/-- What a walk wants to know of a slice type and its element type. -/
structure Elem (P : Program) (t e : TypeId) (z : Value) (size bytes : Nat) : Prop where
  ht : P.underlying t = some (.slice e)
  hi : (P.info? e).map (fun i => (i.zero, i.size, i.bytes)) = some (some z, size, bytes)
  hz : z.cells.size = size
  hs : 0 < size

theorem run_append_St {P : Program} {w : World} {t e : TypeId} {z : Value} {size bytes : Nat} (E : Elem P t e z size bytes) (ty : TypeId) {v : Value} {n : Nat} {xs : List Value}
    (hown : w.ownsRow 0 e size v n xs) (a : Addr) (m c : Nat) (news : List Value) (hl : news.length = m * size) (hnews : ∀ j u, news[j]? = some u → w.cell? (a.add j) = some u) (h1 : ∀ u ∈ news, u.oneCell' = true)
    (h63 : n + m ≤ maxLen) (hbytes : (n + m) * bytes ≤ 140737488355328) :
    ∃ v' w', (Builtin.append_ #[t, t] ty #[v, .slice (some a) m c]).run P w = .ok v' w' ∧ w'.ownsRow 0 e size v' (n + m) (xs ++ news) ∧ w.grownBy w' v.ownBlock ∧
      (v' = .slice none 0 0 ↔ v = .slice none 0 0 ∧ m = 0) ∧ ∀ k, v'.ownBlock = some k → v.ownBlock = some k ∨ w.heap.size ≤ k := by
  obtain ⟨i, hi, hz0, hz1, hz2⟩ := info_parts E.hi
  obtain ⟨v', w', hr, h2, h3, h4⟩ := run_append_own (P := P) w 0 t ty e i z size bytes E.ht hi hz0 hz1 hz2 E.hz E.hs v n xs hown a m c news hl hnews h1 h63 hbytes (Nat.zero_le _)
  refine ⟨v', w', hr, h2, h3, h4, ?_⟩
  intro k hk
  have h63' : ((n + m : Nat) : Int) ≤ 9223372036854775807 := by simp only [maxLen] at h63; omega
  subst hz1; subst hz2
  rcases hown.2 with ⟨rfl, rfl⟩ | ⟨g, cap, cur, rfl, _, hg, hnc, hcm, hcs, htake⟩
  · by_cases hm : m = 0
    · have := h4.2 ⟨rfl, hm⟩
      subst this
      simp [Value.ownBlock] at hk
    · have hr2 := run_append_nil (P := P) w t ty e i z E.ht hi hz0 a m c news hl hnews (by omega) (by simpa using h63') (by simp only [Nat.zero_add] at hbytes; omega)
      rw [hr2] at hr
      injection hr with e1 _
      subst e1
      simp only [Value.ownBlock, Option.some.injEq] at hk
      right; omega
  · by_cases hroom : n + m ≤ cap
    · have hfit : n * i.size + news.length ≤ cur.size := by rw [hl, hcs, ← Nat.add_mul]; exact Nat.mul_le_mul_right _ hroom
      have hr2 := run_append_room (P := P) w t ty e i E.ht hi g n cap cur hg a m c news hl hnews h1 hroom hfit
      rw [hr2] at hr
      injection hr with e1 _
      subst e1
      left; exact hk
    · have holds : ∀ j u, xs[j]? = some u → w.cell? ((⟨g, 0, none⟩ : Addr).add j) = some u := hown.cells (g := g) rfl
      have hr2 := run_append_grow (P := P) w t ty e i z E.ht hi hz0 ⟨g, 0, none⟩ n cap xs hown.1 holds a m c news hl hnews (by omega) h63' (growslice_fits (by omega) hbytes)
      rw [hr2] at hr
      injection hr with e1 _
      subst e1
      simp only [Value.ownBlock, Option.some.injEq] at hk
      right; omega

namespace St
variable {c : Ctx} {l R : List HP} {w w' : World} {A B : HP}

/-- append onto a row of the call's own. -/
theorem append {P : Program} {ops : Array Oper} {rest : List Oper} {o : Oper} {a : Act} {Q : Exit → Act → World → Prop} (hgd : o.guard = none) (s x : Operand) (t : TypeId)
    (ho : o.op = .call { callee := .builtin .append, args := #[s, x], argTypes := #[t, t] }) {e : TypeId} {z : Value} {size bytes : Nat} (E : Elem P t e z size bytes)
    {v : Value} {n : Nat} {xs : List Value} (hs : a.eval s = v) (hS : St c (row e size v n xs :: R) w)
    (ao : Option Addr) (m cp : Nat) (news : List Value) (hx : a.eval x = .slice ao m cp) (hl : news.length = m * size) (hne : ao = none → m = 0 ∧ cp = 0)
    (hnews : ∀ ad, ao = some ad → ∀ j u, news[j]? = some u → w.cell? (ad.add j) = some u) (h1 : ∀ u ∈ news, u.oneCell' = true)
    (hb : (n + m) * bytes ≤ 140737488355328) (hb2 : n + m ≤ maxLen)
    (h : ∀ v' w', St c (row e size v' (n + m) (xs ++ news) :: R) w' → (v' = .slice none 0 0 ↔ v = .slice none 0 0 ∧ m = 0) → wpList P ops Q rest (a.put o.dst v') w') : wpList P ops Q (o :: rest) a w := by
  cases ao with
  | some ad =>
    obtain ⟨v', w', hr, h2, h3, h4, h5⟩ := run_append_St E o.type hS.row_at ad m cp news hl (hnews ad rfl) h1 hb2 hb
    refine wpList_plain hgd fun K hK => ?_
    unfold Oper.wp execOp
    simp only [ho, resolve, invoke, builtin, Sem.run_bind, Sem.run_pure, Result.andThen_ok, List.map_toArray, List.map_cons, List.map_nil, hs, hx, hr]
    exact hK _ _ (h v' w' (hS.regrown h2 h3 h5) h4)
  | none =>
    obtain ⟨rfl, rfl⟩ := hne rfl
    have hnews : news = [] := List.eq_nil_of_length_eq_zero (by simpa using hl)
    subst hnews
    obtain ⟨i, hi, hz0, hz1, hz2⟩ := info_parts E.hi
    exact wpList_append_own_none hgd s x t ho 0 e i size E.ht hi v n xs hs hS.row_at hx (h v w (by simpa using hS) (by simp))

/-- make([]T, n). -/
theorem make {P : Program} {ops : Array Oper} {rest : List Oper} {o : Oper} {a : Act} {Q : Exit → Act → World → Prop} (hgd : o.guard = none) (lo co : Operand) (t : TypeId)
    (ho : o.op = Op.makeSlice t lo co) {e : TypeId} {z : Value} {size bytes : Nat} (E : Elem P t e z size bytes) {kl kc : IntKind} (n : Nat)
    (hl : a.eval lo = .int kl n) (hc : a.eval co = .int kc n) (hS : St c R w) (hb : bytes * n ≤ 281474976710656) (hb2 : n ≤ maxLen)
    (h : ∀ w', St c (row e size (.slice (some ⟨w.heap.size, 0, none⟩) n n) n (madeCells z.cells (n * size)).toList :: R) w' → wpList P ops Q rest (a.put o.dst (.slice (some ⟨w.heap.size, 0, none⟩) n n)) w') :
    wpList P ops Q (o :: rest) a w := by
  obtain ⟨i, hi, hz0, hz1, hz2⟩ := info_parts E.hi
  refine wpList_make_full w hgd lo co t ho 0 e i z size E.ht hi hz0 hz1 kl kc n n n hl hc rfl rfl (by rw [hz2]; exact hb) hb2 (Nat.zero_le _) fun w' h' hg => h w' (hS.made h' hg ?_)
  intro k hk
  simp only [Value.ownBlock, Option.some.injEq] at hk
  omega

/-- make([]T, n), elements of one cell. -/
theorem make1 {P : Program} {ops : Array Oper} {rest : List Oper} {o : Oper} {a : Act} {Q : Exit → Act → World → Prop} (hgd : o.guard = none) (lo co : Operand) (t : TypeId)
    (ho : o.op = Op.makeSlice t lo co) {e : TypeId} {z : Value} {bytes : Nat} (E : Elem P t e z 1 bytes) (hz : z.cells = #[z]) {kl kc : IntKind} (n : Nat)
    (hl : a.eval lo = .int kl n) (hc : a.eval co = .int kc n) (hS : St c R w) (hb : bytes * n ≤ 281474976710656) (hb2 : n ≤ maxLen)
    (h : ∀ g w', St c (row e 1 (.slice (some ⟨g, 0, none⟩) n n) n (List.replicate n z) :: R) w' → wpList P ops Q rest (a.put o.dst (.slice (some ⟨g, 0, none⟩) n n)) w') :
    wpList P ops Q (o :: rest) a w :=
  St.make hgd lo co t ho E n hl hc hS hb hb2 fun w' hS' => h _ w' (by simpa [hz, toList_madeCells_one] using hS')

/-- make([]T, 0, n). -/
theorem makeCap {P : Program} {ops : Array Oper} {rest : List Oper} {o : Oper} {a : Act} {Q : Exit → Act → World → Prop} (hgd : o.guard = none) (lo co : Operand) (t : TypeId)
    (ho : o.op = Op.makeSlice t lo co) {e : TypeId} {z : Value} {size bytes : Nat} (E : Elem P t e z size bytes) {kl kc : IntKind} (n : Nat)
    (hl : a.eval lo = .int kl 0) (hc : a.eval co = .int kc n) (hS : St c R w) (hb : bytes * n ≤ 281474976710656) (hb2 : n ≤ maxLen)
    (h : ∀ w', St c (row e size (.slice (some ⟨w.heap.size, 0, none⟩) 0 n) 0 [] :: R) w' → wpList P ops Q rest (a.put o.dst (.slice (some ⟨w.heap.size, 0, none⟩) 0 n)) w') :
    wpList P ops Q (o :: rest) a w := by
  obtain ⟨i, hi, hz0, hz1, hz2⟩ := info_parts E.hi
  refine wpList_make_own w hgd lo co t ho 0 e i z size E.ht hi hz0 hz1 kl kc n n hl hc rfl (by rw [hz2]; exact hb) hb2 (Nat.zero_le _) fun w' h' hg => h w' (hS.made h' hg ?_)
  intro k hk
  simp only [Value.ownBlock, Option.some.injEq] at hk
  omega

/-- A row that holds something has a place. -/
theorem rowAt {e : TypeId} {size : Nat} {v : Value} {n : Nat} {xs : List Value} (h : St c (row e size v n xs :: R) w) (hn : 0 < n) :
    ∃ g cap, v = .slice (some ⟨g, 0, none⟩) n cap ∧ n ≤ cap ∧ xs.length = n * size ∧ (∀ j, j < n * size → w.cell? ⟨g, j, none⟩ = xs[j]?) ∧ ∀ j, w.frozen? ⟨g, j, none⟩ = false := by
  have ho := h.row_at
  rcases ho.2 with ⟨_, h0⟩ | ⟨g, cap, cur, rfl, _, _, hnc, _⟩
  · omega
  · exact ⟨g, cap, rfl, hnc, ho.1, fun j hj => ho.cellAt j hj, fun j => ho.frozenAt j⟩

/-- Any row's shape. -/
theorem rowShape {e : TypeId} {size : Nat} {v : Value} {n : Nat} {xs : List Value} (h : St c (row e size v n xs :: R) w) :
    ∃ ao cap, v = .slice ao n cap ∧ n ≤ cap ∧ xs.length = n * size ∧ (ao = none → n = 0 ∧ cap = 0) ∧ ∀ ad, ao = some ad → ad.off = 0 ∧ ad.spot = none ∧ ∀ j u, xs[j]? = some u → w.cell? (ad.add j) = some u := by
  have ho := h.row_at
  rcases ho.2 with ⟨rfl, rfl⟩ | ⟨g, cap, cur, rfl, _, _, hnc, _⟩
  · exact ⟨none, 0, rfl, Nat.le_refl _, ho.1, fun _ => ⟨rfl, rfl⟩, fun _ h => by cases h⟩
  · refine ⟨_, cap, rfl, hnc, ho.1, fun h => (by cases h), fun ad had => ?_⟩
    obtain rfl := Option.some.inj had
    exact ⟨rfl, rfl, ho.cells (g := g) rfl⟩

theorem rowReads {e : TypeId} {v : Value} {n : Nat} {xs : List Value} (h : St c (row e 1 v n xs :: R) w) : Reads w v xs := by
  obtain ⟨ao, cap, rfl, hc, hl, hn, ha⟩ := h.rowShape
  exact ⟨ao, n, cap, rfl, hc, by omega, hn, fun ad had => (ha ad had).2.2⟩

theorem setRow {e : TypeId} {size g n cap : Nat} {xs : List Value} (h : St c (row e size (.slice (some ⟨g, 0, none⟩) n cap) n xs :: R) w) (j : Nat) (u : Value) :
    St c (row e size (.slice (some ⟨g, 0, none⟩) n cap) n (xs.set j u) :: R) (w.setCell ⟨g, j, none⟩ u) := by
  obtain ⟨h1, h2⟩ := h.row_at.stored j u
  exact h.regrown h1 h2 fun k hk => .inl hk

/-- append(s, x): one element, laid in a block of its own first. -/
theorem append1 {P : Program} {ops : Array Oper} {rest : List Oper} {o : Oper} {a : Act} {Q : Exit → Act → World → Prop} (hgd : o.guard = none) (s x : Operand) (t : TypeId)
    (ho : o.op = .call { callee := .builtin .append, args := #[s, x], argTypes := #[t, t] }) {e : TypeId} {z : Value} {bytes : Nat} (E : Elem P t e z 1 bytes)
    {v : Value} {n : Nat} {xs : List Value} (hs : a.eval s = v) (hS : St c (row e 1 v n xs :: R) w) (u : Value) (T : TypeId) (hx : a.eval x = .slice (some ⟨w.heap.size, 0, none⟩) 1 1) (h1 : u.oneCell' = true)
    (hb : (n + 1) * bytes ≤ 140737488355328) (hb2 : n + 1 ≤ maxLen)
    (h : ∀ g' cp' w', n + 1 ≤ cp' → St c (row e 1 (.slice (some ⟨g', 0, none⟩) (n + 1) cp') (n + 1) (xs ++ [u]) :: R) w' → wpList P ops Q rest (a.put o.dst (.slice (some ⟨g', 0, none⟩) (n + 1) cp')) w') : wpList P ops Q (o :: rest) a (w.alloc (.cells #[u] T)) := by
  refine append hgd s x t ho E hs (hS.allocSkip _) (some ⟨w.heap.size, 0, none⟩) 1 1 [u] hx rfl (fun h => by cases h) ?_ ?_ hb hb2 fun v' w' h' _ => ?_
  rotate_right
  · obtain ⟨g', cp', rfl, hc', _⟩ := h'.rowAt (by omega)
    exact h g' cp' w' hc' h'
  · intro ad had j y hj
    obtain rfl := Option.some.inj had
    match j, hj with
    | 0, hj => simp at hj; subst hj; simp [Addr.add]
  · intro y hy
    simp at hy
    subst hy
    exact h1

theorem ne_row {g g2 : Nat} {cs : List Value} {T e : TypeId} {size n n' cap : Nat} {xs : List Value} (h : St c (blk g cs T :: row e size (.slice (some ⟨g2, 0, none⟩) n cap) n' xs :: R) w) : g2 ≠ g := by
  obtain ⟨F, ⟨F1, F2, ha, ⟨G1, G2, hb, _, _, u2⟩, d, _⟩, _⟩ := h
  intro e
  subst e
  exact d g2 ((ha.2 g2).2 rfl) ((u2 g2).2 (.inl ((hb.2 g2).2 rfl)))

theorem ne_blk {g g2 : Nat} {cs cs2 : List Value} {T T2 : TypeId} (h : St c (blk g cs T :: blk g2 cs2 T2 :: R) w) : g2 ≠ g := by
  obtain ⟨F, ⟨F1, F2, ha, ⟨G1, G2, hb, _, _, u2⟩, d, _⟩, _⟩ := h
  intro e
  subst e
  exact d g2 ((ha.2 g2).2 rfl) ((u2 g2).2 (.inl ((hb.2 g2).2 rfl)))

theorem lt_heap {g : Nat} {cs : List Value} {T : TypeId} (h : St c (blk g cs T :: R) w) : g < w.heap.size := lt_of_some h.blk_at

/-- copy into a row of the call's own. -/
theorem copy {P : Program} {ops : Array Oper} {rest : List Oper} {o : Oper} {a : Act} {Q : Exit → Act → World → Prop} (hgd : o.guard = none) (d x : Operand) (dT sT : TypeId)
    (ho : o.op = .call { callee := .builtin .copy, args := #[d, x], argTypes := #[dT, sT] }) {e : TypeId} {z : Value} {bytes : Nat} (E : Elem P dT e z 1 bytes)
    {g off dLen dCap n cap : Nat} {xs ys : List Value} {sv : Value} (hd : a.eval d = .slice (some ⟨g, off, none⟩) dLen dCap) (hx : a.eval x = sv) (hr : Reads w sv ys) (h1 : ∀ v ∈ ys, v.oneCell' = true)
    (hS : St c (row e 1 (.slice (some ⟨g, 0, none⟩) n cap) n xs :: R) w) (hfit : off + dLen ≤ n)
    (h : ∀ w', St c (row e 1 (.slice (some ⟨g, 0, none⟩) n cap) n (xs.take off ++ (ys.take dLen ++ xs.drop (off + (ys.take dLen).length))) :: R) w' → wpList P ops Q rest (a.put o.dst (goInt (ys.take dLen).length)) w') :
    wpList P ops Q (o :: rest) a w := by
  obtain ⟨ao, m, cp, rfl, hmc, hm, hn, ha⟩ := hr
  subst hm
  obtain ⟨i, hi, hz0, hz1, hz2⟩ := info_parts E.hi
  have hlen : (ys.take dLen).length = Nat.min ys.length dLen := by rw [List.length_take, Nat.min_comm]
  have hrow := hS.row_at
  cases ao with
  | none =>
    obtain ⟨h0, rfl⟩ := hn rfl
    have hys : ys = [] := List.eq_nil_of_length_eq_zero h0
    subst hys
    refine wpList_copy_nothing hgd d x dT sT ho e E.ht (by rw [hi]; simp [hz1]) (some ⟨g, off, none⟩) none dLen dCap 0 0 hd hx (by simp) ?_
    have := h w (by simpa using hS)
    simp only [List.take_nil, List.length_nil] at this
    exact this
  | some ad =>
    rcases hrow.2 with ⟨h', _⟩ | ⟨g', cap', cur, h', hb, hg, hnc, hcm, hcs, htake⟩
    · simp at h'
    · simp only [Value.slice.injEq, Option.some.injEq, Addr.mk.injEq, and_true, true_and] at h'
      obtain ⟨rfl, rfl⟩ := h'
      have hk : (ys.take dLen).length ≤ dLen := by rw [List.length_take]; omega
      have hsz : off + (ys.take dLen).length ≤ cur.size := by rw [hcs]; omega
      refine wpList_copy_own hgd d x dT sT ho e E.ht (by rw [hi]; simp [hz1]) g off dLen dCap ad ys.length cp hd hx cur e hg (ys.take dLen) hlen ?_ hsz ?_ ?_
      · intro j v hj
        have := ha ad rfl j v
        rw [List.getElem?_take] at hj
        split at hj
        · exact this hj
        · cases hj
      · intro v hv
        exact h1 v (List.mem_of_mem_take hv)
      · refine h _ (hS.regrown ?_ ⟨rfl, rfl, rfl, by simp [World.setRow], fun k _ hk => setRow_other w g k _ (fun e => hk (by simp [Value.ownBlock, e]))⟩ fun k hk => .inl hk)
        have hxl : xs.length = n := by simpa using hrow.1
        refine ⟨by simp [hxl]; omega, .inr ⟨g, cap, _, rfl, hb, setRow_heap w g cur _ e _ hg, hnc, hcm, ?_, ?_⟩⟩
        · simp only [List.size_toArray, List.length_append, List.length_take, List.length_drop, Array.length_toList]
          simp at hsz
          omega
        · rw [← htake]
          have hcl : cur.toList.length = cap := by simpa using hcs
          simp only [Nat.mul_one]
          exact splice_take _ _ _ _ (by omega) (by omega)

end St

theorem Rd.of_mem {c : Ctx} {R : List HP} {e : TypeId} {v : Value} {n : Nat} {xs : List Value} (h : row e 1 v n xs ∈ R) : Rd c R v xs := by
  obtain ⟨s, t, rfl⟩ := List.append_of_mem h
  intro l w hS
  refine St.rowReads (R := l ++ (s ++ t)) (e := e) (n := n) (hS.perm (l' := row e 1 v n xs :: (l ++ (s ++ t))) ?_)
  have : (l ++ (s ++ row e 1 v n xs :: t)).Perm (row e 1 v n xs :: (l ++ (s ++ t))) := by
    have := List.perm_middle (a := row e 1 v n xs) (l₁ := l ++ s) (l₂ := t)
    simpa [List.append_assoc] using this
  exact this

theorem Rd.reads {c : Ctx} {R : List HP} {v : Value} {xs : List Value} (h : Rd c R v xs) {w : World} (hS : St c R w) : Reads w v xs := h [] w hS

/-- A text of bytes. -/
def strB (bs : List Nat) : ByteArray := ⟨(bs.map UInt8.ofNat).toArray⟩
theorem strB_inj {a b : List Nat} (ha : ∀ x ∈ a, x < 256) (hb : ∀ x ∈ b, x < 256) (h : strB a = strB b) : a = b := by
  have h1 : a.map UInt8.ofNat = b.map UInt8.ofNat := by
    have := congrArg (fun s : ByteArray => s.data.toList) h
    simpa [strB] using this
  have key : ∀ l : List Nat, (∀ x ∈ l, x < 256) → (l.map UInt8.ofNat).map UInt8.toNat = l := by
    intro l hl
    rw [List.map_map]
    conv => rhs; rw [← List.map_id l]
    apply List.map_congr_left
    intro x hx
    have := hl x hx
    simp [UInt8.toNat_ofNat]
    omega
  rw [← key a ha, ← key b hb, h1]

theorem Reads.str {w : World} {v : Value} {bs : List Nat} (h : Reads w v (bs.map fun b : Nat => .int .u8 (b : Int))) {P : Program} {src e dst : TypeId}
    (hs : P.underlying src = some (.slice e)) (he : P.underlying e = some (.int .u8)) (hd : P.underlying dst = some .string) :
    (convert src dst v).run P w = .ok (.string (strB bs)) w := by
  obtain ⟨ao, n, cap, rfl, hc, hn, h0, ha⟩ := h
  have hn' : n = bs.length := by simpa using hn
  subst hn'
  cases ao with
  | none =>
    have hb : bs = [] := List.eq_nil_of_length_eq_zero (h0 rfl).1
    subst hb
    exact run_convert_bytes_nil (P := P) (w := w) src e hs he 0 cap dst hd
  | some ad =>
    have hcell := ha ad rfl
    cases bs with
    | nil =>
      have := run_bytesToString (P := P) w ad 0 cap [] (by simp [loadCells, loadCellsFrom])
      rw [run_convert_bytes_string w src dst e _ _ cap hs he hd]
      exact this
    | cons b0 bs =>
    have hsp : ad.spot = none := by
      have h0 := hcell 0 _ rfl
      unfold World.cell? at h0
      split at h0
      · cases hs : (ad.add 0).spot with
        | none => simpa [Addr.add] using hs
        | some _ => simp [hs] at h0
      · cases h0
    generalize hbs : b0 :: bs = bs' at *
    clear hbs
    obtain ⟨b, off, sp⟩ := ad
    simp only at hsp
    subst hsp
    have := run_convert_bytes_arg (P := P) w src e hs he b off bs'.length cap (bs'.map fun b : Nat => (b : Int)) (by simp) (fun i hi => by
      have := hcell i (.int .u8 (bs'[i] : Nat)) (by simp [hi])
      rw [Addr.add_lit] at this
      rw [this]
      simp [hi]) dst hd
    rw [this]
    simp [strB, strOfNums, List.map_map, Function.comp_def]

/-- A world to begin with: nothing is owned, nothing may be touched. -/
def top (W : World) : Ctx := ⟨W, fun _ => False⟩
theorem St.top (W : World) : St (top W) [] W :=
  ⟨fun _ => False, ⟨trivial, fun _ h => h⟩, fun _ h => .inl h, ⟨rfl, rfl, rfl, Nat.le_refl _, fun _ _ _ => rfl⟩⟩
theorem St.below {W w : World} {l : List HP} (h : St (Go.Proofs.YtakmkjdmonmilaaDoor.top W) l w) : Below W.heap.size W w := by
  have k := h.keeps
  exact ⟨k.os, k.tape, k.output, k.size, fun i hi => k.block i hi fun h => h⟩
theorem top_cell {W w : World} {l : List HP} (h : St (Go.Proofs.YtakmkjdmonmilaaDoor.top W) l w) {a : Addr} {v : Value} (hc : W.cell? a = some v) : w.cell? a = some v :=
  (h.below.cell (World.block_lt_of_cell? W a hc)).trans hc
theorem Rd.of_arg {W : World} {R : List HP} {v : Value} {xs : List Value} (h : Reads W v xs) : Rd (top W) R v xs := by
  intro l w hS
  obtain ⟨a, n, cap, rfl, hc, hn, h0, ha⟩ := h
  exact ⟨a, n, cap, rfl, hc, hn, h0, fun ad had j u hj => top_cell hS (ha ad had j u hj)⟩

theorem St.cell_mem {c : Ctx} {l : List HP} {w : World} {g : Nat} {cs : List Value} {T : TypeId} (H : St c l w) (h : blk g cs T ∈ l) (i : Nat) (v : Value) (hv : cs[i]? = some v) : w.cell? ⟨g, i, none⟩ = some v := by
  obtain ⟨s, t, rfl⟩ := List.append_of_mem h
  have h2 : St c (blk g cs T :: (s ++ t)) w := H.perm List.perm_middle
  rw [h2.cell i, hv]

end Go.Proofs.YtakmkjdmonmilaaDoor
