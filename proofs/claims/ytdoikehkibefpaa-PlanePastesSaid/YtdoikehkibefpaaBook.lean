import Derived.Test.YtdoikehkibefpaaSteps
/-! The owner's book of the plane's laws: its lists, and what came out. -/
namespace Go.Proofs.Ytdoikehkibefpaa
set_option linter.unusedSimpArgs false
set_option linter.unusedVariables false
open Go Go.RowKit Go.Proofs.YtdoikehkibefpaaW.PrintWords Go.Proofs.YtdoikehkibefpaaW.PrintLast

theorem elemOut : Elem Try.prog 34 37 (.slice none 0 0) 1 24 := ⟨Try.underlying34, by kernel_rfl, rfl, by decide⟩
theorem elemHeld : Elem Try.prog 33 97 (.agg #[.slice none 0 0, .int .u16 0]) 2 32 := ⟨Try.underlying33, by kernel_rfl, rfl, by decide⟩

def BIG : Nat := 134217728
/-- A row whose lists are not its own any more. -/
def bare (v : Value) (ls : List (List Int)) : HP := HP.ex fun us : List Value => row 53 1 v ls.length us
/-- The book's own cells. -/
def bkB (gB : Nat) (vl vout : Value) : HP := blk gB [vl, .int .i64 0, vout] 36
/-- Its lists. -/
def bkH (vl : Value) (hs : List (Value × Value)) : HP := row 97 2 vl hs.length (hc hs)
def bkP (hs : List (Value × Value)) : HP := pool 72 hs
/-- What came out. -/
def bkO (vout : Value) (n : Nat) (vos : List Value) : HP := row 37 1 vout n vos
def matU (v : Value) (ls : List (List Int)) : HP := mat 53 72 .u16 v ls
def bkM (vos : List Value) (outs : List (List (List Int))) : HP := Sep (List.zipWith matU vos outs)

/-- What is known of the lists: how many, how long, their marks. -/
structure Pre (n0 N B : Nat) (hs : List (Value × Value)) : Prop where
  low : n0 ≤ hs.length
  many : hs.length ≤ N
  len : ∀ j, lenV (hs.getD j z0).1 ≤ BIG + 90
  len2 : ∀ j, B ≤ j → lenV (hs.getD j z0).1 ≤ BIG
  mark : ∀ j, ∃ m : Int, (hs.getD j z0).2 = .int .u16 m

theorem getD_snoc {α : Type} (l : List α) (x z : α) (j : Nat) : (l ++ [x]).getD j z = if j = l.length then x else l.getD j z := by
  simp only [List.getD_eq_getElem?_getD]
  rcases Nat.lt_trichotomy j l.length with h | h | h
  · rw [List.getElem?_append_left h, if_neg (by omega)]
  · subst h
    rw [List.getElem?_append_right (Nat.le_refl _), Nat.sub_self, if_pos rfl]; rfl
  · rw [List.getElem?_append_right (by omega), if_neg (by omega), List.getElem?_eq_none (by simp; omega), List.getElem?_eq_none (by omega)]
theorem getD_set' {α : Type} (l : List α) (x z : α) (i j : Nat) : (l.set i x).getD j z = if j = i ∧ i < l.length then x else l.getD j z := by
  simp only [List.getD_eq_getElem?_getD, List.getElem?_set]
  by_cases h : i = j
  · subst h
    by_cases h2 : i < l.length
    · simp [h2]
    · simp [h2]
  · have h' : ¬ j = i := fun e => h e.symm
    simp [h, h']
theorem Pre.snoc {n0 N B : Nat} {hs : List (Value × Value)} (h : Pre n0 N B hs) {v : Value} (hv : lenV v ≤ BIG) (m : Int) : Pre n0 (N + 1) B (hs ++ [(v, .int .u16 m)]) := by
  refine ⟨by have := h.low; simp; omega, by have := h.many; simp; omega, fun j => ?_, fun j hj => ?_, fun j => ?_⟩
  · rw [getD_snoc]; split
    · exact Nat.le_trans hv (Nat.le_add_right _ _)
    · exact h.len j
  · rw [getD_snoc]; split
    · exact hv
    · exact h.len2 j hj
  · rw [getD_snoc]; split
    · exact ⟨m, rfl⟩
    · exact h.mark j

/-- What is known of the lists while they are made longer: of those from i up to n that they are still short. -/
structure Pre2 (i n : Nat) (hs : List (Value × Value)) : Prop where
  len : ∀ j, lenV (hs.getD j z0).1 ≤ BIG + 90
  len2 : ∀ j, i ≤ j → j < n → lenV (hs.getD j z0).1 ≤ BIG
  mark : ∀ j, ∃ m : Int, (hs.getD j z0).2 = .int .u16 m
theorem Pre2.step {i n : Nat} {hs : List (Value × Value)} (h : Pre2 i n hs) (hn : n ≤ hs.length) (hi : i < n) {v v2 : Value} (hv : lenV v ≤ BIG + 90) (hv2 : lenV v2 ≤ BIG + 90) (m : Int) : Pre2 (i + 1) n (hs.set i (v, .int .u16 m) ++ [(v2, .int .u16 m)]) := by
  refine ⟨fun j => ?_, fun j hj hj2 => ?_, fun j => ?_⟩
  · rw [getD_snoc]; split
    · exact hv2
    · rw [getD_set']; split
      · exact hv
      · exact h.len j
  · rw [getD_snoc, List.length_set, if_neg (by omega), getD_set', if_neg (by omega)]
    exact h.len2 j (by omega) hj2
  · rw [getD_snoc]; split
    · exact ⟨m, rfl⟩
    · rw [getD_set']; split
      · exact ⟨m, rfl⟩
      · exact h.mark j

/-- The book: at most n lists; of so many planes each thing that came out. -/
def book (gB n : Nat) (os : List Nat) : HP := HP.ex fun q : Value × List (Value × Value) × Value × List Value × List (List (List Int)) =>
  (HP.pure (Pre 0 n q.2.1.length q.2.1 ∧ q.2.2.2.2.map List.length = os ∧ q.2.2.2.1.length = os.length ∧ ∀ o ∈ q.2.2.2.2, ∀ l ∈ o, l.length ≤ BIG)).star
    ((bkB gB q.1 q.2.2.1).star ((bkH q.1 q.2.1).star ((bkP q.2.1).star ((bkO q.2.2.1 os.length q.2.2.2.1).star (bkM q.2.2.2.1 q.2.2.2.2)))))

section
variable {c : Ctx} {R : List HP} {w : World} {gB n : Nat} {os : List Nat}
theorem St.bookOpen (h : St c (book gB n os :: R) w) : ∃ (vl : Value) (hs : List (Value × Value)) (vout : Value) (vos : List Value) (outs : List (List (List Int))),
    Pre 0 n hs.length hs ∧ outs.map List.length = os ∧ vos.length = outs.length ∧ (∀ o ∈ outs, ∀ l ∈ o, l.length ≤ BIG) ∧ St c (bkB gB vl vout :: bkH vl hs :: bkP hs :: bkO vout outs.length vos :: bkM vos outs :: R) w := by
  obtain ⟨⟨vl, hs, vout, vos, outs⟩, h⟩ := h.open_
  obtain ⟨⟨h1, h2, h3, h4⟩, h⟩ := h.star.fact
  simp only at h1 h2 h3 h4
  have hl : os.length = outs.length := by rw [← h2, List.length_map]
  have h := h.star.swap.star.swap.star.swap.star.rot3.rot4.rot5
  refine ⟨vl, hs, vout, vos, outs, h1, h2, by omega, h4, ?_⟩
  rw [← hl]
  exact h
theorem St.bookShut {vl : Value} {hs : List (Value × Value)} {vout : Value} {vos : List Value} {outs : List (List (List Int))} {N : Nat} (h : St c (bkB gB vl vout :: bkH vl hs :: bkP hs :: bkO vout outs.length vos :: bkM vos outs :: R) w)
    (h1 : Pre 0 N hs.length hs) (h3 : vos.length = outs.length) (h4 : ∀ o ∈ outs, ∀ l ∈ o, l.length ≤ BIG) : St c (book gB N (outs.map List.length) :: R) w := by
  have hl : (outs.map List.length).length = outs.length := List.length_map ..
  rw [← hl] at h
  have h := h.rot4.rot5.swap.unstar.rot4.unstar.rot3.unstar.swap.unstar
  have h := (St.add (p := Pre 0 N hs.length hs ∧ outs.map List.length = outs.map List.length ∧ vos.length = (outs.map List.length).length ∧ ∀ o ∈ outs, ∀ l ∈ o, l.length ≤ BIG) ⟨h1, rfl, by omega, h4⟩ h).unstar
  exact St.close (vl, hs, vout, vos, outs) h
end
end Go.Proofs.Ytdoikehkibefpaa
