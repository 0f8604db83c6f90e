import Derived.Test.YtnhemnabjlcgeaaTiE
/-! The plain law of TileTouched: the slices that a rectangle's samples are in; the row of marks. -/
namespace Go.Proofs.Ytnhemnabjlcgeaa
set_option linter.unusedSimpArgs false
set_option linter.unusedVariables false
open Go

theorem meets_iff {g : Gd} {q : Rq} (hg : g.Ok) (hq : q.In g) {k : Nat} (k1 : (k : Int) < g.n) :
    meetsB g q k = true ↔ ∃ x y : Int, q.x ≤ x ∧ x < q.x + q.w ∧ q.y ≤ y ∧ y < q.y + q.h ∧ g.at x y = (k : Int) := by
  have s := hg.slice (k := (k : Int)) (by omega) k1
  obtain ⟨q1, q2, q3, q4, q5, q6⟩ := hq
  have a1 := s.x0
  have a2 := s.w0
  have a3 := s.w2
  have a4 := s.y0
  have a5 := s.h0
  have a6 := s.h2
  unfold meetsB
  simp only [Bool.and_eq_true, decide_eq_true_eq, and_assoc]
  constructor
  · rintro ⟨h1, h2, h3, h4⟩
    refine ⟨max q.x (g.x k), max q.y (g.y k), by omega, by omega, by omega, by omega, ?_⟩
    exact ((has_at hg (x := max q.x (g.x k)) (y := max q.y (g.y k)) (by omega) (by omega) (by omega) (by omega) s).1 ⟨by omega, by omega, by omega, by omega⟩).symm
  · rintro ⟨x, y, h1, h2, h3, h4, h5⟩
    obtain ⟨p1, p2, p3, p4⟩ := (has_at hg (x := x) (y := y) (by omega) (by omega) (by omega) (by omega) s).2 h5.symm
    omega

/-- A slice that a sample ahead of (x, y) is in. -/
def Mk (g : Gd) (q : Rq) (y x : Int) (k : Nat) : Prop := ∃ x' y' : Int, q.x ≤ x' ∧ x' < q.x + q.w ∧ q.y ≤ y' ∧ (y' < y ∨ (y' = y ∧ x' < x)) ∧ g.at x' y' = (k : Int)
noncomputable instance (g : Gd) (q : Rq) (y x : Int) (k : Nat) : Decidable (Mk g q y x k) := Classical.propDecidable _
noncomputable def marks (g : Gd) (q : Rq) (N : Nat) (y x : Int) : List Value := (List.range N).map fun k => .bool (decide (Mk g q y x k))
theorem marks_len (g : Gd) (q : Rq) (N : Nat) (y x : Int) : (marks g q N y x).length = N := by simp [marks]
theorem map_range_set {α : Type} (f : Nat → α) (N i : Nat) (v : α) : ((List.range N).map f).set i v = (List.range N).map fun k => if k = i then v else f k := by
  apply List.ext_getElem
  · simp
  · intro j h1 h2
    simp at h1
    rw [List.getElem_set]
    by_cases e : i = j
    · subst e; simp
    · rw [if_neg e]
      simp [Ne.symm e, eq_comm]
      intro h; exact absurd h.symm (by omega)
theorem marks_nil (g : Gd) (q : Rq) (N : Nat) : marks g q N q.y q.x = List.replicate N (.bool false) := by
  unfold marks
  rw [show List.replicate N (Value.bool false) = (List.range N).map fun _ => Value.bool false by apply List.ext_getElem <;> simp]
  apply List.map_congr_left
  intro k _
  congr 1
  apply decide_eq_false
  rintro ⟨x', y', h1, h2, h3, h4, -⟩
  omega
theorem marks_step (g : Gd) (q : Rq) (N : Nat) (y x : Int) (i : Nat) (hx : q.x ≤ x ∧ x < q.x + q.w) (hy : q.y ≤ y) (hi : g.at x y = (i : Int)) : (marks g q N y x).set i (.bool true) = marks g q N y (x + 1) := by
  unfold marks
  rw [map_range_set]
  apply List.map_congr_left
  intro k _
  by_cases e : k = i
  · rw [if_pos e]
    congr 1
    symm
    apply decide_eq_true
    exact ⟨x, y, hx.1, hx.2, hy, .inr ⟨rfl, by omega⟩, by rw [hi, e]⟩
  · rw [if_neg e]
    congr 1
    apply decide_eq_decide.2
    constructor
    · rintro ⟨x', y', h1, h2, h3, h4, h5⟩
      exact ⟨x', y', h1, h2, h3, by omega, h5⟩
    · rintro ⟨x', y', h1, h2, h3, h4, h5⟩
      refine ⟨x', y', h1, h2, h3, ?_, h5⟩
      by_cases e2 : y' = y ∧ x' = x
      · obtain ⟨rfl, rfl⟩ := e2
        rw [hi] at h5
        exact absurd (by omega) e
      · omega
theorem marks_row (g : Gd) (q : Rq) (N : Nat) (y : Int) : marks g q N y (q.x + q.w) = marks g q N (y + 1) q.x := by
  unfold marks
  apply List.map_congr_left
  intro k _
  congr 1
  apply decide_eq_decide.2
  constructor
  · rintro ⟨x', y', h1, h2, h3, h4, h5⟩
    exact ⟨x', y', h1, h2, h3, by omega, h5⟩
  · rintro ⟨x', y', h1, h2, h3, h4, h5⟩
    exact ⟨x', y', h1, h2, h3, by omega, h5⟩
/-- The marks that are left when those of pre were struck. -/
def left (g : Gd) (q : Rq) (N : Nat) (pre : List Nat) : List Value := (List.range N).map fun k => .bool (meetsB g q k && !decide (k ∈ pre))
theorem left_len (g : Gd) (q : Rq) (N : Nat) (pre : List Nat) : (left g q N pre).length = N := by simp [left]
theorem marks_all {g : Gd} {q : Rq} {N : Nat} (hg : g.Ok) (hq : q.In g) (hN : g.n = (N : Int)) : marks g q N (q.y + q.h) q.x = left g q N [] := by
  unfold marks left
  apply List.map_congr_left
  intro k hk
  rw [List.mem_range] at hk
  congr 1
  have h := meets_iff hg hq (k := k) (by omega)
  rw [Bool.eq_iff_iff, decide_eq_true_eq]
  simp only [List.not_mem_nil, decide_false, Bool.not_false, Bool.and_true]
  rw [h]
  constructor
  · rintro ⟨x', y', h1, h2, h3, h4, h5⟩
    exact ⟨x', y', h1, h2, h3, by omega, h5⟩
  · rintro ⟨x', y', h1, h2, h3, h4, h5⟩
    exact ⟨x', y', h1, h2, h3, by omega, h5⟩
theorem left_get {g : Gd} {q : Rq} {N x : Nat} (hx : x < N) (hm : meetsB g q x = true) : (left g q N ((List.range x).filter (meetsB g q)))[x]? = some (.bool true) := by
  unfold left
  rw [List.getElem?_map, List.getElem?_range hx]
  simp [hm]
theorem left_snoc {g : Gd} {q : Rq} {N x : Nat} (pre : List Nat) : (left g q N pre).set x (.bool false) = left g q N (pre ++ [x]) := by
  unfold left
  rw [map_range_set]
  apply List.map_congr_left
  intro k _
  by_cases e : k = x
  · rw [if_pos e, e]; simp
  · rw [if_neg e]; simp [e]
theorem left_all {g : Gd} {q : Rq} {N k : Nat} (hk : k < N) : (left g q N ((List.range N).filter (meetsB g q)))[k]? = some (.bool false) := by
  unfold left
  rw [List.getElem?_map, List.getElem?_range hk]
  simp only [Option.map_some]
  congr 2
  by_cases h : meetsB g q k = true
  · simp [h, hk]
  · simp [Bool.not_eq_true] at h; simp [h]
/-- The one told last. -/
def lastI (pre : List Nat) : Int := match pre.getLast? with | some k => (k : Int) | none => -1
theorem lastI_snoc (pre : List Nat) (x : Nat) : lastI (pre ++ [x]) = (x : Int) := by simp [lastI]
theorem lastI_lt {g : Gd} {q : Rq} (x : Nat) : lastI ((List.range x).filter (meetsB g q)) < (x : Int) ∧ -1 ≤ lastI ((List.range x).filter (meetsB g q)) := by
  unfold lastI
  cases h : ((List.range x).filter (meetsB g q)).getLast? with
  | none => exact ⟨by simp only; omega, by simp only; omega⟩
  | some k =>
    have := List.mem_of_getLast? h
    have := (List.mem_filter.1 this).1
    rw [List.mem_range] at this
    exact ⟨by simp only; omega, by simp only; omega⟩
def qAll (g : Gd) : Rq := ⟨0, 0, g.W, g.H⟩
theorem qAll_in {g : Gd} (hg : g.Ok) : (qAll g).In g := ⟨hg.w1, hg.h1, Int.le_refl _, Int.le_refl _, by show (0 : Int) ≤ g.W - g.W; omega, by show (0 : Int) ≤ g.H - g.H; omega⟩
theorem meets_all {g : Gd} (hg : g.Ok) {k : Nat} (k1 : (k : Int) < g.n) : meetsB g (qAll g) k = true := by
  have s := hg.slice (k := (k : Int)) (by omega) k1
  have a1 := s.x0
  have a2 := s.w0
  have a3 := s.x1
  have a4 := s.y0
  have a5 := s.h0
  have a6 := s.y1
  unfold meetsB qAll
  simp only [Bool.and_eq_true, decide_eq_true_eq, and_assoc]
  omega
theorem range_all {g : Gd} (hg : g.Ok) {k : Nat} (k1 : (k : Int) ≤ g.n) : (List.range k).filter (meetsB g (qAll g)) = List.range k := by
  rw [List.filter_eq_self]
  intro j hj
  rw [List.mem_range] at hj
  exact meets_all hg (by omega)
end Go.Proofs.Ytnhemnabjlcgeaa
