import Derived.Test.YthpkdephkhcgmaaArg
import Derived.Test.YthpkdephkhcgmaaWWords
/-! What an argument holds, in the printer's kinds. -/
namespace Go.Proofs.Ythpkdephkhcgmaa
set_option linter.unusedSimpArgs false
set_option linter.unusedVariables false
open Go Go.RowKit Go.Proofs.YthpkdephkhcgmaaW.PrintWords
section
variable {H : Type} {enc : TypeId × Value → H} {P : Program} {W : World} {t e : TypeId}

/-- A slice argument reads as a list of a kind. -/
theorem C_of_ok {α : Type} (d : Kd α) (G : α → Prop) (hu : P.underlying t = some (.slice e)) (hD : ∀ xs, Ok enc P W e xs → ∃ x, d.K W x xs ∧ G x) {B : Nat} (hsz : P.cellsOf e = d.sz) (hpos : 0 < d.sz) (hB : P.bytesOf e = B) (hB0 : 0 < B) {v : Value} (h : Ok enc P W t [v]) :
    ∃ (A : Option Addr) (c : Nat) (l : List α), v = .slice A l.length c ∧ l.length ≤ c ∧ Kd.C d W A l.length l ∧ c * B ≤ 140737488351232 ∧ ∀ x ∈ l, G x := by
  obtain ⟨ao, cap, l, rfl, hlc, hw, hn, ha⟩ := ok_rows (fun xs x => d.K W x xs ∧ G x) hu hD hsz hpos hB h
  have hw' : cap * B ≤ 140737488351232 := hw
  have hcap : cap ≤ 140737488351232 := Nat.le_trans (Nat.le_mul_of_pos_right _ hB0) hw'
  refine ⟨ao, cap, l, rfl, hlc, ⟨rfl, by omega, fun hn0 => ?_⟩, hw', ?_⟩
  · obtain ⟨b, off, xs, rfl, _⟩ := ha 0 hn0
    refine ⟨_, rfl, fun j p hj => ?_⟩
    obtain ⟨hjl, rfl⟩ := List.getElem?_eq_some_iff.1 hj
    obtain ⟨b2, off2, xs, e2, ⟨h1, _⟩, h2, h3⟩ := ha j hjl
    cases e2
    refine ⟨xs, h2, h1, fun i u hu => ?_⟩
    have hi : i < d.sz := by have := (List.getElem?_eq_some_iff.1 hu).1; omega
    rw [Addr.add_lit, ← Nat.add_assoc, h3 i hi, hu]
  · intro x hx
    obtain ⟨j, hj, rfl⟩ := List.getElem_of_mem hx
    obtain ⟨b, off, xs, _, ⟨_, h1⟩, _⟩ := ha j hj
    exact h1

theorem D_int {k : IntKind} (he : P.underlying e = some (.int k)) : ∀ xs, Ok enc P W e xs → ∃ x, (Kd.int k).K W x xs ∧ (Lit.int k x).wf = true := by
  intro xs h
  obtain ⟨n, h1, h2⟩ := ok_int he h
  exact ⟨n, h1, h2⟩

/-- A list of numbers. -/
theorem C_ints {k : IntKind} {B : Nat} (hu : P.underlying t = some (.slice e)) (he : P.underlying e = some (.int k)) (hsz : P.cellsOf e = 1) (hB : P.bytesOf e = B) (hB0 : 0 < B) {v : Value} (h : Ok enc P W t [v]) :
    ∃ (A : Option Addr) (c : Nat) (l : List Int), v = .slice A l.length c ∧ l.length ≤ c ∧ Kd.C (Kd.int k) W A l.length l ∧ c * B ≤ 140737488351232 ∧ ∀ x ∈ l, (Lit.int k x).wf = true :=
  C_of_ok (Kd.int k) _ hu (D_int he) hsz (show 0 < 1 by decide) hB hB0 h

/-- A list of lists of numbers. -/
theorem C_rows {k : IntKind} {u : TypeId} {B B2 : Nat} (hu : P.underlying t = some (.slice u)) (hu2 : P.underlying u = some (.slice e)) (he : P.underlying e = some (.int k)) (hsz : P.cellsOf e = 1) (hsz2 : P.cellsOf u = 1) (hB : P.bytesOf e = B) (hB0 : 0 < B) (hB2 : P.bytesOf u = B2) (hB20 : 0 < B2) {v : Value} (h : Ok enc P W t [v]) :
    ∃ (A : Option Addr) (c : Nat) (l : List (List Int)), v = .slice A l.length c ∧ l.length ≤ c ∧ Kd.C (Kd.slice e (Kd.int k)) W A l.length l ∧ c * B2 ≤ 140737488351232 ∧ ∀ x ∈ l, x.length * B ≤ 140737488351232 ∧ ∀ y ∈ x, (Lit.int k y).wf = true := by
  refine C_of_ok (Kd.slice e (Kd.int k)) (fun x => x.length * B ≤ 140737488351232 ∧ ∀ y ∈ x, (Lit.int k y).wf = true) hu (fun xs hx => ?_) hsz2 (show 0 < 1 by decide) hB2 hB20 h
  rcases ok_slice hu2 hx with h1 | ⟨a, len, cap, h1, _⟩
  · subst h1
    obtain ⟨A, c, l, e1, hl, hC, hb, hg⟩ := C_ints hu2 he hsz hB hB0 hx
    exact ⟨l, ⟨A, c, by rw [e1], hl, hC⟩, Nat.le_trans (Nat.mul_le_mul_right _ hl) hb, hg⟩
  · subst h1
    obtain ⟨A, c, l, e1, hl, hC, hb, hg⟩ := C_ints hu2 he hsz hB hB0 hx
    exact ⟨l, ⟨A, c, by rw [e1], hl, hC⟩, Nat.le_trans (Nat.mul_le_mul_right _ hl) hb, hg⟩
end
end Go.Proofs.Ythpkdephkhcgmaa
