/- What an argument of bounded bulk holds, read apart. -/
import Derived.Test.YtakmkjdmonmilaaDoorArg
import Derived.Test.YtakmkjdmonmilaaDoorRows
namespace Go.Proofs.YtakmkjdmonmilaaDoor
set_option linter.unusedSimpArgs false
set_option linter.unusedVariables false
open Go Go.ChangeShapes Go.WideShapes

theorem bulk_one {H : Type} (d : DataW H) : 1 ≤ Rows.uptoBulk d := by
  cases d with
  | lit l => cases l <;> simp [Rows.uptoBulk]
  | nil => simp [Rows.uptoBulk]
  | ptr d => simp [Rows.uptoBulk]
  | slice elems spare => simp [Rows.uptoBulk]
  | agg parts => simp [Rows.uptoBulk]
  | iface t d => simp [Rows.uptoBulk]
  | map entries => simp [Rows.uptoBulk]
  | held h => simp [Rows.uptoBulk]
theorem bulk_mem {H : Type} {d : DataW H} {l : List (DataW H)} (h : d ∈ l) : Rows.uptoBulk d ≤ Rows.uptoBulkAll l := by
  induction l with
  | nil => cases h
  | cons x r ih =>
    simp only [Rows.uptoBulkAll]
    cases List.mem_cons.1 h with
    | inl e => subst e; omega
    | inr e => have := ih e; omega
theorem bulk_len {H : Type} (l : List (DataW H)) : l.length ≤ Rows.uptoBulkAll l := by
  induction l with
  | nil => simp [Rows.uptoBulkAll]
  | cons x r ih => have := bulk_one x; simp only [Rows.uptoBulkAll, List.length_cons]; omega
theorem bulk_bound {H : Type} {l : List (DataW H)} (hk : Rows.uptoSmall H l = true) : Rows.uptoBulkAll l ≤ 1048576 := by
  have h := of_decide_eq_true hk
  exact h

section
variable {H : Type} {enc : TypeId × Value → H} {P : Program} {W : World} {t e : TypeId}
/-- Cells that read as data of a type, of bulk 1048576 at most. -/
def OkU (enc : TypeId × Value → H) (P : Program) (W : World) (t : TypeId) (cs : List Value) : Prop :=
  ∃ fuel d ps, DataW.trod enc P W 0 (fun _ => true) true fuel t cs = some (d, ps) ∧ Rows.uptoBulk d ≤ 1048576
theorem okU_int {k : IntKind} (hu : P.underlying t = some (.int k)) {cs : List Value} (h : OkU enc P W t cs) : ∃ n, cs = [.int k n] ∧ (Lit.int k n).wf = true := by
  obtain ⟨fuel, d, ps, h, _⟩ := h
  obtain ⟨n, h1, _, h2⟩ := DataW.trod_int hu h
  exact ⟨n, h1, h2⟩
theorem okU_bool (hu : P.underlying t = some .bool) {cs : List Value} (h : OkU enc P W t cs) : ∃ b, cs = [.bool b] := by
  obtain ⟨fuel, d, ps, h, _⟩ := h
  obtain ⟨b, h1, _⟩ := DataW.trod_bool hu h
  exact ⟨b, h1⟩
theorem okU_string (hu : P.underlying t = some .string) {cs : List Value} (h : OkU enc P W t cs) : ∃ s, cs = [.string s] ∧ s.size ≤ 1048576 := by
  obtain ⟨fuel, d, ps, h, hw⟩ := h
  obtain ⟨s, h1, h2, _⟩ := DataW.trod_string hu h
  cases h2
  simp only [Rows.uptoBulk] at hw
  rw [Array.length_toList] at hw
  exact ⟨s, h1, by have : s.data.size = s.size := rfl; omega⟩
theorem okU_slice (hu : P.underlying t = some (.slice e)) {cs : List Value} (h : OkU enc P W t cs) :
    cs = [.slice none 0 0] ∨ ∃ a len cap, cs = [.slice (some a) len cap] ∧ len ≤ cap ∧ cap ≤ 1048576 ∧
      ∀ i, i < cap → ∃ xs, W.cells? 0 (a.add (i * P.cellsOf e)) (P.cellsOf e) = some xs ∧ OkU enc P W e xs := by
  obtain ⟨fuel, d, ps, h, hw⟩ := h
  rcases DataW.trod_slice hu h with ⟨h1, _⟩ | ⟨a, len, cap, elems, rest, n, _, h1, hx, _, hlc, hcm, hel, hE, hR, _⟩
  · exact .inl h1
  · right
    obtain ⟨hrl, hR'⟩ := hR rfl
    simp only [Prod.mk.injEq] at hx
    obtain ⟨rfl, _⟩ := hx
    simp only [Rows.uptoBulk] at hw
    have l1 := bulk_len (elems.map (·.1))
    have l2 := bulk_len (rest.map (·.1))
    rw [List.length_map] at l1 l2
    refine ⟨a, len, cap, h1, hlc, by omega, ?_⟩
    intro i hi
    by_cases hil : i < len
    · have h2 := hE i hil
      obtain ⟨x, hx⟩ : ∃ x, elems[i]? = some x := ⟨_, List.getElem?_eq_getElem (by omega)⟩
      rw [hx] at h2
      obtain ⟨xs, h3, h4⟩ := Option.bind_eq_some_iff.1 h2
      have := bulk_mem (List.mem_map.2 ⟨x, List.mem_of_getElem? hx, rfl⟩ : x.1 ∈ elems.map (·.1))
      exact ⟨xs, h3, n, x.1, x.2, h4, by omega⟩
    · have h2 := hR' (i - len) (by omega)
      obtain ⟨x, hx⟩ : ∃ x, rest[i - len]? = some x := ⟨_, List.getElem?_eq_getElem (by omega)⟩
      rw [hx, show len + (i - len) = i by omega] at h2
      obtain ⟨xs, h3, h4⟩ := Option.bind_eq_some_iff.1 h2
      have := bulk_mem (List.mem_map.2 ⟨x, List.mem_of_getElem? hx, rfl⟩ : x.1 ∈ rest.map (·.1))
      exact ⟨xs, h3, n, x.1, x.2, h4, by omega⟩
theorem okU_struct {fs : Array Field} (hu : P.underlying t = some (.struct fs)) {cs : List Value} (h : OkU enc P W t cs) :
    cs.length = P.cellsOf t ∧ ∀ (i : Nat) (f : Field), fs[i]? = some f → OkU enc P W f.type ((cs.drop f.offset).take (P.cellsOf f.type)) := by
  obtain ⟨fuel, d, ps, h, hw⟩ := h
  obtain ⟨xs, n, _, hx, hl, hlen, hf⟩ := DataW.trod_struct hu h
  simp only [Prod.mk.injEq] at hx
  obtain ⟨rfl, _⟩ := hx
  refine ⟨hl, fun i f hi => ?_⟩
  have h2 := hf i f hi
  have hif : i < fs.size := (Array.getElem?_eq_some_iff.1 hi).1
  obtain ⟨x, hx⟩ : ∃ x, xs[i]? = some x := ⟨_, List.getElem?_eq_getElem (by omega)⟩
  rw [hx] at h2
  simp only [Rows.uptoBulk] at hw
  have := bulk_mem (List.mem_map.2 ⟨x, List.mem_of_getElem? hx, rfl⟩ : x.1 ∈ xs.map (·.1))
  exact ⟨n, x.1, x.2, h2, by omega⟩
/-- A slice of structs, place by place. -/
theorem okU_rows {α : Type} (D : List Value → α → Prop) (hu : P.underlying t = some (.slice e)) (hD : ∀ xs, OkU enc P W e xs → ∃ x, D xs x) {sz : Nat} (hsz : P.cellsOf e = sz) (hpos : 0 < sz) {v : Value} (h : OkU enc P W t [v]) :
    ∃ (ao : Option Addr) (cap : Nat) (l : List α), v = .slice ao l.length cap ∧ l.length ≤ cap ∧ cap ≤ 1048576 ∧ (ao = none → l.length = 0 ∧ cap = 0) ∧
      ∀ i (hi : i < l.length), ∃ b off xs, ao = some ⟨b, off, none⟩ ∧ D xs l[i] ∧ xs.length = sz ∧ ∀ j, j < sz → W.cell? ⟨b, off + i * sz + j, none⟩ = xs[j]? := by
  subst hsz
  rcases okU_slice hu h with h1 | ⟨a, len, cap, h1, hlc, hcm, hE⟩
  · cases h1
    exact ⟨none, 0, [], rfl, Nat.le_refl _, by omega, fun _ => ⟨rfl, rfl⟩, fun i hi => absurd hi (by simp)⟩
  · cases h1
    obtain ⟨l, hl, hp⟩ := list_of (p := fun i x => ∃ xs, W.cells? 0 (a.add (i * P.cellsOf e)) (P.cellsOf e) = some xs ∧ D xs x) len fun i hi => by
      obtain ⟨xs, h2, h3⟩ := hE i (by omega)
      obtain ⟨x, hx⟩ := hD xs h3
      exact ⟨x, xs, h2, hx⟩
    subst hl
    refine ⟨some a, cap, l, rfl, hlc, hcm, fun h => (by cases h), fun i hi => ?_⟩
    obtain ⟨xs0, h0, _⟩ := hp 0 l[0] (List.getElem?_eq_getElem (by omega))
    obtain ⟨b, off, rfl⟩ := ad_plain h0 hpos
    obtain ⟨xs, h1, h2⟩ := hp i l[i] (List.getElem?_eq_getElem hi)
    obtain ⟨h3, h4⟩ := elem_cells h1
    exact ⟨b, off, xs, rfl, h2, h3, h4⟩
/-- An argument of bounded bulk. -/
def ArgU (enc : TypeId × Value → H) (P : Program) (W : World) (base : Nat) (t : TypeId) (v : Value) : Prop := Value.okWide P W .any base t v ∧ OkU enc P W t v.cells.toList
theorem argU_slice {base : Nat} {v : Value} (hu : P.underlying t = some (.slice e)) (h : ArgU enc P W base t v) : OkU enc P W t [v] := by
  obtain ⟨a, l, c, rfl⟩ := okWide_slice hu h.1
  exact h.2
theorem argU_of {base : Nat} {v : Value} {d : DataW H} {p : List MemPlace} {ds : List (DataW H)} {j : Nat}
    (hval : Value.okWide P W .any base t v) (h : DataW.Trod enc P W 0 (fun _ => true) true t v d p) (hk : Rows.uptoBulkAll ds ≤ 1048576) (hd : ds[j]? = some d) : ArgU enc P W base t v := by
  obtain ⟨fuel, hf⟩ := h
  have := bulk_mem (List.mem_of_getElem? hd)
  exact ⟨hval, fuel, d, p, hf, by omega⟩
end
end Go.Proofs.YtakmkjdmonmilaaDoor
