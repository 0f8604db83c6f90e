/- What an argument holds, read apart. -/
import Derived.ProofKit
import Derived.SizedLaws
import Derived.ChangeOld
import Derived.OpenShut
import Derived.Test.YtakmkjdmonmilaaDoorSl
namespace Go.Proofs.YtakmkjdmonmilaaDoor
set_option linter.unusedSimpArgs false
set_option linter.unusedVariables false
open Go Go.ChangeShapes Go.WideShapes

section
variable {H : Type} {enc : TypeId × Value → H} {P : Program} {W : World} {t e : TypeId}

/-- Cells that read as data of a type, no part wider than the reach. -/
def Ok (enc : TypeId × Value → H) (P : Program) (W : World) (t : TypeId) (cs : List Value) : Prop :=
  ∃ fuel d ps, DataW.trod enc P W 0 (fun _ => true) true fuel t cs = some (d, ps) ∧ ∀ n ∈ d.weights P t, n ≤ reachBytes

theorem ok_int {k : IntKind} (hu : P.underlying t = some (.int k)) {cs : List Value} (h : Ok enc P W t cs) : ∃ n, cs = [.int k n] ∧ (Lit.int k n).wf = true := by
  obtain ⟨fuel, d, ps, h, _⟩ := h
  obtain ⟨n, h1, _, h2⟩ := DataW.trod_int hu h
  exact ⟨n, h1, h2⟩

theorem ok_bool (hu : P.underlying t = some .bool) {cs : List Value} (h : Ok enc P W t cs) : ∃ b, cs = [.bool b] := by
  obtain ⟨fuel, d, ps, h, _⟩ := h
  obtain ⟨b, h1, _⟩ := DataW.trod_bool hu h
  exact ⟨b, h1⟩

theorem ok_string (hu : P.underlying t = some .string) {cs : List Value} (h : Ok enc P W t cs) : ∃ s, cs = [.string s] ∧ s.size ≤ reachBytes := by
  obtain ⟨fuel, d, ps, h, hw⟩ := h
  obtain ⟨s, h1, h2, _⟩ := DataW.trod_string hu h
  cases h2
  have h3 := hw s.data.toList.length (by unfold DataW.weights; exact List.mem_singleton.2 rfl)
  rw [Array.length_toList] at h3
  exact ⟨s, h1, h3⟩

theorem weights_all {l : List (DataW H)} {d : DataW H} (hd : d ∈ l) {n : Nat} (hn : n ∈ d.weights P e) : n ∈ DataW.weightsAll P e l := by
  induction l with
  | nil => cases hd
  | cons x l ih =>
    simp only [DataW.weightsAll, List.mem_append]
    rcases List.mem_cons.1 hd with h | h
    · subst h; exact .inl hn
    · exact .inr (ih h)

theorem ok_slice (hu : P.underlying t = some (.slice e)) {cs : List Value} (h : Ok enc P W t cs) :
    cs = [.slice none 0 0] ∨ ∃ a len cap, cs = [.slice (some a) len cap] ∧ len ≤ cap ∧ cap ≤ maxLen ∧ cap * P.bytesOf e ≤ reachBytes ∧
      ∀ i, i < cap → ∃ xs, W.cells? 0 (a.add (i * P.cellsOf e)) (P.cellsOf e) = some xs ∧ Ok enc P W e xs := by
  obtain ⟨fuel, d, ps, h, hw⟩ := h
  rcases DataW.trod_slice hu h with ⟨h1, _⟩ | ⟨a, len, cap, elems, rest, n, _, h1, hx, _, hlc, hcm, hel, hE, hR, _⟩
  · exact .inl h1
  · right
    obtain ⟨hrl, hR'⟩ := hR rfl
    simp only [Prod.mk.injEq] at hx
    obtain ⟨rfl, _⟩ := hx
    have hwS : ∀ m, (m = (elems.length + rest.length) * P.bytesOf e ∨ m ∈ DataW.weightsAll P e (elems.map (·.1)) ∨ m ∈ DataW.weightsAll P e (rest.map (·.1))) → m ≤ reachBytes := by
      intro m hm
      refine hw m ?_
      simp only [DataW.weights, hu, List.mem_cons, List.mem_append, List.length_map]
      exact hm
    refine ⟨a, len, cap, h1, hlc, hcm, ?_, ?_⟩
    · have := hwS _ (.inl rfl)
      rwa [hel, hrl, show len + (cap - len) = cap by omega] at this
    · intro i hi
      by_cases hil : i < len
      · have h2 := hE i hil
        obtain ⟨x, hx⟩ : ∃ x, elems[i]? = some x := ⟨_, List.getElem?_eq_getElem (by omega)⟩
        rw [hx] at h2
        obtain ⟨xs, h3, h4⟩ := Option.bind_eq_some_iff.1 h2
        refine ⟨xs, h3, n, x.1, x.2, h4, fun m hm => hwS m (.inr (.inl (weights_all ?_ hm)))⟩
        exact List.mem_map.2 ⟨x, List.mem_of_getElem? hx, rfl⟩
      · have h2 := hR' (i - len) (by omega)
        obtain ⟨x, hx⟩ : ∃ x, rest[i - len]? = some x := ⟨_, List.getElem?_eq_getElem (by omega)⟩
        rw [hx, show len + (i - len) = i by omega] at h2
        obtain ⟨xs, h3, h4⟩ := Option.bind_eq_some_iff.1 h2
        refine ⟨xs, h3, n, x.1, x.2, h4, fun m hm => hwS m (.inr (.inr (weights_all ?_ hm)))⟩
        exact List.mem_map.2 ⟨x, List.mem_of_getElem? hx, rfl⟩

theorem ok_struct {fs : Array Field} (hu : P.underlying t = some (.struct fs)) {cs : List Value} (h : Ok enc P W t cs) :
    cs.length = P.cellsOf t ∧ ∀ (i : Nat) (f : Field), fs[i]? = some f → Ok enc P W f.type ((cs.drop f.offset).take (P.cellsOf f.type)) := by
  obtain ⟨fuel, d, ps, h, hw⟩ := h
  obtain ⟨xs, n, _, hx, hl, hlen, hf⟩ := DataW.trod_struct hu h
  simp only [Prod.mk.injEq] at hx
  obtain ⟨rfl, _⟩ := hx
  refine ⟨hl, fun i f hi => ?_⟩
  have h2 := hf i f hi
  have hif : i < fs.size := (Array.getElem?_eq_some_iff.1 hi).1
  obtain ⟨x, hx⟩ : ∃ x, xs[i]? = some x := ⟨_, List.getElem?_eq_getElem (by omega)⟩
  rw [hx] at h2
  refine ⟨n, x.1, x.2, h2, fun m hm => hw m ?_⟩
  simp only [DataW.weights, hu]
  exact DataW.weights_mem_each (j := i) (t := f.type) (by simp [hi]) (by simp [hx]) m hm

/-- An argument: its value's form, and what it reads as. -/
def Arg (enc : TypeId × Value → H) (P : Program) (W : World) (base : Nat) (t : TypeId) (v : Value) : Prop := Value.okWide P W .any base t v ∧ Ok enc P W t v.cells.toList

variable {base : Nat} {v : Value}
theorem arg_int {k : IntKind} (hu : P.underlying t = some (.int k)) (h : Arg enc P W base t v) : ∃ n, v = .int k n ∧ (Lit.int k n).wf = true := by
  obtain ⟨n, rfl⟩ := okWide_int hu h.1
  obtain ⟨m, h1, h2⟩ := ok_int hu h.2
  simp [Value.cells] at h1
  subst h1
  exact ⟨n, rfl, h2⟩
theorem arg_bool (hu : P.underlying t = some .bool) (h : Arg enc P W base t v) : ∃ b, v = .bool b := okWide_bool hu h.1
theorem arg_string (hu : P.underlying t = some .string) (h : Arg enc P W base t v) : ∃ s, v = .string s ∧ s.size ≤ reachBytes := by
  obtain ⟨s, rfl⟩ := okWide_string hu h.1
  obtain ⟨s', h1, h2⟩ := ok_string hu h.2
  simp [Value.cells] at h1
  subst h1
  exact ⟨s, rfl, h2⟩
theorem arg_struct {fs : Array Field} (hu : P.underlying t = some (.struct fs)) (h : Arg enc P W base t v) :
    ∃ cs : List Value, v = .agg cs.toArray ∧ cs.length = P.cellsOf t ∧ ∀ (i : Nat) (f : Field), fs[i]? = some f → Ok enc P W f.type ((cs.drop f.offset).take (P.cellsOf f.type)) := by
  obtain ⟨cs, rfl, _⟩ := okWide_struct hu h.1
  obtain ⟨h1, h2⟩ := ok_struct hu h.2
  exact ⟨cs.toList, by simp, by simpa [Value.cells] using h1, by simpa [Value.cells] using h2⟩
theorem arg_slice (hu : P.underlying t = some (.slice e)) (h : Arg enc P W base t v) : Ok enc P W t [v] := by
  obtain ⟨a, l, c, rfl⟩ := okWide_slice hu h.1
  exact h.2

/-- A list out of what holds at each place. -/
theorem list_of {α : Type} {p : Nat → α → Prop} : ∀ n, (∀ i, i < n → ∃ x, p i x) → ∃ l : List α, l.length = n ∧ ∀ i x, l[i]? = some x → p i x
  | 0, _ => ⟨[], rfl, fun i x h => by simp at h⟩
  | n + 1, h => by
    obtain ⟨l, hl, hp⟩ := list_of n fun i hi => h i (by omega)
    obtain ⟨x, hx⟩ := h n (by omega)
    refine ⟨l ++ [x], by simp [hl], fun i y hy => ?_⟩
    rcases Nat.lt_trichotomy i n with hi | hi | hi
    · rw [List.getElem?_append_left (by omega)] at hy; exact hp i y hy
    · subst hi
      rw [List.getElem?_append_right (by omega), hl] at hy
      simp at hy
      subst hy
      exact hx
    · rw [List.getElem?_eq_none (by simp; omega)] at hy; cases hy

/-- A slice whose elements read apart by D. -/
theorem ok_list {α : Type} (D : List Value → α → Prop) (hu : P.underlying t = some (.slice e)) (hD : ∀ xs, Ok enc P W e xs → ∃ x, D xs x) {sz B : Nat} (hsz : P.cellsOf e = sz) (hB : P.bytesOf e = B) {v : Value} (h : Ok enc P W t [v]) :
    ∃ (ao : Option Addr) (len cap : Nat) (l : List α), v = .slice ao len cap ∧ l.length = len ∧ len ≤ cap ∧ cap * B ≤ reachBytes ∧ (ao = none → len = 0 ∧ cap = 0) ∧
      ∀ ad, ao = some ad → ∀ i x, l[i]? = some x → ∃ xs, W.cells? 0 (ad.add (i * sz)) sz = some xs ∧ D xs x := by
  subst hsz; subst hB
  rcases ok_slice hu h with h1 | ⟨a, len, cap, h1, hlc, hcm, hw, hE⟩
  · cases h1
    exact ⟨none, 0, 0, [], rfl, rfl, Nat.le_refl _, by simp, fun _ => ⟨rfl, rfl⟩, fun _ h => by cases h⟩
  · cases h1
    obtain ⟨l, hl, hp⟩ := list_of (p := fun i x => ∃ xs, W.cells? 0 (a.add (i * P.cellsOf e)) (P.cellsOf e) = some xs ∧ D xs x) len fun i hi => by
      obtain ⟨xs, h2, h3⟩ := hE i (by omega)
      obtain ⟨x, hx⟩ := hD xs h3
      exact ⟨x, xs, h2, hx⟩
    exact ⟨some a, len, cap, l, rfl, hl, hlc, hw, fun h => (by cases h), fun ad had => by cases had; exact hp⟩

theorem cells_one {a : Addr} {xs : List Value} (h : W.cells? 0 a 1 = some xs) : ∃ x, xs = [x] ∧ W.cell? a = some x := by
  unfold World.cells? at h
  simp [List.range_succ, Addr.add] at h
  cases hc : W.cell? a with
  | none => simp [hc] at h
  | some x => simp [hc] at h; exact ⟨x, h.symm, rfl⟩

theorem spot_of_cell {a : Addr} {x : Value} (h : W.cell? a = some x) : a.spot = none := by
  unfold World.cell? at h
  split at h
  · cases hs : a.spot with
    | none => rfl
    | some _ => simp [hs] at h
  · cases h

/-- A slice of bytes. -/
theorem ok_bytes (hu : P.underlying t = some (.slice e)) (he : P.underlying e = some (.int .u8)) (hsz : P.cellsOf e = 1) (hB : P.bytesOf e = 1) {v : Value} (h : Ok enc P W t [v]) :
    ∃ bs : List Nat, Reads W v (bs.map fun b : Nat => .int .u8 (b : Int)) ∧ (∀ b ∈ bs, b < 256) ∧ bs.length ≤ reachBytes := by
  obtain ⟨ao, len, cap, l, rfl, hl, hlc, hw, hn, ha⟩ := ok_list (α := Nat) (fun xs b => xs = [.int .u8 (b : Int)] ∧ b < 256) hu (fun xs h => by
    obtain ⟨n, h1, h2⟩ := ok_int he h
    have h3 := bounds_u8 h2
    exact ⟨n.toNat, by rw [h1, Int.toNat_of_nonneg h3.1], by omega⟩) hsz hB h
  have hb : ∀ ad, ao = some ad → ∀ (i b : Nat), l[i]? = some b → W.cell? (ad.add i) = some (.int .u8 (b : Int)) ∧ b < 256 := by
    intro ad had i b hi
    obtain ⟨xs, h1, h2, h3⟩ := ha ad had i b hi
    rw [Nat.mul_one] at h1
    obtain ⟨x, rfl, h4⟩ := cells_one h1
    cases h2
    exact ⟨h4, h3⟩
  refine ⟨l, ⟨ao, len, cap, rfl, hlc, by simp [hl], hn, fun ad had => ?_⟩, ?_, by omega⟩
  · intro j u hj
    rw [List.getElem?_map] at hj
    obtain ⟨y, hy, rfl⟩ := Option.map_eq_some_iff.1 hj
    exact (hb ad had j y hy).1
  · intro b hb2
    obtain ⟨i, hi⟩ := List.getElem?_of_mem hb2
    cases ao with
    | none => have := (hn rfl).1; have := (List.getElem?_eq_some_iff.1 hi).1; omega
    | some ad => exact (hb ad rfl i b hi).2

end
theorem arg_of {H : Type} {enc : TypeId × Value → H} {P : Program} {W : World} {base : Nat} {t : TypeId} {v : Value} {d : DataW H} {p : List MemPlace} {ts : List TypeId} {ds : List (DataW H)} {j : Nat}
    (hval : Value.okWide P W .any base t v) (h : DataW.Trod enc P W 0 (fun _ => true) true t v d p) (hsz : (DataW.weightsEach P ts ds).all (· ≤ reachBytes) = true) (ht : ts[j]? = some t) (hd : ds[j]? = some d) : Arg enc P W base t v := by
  obtain ⟨fuel, hf⟩ := h
  refine ⟨hval, fuel, d, p, hf, fun n hn => ?_⟩
  have := List.all_eq_true.1 hsz _ (DataW.weights_mem_each ht hd n hn)
  simpa using this

theorem ad_plain {W : World} {ad : Addr} {sz : Nat} {xs : List Value} (h : W.cells? 0 (ad.add (0 * sz)) sz = some xs) (hsz : 0 < sz) : ∃ b off, ad = ⟨b, off, none⟩ := by
  obtain ⟨h1, h2, h3⟩ := World.cells?_some h
  have h0 := h3 0 hsz
  obtain ⟨x, hx⟩ : ∃ x, xs[0]? = some x := ⟨_, List.getElem?_eq_getElem (by omega)⟩
  rw [hx] at h0
  have := spot_of_cell h0
  simp only [Nat.zero_mul, Addr.add, if_true] at this
  obtain ⟨b, off, sp⟩ := ad
  simp only at this
  subst this
  exact ⟨b, off, rfl⟩

/-- The i-th element's cells, at a plain address. -/
theorem elem_cells {W : World} {b off i sz : Nat} {xs : List Value} (h : W.cells? 0 ((⟨b, off, none⟩ : Addr).add (i * sz)) sz = some xs) :
    xs.length = sz ∧ ∀ j, j < sz → W.cell? ⟨b, off + i * sz + j, none⟩ = xs[j]? := by
  obtain ⟨h1, h2, h3⟩ := World.cells?_some h
  refine ⟨h2, fun j hj => ?_⟩
  have := h3 j hj
  rwa [Addr.add_lit, Addr.add_lit] at this

/-- A slice of structs (or of whatever kind, sz cells each), place by place. -/
theorem ok_rows {H : Type} {enc : TypeId × Value → H} {P : Program} {W : World} {t e : TypeId} {α : Type} (D : List Value → α → Prop) (hu : P.underlying t = some (.slice e)) (hD : ∀ xs, Ok enc P W e xs → ∃ x, D xs x) {sz B : Nat} (hsz : P.cellsOf e = sz) (hpos : 0 < sz) (hB : P.bytesOf e = B) {v : Value} (h : Ok enc P W t [v]) :
    ∃ (ao : Option Addr) (cap : Nat) (l : List α), v = .slice ao l.length cap ∧ l.length ≤ cap ∧ cap * B ≤ reachBytes ∧ (ao = none → l.length = 0 ∧ cap = 0) ∧
      ∀ i (hi : i < l.length), ∃ b off xs, ao = some ⟨b, off, none⟩ ∧ D xs l[i] ∧ xs.length = sz ∧ ∀ j, j < sz → W.cell? ⟨b, off + i * sz + j, none⟩ = xs[j]? := by
  obtain ⟨ao, len, cap, l, rfl, hl, hlc, hw, hn, ha⟩ := ok_list D hu hD hsz hB h
  subst hl
  refine ⟨ao, cap, l, rfl, hlc, hw, hn, fun i hi => ?_⟩
  cases ao with
  | none => have := (hn rfl).1; omega
  | some ad =>
    obtain ⟨xs0, h0, _⟩ := ha ad rfl 0 l[0] (List.getElem?_eq_getElem (by omega))
    obtain ⟨b, off, rfl⟩ := ad_plain h0 hpos
    obtain ⟨xs, h1, h2⟩ := ha _ rfl i l[i] (List.getElem?_eq_getElem hi)
    obtain ⟨h3, h4⟩ := elem_cells h1
    exact ⟨b, off, xs, rfl, h2, h3, h4⟩

end Go.Proofs.YtakmkjdmonmilaaDoor
