import Derived.Test.YthpkdephkhcgmaaPlaneS
import Derived.Test.YthpkdephkhcgmaaWApart
/-! Rows of rows of numbers among what is owned; from the printer's words and back. -/
namespace Go.Proofs.Ythpkdephkhcgmaa
set_option linter.unusedSimpArgs false
set_option linter.unusedVariables false
open Go Go.RowKit Go.Proofs.YthpkdephkhcgmaaW.PrintWords

def inner (t : TypeId) (k : IntKind) (u : Value) (l : List Int) : HP := row t 1 u l.length (nums k l)
def mat (e t : TypeId) (k : IntKind) (v : Value) (ls : List (List Int)) : HP := HP.ex fun vs : List Value => (row e 1 v ls.length vs).star (Sep (List.zipWith (inner t k) vs ls))

theorem sep_rows {w : World} {t : TypeId} {k : IntKind} (f : Nat → Nat) : ∀ (vs : List Value) (ls : List (List Int)) (j0 : Nat), vs.length = ls.length →
    (∀ j u l, vs[j]? = some u → ls[j]? = some l → w.ownsRow 0 t 1 u l.length (nums k l) ∧ ∀ b, u.ownBlock = some b → f b = j0 + j) →
    (Sep (List.zipWith (inner t k) vs ls)).on w (fun b => ∃ (j : Nat) (u : Value), vs[j]? = some u ∧ u.ownBlock = some b) := by
  intro vs
  induction vs with
  | nil => intro ls j0 hl h; exact ⟨trivial, fun b ⟨j, u, hj, _⟩ => by simp at hj⟩
  | cons u us ih =>
    intro ls j0 hl h
    cases ls with
    | nil => simp at hl
    | cons l ls =>
      have h0 := h 0 u l rfl rfl
      have hr := ih ls (j0 + 1) (by simpa using hl) (fun j u' l' hj hl' => by
        have := h (j + 1) u' l' (by simpa using hj) (by simpa using hl')
        exact ⟨this.1, fun b hb => by rw [this.2 b hb]; omega⟩)
      refine ⟨fun b => u.ownBlock = some b, _, ⟨h0.1, fun _ => Iff.rfl⟩, hr, ?_, ?_⟩
      · rintro b hb ⟨j, u', hj, hb'⟩
        have e1 := h0.2 b hb
        have hjl : j < ls.length := by have := (List.getElem?_eq_some_iff.1 hj).1; simp at hl; omega
        have e2 := (h (j + 1) u' ls[j] (by simpa using hj) (by simp [hjl])).2 b hb'
        omega
      · intro b
        constructor
        · rintro ⟨j, u', hj, hb⟩
          cases j with
          | zero => left; simp at hj; subst hj; exact hb
          | succ j => right; exact ⟨j, u', by simpa using hj, hb⟩
        · rintro (hb | ⟨j, u', hj, hb⟩)
          · exact ⟨0, u, rfl, hb⟩
          · exact ⟨j + 1, u', by simpa using hj, hb⟩

theorem sep_rows_at {w : World} {t : TypeId} {k : IntKind} : ∀ (vs : List Value) (ls : List (List Int)) (F : Nat → Prop), (Sep (List.zipWith (inner t k) vs ls)).on w F →
    ∀ (j : Nat) u l, vs[j]? = some u → ls[j]? = some l → w.ownsRow 0 t 1 u l.length (nums k l) ∧ ∀ b, u.ownBlock = some b → F b := by
  intro vs
  induction vs with
  | nil => intro ls F _ j u l hj; simp at hj
  | cons v vs ih =>
    intro ls F h j u l hj hl
    cases ls with
    | nil => simp at hl
    | cons l0 ls =>
      obtain ⟨F1, F2, ha, hb, _, hu⟩ := h
      cases j with
      | zero =>
        simp at hj hl
        subst hj; subst hl
        exact ⟨ha.1, fun b hb' => (hu b).2 (.inl ((ha.2 b).2 hb'))⟩
      | succ j =>
        obtain ⟨h1, h2⟩ := ih ls F2 hb j u l (by simpa using hj) (by simpa using hl)
        exact ⟨h1, fun b hb' => (hu b).2 (.inr (h2 b hb'))⟩

theorem take_one {l : List Value} {j : Nat} {u : Value} (h : l[j]? = some u) : (l.drop (j * 1)).take 1 = [u] := by
  obtain ⟨hj, rfl⟩ := List.getElem?_eq_some_iff.1 h
  rw [Nat.mul_one, List.drop_eq_getElem_cons hj]
  rfl

theorem St.of_S {c : Ctx} {l : List HP} {w w' : World} {e t : TypeId} {k : IntKind} {ok : Nat → Prop} {v : Value} {xs : List (List Int)} (h : St c l w) (hb : Below w.heap.size w w')
    (hS : Kd.S (Kd.slice t (Kd.int k)) e w' w.heap.size ok v xs) : St c (mat e t k v xs :: l) w' := by
  obtain ⟨f, h0, vs, ho, hr⟩ := hS
  rw [List.length_zipIdx] at ho
  have ho : w'.ownsRow w.heap.size e 1 v xs.length vs := ho
  have hlen : vs.length = xs.length := by have := ho.1; omega
  have key : ∀ j u l', vs[j]? = some u → xs[j]? = some l' → w'.ownsRow w.heap.size t 1 u l'.length (nums k l') ∧ ∀ b, u.ownBlock = some b → f b = j ∧ some b ≠ v.ownBlock := by
    intro j u l' hj hl'
    have hm := hr.2 j (l', j) (Kd.zip_at hl')
    have e1 : (vs.drop (j * 1)).take 1 = [u] := take_one hj
    have hm' : ∃ v', [u] = [v'] ∧ (Kd.int k).R t w' w.heap.size (fun b => (ok b ∧ some b ≠ v.ownBlock) ∧ f b = j) v' l' := by
      have : (Kd.slice t (Kd.int k)).M w' w.heap.size (fun b => (ok b ∧ some b ≠ v.ownBlock) ∧ f b = j) l' ((vs.drop (j * 1)).take 1) := hm
      rw [e1] at this
      exact this
    obtain ⟨v', hv', hR⟩ := hm'
    simp only [List.cons.injEq, and_true] at hv'
    subst hv'
    exact ⟨Kd.own_of_R hR, fun b hb' => ⟨(hR.1 b hb').2, (hR.1 b hb').1.2⟩⟩
  obtain ⟨F, h1, h2, h3⟩ := h
  have hsep := sep_rows (w := w') (t := t) (k := k) f vs xs 0 hlen (fun j u l' hj hl' => by
    obtain ⟨a, b⟩ := key j u l' hj hl'
    exact ⟨own_weaken a (Nat.zero_le _), fun b' hb' => by rw [(b b' hb').1]; omega⟩)
  have hin : ∀ b, (∃ (j : Nat) (u : Value), vs[j]? = some u ∧ u.ownBlock = some b) → w.heap.size ≤ b ∧ some b ≠ v.ownBlock := by
    rintro b ⟨j, u, hj, hb'⟩
    have hjl : j < xs.length := by have := (List.getElem?_eq_some_iff.1 hj).1; omega
    obtain ⟨a1, a2⟩ := key j u xs[j] hj (by simp [hjl])
    exact ⟨own_base a1 b hb', (a2 b hb').2⟩
  have hv : ∀ b, v.ownBlock = some b → w.heap.size ≤ b := fun b hb' => own_base ho b hb'
  refine ⟨fun b => (v.ownBlock = some b ∨ ∃ (j : Nat) (u : Value), vs[j]? = some u ∧ u.ownBlock = some b) ∨ F b, ⟨fun b => v.ownBlock = some b ∨ ∃ (j : Nat) (u : Value), vs[j]? = some u ∧ u.ownBlock = some b, F, ⟨vs, fun b => v.ownBlock = some b, _, ⟨own_weaken ho (Nat.zero_le _), fun _ => Iff.rfl⟩, hsep, ?_, fun _ => Iff.rfl⟩, (Sep l).loc h1 fun b hb' => hb.block b ((Sep l).lt h1 hb'), ?_, fun _ => Iff.rfl⟩, ?_, ⟨hb.os.trans h3.os, hb.tape.trans h3.tape, hb.output.trans h3.output, Nat.le_trans h3.size hb.size, fun b h4 h5 => ?_⟩⟩
  · intro b hb1 hb2
    exact (hin b hb2).2 hb1.symm
  · rintro b (hb1 | hb1) hb2
    · have := hv b hb1; have := (Sep l).lt h1 hb2; omega
    · have := (hin b hb1).1; have := (Sep l).lt h1 hb2; omega
  · rintro b ((hb1 | hb1) | hb1)
    · exact .inr (Nat.le_trans h3.size (hv b hb1))
    · exact .inr (Nat.le_trans h3.size (hin b hb1).1)
    · exact h2 b hb1
  · rw [hb.block b (Nat.lt_of_lt_of_le h4 h3.size), h3.block b h4 h5]

/-- Rows of one's own read as the printer's contracts want it. -/
theorem St.matC {c : Ctx} {R : List HP} {w : World} {e t : TypeId} {k : IntKind} {v : Value} {ls : List (List Int)} (h : St c (mat e t k v ls :: R) w) :
    ∃ A cap, v = .slice A ls.length cap ∧ ls.length ≤ cap ∧ Kd.C (Kd.slice t (Kd.int k)) w A ls.length ls := by
  obtain ⟨F, ⟨F0, _, ⟨vs, F1, F2, hrow, hsep, hdis, _⟩, _⟩, _⟩ := h
  have hlen : vs.length = ls.length := by have := hrow.1.1; omega
  refine Kd.R_reads (e := e) (base := 0) (ok := fun _ => True) ⟨fun _ _ => trivial, vs, hrow.1, by show vs.length = ls.length * 1; omega, fun j l hj => ?_⟩
  have hjl : j < vs.length := by have := (List.getElem?_eq_some_iff.1 hj).1; omega
  obtain ⟨a1, a2⟩ := sep_rows_at vs ls F2 hsep j vs[j] l (by simp [hjl]) hj
  have e1 : (vs.drop (j * 1)).take 1 = [vs[j]] := take_one (by simp [hjl])
  have : (Kd.slice t (Kd.int k)).M w 0 (fun b => True ∧ some b ≠ v.ownBlock) l ((vs.drop (j * 1)).take 1) := by
    rw [e1]
    exact ⟨vs[j], rfl, Kd.R_of_own a1 (fun b hb => ⟨trivial, fun e => hdis b ((hrow.2 b).2 e.symm) (a2 b hb)⟩)⟩
  exact this

section
variable {c : Ctx} {L R : List HP} {A B : HP} {w : World}
theorem St.sepIn (h : St c (Sep L :: R) w) : St c (L ++ R) w := by
  obtain ⟨F, h1, h2, h3⟩ := h
  exact ⟨F, (Sep.append_on L R w F).2 h1, h2, h3⟩
theorem St.sepOut (h : St c (L ++ R) w) : St c (Sep L :: R) w := by
  obtain ⟨F, h1, h2, h3⟩ := h
  exact ⟨F, (Sep.append_on L R w F).1 h1, h2, h3⟩
theorem perm_pick {α : Type} : ∀ (L : List α) (i : Nat) (hi : i < L.length), L.Perm (L[i] :: L.eraseIdx i)
  | [], i, hi => absurd hi (Nat.not_lt_zero _)
  | a :: L, 0, _ => List.Perm.refl _
  | a :: L, i + 1, hi => by
    have := perm_pick L i (by simp at hi; omega)
    exact (List.Perm.cons a this).trans (List.Perm.swap _ _ _)
theorem St.pick (h : St c (L ++ R) w) (i : Nat) (hi : i < L.length) : St c (L[i] :: (L.eraseIdx i ++ R)) w :=
  h.perm ((perm_pick L i hi).append_right R)
theorem erase_set {α : Type} : ∀ (L : List α) (i : Nat) (b : α), (L.set i b).eraseIdx i = L.eraseIdx i
  | [], _, _ => rfl
  | _ :: _, 0, _ => rfl
  | a :: L, i + 1, b => by
    have := erase_set L i b
    simp only [List.set_cons_succ, List.eraseIdx_cons_succ, this]
theorem St.unpick {i : Nat} (h : St c (B :: (L.eraseIdx i ++ R)) w) (hi : i < L.length) : St c (L.set i B ++ R) w := by
  refine h.perm ?_
  have hi2 : i < (L.set i B).length := by rw [List.length_set]; exact hi
  have e := perm_pick (L.set i B) i hi2
  have e1 : (L.set i B)[i] = B := by simp
  have e2 : (L.set i B).eraseIdx i = L.eraseIdx i := erase_set L i B
  rw [e1, e2] at e
  exact (e.append_right R).symm
end

theorem St.rot5 {c : Ctx} {A B C D E : HP} {R : List HP} {w : World} (h : St c (A :: B :: C :: D :: E :: R) w) : St c (E :: A :: B :: C :: D :: R) w :=
  h.perm (List.perm_middle (l₁ := [A, B, C, D]))
theorem St.back5 {c : Ctx} {A B C D E : HP} {R : List HP} {w : World} (h : St c (A :: B :: C :: D :: E :: R) w) : St c (B :: C :: D :: E :: A :: R) w :=
  h.perm (List.perm_middle (l₁ := [B, C, D, E])).symm
theorem St.rot6 {c : Ctx} {A B C D E G : HP} {R : List HP} {w : World} (h : St c (A :: B :: C :: D :: E :: G :: R) w) : St c (G :: A :: B :: C :: D :: E :: R) w :=
  h.perm (List.perm_middle (l₁ := [A, B, C, D, E]))
theorem St.back6 {c : Ctx} {A B C D E G : HP} {R : List HP} {w : World} (h : St c (A :: B :: C :: D :: E :: G :: R) w) : St c (B :: C :: D :: E :: G :: A :: R) w :=
  h.perm (List.perm_middle (l₁ := [B, C, D, E, G])).symm
theorem zip_set {α β γ : Type} (f : α → β → γ) : ∀ (vs : List α) (ls : List β) (i : Nat) (l : β) (hv : i < vs.length) (hl : i < ls.length), (List.zipWith f vs ls).set i (f vs[i] l) = List.zipWith f vs (ls.set i l)
  | [], _, _, _, hv, _ => absurd hv (Nat.not_lt_zero _)
  | _ :: _, [], _, _, _, hl => absurd hl (Nat.not_lt_zero _)
  | v :: vs, x :: ls, 0, l, _, _ => by simp
  | v :: vs, x :: ls, i + 1, l, hv, hl => by
    have := zip_set f vs ls i l (by simpa using hv) (by simpa using hl)
    simpa using this

theorem zip_snoc {α β γ : Type} (f : α → β → γ) (xs : List α) (bs : List β) (a : α) (b : β) (h : xs.length = bs.length) : List.zipWith f (xs ++ [a]) (bs ++ [b]) = List.zipWith f xs bs ++ [f a b] := by
  rw [List.zipWith_append h]; rfl
theorem take_snoc {α : Type} (l : List α) (k : Nat) (z : α) (h : k < l.length) : l.take (k + 1) = l.take k ++ [l.getD k z] := by
  rw [List.take_succ_eq_append_getElem h, List.getD_eq_getElem?_getD, List.getElem?_eq_getElem h]; rfl

theorem St.sepSnoc {c : Ctx} {A : HP} {Z R : List HP} {w : World} (h : St c (A :: Sep Z :: R) w) : St c (Sep (Z ++ [A]) :: R) w := by
  have h1 := h.swap.sepIn
  rw [show Z ++ A :: R = (Z ++ [A]) ++ R by simp] at h1
  exact h1.sepOut

end Go.Proofs.Ythpkdephkhcgmaa
