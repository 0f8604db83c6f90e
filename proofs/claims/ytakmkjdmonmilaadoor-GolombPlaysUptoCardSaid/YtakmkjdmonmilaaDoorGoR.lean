import Derived.Test.YtakmkjdmonmilaaDoorGoD
namespace Go.Proofs.YtakmkjdmonmilaaDoor
set_option linter.unusedSimpArgs false
set_option linter.unusedVariables false
open Go Go.RowKit

/-! Runs among bits; plain. -/
theorem bitsAt_cons (bs : List Nat) (at_ k : Nat) : bitsAt bs at_ (k + 1) = ubit bs at_ :: bitsAt bs (at_ + 1) k := by
  rw [Nat.add_comm k 1, bitsAt_add]
  simp [bitsAt]
theorem rform_in {r n room : Nat} (h : 0 < n) (h2 : 2 ^ J r ≤ n) (hn : n ≤ room) : rform r n room = true :: rform (min (r + 1) 22) (n - 2 ^ J r) (room - 2 ^ J r) := by
  unfold rform
  rw [runGo_in h h2]
  have hp := Nat.two_pow_pos (J r)
  generalize 2 ^ J r = p at *
  by_cases hlt : n < room
  · rw [if_pos hlt, if_pos (show n - p < room - p by omega)]
    simp [List.replicate_succ]
  · rw [if_neg hlt, if_neg (show ¬ n - p < room - p by omega)]
    simp [List.replicate_succ]
theorem rnext_in {r n room : Nat} (h : 0 < n) (h2 : 2 ^ J r ≤ n) (hn : n ≤ room) : rnext r n room = rnext (min (r + 1) 22) (n - 2 ^ J r) (room - 2 ^ J r) := by
  unfold rnext
  rw [runGo_in h h2]
  have hp := Nat.two_pow_pos (J r)
  generalize 2 ^ J r = p at *
  by_cases hlt : n < room
  · rw [if_pos hlt, if_pos (show n - p < room - p by omega)]
  · rw [if_neg hlt, if_neg (show ¬ n - p < room - p by omega)]
theorem rform_out {r n room : Nat} (h : ¬ (0 < n ∧ 2 ^ J r ≤ n)) : rform r n room = if n < room then false :: bitsOf n (J r) else if 0 < n then [true] else [] := by
  unfold rform
  rw [runGo_out h]
  simp
theorem rnext_out {r n room : Nat} (h : ¬ (0 < n ∧ 2 ^ J r ≤ n)) : rnext r n room = if n < room then r - 1 else r := by
  unfold rnext
  rw [runGo_out h]

/-- A run's form stands there. -/
def hasRun (bs : List Nat) (at_ r n room : Nat) : Prop := at_ + (rform r n room).length ≤ 8 * bs.length ∧ bitsAt bs at_ (rform r n room).length = rform r n room

theorem hasRun_in {bs : List Nat} {at_ r n room : Nat} (h : 0 < n) (h2 : 2 ^ J r ≤ n) (hn : n ≤ room) :
    hasRun bs at_ r n room ↔ ubit bs at_ = true ∧ hasRun bs (at_ + 1) (min (r + 1) 22) (n - 2 ^ J r) (room - 2 ^ J r) := by
  unfold hasRun
  rw [rform_in h h2 hn, List.length_cons, bitsAt_cons]
  generalize rform (min (r + 1) 22) (n - 2 ^ J r) (room - 2 ^ J r) = f
  constructor
  · rintro ⟨a1, a2⟩
    simp only [List.cons.injEq] at a2
    exact ⟨a2.1, by omega, a2.2⟩
  · rintro ⟨a0, a1, a2⟩
    exact ⟨by omega, by rw [a0, a2]⟩
theorem hasRun_low {bs : List Nat} {at_ r n room : Nat} (h : ¬ (0 < n ∧ 2 ^ J r ≤ n)) (hlt : n < room) :
    hasRun bs at_ r n room ↔ ubit bs at_ = false ∧ at_ + 1 + J r ≤ 8 * bs.length ∧ bitsAt bs (at_ + 1) (J r) = bitsOf n (J r) := by
  unfold hasRun
  rw [rform_out h, if_pos hlt, List.length_cons, bitsAt_cons, bitsOf_length]
  constructor
  · rintro ⟨a1, a2⟩
    simp only [List.cons.injEq] at a2
    exact ⟨a2.1, by omega, a2.2⟩
  · rintro ⟨a0, a1, a2⟩
    exact ⟨by omega, by rw [a0, a2]⟩
theorem hasRun_full {bs : List Nat} {at_ r n room : Nat} (h : ¬ (0 < n ∧ 2 ^ J r ≤ n)) (hlt : ¬ n < room) (h0 : 0 < n) :
    hasRun bs at_ r n room ↔ ubit bs at_ = true ∧ at_ + 1 ≤ 8 * bs.length := by
  unfold hasRun
  rw [rform_out h, if_neg hlt, if_pos h0]
  simp only [List.length_cons, List.length_nil]
  rw [bitsAt_cons]
  simp [bitsAt, and_comm]

/-- What a form begins with. -/
theorem run_bit {bs : List Nat} {at_ r n room : Nat} (hn : n ≤ room) (h0 : 0 < room) (h : hasRun bs at_ r n room) : at_ + 1 ≤ 8 * bs.length := by
  have hl : 1 ≤ (rform r n room).length := by
    by_cases hi : 0 < n ∧ 2 ^ J r ≤ n
    · rw [rform_in hi.1 hi.2 hn]; simp
    · rw [rform_out hi]
      by_cases hlt : n < room
      · rw [if_pos hlt]; simp
      · rw [if_neg hlt, if_pos (by omega)]; simp
  have := h.1
  omega
theorem run_true {bs : List Nat} {at_ r n room : Nat} (hn : n ≤ room) (h0 : 0 < room) (h : hasRun bs at_ r n room) (hb : ubit bs at_ = true) : (0 < n ∧ 2 ^ J r ≤ n) ∨ n = room := by
  by_cases hi : 0 < n ∧ 2 ^ J r ≤ n
  · exact .inl hi
  · by_cases hlt : n < room
    · have := ((hasRun_low hi hlt).1 h).1
      rw [hb] at this; cases this
    · exact .inr (by omega)
theorem run_false {bs : List Nat} {at_ r n room : Nat} (hn : n ≤ room) (h0 : 0 < room) (h : hasRun bs at_ r n room) (hb : ubit bs at_ = false) : ¬ (0 < n ∧ 2 ^ J r ≤ n) ∧ n < room := by
  by_cases hi : 0 < n ∧ 2 ^ J r ≤ n
  · have := ((hasRun_in hi.1 hi.2 hn).1 h).1
    rw [hb] at this; cases this
  · by_cases hlt : n < room
    · exact ⟨hi, hlt⟩
    · have := ((hasRun_full hi hlt (by omega)).1 h).1
      rw [hb] at this; cases this

/-- Two forms at one place are of one run. -/
theorem run_one {bs : List Nat} (n : Nat) : ∀ {at_ r n2 room : Nat}, n ≤ room → n2 ≤ room → hasRun bs at_ r n room → hasRun bs at_ r n2 room → n = n2 := by
  induction n using Nat.strongRecOn with
  | _ n ih =>
    intro at_ r n2 room hn hn2 h h2
    have hp := Nat.two_pow_pos (J r)
    by_cases h0 : 0 < room
    · cases hb : ubit bs at_ with
      | true =>
        rcases run_true hn h0 h hb with a | a <;> rcases run_true hn2 h0 h2 hb with b | b
        · have e1 := ((hasRun_in a.1 a.2 hn).1 h).2
          have e2 := ((hasRun_in b.1 b.2 hn2).1 h2).2
          have := ih (n - 2 ^ J r) (by omega) (by omega) (by omega) e1 e2
          omega
        · subst b
          have e1 := ((hasRun_in a.1 a.2 hn).1 h).2
          have e2 := ((hasRun_in h0 (by omega) hn2).1 h2).2
          have := ih (n - 2 ^ J r) (by omega) (by omega) (by omega) e1 e2
          omega
        · subst a
          have e1 := ((hasRun_in h0 (by omega) hn).1 h).2
          have e2 := ((hasRun_in b.1 b.2 hn2).1 h2).2
          have := ih (n - 2 ^ J r) (by omega) (by omega) (by omega) e1 e2
          omega
        · omega
      | false =>
        obtain ⟨a1, a2⟩ := run_false hn h0 h hb
        obtain ⟨b1, b2⟩ := run_false hn2 h0 h2 hb
        have e1 := ((hasRun_low a1 a2).1 h).2.2
        have e2 := ((hasRun_low b1 b2).1 h2).2.2
        exact bitsOf_inj (by omega) (by omega) (e1.symm.trans e2)
    · omega

/-- How far a run was read: so many are left, by this rate. -/
structure RunIs (bs : List Nat) (at_ r room at2 r2 left : Nat) : Prop where
  le : left ≤ room
  fwd : ∀ n, n ≤ left → hasRun bs at2 r2 n left → hasRun bs at_ r (room - left + n) room ∧ at_ + (rform r (room - left + n) room).length = at2 + (rform r2 n left).length ∧ rnext r (room - left + n) room = rnext r2 n left
  bwd : ∀ n, n ≤ room → hasRun bs at_ r n room → room - left ≤ n ∧ hasRun bs at2 r2 (n - (room - left)) left

theorem RunIs.start (bs : List Nat) (at_ r room : Nat) : RunIs bs at_ r room at_ r room where
  le := Nat.le_refl _
  fwd := fun n hn h => by rw [Nat.sub_self, Nat.zero_add]; exact ⟨h, rfl, rfl⟩
  bwd := fun n hn h => by rw [Nat.sub_self]; exact ⟨Nat.zero_le _, h⟩

theorem RunIs.one {bs : List Nat} {at_ r room at2 r2 left : Nat} (I : RunIs bs at_ r room at2 r2 left) (hb : ubit bs at2 = true) (hp : 2 ^ J r2 ≤ left) : RunIs bs at_ r room (at2 + 1) (min (r2 + 1) 22) (left - 2 ^ J r2) := by
  have h0 := Nat.two_pow_pos (J r2)
  have hle := I.le
  constructor
  · omega
  · intro n hn h
    have e : 2 ^ J r2 + n - 2 ^ J r2 = n := by omega
    have h' : hasRun bs at2 r2 (2 ^ J r2 + n) left := (hasRun_in (by omega) (by omega) (by omega)).2 ⟨hb, by rw [e]; exact h⟩
    obtain ⟨a1, a2, a3⟩ := I.fwd _ (by omega) h'
    have e2 : room - (left - 2 ^ J r2) + n = room - left + (2 ^ J r2 + n) := by omega
    rw [e2]
    refine ⟨a1, ?_, ?_⟩
    · rw [a2, rform_in (by omega) (by omega) (by omega), e, List.length_cons]; omega
    · rw [a3, rnext_in (by omega) (by omega) (by omega), e]
  · intro n hn h
    obtain ⟨b1, b2⟩ := I.bwd n hn h
    rcases run_true (by omega) (by omega) b2 hb with a | a
    · have := ((hasRun_in a.1 a.2 (by omega)).1 b2).2
      refine ⟨by omega, ?_⟩
      rwa [show n - (room - (left - 2 ^ J r2)) = n - (room - left) - 2 ^ J r2 by omega]
    · have := ((hasRun_in (by omega) (by omega) (by omega)).1 b2).2
      refine ⟨by omega, ?_⟩
      rwa [show n - (room - (left - 2 ^ J r2)) = n - (room - left) - 2 ^ J r2 by omega]

/-- All of it: the room is full. -/
theorem RunIs.done {bs : List Nat} {at_ r room at2 r2 : Nat} (I : RunIs bs at_ r room at2 r2 0) (ha : at2 ≤ 8 * bs.length) : hasRun bs at_ r room room ∧ at_ + (rform r room room).length = at2 ∧ rnext r room room = r2 := by
  have e : rform r2 0 0 = [] := by rw [rform_out (by omega)]; simp
  have e2 : rnext r2 0 0 = r2 := by rw [rnext_out (by omega)]; simp
  have h : hasRun bs at2 r2 0 0 := by unfold hasRun; rw [e]; simpa [bitsAt] using ha
  obtain ⟨a1, a2, a3⟩ := I.fwd 0 (Nat.le_refl _) h
  rw [e] at a2
  rw [e2] at a3
  exact ⟨a1, by simpa using a2, a3⟩
theorem RunIs.full {bs : List Nat} {at_ r room at2 r2 left : Nat} (I : RunIs bs at_ r room at2 r2 left) (h0 : 0 < left) (hb : ubit bs at2 = true) (ha : at2 + 1 ≤ 8 * bs.length) (hp : ¬ 2 ^ J r2 ≤ left) : hasRun bs at_ r room room ∧ at_ + (rform r room room).length = at2 + 1 ∧ rnext r room room = r2 := by
  have hle := I.le
  have h := (hasRun_full (bs := bs) (at_ := at2) (r := r2) (n := left) (room := left) (by omega) (by omega) h0).2 ⟨hb, ha⟩
  obtain ⟨a1, a2, a3⟩ := I.fwd left (Nat.le_refl _) h
  rw [show room - left + left = room by omega] at a1 a2 a3
  have e1 : rform r2 left left = [true] := by rw [rform_out (by omega), if_neg (by omega), if_pos h0]
  have e2 : rnext r2 left left = r2 := by rw [rnext_out (by omega), if_neg (by omega)]
  rw [e1] at a2
  rw [e2] at a3
  exact ⟨a1, by simpa using a2, a3⟩
theorem RunIs.low {bs : List Nat} {at_ r room at2 r2 left d : Nat} (I : RunIs bs at_ r room at2 r2 left) (hb : ubit bs at2 = false) (ha : at2 + 1 + J r2 ≤ 8 * bs.length) (hd : num (bitsAt bs (at2 + 1) (J r2)) = d) (hlt : d < left) : hasRun bs at_ r (room - left + d) room ∧ at_ + (rform r (room - left + d) room).length = at2 + 1 + J r2 ∧ rnext r (room - left + d) room = r2 - 1 := by
  have hd2 : d < 2 ^ J r2 := by rw [← hd]; exact num_bitsAt_lt _ _ _
  have h := (hasRun_low (bs := bs) (at_ := at2) (r := r2) (n := d) (room := left) (by omega) hlt).2 ⟨hb, ha, by rw [← hd, bitsOf_num_at]⟩
  obtain ⟨a1, a2, a3⟩ := I.fwd d (by omega) h
  have e1 : rform r2 d left = false :: bitsOf d (J r2) := by rw [rform_out (by omega), if_pos hlt]
  have e2 : rnext r2 d left = r2 - 1 := by rw [rnext_out (by omega), if_pos hlt]
  rw [e1] at a2
  rw [e2] at a3
  refine ⟨a1, ?_, a3⟩
  rw [a2, List.length_cons, bitsOf_length]; omega
theorem RunIs.ends {bs : List Nat} {at_ r room at2 r2 left : Nat} (I : RunIs bs at_ r room at2 r2 left) (h0 : 0 < left) (ha : 8 * bs.length < at2 + 1) (n : Nat) (hn : n ≤ room) : ¬ hasRun bs at_ r n room := by
  intro h
  obtain ⟨b1, b2⟩ := I.bwd n hn h
  have := run_bit (by have := I.le; omega) h0 b2
  omega
theorem RunIs.lowEnds {bs : List Nat} {at_ r room at2 r2 left : Nat} (I : RunIs bs at_ r room at2 r2 left) (h0 : 0 < left) (hb : ubit bs at2 = false) (ha : 8 * bs.length < at2 + 1 + J r2) (n : Nat) (hn : n ≤ room) : ¬ hasRun bs at_ r n room := by
  intro h
  obtain ⟨b1, b2⟩ := I.bwd n hn h
  obtain ⟨c1, c2⟩ := run_false (by have := I.le; omega) h0 b2 hb
  have := ((hasRun_low c1 c2).1 b2).2.1
  omega
theorem RunIs.lowMuch {bs : List Nat} {at_ r room at2 r2 left d : Nat} (I : RunIs bs at_ r room at2 r2 left) (h0 : 0 < left) (hb : ubit bs at2 = false) (hd : num (bitsAt bs (at2 + 1) (J r2)) = d) (hge : left ≤ d) (n : Nat) (hn : n ≤ room) : ¬ hasRun bs at_ r n room := by
  intro h
  obtain ⟨b1, b2⟩ := I.bwd n hn h
  obtain ⟨c1, c2⟩ := run_false (by have := I.le; omega) h0 b2 hb
  have e := ((hasRun_low c1 c2).1 b2).2.2
  have hp := Nat.two_pow_pos (J r2)
  rw [e, num_bitsOf _ _ (by omega)] at hd
  omega

end Go.Proofs.YtakmkjdmonmilaaDoor
