import Derived.Test.YtakmkjdmonmilaaDoorGoA
/-! golomb: forms among bits; plain, no program. -/
namespace Go.Proofs.YtakmkjdmonmilaaDoor
set_option linter.unusedSimpArgs false
set_option linter.unusedVariables false
open Go

theorem bitsOf_snoc (a n : Nat) (b : Bool) : bitsOf (2 * a + b2n b) (n + 1) = bitsOf a n ++ [b] := by
  apply List.ext_getElem
  · simp [bitsOf]
  · intro i h1 h2
    simp only [bitsOf, List.length_map, List.length_range] at h1
    have hb : b2n b < 2 := b2n_lt b
    rcases Nat.lt_or_ge i n with h | h
    · rw [List.getElem_append_left (by simpa [bitsOf] using h)]
      simp only [bitsOf, List.getElem_map, List.getElem_range]
      rw [show n + 1 - 1 - i = (n - 1 - i) + 1 by omega, Nat.testBit_succ]
      congr 1
      omega
    · have hi : i = n := by omega
      subst hi
      rw [List.getElem_append_right (by simp [bitsOf])]
      simp only [bitsOf, List.getElem_map, List.getElem_range]
      rw [show i + 1 - 1 - i = 0 by omega, Nat.testBit_zero]
      cases b <;> simp [b2n] <;> omega

theorem bitsOf_num (l : List Bool) : bitsOf (num l) l.length = l := by
  have key : ∀ (n : Nat) (l : List Bool), l.length = n → bitsOf (num l) n = l := by
    intro n
    induction n with
    | zero => intro l hl; rw [List.eq_nil_of_length_eq_zero hl]; rfl
    | succ n ih =>
      intro l hl
      have hne : l ≠ [] := fun h => by rw [h] at hl; simp at hl
      obtain ⟨m, b, rfl⟩ : ∃ m b, l = m ++ [b] := ⟨l.dropLast, l.getLast hne, (List.dropLast_concat_getLast hne).symm⟩
      have hm : m.length = n := by simpa using hl
      rw [num_snoc, bitsOf_snoc, ih m hm]
  exact key _ l rfl

theorem bitsAt_add (bs : List Nat) (at_ a b : Nat) : bitsAt bs at_ (a + b) = bitsAt bs at_ a ++ bitsAt bs (at_ + a) b := by
  unfold bitsAt
  rw [List.range_add, List.map_append, List.map_map]
  congr 1
  apply List.map_congr_left
  intro j _
  simp [Function.comp, Nat.add_assoc]
theorem bitsAt_zeros (bs : List Nat) (at_ u : Nat) : bitsAt bs at_ u = List.replicate u false ↔ ∀ j, j < u → ubit bs (at_ + j) = false := by
  constructor
  · intro h j hj
    have : (bitsAt bs at_ u)[j]? = (List.replicate u false)[j]? := by rw [h]
    simpa [bitsAt, hj] using this
  · intro h
    apply List.ext_getElem
    · simp [bitsAt]
    · intro i h1 h2
      simp only [bitsAt, List.length_map, List.length_range] at h1
      simp [bitsAt, h i h1]

/-- A number's form stands there. -/
def hasForm (bs : List Nat) (at_ v k wide : Nat) : Prop := at_ + (gform v k wide).length ≤ 8 * bs.length ∧ bitsAt bs at_ (gform v k wide).length = gform v k wide

theorem append_eq {α : Type} {a b c d : List α} (h : a ++ b = c ++ d) (hl : a.length = c.length) : a = c ∧ b = d := List.append_inj h hl

theorem form_short {bs : List Nat} {at_ v k wide : Nat} (hu : v / 2 ^ k < 24) :
    hasForm bs at_ v k wide ↔ at_ + v / 2 ^ k + 1 + k ≤ 8 * bs.length ∧ (∀ j, j < v / 2 ^ k → ubit bs (at_ + j) = false) ∧ ubit bs (at_ + v / 2 ^ k) = true ∧ bitsAt bs (at_ + v / 2 ^ k + 1) k = bitsOf (v % 2 ^ k) k := by
  unfold hasForm
  rw [gform_length, if_pos hu]
  have e : gform v k wide = List.replicate (v / 2 ^ k) false ++ ([true] ++ bitsOf (v % 2 ^ k) k) := by unfold gform; rw [if_pos hu]; rfl
  rw [e]
  generalize v / 2 ^ k = u
  rw [show u + 1 + k = u + (1 + k) by omega, bitsAt_add, bitsAt_add, show bitsAt bs (at_ + u) 1 = [ubit bs (at_ + u)] by simp [bitsAt]]
  constructor
  · rintro ⟨h1, h2⟩
    obtain ⟨h3, h4⟩ := append_eq h2 (by simp [bitsAt_length])
    obtain ⟨h5, h6⟩ := append_eq h4 (by simp)
    exact ⟨by omega, (bitsAt_zeros _ _ _).1 h3, by simpa using h5, h6⟩
  · rintro ⟨h1, h2, h3, h4⟩
    exact ⟨by omega, by rw [(bitsAt_zeros _ _ _).2 h2, h3, h4]⟩

theorem form_long {bs : List Nat} {at_ v k wide : Nat} (hu : ¬ v / 2 ^ k < 24) :
    hasForm bs at_ v k wide ↔ at_ + 24 + wide ≤ 8 * bs.length ∧ (∀ j, j < 24 → ubit bs (at_ + j) = false) ∧ bitsAt bs (at_ + 24) wide = bitsOf v wide := by
  unfold hasForm
  rw [gform_length, if_neg hu]
  have e : gform v k wide = List.replicate 24 false ++ bitsOf v wide := by unfold gform; rw [if_neg hu]
  rw [e, bitsAt_add]
  constructor
  · rintro ⟨h1, h2⟩
    obtain ⟨h3, h4⟩ := append_eq h2 (by simp [bitsAt_length])
    exact ⟨by omega, (bitsAt_zeros _ _ _).1 h3, h4⟩
  · rintro ⟨h1, h2, h3⟩
    exact ⟨by omega, by rw [(bitsAt_zeros _ _ _).2 h2, h3]⟩

theorem bitsOf_inj {a b n : Nat} (ha : a < 2 ^ n) (hb : b < 2 ^ n) (h : bitsOf a n = bitsOf b n) : a = b := by
  rw [← num_bitsOf a n ha, h, num_bitsOf b n hb]

/-- Noughts up to the end: no form. -/
theorem none_end {bs : List Nat} {at_ z k wide : Nat} (hz : z < 24) (h0 : ∀ j, j < z → ubit bs (at_ + j) = false) (he : at_ + z = 8 * bs.length) (v : Nat) : ¬ hasForm bs at_ v k wide := by
  intro h
  by_cases hu : v / 2 ^ k < 24
  · obtain ⟨h1, h2, h3, h4⟩ := (form_short hu).1 h
    by_cases hlt : v / 2 ^ k < z
    · rw [h0 _ hlt] at h3; cases h3
    · omega
  · obtain ⟨h1, _⟩ := (form_long hu).1 h
    omega

/-- A one behind z noughts: only numbers of that quotient. -/
theorem one_form {bs : List Nat} {at_ z k wide v : Nat} (hz : z < 24) (h0 : ∀ j, j < z → ubit bs (at_ + j) = false) (h1 : ubit bs (at_ + z) = true) (h : hasForm bs at_ v k wide) : v / 2 ^ k = z ∧ at_ + z + 1 + k ≤ 8 * bs.length ∧ bitsAt bs (at_ + z + 1) k = bitsOf (v % 2 ^ k) k := by
  by_cases hu : v / 2 ^ k < 24
  · obtain ⟨a1, a2, a3, a4⟩ := (form_short hu).1 h
    have : v / 2 ^ k = z := by
      rcases Nat.lt_trichotomy (v / 2 ^ k) z with h | h | h
      · rw [h0 _ h] at a3; cases a3
      · exact h
      · rw [a2 _ h] at h1; cases h1
    rw [this] at a1 a4
    exact ⟨this, a1, a4⟩
  · obtain ⟨_, a2, _⟩ := (form_long hu).1 h
    rw [a2 _ hz] at h1; cases h1

theorem zeros_form {bs : List Nat} {at_ k wide v : Nat} (h0 : ∀ j, j < 24 → ubit bs (at_ + j) = false) (h : hasForm bs at_ v k wide) : ¬ v / 2 ^ k < 24 ∧ at_ + 24 + wide ≤ 8 * bs.length ∧ bitsAt bs (at_ + 24) wide = bitsOf v wide := by
  by_cases hu : v / 2 ^ k < 24
  · obtain ⟨a1, a2, a3, a4⟩ := (form_short hu).1 h
    rw [h0 _ hu] at a3; cases a3
  · exact ⟨hu, ((form_long hu).1 h).1, ((form_long hu).1 h).2.2⟩

/-- Two forms at one place are of one number. -/
theorem form_one {bs : List Nat} {at_ v v2 k wide : Nat} (hv : v < 2 ^ wide) (hv2 : v2 < 2 ^ wide) (h : hasForm bs at_ v k wide) (h2 : hasForm bs at_ v2 k wide) : v = v2 := by
  by_cases hu : v / 2 ^ k < 24
  · obtain ⟨a1, a2, a3, a4⟩ := (form_short hu).1 h
    obtain ⟨b1, b2, b3⟩ := one_form hu a2 a3 h2
    have hm := Nat.two_pow_pos k
    have := bitsOf_inj (Nat.mod_lt v hm) (Nat.mod_lt v2 hm) (a4.symm.trans b3)
    rw [← Nat.div_add_mod v (2 ^ k), ← Nat.div_add_mod v2 (2 ^ k), b1, this]
  · obtain ⟨a1, a2, a3⟩ := (form_long hu).1 h
    obtain ⟨b1, b2, b3⟩ := zeros_form a2 h2
    exact bitsOf_inj hv hv2 (a3.symm.trans b3)

theorem num_bitsAt_lt (bs : List Nat) (at_ n : Nat) : num (bitsAt bs at_ n) < 2 ^ n := by
  have := num_lt (bitsAt bs at_ n)
  rwa [bitsAt_length] at this
theorem bitsOf_num_at (bs : List Nat) (at_ n : Nat) : bitsOf (num (bitsAt bs at_ n)) n = bitsAt bs at_ n := by
  have := bitsOf_num (bitsAt bs at_ n)
  rwa [bitsAt_length] at this

theorem short_has {bs : List Nat} {at_ z k wide : Nat} (hz : z < 24) (h0 : ∀ j, j < z → ubit bs (at_ + j) = false) (h1 : ubit bs (at_ + z) = true) (hl : at_ + z + 1 + k ≤ 8 * bs.length) :
    hasForm bs at_ (z * 2 ^ k + num (bitsAt bs (at_ + z + 1) k)) k wide ∧ (gform (z * 2 ^ k + num (bitsAt bs (at_ + z + 1) k)) k wide).length = z + 1 + k := by
  have hm := num_bitsAt_lt bs (at_ + z + 1) k
  have hp := Nat.two_pow_pos k
  have e1 : (z * 2 ^ k + num (bitsAt bs (at_ + z + 1) k)) / 2 ^ k = z := by
    rw [Nat.mul_comm, Nat.mul_add_div hp, Nat.div_eq_of_lt hm, Nat.add_zero]
  have e2 : (z * 2 ^ k + num (bitsAt bs (at_ + z + 1) k)) % 2 ^ k = num (bitsAt bs (at_ + z + 1) k) := by
    rw [Nat.mul_comm, Nat.mul_add_mod, Nat.mod_eq_of_lt hm]
  constructor
  · rw [form_short (by rw [e1]; exact hz), e1, e2, bitsOf_num_at]
    exact ⟨hl, h0, h1, rfl⟩
  · rw [gform_length, e1, if_pos hz]

theorem short_only {bs : List Nat} {at_ z k wide v : Nat} (hz : z < 24) (h0 : ∀ j, j < z → ubit bs (at_ + j) = false) (h1 : ubit bs (at_ + z) = true) (h : hasForm bs at_ v k wide) : v = z * 2 ^ k + num (bitsAt bs (at_ + z + 1) k) := by
  obtain ⟨b1, b2, b3⟩ := one_form hz h0 h1 h
  have hm := Nat.mod_lt v (Nat.two_pow_pos k)
  have : num (bitsAt bs (at_ + z + 1) k) = v % 2 ^ k := by rw [b3, num_bitsOf _ _ hm]
  rw [this, ← b1, Nat.mul_comm, Nat.div_add_mod]

theorem long_has {bs : List Nat} {at_ k wide : Nat} (h0 : ∀ j, j < 24 → ubit bs (at_ + j) = false) (hl : at_ + 24 + wide ≤ 8 * bs.length) (hb : ¬ num (bitsAt bs (at_ + 24) wide) / 2 ^ k < 24) :
    hasForm bs at_ (num (bitsAt bs (at_ + 24) wide)) k wide ∧ (gform (num (bitsAt bs (at_ + 24) wide)) k wide).length = 24 + wide := by
  constructor
  · rw [form_long hb, bitsOf_num_at]
    exact ⟨hl, h0, rfl⟩
  · rw [gform_length, if_neg hb]
theorem long_only {bs : List Nat} {at_ k wide v : Nat} (hv : v < 2 ^ wide) (h0 : ∀ j, j < 24 → ubit bs (at_ + j) = false) (h : hasForm bs at_ v k wide) : v = num (bitsAt bs (at_ + 24) wide) ∧ ¬ v / 2 ^ k < 24 := by
  obtain ⟨b1, b2, b3⟩ := zeros_form h0 h
  exact ⟨by rw [b3, num_bitsOf _ _ hv], b1⟩

end Go.Proofs.YtakmkjdmonmilaaDoor
