import Derived.Test.YtiglncmkinojjaaDoorModelB
namespace Go.Proofs.YtiglncmkinojjaaDoor
set_option linter.unusedVariables false
open Go

/-- A quotient, rounded. -/
def rnd (d s e : Int) : Int := if e < 0 then -((max e (-e) + d) / s) else (max e (-e) + d) / s
def red (R q : Int) : Int :=
  let q := if q < -(R / 2) then q + R else q
  if (R - 1) / 2 < q then q - R else q
theorem shrinkI_eq (M : Mo) (e : Int) : shrinkI M e = red M.span (rnd M.d M.step (cutI e (-M.most) M.most)) := rfl

theorem rnd_near (d s e : Int) (hd : 0 ≤ d) (hs : s = 2 * d + 1) : -d ≤ e - rnd d s e * s ∧ e - rnd d s e * s ≤ d := by
  have h1 := Int.mul_ediv_add_emod (max e (-e) + d) s
  have h2 := Int.emod_nonneg (max e (-e) + d) (show s ≠ 0 by omega)
  have h3 := Int.emod_lt_of_pos (max e (-e) + d) (show 0 < s by omega)
  unfold rnd
  rw [Int.mul_comm] at h1
  generalize (max e (-e) + d) / s = z at *
  generalize (max e (-e) + d) % s = r at *
  split
  · rw [Int.neg_mul]; generalize z * s = zs at *; omega
  · generalize z * s = zs at *; omega

theorem rnd_uniq (d s e z : Int) (hd : 0 ≤ d) (hs : s = 2 * d + 1) (h1 : -d ≤ e - z * s) (h2 : e - z * s ≤ d) : rnd d s e = z := by
  obtain ⟨h3, h4⟩ := rnd_near d s e hd hs
  generalize rnd d s e = y at *
  rcases Int.lt_trichotomy y z with h | h | h
  · have := Int.mul_le_mul_of_nonneg_right (show y + 1 ≤ z by omega) (show 0 ≤ s by omega)
    rw [Int.add_mul, Int.one_mul] at this
    generalize y * s = ys at *
    generalize z * s = zs at *
    omega
  · exact h
  · have := Int.mul_le_mul_of_nonneg_right (show z + 1 ≤ y by omega) (show 0 ≤ s by omega)
    rw [Int.add_mul, Int.one_mul] at this
    generalize y * s = ys at *
    generalize z * s = zs at *
    omega

theorem red_ways (R q : Int) (h0 : 1 ≤ R) (h1 : -R < q) (h2 : q < R) :
    (red R q = q ∨ red R q = q + R ∨ red R q = q - R) ∧ -(R / 2) ≤ red R q ∧ red R q ≤ (R - 1) / 2 := by
  unfold red
  simp only
  split <;> split <;> omega

/-- What a model of some tolerance keeps to. -/
structure Sane (M : Mo) : Prop where
  m : 1 ≤ M.most
  d : 0 ≤ M.d
  d2 : M.d ≤ 63
  s : M.step = 2 * M.d + 1
  r : M.span = (M.most + 2 * M.d) / M.step + 1

theorem Sane.rs {M : Mo} (h : Sane M) : M.most + 2 * M.d < M.span * M.step ∧ 1 ≤ M.span := by
  have h0 := h.m
  have h5 := h.d
  have h4 := h.s
  have h1 := Int.mul_ediv_add_emod (M.most + 2 * M.d) M.step
  have h3 := Int.emod_lt_of_pos (M.most + 2 * M.d) (show 0 < M.step by omega)
  have h6 : 0 ≤ (M.most + 2 * M.d) / M.step := Int.ediv_nonneg (by omega) (by omega)
  rw [h.r, Int.add_mul, Int.one_mul]
  rw [Int.mul_comm] at h1
  generalize (M.most + 2 * M.d) / M.step = z at *
  generalize (M.most + 2 * M.d) % M.step = r at *
  generalize z * M.step = zs at *
  omega

theorem rnd_lt {M : Mo} (h : Sane M) (e : Int) (h1 : -M.most ≤ e) (h2 : e ≤ M.most) : -M.span < rnd M.d M.step e ∧ rnd M.d M.step e < M.span := by
  have h0 := h.m
  have h5 := h.d
  have h4 := h.s
  obtain ⟨h3, h6⟩ := rnd_near M.d M.step e h5 h4
  obtain ⟨h7, h8⟩ := h.rs
  generalize rnd M.d M.step e = z at *
  constructor
  · rcases Int.lt_or_le (-M.span) z with hh | hh
    · exact hh
    · have := Int.mul_le_mul_of_nonneg_right hh (show 0 ≤ M.step by omega)
      rw [Int.neg_mul] at this
      generalize z * M.step = zs at *
      generalize M.span * M.step = rs at *
      omega
  · rcases Int.lt_or_le z M.span with hh | hh
    · exact hh
    · have := Int.mul_le_mul_of_nonneg_right hh (show 0 ≤ M.step by omega)
      generalize z * M.step = zs at *
      generalize M.span * M.step = rs at *
      omega

/-- P9.1, P9.2 with one sign: what is told, and comes back. -/
theorem near_law (M : Mo) (h : Sane M) (x p g : Int) (hx : 0 ≤ x) (hx2 : x ≤ M.most) (hp : 0 ≤ p) (hp2 : p ≤ M.most) (hg : g = 1 ∨ g = -1) {q y : Int}
    (hq : shrinkI M (g * (x - p)) = q) (hy : growI M p (g * q) = y) :
    0 ≤ y ∧ y ≤ M.most ∧ -M.d ≤ y - x ∧ y - x ≤ M.d ∧ shrinkI M (g * (y - p)) = q ∧ -(M.span / 2) ≤ q ∧ q ≤ (M.span - 1) / 2 := by
  have h0 := h.m
  have h5 := h.d
  have h4 := h.s
  obtain ⟨h7, h8⟩ := h.rs
  rw [shrinkI_eq] at hq
  have hc : cutI (g * (x - p)) (-M.most) M.most = g * (x - p) := by unfold cutI; rcases hg with rfl | rfl <;> omega
  rw [hc] at hq
  have hb1 : -M.most ≤ g * (x - p) := by rcases hg with rfl | rfl <;> omega
  have hb2 : g * (x - p) ≤ M.most := by rcases hg with rfl | rfl <;> omega
  obtain ⟨hz1, hz2⟩ := rnd_lt h _ hb1 hb2
  obtain ⟨hn1, hn2⟩ := rnd_near M.d M.step (g * (x - p)) h5 h4
  obtain ⟨z, hz⟩ : ∃ z, rnd M.d M.step (g * (x - p)) = z := ⟨_, rfl⟩
  rw [hz] at hq hz1 hz2 hn1 hn2
  obtain ⟨hw, hr1, hr2⟩ := red_ways M.span z h8 hz1 hz2
  have hwq := hq
  rw [hq] at hw hr1 hr2
  -- the guess with the whole quotient
  obtain ⟨zs, hzs⟩ : ∃ zs, z * M.step = zs := ⟨_, rfl⟩
  obtain ⟨rs, hrs⟩ : ∃ rs, M.span * M.step = rs := ⟨_, rfl⟩
  obtain ⟨u, hu⟩ : ∃ u, p + g * zs = u := ⟨_, rfl⟩
  rw [hzs] at hn1 hn2
  rw [hrs] at h7
  have hux : -M.d ≤ u - x ∧ u - x ≤ M.d := by rcases hg with rfl | rfl <;> omega
  have hcq : cutI (g * q) (-M.span) M.span = g * q := by unfold cutI; rcases hg with rfl | rfl <;> omega
  have hqs : g * q * M.step = g * zs ∨ g * q * M.step = g * zs + rs ∨ g * q * M.step = g * zs - rs := by
    rcases hg with rfl | rfl <;> rcases hw with hw | hw | hw <;> rw [hw]
    · left; rw [Int.one_mul, Int.one_mul, hzs]
    · right; left; rw [Int.one_mul, Int.one_mul, Int.add_mul, hzs, hrs]
    · right; right; rw [Int.one_mul, Int.one_mul, Int.sub_mul, hzs, hrs]
    · left; rw [Int.mul_assoc, hzs]
    · right; right; rw [Int.mul_assoc, Int.add_mul, hzs, hrs]; omega
    · right; left; rw [Int.mul_assoc, Int.sub_mul, hzs, hrs]; omega
  have hyu : y = cutI u 0 M.most := by
    rw [← hy]
    unfold growI
    simp only
    rw [hcq, hrs]
    have hcp : cutI p 0 M.most = p := by unfold cutI; omega
    rw [hcp]
    congr 1
    rcases hqs with e | e | e <;> rw [e]
    · rw [if_neg (by omega), if_neg (by omega)]; omega
    · rw [if_neg (by omega), if_pos (by omega)]; omega
    · rw [if_pos (by omega)]; omega
  have hy1 : 0 ≤ y ∧ y ≤ M.most ∧ -M.d ≤ y - x ∧ y - x ≤ M.d ∧ -M.d ≤ y - u ∧ y - u ≤ M.d := by rw [hyu]; unfold cutI; omega
  obtain ⟨e1, e2, e3, e4, e5, e6⟩ := hy1
  refine ⟨e1, e2, e3, e4, ?_, hr1, hr2⟩
  rw [shrinkI_eq]
  have hc2 : cutI (g * (y - p)) (-M.most) M.most = g * (y - p) := by unfold cutI; rcases hg with rfl | rfl <;> omega
  have hz' : rnd M.d M.step (g * (y - p)) = z := by
    apply rnd_uniq _ _ _ _ h5 h4
    · rw [hzs]; rcases hg with rfl | rfl <;> omega
    · rw [hzs]; rcases hg with rfl | rfl <;> omega
  rw [hc2, hz', hwq]

theorem shrink_zero (M : Mo) (h : Sane M) (e : Int) (h1 : -M.most ≤ e) (h2 : e ≤ M.most) : shrinkI M e = 0 ↔ -M.d ≤ e ∧ e ≤ M.d := by
  have h5 := h.d
  have h4 := h.s
  obtain ⟨h7, h8⟩ := h.rs
  rw [shrinkI_eq]
  have hc : cutI e (-M.most) M.most = e := by unfold cutI; omega
  rw [hc]
  constructor
  · intro h0
    obtain ⟨hz1, hz2⟩ := rnd_lt h e h1 h2
    obtain ⟨hn1, hn2⟩ := rnd_near M.d M.step e h5 h4
    obtain ⟨hw, -, -⟩ := red_ways M.span _ h8 hz1 hz2
    rw [h0] at hw
    have hz : rnd M.d M.step e = 0 := by omega
    rw [hz, Int.zero_mul] at hn1 hn2
    omega
  · intro hd
    rw [rnd_uniq M.d M.step e 0 h5 h4 (by rw [Int.zero_mul]; omega) (by rw [Int.zero_mul]; omega)]
    unfold red
    simp only
    rw [if_neg (by omega), if_neg (by omega)]

theorem grow_zero (M : Mo) (h : Sane M) (a : Int) (h1 : 0 ≤ a) (h2 : a ≤ M.most) : growI M a 0 = a := by
  have h5 := h.d
  obtain ⟨h7, h8⟩ := h.rs
  have e1 : cutI 0 (-M.span) M.span = 0 := by unfold cutI; omega
  have e2 : cutI a 0 M.most = a := by unfold cutI; omega
  unfold growI
  simp only
  rw [e1, e2, Int.zero_mul, if_neg (by omega), if_neg (by omega), Int.add_zero, e2]

theorem far_law (M : Mo) (h : Sane M) (x a : Int) (hx : 0 ≤ x) (hx2 : x ≤ M.most) (ha : 0 ≤ a) (ha2 : a ≤ M.most) (hf : ¬ (-M.d ≤ x - a ∧ x - a ≤ M.d)) {q y : Int}
    (hq : shrinkI M (x - a) = q) (hy : growI M a q = y) : q ≠ 0 ∧ ¬ (-M.d ≤ y - a ∧ y - a ≤ M.d) := by
  have h0 : q ≠ 0 := fun h0 => hf ((shrink_zero M h (x - a) (by omega) (by omega)).1 (hq.trans h0))
  refine ⟨h0, fun hd => h0 ?_⟩
  obtain ⟨e1, e2, -, -, e5, -, -⟩ := near_law M h x a 1 hx hx2 ha ha2 (.inl rfl) (q := q) (y := y) (by rw [Int.one_mul]; exact hq) (by rw [Int.one_mul]; exact hy)
  rw [Int.one_mul] at e5
  rw [← e5]
  exact (shrink_zero M h (y - a) (by omega) (by omega)).2 hd

theorem cut_bounds (n lo hi : Int) (h : lo ≤ hi) : lo ≤ cutI n lo hi ∧ cutI n lo hi ≤ hi := by unfold cutI; omega
theorem grow_bounds (M : Mo) (p q : Int) (h : 0 ≤ M.most) : 0 ≤ growI M p q ∧ growI M p q ≤ M.most := cut_bounds _ _ _ h

end Go.Proofs.YtiglncmkinojjaaDoor
