import Derived.Test.YtnhemnabjlcgeaaSl
/-! The plain law of tiles: a grid's columns and rows, its slices. -/
namespace Go.Proofs.Ytnhemnabjlcgeaa
set_option linter.unusedSimpArgs false
set_option linter.unusedVariables false

structure Gd where
  W : Int
  H : Int
  D : Int
  A : Bool
  w : Int
  h : Int
def upI (n k : Int) : Int := (n + k - 1) / k
def Gd.cols (g : Gd) : Int := upI g.W g.w
def Gd.rows (g : Gd) : Int := upI g.H g.h
def Gd.n (g : Gd) : Int := g.cols * g.rows
structure Gd.Ok (g : Gd) : Prop where
  w1 : 1 ≤ g.W
  w2 : g.W ≤ 4096
  h1 : 1 ≤ g.H
  h2 : g.H ≤ 4096
  a1 : 16 ≤ g.w
  a2 : g.w ≤ 4096
  a3 : g.w % 2 = 0
  b1 : 16 ≤ g.h
  b2 : g.h ≤ 4096

theorem up_facts {n k : Int} (h1 : 1 ≤ n) (h2 : n ≤ 4096) (k1 : 16 ≤ k) (k2 : k ≤ 4096) : 1 ≤ upI n k ∧ upI n k ≤ 256 ∧ (upI n k - 1) * k < n ∧ n ≤ upI n k * k := by
  unfold upI
  have e := Int.emod_add_mul_ediv (n + k - 1) k
  have r0 := Int.emod_nonneg (n + k - 1) (show k ≠ 0 by omega)
  have r1 := Int.emod_lt_of_pos (n + k - 1) (show 0 < k by omega)
  have l1 : 1 ≤ (n + k - 1) / k := Int.le_ediv_of_mul_le (by omega) (by omega)
  have l2 : (n + k - 1) / k < 257 := Int.ediv_lt_of_lt_mul (by omega) (by omega)
  have c : k * ((n + k - 1) / k) = (n + k - 1) / k * k := Int.mul_comm _ _
  have s : ((n + k - 1) / k - 1) * k = (n + k - 1) / k * k - k := by rw [Int.sub_mul, Int.one_mul]
  exact ⟨l1, by omega, by omega, by omega⟩
theorem Gd.Ok.cols {g : Gd} (h : g.Ok) : 1 ≤ g.cols ∧ g.cols ≤ 256 ∧ (g.cols - 1) * g.w < g.W ∧ g.W ≤ g.cols * g.w := up_facts h.w1 h.w2 h.a1 h.a2
theorem Gd.Ok.rows {g : Gd} (h : g.Ok) : 1 ≤ g.rows ∧ g.rows ≤ 256 ∧ (g.rows - 1) * g.h < g.H ∧ g.H ≤ g.rows * g.h := up_facts h.h1 h.h2 h.b1 h.b2
theorem mul_le {a b A B : Int} (h0 : 0 ≤ a) (h1 : a ≤ A) (k0 : 0 ≤ b) (k1 : b ≤ B) : 0 ≤ a * b ∧ a * b ≤ A * B := ⟨Int.mul_nonneg h0 k0, Int.mul_le_mul h1 k1 k0 (by omega)⟩
theorem Gd.Ok.n {g : Gd} (h : g.Ok) : 1 ≤ g.n ∧ g.n ≤ 65536 := by
  obtain ⟨c1, c2, -, -⟩ := h.cols
  obtain ⟨r1, r2, -, -⟩ := h.rows
  unfold Gd.n
  have m := mul_le (a := g.cols) (b := g.rows) (A := 256) (B := 256) (by omega) c2 (by omega) r2
  have p : 1 * 1 ≤ g.cols * g.rows := Int.mul_le_mul c1 r1 (by decide) (by omega)
  omega

/-- Where slice k stands: its column, its row, and its rectangle. -/
def Gd.c (g : Gd) (k : Int) : Int := k % g.cols
def Gd.r (g : Gd) (k : Int) : Int := k / g.cols
def Gd.x (g : Gd) (k : Int) : Int := g.c k * g.w
def Gd.y (g : Gd) (k : Int) : Int := g.r k * g.h
def Gd.rw (g : Gd) (k : Int) : Int := if g.W - g.x k < g.w then g.W - g.x k else g.w
def Gd.rh (g : Gd) (k : Int) : Int := if g.H - g.y k < g.h then g.H - g.y k else g.h
structure SliceIs (g : Gd) (k : Int) : Prop where
  c0 : 0 ≤ g.c k
  c1 : g.c k < g.cols
  r0 : 0 ≤ g.r k
  r1 : g.r k < g.rows
  x0 : 0 ≤ g.x k
  x1 : g.x k < g.W
  x2 : g.x k % 2 = 0
  y0 : 0 ≤ g.y k
  y1 : g.y k < g.H
  w0 : 1 ≤ g.rw k
  w1 : g.rw k ≤ g.w
  w2 : g.x k + g.rw k ≤ g.W
  w3 : g.rw k % 2 = 0 ∨ g.x k + g.rw k = g.W
  h0 : 1 ≤ g.rh k
  h1 : g.rh k ≤ g.h
  h2 : g.y k + g.rh k ≤ g.H
  k0 : g.r k * g.cols + g.c k = k
theorem Gd.Ok.slice {g : Gd} (h : g.Ok) {k : Int} (k0 : 0 ≤ k) (k1 : k < g.n) : SliceIs g k := by
  obtain ⟨c1, c2, c3, c4⟩ := h.cols
  obtain ⟨r1, r2, r3, r4⟩ := h.rows
  have a1 := h.a1
  have b1 := h.b1
  have ec := Int.emod_add_mul_ediv k g.cols
  have d0 := Int.emod_nonneg k (show g.cols ≠ 0 by omega)
  have d1 := Int.emod_lt_of_pos k (show 0 < g.cols by omega)
  have q0 : 0 ≤ k / g.cols := Int.ediv_nonneg k0 (by omega)
  have q1 : k / g.cols < g.rows := Int.ediv_lt_of_lt_mul (by omega) (by unfold Gd.n at k1; rw [Int.mul_comm]; exact k1)
  have x0 : 0 ≤ g.x k := Int.mul_nonneg d0 (by omega)
  have x1 : g.x k ≤ (g.cols - 1) * g.w := Int.mul_le_mul_of_nonneg_right (show g.c k ≤ g.cols - 1 by unfold Gd.c; omega) (by omega)
  have y0 : 0 ≤ g.y k := Int.mul_nonneg q0 (by omega)
  have y1 : g.y k ≤ (g.rows - 1) * g.h := Int.mul_le_mul_of_nonneg_right (show g.r k ≤ g.rows - 1 by unfold Gd.r; omega) (by omega)
  have x2 : g.x k % 2 = 0 := by unfold Gd.x; rw [Int.mul_emod, h.a3]; simp
  have w3 := h.a3
  have cm : g.cols * (k / g.cols) = k / g.cols * g.cols := Int.mul_comm _ _
  refine ⟨d0, d1, q0, q1, x0, by omega, x2, y0, by omega, ?_, ?_, ?_, ?_, ?_, ?_, ?_, by unfold Gd.r Gd.c; omega⟩
  all_goals first | (unfold Gd.rw; split <;> omega) | (unfold Gd.rh; split <;> omega)

/-- The slice that a sample is in. -/
def Gd.at (g : Gd) (x y : Int) : Int := y / g.h * g.cols + x / g.w
theorem div_iff {x w c : Int} (hw : 0 < w) : x / w = c ↔ c * w ≤ x ∧ x < c * w + w := by
  constructor
  · rintro rfl
    have e := Int.emod_add_mul_ediv x w
    have r0 := Int.emod_nonneg x (show w ≠ 0 by omega)
    have r1 := Int.emod_lt_of_pos x hw
    have cm : w * (x / w) = x / w * w := Int.mul_comm _ _
    omega
  · rintro ⟨h1, h2⟩
    have l1 : c ≤ x / w := Int.le_ediv_of_mul_le hw h1
    have l2 : x / w < c + 1 := Int.ediv_lt_of_lt_mul hw (by rw [Int.add_mul, Int.one_mul]; exact h2)
    omega
theorem at_facts {g : Gd} (h : g.Ok) {x y : Int} (x0 : 0 ≤ x) (x1 : x < g.W) (y0 : 0 ≤ y) (y1 : y < g.H) :
    0 ≤ g.at x y ∧ g.at x y < g.n ∧ g.c (g.at x y) = x / g.w ∧ g.r (g.at x y) = y / g.h := by
  obtain ⟨c1, c2, c3, c4⟩ := h.cols
  obtain ⟨r1, r2, r3, r4⟩ := h.rows
  have a1 := h.a1
  have b1 := h.b1
  have u0 : 0 ≤ x / g.w := Int.ediv_nonneg x0 (by omega)
  have u1 : x / g.w < g.cols := Int.ediv_lt_of_lt_mul (by omega) (by omega)
  have v0 : 0 ≤ y / g.h := Int.ediv_nonneg y0 (by omega)
  have v1 : y / g.h < g.rows := Int.ediv_lt_of_lt_mul (by omega) (by omega)
  have m0 : 0 ≤ y / g.h * g.cols := Int.mul_nonneg v0 (by omega)
  have m1 : y / g.h * g.cols ≤ (g.rows - 1) * g.cols := Int.mul_le_mul_of_nonneg_right (by omega) (by omega)
  have m2 : (g.rows - 1) * g.cols = g.cols * g.rows - g.cols := by rw [Int.sub_mul, Int.one_mul, Int.mul_comm]
  refine ⟨by unfold Gd.at; omega, by unfold Gd.at Gd.n; omega, ?_, ?_⟩
  · unfold Gd.c Gd.at
    rw [Int.add_comm, Int.add_mul_emod_self_right, Int.emod_eq_of_lt u0 u1]
  · unfold Gd.r Gd.at
    rw [Int.add_comm, Int.add_mul_ediv_right _ _ (by omega), Int.ediv_eq_zero_of_lt u0 u1, Int.zero_add]
theorem slice_eq {g : Gd} {k j : Int} (sk : SliceIs g k) (sj : SliceIs g j) (hc : g.c k = g.c j) (hr : g.r k = g.r j) : k = j := by
  have a := sk.k0
  rw [hc, hr] at a
  have b := sj.k0
  omega
/-- A sample of luma is in a slice's rectangle just if the slice is the one that At tells. -/
theorem has_at {g : Gd} (h : g.Ok) {x y k : Int} (x0 : 0 ≤ x) (x1 : x < g.W) (y0 : 0 ≤ y) (y1 : y < g.H) (s : SliceIs g k) :
    (g.x k ≤ x ∧ x < g.x k + g.rw k ∧ g.y k ≤ y ∧ y < g.y k + g.rh k) ↔ k = g.at x y := by
  obtain ⟨p0, p1, p2, p3⟩ := at_facts h x0 x1 y0 y1
  have a1 := h.a1
  have b1 := h.b1
  have ex : (g.x k ≤ x ∧ x < g.x k + g.rw k) ↔ x / g.w = g.c k := by
    rw [div_iff (by omega)]
    show g.c k * g.w ≤ x ∧ x < g.c k * g.w + g.rw k ↔ _
    unfold Gd.rw Gd.x
    split <;> omega
  have ey : (g.y k ≤ y ∧ y < g.y k + g.rh k) ↔ y / g.h = g.r k := by
    rw [div_iff (by omega)]
    show g.r k * g.h ≤ y ∧ y < g.r k * g.h + g.rh k ↔ _
    unfold Gd.rh Gd.y
    split <;> omega
  constructor
  · rintro ⟨a, b, c, d⟩
    exact slice_eq s (h.slice p0 p1) (by rw [p2]; exact (ex.1 ⟨a, b⟩).symm) (by rw [p3]; exact (ey.1 ⟨c, d⟩).symm)
  · rintro rfl
    have := ex.2 p2.symm
    have := ey.2 p3.symm
    omega
end Go.Proofs.Ytnhemnabjlcgeaa
