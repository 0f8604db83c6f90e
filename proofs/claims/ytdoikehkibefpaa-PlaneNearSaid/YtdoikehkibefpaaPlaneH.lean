import Derived.Test.YtdoikehkibefpaaProg
import Derived.Test.YtdoikehkibefpaaWWords
import Derived.Test.YtdoikehkibefpaaPlaneG
/-! The statement's own rectangles: place, part, whole. -/
namespace Go.Proofs.Ytdoikehkibefpaa
set_option linter.unusedSimpArgs false
set_option linter.unusedVariables false
open Go Go.RowKit Go.Proofs.YtdoikehkibefpaaW.PrintWords

def in64 (c : Int) : Prop := -9223372036854775808 ≤ c ∧ c ≤ 9223372036854775807
instance (c : Int) : Decidable (in64 c) := by unfold in64; infer_instance
/-- Which of n the raw number c speaks of. -/
def placeN (c n : Int) : Int := (if c < 0 then -(c + 1) else c) % n
theorem placeN_bd {c n : Int} (hn : 0 < n) : 0 ≤ placeN c n ∧ placeN c n < n := ⟨Int.emod_nonneg _ (by omega), Int.emod_lt_of_pos _ hn⟩

theorem place_is (c n r : Int) (w : World) (hc : in64 c) (hn : 0 < n) (hn2 : n ≤ 4194304) (hr : placeN c n = r) :
    Calls Try.prog 34 #[.int .i64 c, .int .i64 n] w fun e w' => e = .returned (.int .i64 r) ∧ w = w' := by
  subst hr
  obtain ⟨h1, h2⟩ := hc
  have t0 : (n == 0) = false := by rw [beq_eq_false_iff_ne]; omega
  unfold placeN
  by_cases h : c < 0
  · rw [if_pos h]
    go_enter Try.func34, Try.ntmps34
    go_wp2
    go_ret
    exact ⟨by rw [← Int.tmod_eq_emod_of_nonneg (by omega), Int.neg_tmod]; rfl, rfl⟩
  · rw [if_neg h]
    go_enter Try.func34, Try.ntmps34
    go_wp2
    go_ret
    exact ⟨rfl, rfl⟩

theorem tdiv_in (x : Int) (h : in64 x) : Aside0 (wrap64 (Int.tdiv x 4096) = Int.tdiv x 4096) ∧ in64 (Int.tdiv x 4096) := by
  obtain ⟨h1, h2⟩ := h
  have : in64 (Int.tdiv x 4096) := by
    unfold in64
    by_cases h0 : 0 ≤ x
    · rw [Int.tdiv_eq_ediv_of_nonneg h0]; omega
    · have e : Int.tdiv x 4096 = -((-x) / 4096) := by
        rw [← Int.tdiv_eq_ediv_of_nonneg (show 0 ≤ -x by omega), ← Int.neg_tdiv, Int.neg_neg]
      rw [e]; omega
  exact ⟨⟨by obtain ⟨a, b⟩ := this; unfold wrap64; omega⟩, this⟩

/-- What part says. -/
def partV (W H x y : Int) : Int × Int × Int × Int := (placeN x W, placeN y H, 1 + placeN (Int.tdiv x 4096) (W - placeN x W), 1 + placeN (Int.tdiv y 4096) (H - placeN y H))

set_option maxRecDepth 100000 in
theorem part_ok (W H x y X Y w h : Int) (w0 : World) (hW : 1 ≤ W ∧ W ≤ 4096) (hH : 1 ≤ H ∧ H ≤ 4096) (hx : in64 x) (hy : in64 y) (hr : partV W H x y = (X, Y, w, h)) :
    Calls Try.prog 51 #[.int .i64 W, .int .i64 H, .int .i64 x, .int .i64 y] w0 fun e w' => e = .returned (.agg #[.int .i64 X, .int .i64 Y, .int .i64 w, .int .i64 h]) ∧ Below w0.heap.size w0 w' := by
  unfold partV at hr
  simp only [Prod.mk.injEq] at hr
  obtain ⟨hX, hY, hw, hh⟩ := hr
  have bX := placeN_bd (c := x) (n := W) (by omega)
  have bY := placeN_bd (c := y) (n := H) (by omega)
  rw [hX] at bX hw
  rw [hY] at bY hh
  have bw := placeN_bd (c := Int.tdiv x 4096) (n := W - X) (by omega)
  have bh := placeN_bd (c := Int.tdiv y 4096) (n := H - Y) (by omega)
  obtain ⟨p, hp⟩ : ∃ p, placeN (Int.tdiv x 4096) (W - X) = p := ⟨_, rfl⟩
  obtain ⟨q, hq⟩ : ∃ q, placeN (Int.tdiv y 4096) (H - Y) = q := ⟨_, rfl⟩
  rw [hp] at bw hw
  rw [hq] at bh hh
  subst hw; subst hh
  obtain ⟨ex, ix⟩ := tdiv_in x hx
  obtain ⟨ey, iy⟩ := tdiv_in y hy
  have HX := Aside0.mk hX
  have HY := Aside0.mk hY
  have HP := Aside0.mk hp
  have HQ := Aside0.mk hq
  have Hx := Aside0.mk hx
  have Hy := Aside0.mk hy
  have Ix := Aside0.mk ix
  have Iy := Aside0.mk iy
  obtain ⟨hW0, hW1⟩ := hW
  obtain ⟨hH0, hH1⟩ := hH
  obtain ⟨bX0, bX1⟩ := bX
  obtain ⟨bY0, bY1⟩ := bY
  obtain ⟨bw0, bw1⟩ := bw
  obtain ⟨bh0, bh1⟩ := bh
  have ex' := ex.out
  have ey' := ey.out
  clear hX hY hp hq hx hy ix iy ex ey
  go_enter Try.func51, Try.ntmps51
  go_wp2_with fail
  refine (place_is x W X _ Hx.out (by omega) (by omega) HX.out).mono ?_
  rintro e w' ⟨rfl, rfl⟩
  go_wp2_with fail
  refine (place_is y H Y _ Hy.out (by omega) (by omega) HY.out).mono ?_
  rintro e w' ⟨rfl, rfl⟩
  go_wp2_with fail
  refine (place_is _ (W - X) p _ Ix.out (by omega) (by omega) HP.out).mono ?_
  rintro e w' ⟨rfl, rfl⟩
  go_wp2_with fail
  refine (place_is _ (H - Y) q _ Iy.out (by omega) (by omega) HQ.out).mono ?_
  rintro e w' ⟨rfl, rfl⟩
  go_wp2_with fail
  exact bodyPost_ret (v := .agg #[.int .i64 X, .int .i64 Y, .int .i64 (1 + p), .int .i64 (1 + q)]) (by simp [results, Try.results51, go_sem]) rfl ⟨rfl, below_alloc (below_alloc (Below.refl _ _) _) _⟩

/-- What whole says. -/
def wholeV (W H x y : Int) : Int × Int × Int × Int :=
  let r := partV W H x y
  let X := r.1 - r.1 % 2
  let w := r.2.2.1 + r.1 % 2
  (X, r.2.1, if w % 2 = 1 ∧ X + w < W then w + 1 else w, r.2.2.2)

set_option maxHeartbeats 1000000 in
set_option maxRecDepth 100000 in
theorem whole_ok (W H D : Int) (A : Bool) (x y X Y w h : Int) (w0 : World) (hW : 1 ≤ W ∧ W ≤ 4096) (hH : 1 ≤ H ∧ H ≤ 4096) (hx : in64 x) (hy : in64 y) (hr : wholeV W H x y = (X, Y, w, h)) :
    Calls Try.prog 46 #[.agg #[.int .i64 W, .int .i64 H, .int .i64 D, .bool A], .int .i64 x, .int .i64 y] w0 fun e w' => e = .returned (.agg #[.int .i64 X, .int .i64 Y, .int .i64 w, .int .i64 h]) ∧ Below w0.heap.size w0 w' := by
  obtain ⟨a, b, c, d, hp⟩ : ∃ a b c d, partV W H x y = (a, b, c, d) := ⟨_, _, _, _, rfl⟩
  unfold wholeV at hr
  rw [hp] at hr
  simp only [Prod.mk.injEq] at hr
  obtain ⟨hX, rfl, hw, rfl⟩ := hr
  have bX : 0 ≤ a ∧ a < W ∧ 1 ≤ c ∧ c ≤ W - a ∧ 0 ≤ b ∧ b < H := by
    unfold partV at hp
    simp only [Prod.mk.injEq] at hp
    obtain ⟨h1, h2, h3, h4⟩ := hp
    have b1 := placeN_bd (c := x) (n := W) (by omega)
    have b2 := placeN_bd (c := y) (n := H) (by omega)
    rw [h1] at b1 h3
    rw [h2] at b2
    have b3 := placeN_bd (c := Int.tdiv x 4096) (n := W - a) (by omega)
    omega
  have HP := Aside0.mk hp
  obtain ⟨bX0, bX1, bc0, bc1, -, -⟩ := bX
  have Hx := Aside0.mk hx
  have Hy := Aside0.mk hy
  clear hp hx hy
  obtain ⟨r, hr⟩ : ∃ r, a % 2 = r := ⟨_, rfl⟩
  have hr2 : 0 ≤ r ∧ r ≤ 1 ∧ r ≤ a := by omega
  obtain ⟨hr0, hr1, hra⟩ := hr2
  rw [hr] at hX hw
  subst hX
  have hm : a.tmod 2 = r := by rw [Int.tmod_eq_emod_of_nonneg (by omega)]; exact hr
  have HR := Aside0.mk hr
  clear hr
  have hm2 : ((c + r) % 2 = 0 ∨ (c + r) % 2 = 1) := by omega
  have hBelow : Aside0 (Below w0.heap.size w0 ((w0.alloc (.cells #[.int .i64 W, .int .i64 H, .int .i64 D, .bool A] 26)).alloc (.cells #[.int .i64 0, .int .i64 0, .int .i64 0, .int .i64 0] 52))) := ⟨below_alloc (below_alloc (Below.refl _ _) _) _⟩
  go_enter Try.func46, Try.ntmps46
  go_wp2_with fail
  refine (part_ok W H x y a b c d _ hW hH Hx.out Hy.out HP.out).mono ?_
  rintro e w1 ⟨rfl, hb⟩
  have hs : w0.heap.size + 2 ≤ w1.heap.size := by have := hb.size; simpa using this
  have k0 : w1.heap[w0.heap.size]? = some (.cells #[.int .i64 W, .int .i64 H, .int .i64 D, .bool A] 26 (0, 0)) := (hb.block _ (by simp; omega)).trans (by rw [Below.heap_alloc _ _ _ (by simp)]; exact heap_alloc_new w0 _)
  have k1 : w1.heap[w0.heap.size + 1]? = some (.cells #[.int .i64 0, .int .i64 0, .int .i64 0, .int .i64 0] 52 (0, 0)) := (hb.block _ (by simp)).trans (by have := heap_alloc_new (w0.alloc (.cells #[.int .i64 W, .int .i64 H, .int .i64 D, .bool A] 26)) (.cells #[.int .i64 0, .int .i64 0, .int .i64 0, .int .i64 0] 52); simpa using this)
  have HBB := Aside0.mk (below_step hBelow.out hb)
  have K1 := Aside0.mk k1
  have c0 : w1.cell? ⟨w0.heap.size, 0, none⟩ = some (.int .i64 W) := (blk_cell k0 0).trans rfl
  have f0 := blk_frozen k1 0
  have f1 := blk_frozen k1 1
  have f2 := blk_frozen k1 2
  have f3 := blk_frozen k1 3
  have d0 : w1.cell? ⟨w0.heap.size + 1, 0, none⟩ = some (.int .i64 0) := (blk_cell k1 0).trans rfl
  have d1 : w1.cell? ⟨w0.heap.size + 1, 1, none⟩ = some (.int .i64 0) := (blk_cell k1 1).trans rfl
  have d2 : w1.cell? ⟨w0.heap.size + 1, 2, none⟩ = some (.int .i64 0) := (blk_cell k1 2).trans rfl
  have d3 : w1.cell? ⟨w0.heap.size + 1, 3, none⟩ = some (.int .i64 0) := (blk_cell k1 3).trans rfl
  have hz0 : w0.heap.size < w1.heap.size := by omega
  have hz1 : w0.heap.size + 1 < w1.heap.size := by omega
  have hz2 : (w0.heap.size == w1.heap.size) = false := by rw [beq_eq_false_iff_ne]; omega
  have hz3 : ¬ w0.heap.size = w1.heap.size := by omega
  have hz4 : ¬ w0.heap.size + 1 = w1.heap.size := by omega
  clear k0 k1 hb hs
  obtain ⟨p, hp⟩ : ∃ p, (c + r) % 2 = p := ⟨_, rfl⟩
  rw [hp] at hw hm2
  have hmc : (c + r).tmod 2 = p := by rw [Int.tmod_eq_emod_of_nonneg (by omega)]; exact hp
  have HPp := Aside0.mk hp
  clear hp
  have fin : ∀ (w2 : Int), w2 = w → Aside0 ((((((w1.setCell ⟨w0.heap.size + 1, 0, none⟩ (.int .i64 (a - r))).setCell ⟨w0.heap.size + 1, 1, none⟩ (.int .i64 b)).setCell ⟨w0.heap.size + 1, 2, none⟩ (.int .i64 w2)).setCell ⟨w0.heap.size + 1, 3, none⟩ (.int .i64 d)).alloc (.cells #[.int .i64 (a - r), .int .i64 b, .int .i64 w2, .int .i64 d] 52)).heap[w0.heap.size + 1]? = some (.cells #[.int .i64 (a - r), .int .i64 b, .int .i64 w, .int .i64 d] 52 (0, 0)) ∧ Below w0.heap.size w0 (((((w1.setCell ⟨w0.heap.size + 1, 0, none⟩ (.int .i64 (a - r))).setCell ⟨w0.heap.size + 1, 1, none⟩ (.int .i64 b)).setCell ⟨w0.heap.size + 1, 2, none⟩ (.int .i64 w2)).setCell ⟨w0.heap.size + 1, 3, none⟩ (.int .i64 d)).alloc (.cells #[.int .i64 (a - r), .int .i64 b, .int .i64 w2, .int .i64 d] 52))) := by
    rintro w2 rfl
    refine ⟨blk_alloc (blk_put (cs := #[.int .i64 (a - r), .int .i64 b, .int .i64 w2, .int .i64 0]) (blk_put (cs := #[.int .i64 (a - r), .int .i64 b, .int .i64 0, .int .i64 0]) (blk_put (cs := #[.int .i64 (a - r), .int .i64 0, .int .i64 0, .int .i64 0]) (blk_put (cs := #[.int .i64 0, .int .i64 0, .int .i64 0, .int .i64 0]) K1.out 0 _ rfl) 1 _ rfl) 2 _ rfl) 3 _ rfl) _, ?_⟩
    exact below_alloc (below_set (below_set (below_set (below_set HBB.out (by omega)) (by omega)) (by omega)) (by omega)) _
  have FIN := Aside0.mk fin
  clear fin
  rcases hm2 with rfl | rfl
  · have FIN2 := FIN.out (c + r) (by rw [← hw, if_neg (by omega)])
    clear FIN hw
    go_wp2_with fail
    exact bodyPost_ret (results_cell_row rfl _ _ (w0.heap.size + 1) 52 #[.int .i64 (a - r), .int .i64 b, .int .i64 w, .int .i64 d] (0, 0) _ rfl FIN2.out.1 Try.underlying52 rfl (by kernel_rfl)) rfl ⟨rfl, FIN2.out.2⟩
  · by_cases hq : a - r + (c + r) < W
    · have FIN2 := FIN.out (c + r + 1) (by rw [← hw, if_pos ⟨rfl, hq⟩])
      clear FIN hw
      go_wp2_with fail
      exact bodyPost_ret (results_cell_row rfl _ _ (w0.heap.size + 1) 52 #[.int .i64 (a - r), .int .i64 b, .int .i64 w, .int .i64 d] (0, 0) _ rfl FIN2.out.1 Try.underlying52 rfl (by kernel_rfl)) rfl ⟨rfl, FIN2.out.2⟩
    · have FIN2 := FIN.out (c + r) (by rw [← hw, if_neg (by omega)])
      have hq2 : decide (a - r + (c + r) < W) = false := decide_eq_false hq
      clear FIN hw
      go_wp2_with fail
      exact bodyPost_ret (results_cell_row rfl _ _ (w0.heap.size + 1) 52 #[.int .i64 (a - r), .int .i64 b, .int .i64 w, .int .i64 d] (0, 0) _ rfl FIN2.out.1 Try.underlying52 rfl (by kernel_rfl)) rfl ⟨rfl, FIN2.out.2⟩

end Go.Proofs.Ytdoikehkibefpaa
