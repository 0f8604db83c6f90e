import Derived.Test.YtnhemnabjlcgeaaProg
import Derived.Test.YtnhemnabjlcgeaaTiP
import Derived.Test.YtnhemnabjlcgeaaReg
import Derived.Test.YtnhemnabjlcgeaaPlaneS
import Derived.Lib.Hide
import Derived.Deep.QuietTactic
import Derived.BigQuiet
import Derived.WalkSpells
import Derived.BigRegion
/-! Tiles: the grid's functions that only look: may, up, Count, rect, Rect, At. -/
namespace Go.Proofs.Ytnhemnabjlcgeaa
set_option linter.unusedSimpArgs false
set_option linter.unusedVariables false
open Go Go.RowKit

theorem ret_int {k : IntKind} {a b : Int} (h : a = b) : Ending.returned (.int k a) = .returned (.int k b) := by rw [h]
structure GAt (w : World) (b : Nat) (g : Gd) : Prop where
  f0 : w.cell? ⟨b, 0, none⟩ = some (.int .i64 g.W)
  f1 : w.cell? ⟨b, 1, none⟩ = some (.int .i64 g.H)
  f2 : w.cell? ⟨b, 2, none⟩ = some (.int .i64 g.D)
  f3 : w.cell? ⟨b, 3, none⟩ = some (.bool g.A)
  f4 : w.cell? ⟨b, 4, none⟩ = some (.int .i64 g.w)
  f5 : w.cell? ⟨b, 5, none⟩ = some (.int .i64 g.h)
  f6 : w.cell? ⟨b, 6, none⟩ = some (.int .i64 g.cols)
  f7 : w.cell? ⟨b, 7, none⟩ = some (.int .i64 g.rows)
theorem GAt.lt {w : World} {b : Nat} {g : Gd} (h : GAt w b g) : b < w.heap.size := World.block_lt_of_cell? w _ h.f0
theorem GAt.of_below {w w' : World} {b n : Nat} {g : Gd} (h : GAt w b g) (hb : Below n w w') (hn : b < n) : GAt w' b g :=
  ⟨(hb.cell hn).trans h.f0, (hb.cell hn).trans h.f1, (hb.cell hn).trans h.f2, (hb.cell hn).trans h.f3, (hb.cell hn).trans h.f4, (hb.cell hn).trans h.f5, (hb.cell hn).trans h.f6, (hb.cell hn).trans h.f7⟩
theorem GAt.below {w w' : World} {b : Nat} {g : Gd} (h : GAt w b g) (hb : Below w.heap.size w w') : GAt w' b g := h.of_below hb h.lt
theorem GAt.drewN {w : World} {b : Nat} {g : Gd} (h : GAt w b g) (n : Nat) : GAt (w.drewN n) b g := ⟨h.f0, h.f1, h.f2, h.f3, h.f4, h.f5, h.f6, h.f7⟩
theorem GAt.alloc {w : World} {b : Nat} {g : Gd} (h : GAt w b g) (o : Obj) : GAt (w.alloc o) b g := h.below ((Below.refl _ _).alloc (Nat.le_refl _) _)

theorem may_t (n : Int) (w : World) (h1 : 16 ≤ n) (h2 : n ≤ 4096) :
    Calls Try.prog 21 #[.int .i64 n] w fun e w' => e = .returned (.bool true) ∧ w' = w := by
  have t1 : decide (16 ≤ n) = true := decide_eq_true h1
  have t2 : decide (n ≤ 4096) = true := decide_eq_true h2
  go_enter Try.func21, Try.ntmps21
  go_wp2_with fail
  go_ret
  exact ⟨rfl, rfl⟩
theorem may_f (n : Int) (w : World) (h : ¬ (16 ≤ n ∧ n ≤ 4096)) :
    Calls Try.prog 21 #[.int .i64 n] w fun e w' => e = .returned (.bool false) ∧ w' = w := by
  by_cases h1 : 16 ≤ n
  · have t1 : decide (16 ≤ n) = true := decide_eq_true h1
    have t2 : decide (n ≤ 4096) = false := decide_eq_false (by omega)
    clear h
    go_enter Try.func21, Try.ntmps21
    go_wp2_with fail
    go_ret
    exact ⟨rfl, rfl⟩
  · have t1 : decide (16 ≤ n) = false := decide_eq_false h1
    clear h
    go_enter Try.func21, Try.ntmps21
    go_wp2_with fail
    go_ret
    exact ⟨rfl, rfl⟩
theorem up_is (n k r : Int) (w : World) (h1 : 0 ≤ n) (h2 : n ≤ 4096) (k1 : 1 ≤ k) (k2 : k ≤ 4096) (hr : upI n k = r) :
    Calls Try.prog 22 #[.int .i64 n, .int .i64 k] w fun e w' => e = .returned (.int .i64 r) ∧ w' = w := by
  subst hr
  unfold upI
  have t1 : (k == 0) = false := by simp; omega
  go_enter Try.func22, Try.ntmps22
  go_wp2_with fail
  go_ret
  exact ⟨rfl, rfl⟩
theorem count_ok (b : Nat) (g : Gd) (w : World) (h : GAt w b g) (hg : g.Ok) :
    Calls Try.prog 12 #[.pointer (some ⟨b, 0, none⟩)] w fun e w' => e = .returned (.int .i64 g.n) ∧ ∃ m, w' = w.drewN m := by
  obtain ⟨f0, f1, f2, f3, f4, f5, f6, f7⟩ := h
  have h2 := hg.n
  have e : wrap64 (g.cols * g.rows) = g.n := by unfold Gd.n at h2 ⊢; unfold wrap64; omega
  clear hg h2
  go_enter Try.func12, Try.ntmps12
  go_wp2_with fail
  go_quiet (fail)
  go_wp2_with fail
  go_ret
  exact ⟨ret_int e, _, rfl⟩
set_option maxHeartbeats 1000000 in
theorem rect_ok (b : Nat) (g : Gd) (k : Int) (w : World) (h : GAt w b g) (hg : g.Ok) (k0 : 0 ≤ k) (k1 : k < g.n) :
    Calls Try.prog 27 #[.pointer (some ⟨b, 0, none⟩), .int .i64 k] w fun e w' => e = .returned (.agg #[.int .i64 (g.x k), .int .i64 (g.y k), .int .i64 (g.rw k), .int .i64 (g.rh k)]) ∧ Below w.heap.size w w' := by
  have H := Lib.hid (St.alloc (St.top w) [.int .i64 0, .int .i64 0, .int .i64 0, .int .i64 0] 26)
  obtain ⟨f0, f1, f2, f3, f4, f5, f6, f7⟩ := h.alloc (.cells #[.int .i64 0, .int .i64 0, .int .i64 0, .int .i64 0] 26)
  have s := hg.slice k0 k1
  have c1 := hg.cols.1
  have W2 := hg.w2
  have H2 := hg.h2
  have c2 := hg.cols.2.1
  have r2 := hg.rows.2.1
  have t1 : (g.cols == 0) = false := by simp; omega
  have e1 : Int.tmod k g.cols = g.c k := Int.tmod_eq_emod_of_nonneg k0
  have e2 : Int.tdiv k g.cols = g.r k := Int.tdiv_eq_ediv_of_nonneg k0
  obtain ⟨s1, s2, s3, s4, s5, s6, -, s7, s8, -⟩ := s
  have WF : Hid (wrap64 (g.r k) = g.r k ∧ wrap64 (g.c k * g.w) = g.x k ∧ wrap64 (g.r k * g.h) = g.y k ∧ wrap64 (g.W - g.x k) = g.W - g.x k ∧ wrap64 (g.H - g.y k) = g.H - g.y k) := by
    refine Lib.hid ⟨by unfold wrap64; omega, ?_, ?_, by unfold wrap64; omega, by unfold wrap64; omega⟩
    · show wrap64 (g.x k) = _; unfold wrap64; omega
    · show wrap64 (g.y k) = _; unfold wrap64; omega
  have m1 : (if g.W - g.x k < g.w then g.W - g.x k else g.w) = g.rw k := rfl
  have m2 : (if g.H - g.y k < g.h then g.H - g.y k else g.h) = g.rh k := rfl
  have GA := Lib.hid (h.alloc (.cells #[.int .i64 0, .int .i64 0, .int .i64 0, .int .i64 0] 26))
  clear h hg c2 r2 W2 H2 s1 s2 s3 s4 s5 s6 s7 s8
  obtain ⟨w1, w2, w3, w4, w5⟩ := WF.out
  go_enter Try.func27, Try.ntmps27
  go_wp2_with fail
  go_quiet (fail)
  go_wp2_with fail
  have H2 := Lib.hid (H.out.drewN nq)
  have GA2 := Lib.hid (GA.out.drewN nq)
  clear H GA f0 f1 f2 f3 f4 f5 f6 f7
  generalize World.drewN _ nq = w' at *
  generalize w.heap.size = gb at *
  obtain ⟨f0, f1, f2, f3, f4, f5, f6, f7⟩ := GA2.out
  have z0 := St.frozen H2.out 0
  have z1 := St.frozen H2.out 1
  have z2 := St.frozen H2.out 2
  have z3 := St.frozen H2.out 3
  have c0 := St.cell H2.out 0
  have c1' := St.cell H2.out 1
  have c2 := St.cell H2.out 2
  have c3 := St.cell H2.out 3
  simp only [List.getElem?_cons_zero, List.getElem?_cons_succ] at c0 c1' c2 c3
  refine wp_region_head_tail 27 (by kernel_rfl) (by kernel_rfl) ?_
  simp only [List.take_succ_cons, List.take_zero, List.drop_succ_cons, List.drop_zero]
  repeat (go_big_quiet_step (fail))
  refine wpQuiet_nil ?_
  intro m
  have H3 := Lib.hid (St.setCell (St.setCell (St.setCell (St.setCell (H2.out.drewN m) 0 (.int .i64 (g.x k))) 1 (.int .i64 (g.y k))) 2 (.int .i64 (g.rw k))) 3 (.int .i64 (g.rh k)))
  clear H2 GA2
  go_wp2_with fail
  exact bodyPost_ret (results_cell_row rfl _ _ gb 26 #[.int .i64 (g.x k), .int .i64 (g.y k), .int .i64 (g.rw k), .int .i64 (g.rh k)] (0, 0) _ rfl H3.out.blk_at Try.underlying26 rfl (by kernel_rfl)) rfl ⟨rfl, H3.out.below⟩
end Go.Proofs.Ytnhemnabjlcgeaa
