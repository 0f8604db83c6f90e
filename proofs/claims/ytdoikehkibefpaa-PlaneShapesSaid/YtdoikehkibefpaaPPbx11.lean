-- Laid by a program of this session (wip/tools/prx.py), over the kit's printer of walks; Lean checks it.
import Derived.Test.YtdoikehkibefpaaPPbx0
import Derived.Test.YtdoikehkibefpaaPPbx3
import Derived.Test.YtdoikehkibefpaaPPbx4
namespace Go.Proofs.Ytdoikehkibefpaa.PPb
open Go.RowKit Go.Proofs.YtdoikehkibefpaaW.PrintWords Go.Proofs.YtdoikehkibefpaaW.PrintLast Go.Proofs.YtdoikehkibefpaaW.PrintMore
open Go.Proofs.YtdoikehkibefpaaW.PrintWords renaming blk_far → bF, below_set → bS, blk_frozen → bZ, below_alloc → bA, pw_below_drewN → bN, below_drew1 → bD, blk_below → bB, blk_cell → bC, blk_set → bs, blk_lt → bL, blk_put → bP, below_step → bT, below_size → bU, box_event → bE, gate_dst → gD
open Go.Proofs.YtdoikehkibefpaaW.PrintWords.Kd renaming S_far → kF, S_types → kT, S_alloc → kA, S_drewN → kN, S_drew → kD
attribute [local go_sem] max2_int min2_int max_two min_two max_three min_three max_four min_four   -- for this text's walks alone
set_option linter.unusedVariables false
set_option linter.unusedSimpArgs false

/-! ### dailiesref06_New: function 24 -/
def dailiesref06_New.l0 : Nat → Int → Int → Int → Int → Bool → Int → Int → Int → Bool → List (List Int) → Option (Int × Int × Int × Bool × (List (List Int)) × Int)
  | 0, _, _, _, _, _, _, _, _, _, _ => none
  | k + 1, x6, x219000, x219001, x219002, x219003, x222000, x222001, x222002, x222003, x222004 => (dailiesref06_count.f x219000 x219001 x219002 x219003).bind fun t222 => (if x6 < t222 then ((dailiesref06_wide.f x219000 x219001 x219002 x219003 x6).bind fun t223 => (if 0 ≤ (wrap64 (t223 * x219001)) then (if (wrap64 (t223 * x219001) : Int).toNat ≤ 140737488355328 then (if x222004.length < 5864062014805 then (dailiesref06_New.l0 k (wrap64 (x6 + 1)) x219000 x219001 x219002 x219003 x222000 x222001 x222002 x222003 (x222004 ++ [(List.replicate (wrap64 (t223 * x219001) : Int).toNat 0)])) else (none)) else (none)) else (none))) else (some (x222000, x222001, x222002, x222003, x222004, 0)))
def dailiesref06_New.f (k : Nat) (a0_0 : Int) (a0_1 : Int) (a0_2 : Int) (a0_3 : Bool) : Option (Int × Int × Int × Bool × (List (List Int)) × Int) := (dailiesref06_Shaped.f k a0_0 a0_1 a0_2 a0_3).bind fun t220 => (if t220 = 0 then (dailiesref06_New.l0 k 0 a0_0 a0_1 a0_2 a0_3 a0_0 a0_1 a0_2 a0_3 ([] : List (List Int))) else (some (0, 0, 0, false, ([] : List (List Int)), t220)))
theorem dailiesref06_New.mono_l : ∀ k, (∀ y0 y1 y2 y3 y4 y5 y6 y7 y8 y9, LeO (dailiesref06_New.l0 k y0 y1 y2 y3 y4 y5 y6 y7 y8 y9) (dailiesref06_New.l0 (k + 1) y0 y1 y2 y3 y4 y5 y6 y7 y8 y9))
  | 0 => fun _ _ _ _ _ _ _ _ _ _ r h => by simp [dailiesref06_New.l0] at h
  | k + 1 => by
    have ih0 := dailiesref06_New.mono_l k
    · intro y0 y1 y2 y3 y4 y5 y6 y7 y8 y9
      unfold dailiesref06_New.l0
      repeat' first
      | (with_reducible exact ih0 _ _ _ _ _ _ _ _ _ _)
      | (with_reducible exact dailiesref06_Shaped.mono _ _ _ _ _)
      | (with_reducible exact LeO.refl _)
      | (with_reducible exact LeO.none _)
      | (with_reducible refine LeO.ite ?_ ?_)
      | (with_reducible refine LeO.bind ?_ (fun _ => ?_))
      | exact ih0 _ _ _ _ _ _ _ _ _ _
      | exact dailiesref06_Shaped.mono _ _ _ _ _
      | exact LeO.none _
      | refine LeO.ite ?_ ?_
      | refine LeO.bind ?_ (fun _ => ?_)
theorem dailiesref06_New.mono : ∀ a0 a1 a2 a3 k, LeO (dailiesref06_New.f k a0 a1 a2 a3) (dailiesref06_New.f (k + 1) a0 a1 a2 a3) := by
  intro a0 a1 a2 a3 k
  have ih0 := dailiesref06_New.mono_l k
  unfold dailiesref06_New.f
  repeat' first
      | (with_reducible exact ih0 _ _ _ _ _ _ _ _ _ _)
      | (with_reducible exact dailiesref06_Shaped.mono _ _ _ _ _)
      | (with_reducible exact LeO.refl _)
      | (with_reducible exact LeO.none _)
      | (with_reducible refine LeO.ite ?_ ?_)
      | (with_reducible refine LeO.bind ?_ (fun _ => ?_))
      | exact ih0 _ _ _ _ _ _ _ _ _ _
      | exact dailiesref06_Shaped.mono _ _ _ _ _
      | exact LeO.none _
      | refine LeO.ite ?_ ?_
      | refine LeO.bind ?_ (fun _ => ?_)
def dailiesref06_New.T8 : Bool × List (List Nat × List Nat) := (true, [([], []), ([0], [0]), ([], []), ([], []), ([2, 3], [2, 3]), ([], []), ([5], [5]), ([4, 6], [4, 6]), ([7, 7], [7]), ([8], [8]), ([1, 9, 4], [1, 9]), ([0, 1, 2, 3, 4, 5, 6, 7, 8, 9, 10], []), ([11, 10, 10, 0, 1, 2, 3, 4, 5, 6, 7, 8, 9, 10], [10, 11])])
def dailiesref06_New.B8 : List Nat := [0, 1, 0, 0, 12, 0, 32, 124, 252, 508, 1023, 2047, 4095]
theorem dailiesref06_New.tab8 : rtab .any (opsOf Try.f24 8) = dailiesref06_New.T8 := by kernel_rfl
theorem dailiesref06_New.bits8 : waitsOk dailiesref06_New.T8.2 dailiesref06_New.B8 = true := by kernel_rfl
set_option maxHeartbeats 8000000 in
set_option maxRecDepth 100000 in
theorem dailiesref06_New.calls (k : Nat) (a0_0 : Int) (a0_1 : Int) (a0_2 : Int) (a0_3 : Bool) (r1 : Int) (r2 : Int) (r3 : Int) (r4 : Bool) (r5 : List (List Int)) (r6 : Int) (w : World) (h : dailiesref06_New.f k a0_0 a0_1 a0_2 a0_3 = some (r1, r2, r3, r4, r5, r6)) :
    Calls Try.prog 24 #[.agg #[.int .i64 a0_0, .int .i64 a0_1, .int .i64 a0_2, .bool a0_3]] w fun e w' => ∃ v4_ : Value, e = .returned (.tuple #[.agg #[.int .i64 r1, .int .i64 r2, .int .i64 r3, .bool r4, v4_], .int .i64 r6]) ∧ Kd.S (Kd.slice 72 (Kd.int .u16)) 53 w' w.heap.size (fun _ => True) v4_ r5 ∧ Below w.heap.size w w' := by
  have hu26 := Try.underlying26
  have hu39 := Try.underlying39
  have HB := am (Below.refl w.heap.size w)
  have H : ((dailiesref06_Shaped.f k a0_0 a0_1 a0_2 a0_3).bind fun t220 => (if t220 = 0 then (dailiesref06_New.l0 k 0 a0_0 a0_1 a0_2 a0_3 a0_0 a0_1 a0_2 a0_3 ([] : List (List Int))) else (some (0, 0, 0, false, ([] : List (List Int)), t220)))) = some (r1, r2, r3, r4, r5, r6) := h
  clear h
  replace H := Option.bind_eq_some_iff.mp H
  obtain ⟨t220, A20, H⟩ := H
  replace H : (if t220 = 0 then (dailiesref06_New.l0 k 0 a0_0 a0_1 a0_2 a0_3 a0_0 a0_1 a0_2 a0_3 ([] : List (List Int))) else (some (0, 0, 0, false, ([] : List (List Int)), t220))) = some (r1, r2, r3, r4, r5, r6) := H
  have A2 := am A20
  clear A20
  by_cases c3 : t220 = 0
  · rw [if_pos c3] at H
    have c3b0 : (t220 == 0) = true := beq_iff_eq.mpr c3
    have c3b1 : (t220 != 0) = false := bne_eq_false_iff_eq.mpr c3
    clear c3
    have H' := am H
    clear H
    go_enter Try.func24, Try.ntmps24
    go_wp2_with (first | ((with_reducible refine gD (N := 1) rfl ?_); refine bE ?hg (N := 1) ?hd (cs := #[.int .i64 a0_0, .int .i64 a0_1, .int .i64 a0_2, .bool a0_3]) (t := 26) ?hr ?_; (case hd => rfl); (case hg => rfl); (case hr => first | (go_simp; done) | (go_simp; rfl)); intro gb218 hg w4 hbox hb; have n0_ := am (bT (by repeat (first | (with_reducible first | exact HB.out | apply bA | apply bN | apply bD) | exact HB.out)) hb); have n1_ := am (hbox); have n2_ := am ((by rw [hg]; exact (bU (by repeat (first | (with_reducible first | exact HB.out | apply bA | apply bN | apply bD) | exact HB.out))) : w.heap.size ≤ gb218)); have n3_ := am ((by rw [hg]; exact (bU (by repeat (first | (with_reducible first | exact HB.out | apply bA | apply bN | apply bD) | exact HB.out))) : w.heap.size ≤ gb218)); clear HB; have HB := n0_; have BK218 := n1_; have GW218 := n2_; have GE218 := n3_; clear n0_ n1_ n2_ n3_; clear hb hbox hg) | ((with_reducible refine gD (N := 2) rfl ?_); refine bE ?hg (N := 2) ?hd (cs := #[.int .i64 0, .int .i64 0, .int .i64 0, .bool false, .slice none 0 0]) (t := 39) ?hr ?_; (case hd => rfl); (case hg => rfl); (case hr => first | (go_simp; done) | (go_simp; rfl)); intro gb219 hg w5 hbox hb; have n0_ := am (bB (g := gb218) (o := .cells #[.int .i64 a0_0, .int .i64 a0_1, .int .i64 a0_2, .bool a0_3] 26 (0, 0)) (by (with_reducible repeat apply dX); exact BK218.out) hb); have n1_ := am (bT (by repeat (first | (with_reducible first | exact HB.out | apply bA | apply bN | apply bD | refine bS ?_ GE218.out) | exact HB.out)) hb); have n2_ := am (hbox); have n3_ := am ((by rw [hg]; exact (bU (by repeat (first | (with_reducible first | exact HB.out | apply bA | apply bN | apply bD | refine bS ?_ GE218.out) | exact HB.out))) : w.heap.size ≤ gb219)); have n4_ := am ((by rw [hg]; exact (bU (by repeat (first | (with_reducible first | exact HB.out | apply bA | apply bN | apply bD | refine bS ?_ GE218.out) | exact HB.out))) : w.heap.size ≤ gb219)); have n5_ := am ((by rw [hg]; exact nL (bL (g := gb218) (o := .cells #[.int .i64 a0_0, .int .i64 a0_1, .int .i64 a0_2, .bool a0_3] 26 (0, 0)) (by (with_reducible repeat apply dX); exact BK218.out)) : gb218 ≠ gb219)); have n6_ := am ((by rw [hg]; exact nG (bL (g := gb218) (o := .cells #[.int .i64 a0_0, .int .i64 a0_1, .int .i64 a0_2, .bool a0_3] 26 (0, 0)) (by (with_reducible repeat apply dX); exact BK218.out)) : gb219 ≠ gb218)); clear BK218; clear HB; have BK218 := n0_; have HB := n1_; have BK219 := n2_; have GW219 := n3_; have GE219 := n4_; have NB218_219 := n5_; have NB219_218 := n6_; clear n0_ n1_ n2_ n3_ n4_ n5_ n6_; clear hb hbox hg; have hnb6 := NB218_219.out; have hnc6 := NB219_218.out; have hcz7_0 : w5.cell? ⟨gb218, 0, none⟩ = some (.int .i64 a0_0) := (bC BK218.out 0).trans rfl; have hcz7_1 : w5.cell? ⟨gb218, 1, none⟩ = some (.int .i64 a0_1) := (bC BK218.out 1).trans rfl; have hcz7_2 : w5.cell? ⟨gb218, 2, none⟩ = some (.int .i64 a0_2) := (bC BK218.out 2).trans rfl; have hcz7_3 : w5.cell? ⟨gb218, 3, none⟩ = some (.bool a0_3) := (bC BK218.out 3).trans rfl; have hfz7_0 := bZ BK218.out 0; have hfz7_1 := bZ BK218.out 1; have hfz7_2 := bZ BK218.out 2; have hfz7_3 := bZ BK218.out 3) | ((with_reducible refine gate_callee (f := 22) rfl ?_); refine goesL_ (some 8) rfl rfl Try.func22 (by kernel_rfl) rfl #[.agg #[.int .i64 a0_0, .int .i64 a0_1, .int .i64 a0_2, .bool a0_3]] rfl (by (try simp only [List.map_toArray, List.map_cons, List.map_nil]); first | done | rfl | (simp only [List.length_drop, List.length_take]; rfl)) ?_; (with_reducible refine (dailiesref06_Shaped.calls k a0_0 a0_1 a0_2 a0_3 t220 _ A2.out).mono ?_); rintro e w8 ⟨rfl, hb⟩; refine ⟨_, rfl, ?_⟩; have n0_ := am (bB (g := gb218) (o := .cells #[.int .i64 a0_0, .int .i64 a0_1, .int .i64 a0_2, .bool a0_3] 26 (0, 0)) (by (with_reducible repeat apply dX); exact BK218.out) hb); have n1_ := am (bB (g := gb219) (o := .cells #[.int .i64 0, .int .i64 0, .int .i64 0, .bool false, .slice none 0 0] 39 (0, 0)) (by (with_reducible repeat apply dX); exact BK219.out) hb); have n2_ := am (bT (by repeat (first | (with_reducible first | exact HB.out | apply bA | apply bN | apply bD | refine bS ?_ GE218.out | refine bS ?_ GE219.out) | exact HB.out)) hb); clear BK218; clear BK219; clear HB; have BK218 := n0_; have BK219 := n1_; have HB := n2_; clear n0_ n1_ n2_; (try clear hb); (try clear hb2); (try clear hk); (try clear hi); have hcz9_0 : w8.cell? ⟨gb218, 0, none⟩ = some (.int .i64 a0_0) := (bC BK218.out 0).trans rfl; have hcz9_1 : w8.cell? ⟨gb218, 1, none⟩ = some (.int .i64 a0_1) := (bC BK218.out 1).trans rfl; have hcz9_2 : w8.cell? ⟨gb218, 2, none⟩ = some (.int .i64 a0_2) := (bC BK218.out 2).trans rfl; have hcz9_3 : w8.cell? ⟨gb218, 3, none⟩ = some (.bool a0_3) := (bC BK218.out 3).trans rfl; have hfz9_0 := bZ BK218.out 0; have hfz9_1 := bZ BK218.out 1; have hfz9_2 := bZ BK218.out 2; have hfz9_3 := bZ BK218.out 3) | ((with_reducible refine gD (N := 5) rfl ?_); refine bE ?hg (N := 5) ?hd (cs := #[.int .i64 0, .int .i64 0, .int .i64 0, .bool false, .slice none 0 0]) (t := 39) ?hr ?_; (case hd => rfl); (case hg => rfl); (case hr => first | (go_simp; done) | (go_simp; rfl)); intro gb221 hg w10 hbox hb; have n0_ := am (bB (g := gb218) (o := .cells #[.int .i64 a0_0, .int .i64 a0_1, .int .i64 a0_2, .bool a0_3] 26 (0, 0)) (by (with_reducible repeat apply dX); exact BK218.out) hb); have n1_ := am (bB (g := gb219) (o := .cells #[.int .i64 0, .int .i64 0, .int .i64 0, .bool false, .slice none 0 0] 39 (0, 0)) (by (with_reducible repeat apply dX); exact BK219.out) hb); have n2_ := am (bT (by repeat (first | (with_reducible first | exact HB.out | apply bA | apply bN | apply bD | refine bS ?_ GE218.out | refine bS ?_ GE219.out) | exact HB.out)) hb); have n3_ := am (hbox); have n4_ := am ((by rw [hg]; exact (bU (by repeat (first | (with_reducible first | exact HB.out | apply bA | apply bN | apply bD | refine bS ?_ GE218.out | refine bS ?_ GE219.out) | exact HB.out))) : w.heap.size ≤ gb221)); have n5_ := am ((by rw [hg]; exact (bU (by repeat (first | (with_reducible first | exact HB.out | apply bA | apply bN | apply bD | refine bS ?_ GE218.out | refine bS ?_ GE219.out) | exact HB.out))) : w.heap.size ≤ gb221)); have n6_ := am ((by rw [hg]; exact nL (bL (g := gb218) (o := .cells #[.int .i64 a0_0, .int .i64 a0_1, .int .i64 a0_2, .bool a0_3] 26 (0, 0)) (by (with_reducible repeat apply dX); exact BK218.out)) : gb218 ≠ gb221)); have n7_ := am ((by rw [hg]; exact nG (bL (g := gb218) (o := .cells #[.int .i64 a0_0, .int .i64 a0_1, .int .i64 a0_2, .bool a0_3] 26 (0, 0)) (by (with_reducible repeat apply dX); exact BK218.out)) : gb221 ≠ gb218)); have n8_ := am ((by rw [hg]; exact nL (bL (g := gb219) (o := .cells #[.int .i64 0, .int .i64 0, .int .i64 0, .bool false, .slice none 0 0] 39 (0, 0)) (by (with_reducible repeat apply dX); exact BK219.out)) : gb219 ≠ gb221)); have n9_ := am ((by rw [hg]; exact nG (bL (g := gb219) (o := .cells #[.int .i64 0, .int .i64 0, .int .i64 0, .bool false, .slice none 0 0] 39 (0, 0)) (by (with_reducible repeat apply dX); exact BK219.out)) : gb221 ≠ gb219)); clear BK218; clear BK219; clear HB; have BK218 := n0_; have BK219 := n1_; have HB := n2_; have BK221 := n3_; have GW221 := n4_; have GE221 := n5_; have NB218_221 := n6_; have NB221_218 := n7_; have NB219_221 := n8_; have NB221_219 := n9_; clear n0_ n1_ n2_ n3_ n4_ n5_ n6_ n7_ n8_ n9_; clear hb hbox hg; have hnb11 := NB221_218.out; have hnc11 := NB218_221.out; have hnb12 := NB221_219.out; have hnc12 := NB219_221.out; have hcz13_0 : w10.cell? ⟨gb221, 0, none⟩ = some (.int .i64 0) := (bC BK221.out 0).trans rfl; have hcz13_1 : w10.cell? ⟨gb221, 1, none⟩ = some (.int .i64 0) := (bC BK221.out 1).trans rfl; have hcz13_2 : w10.cell? ⟨gb221, 2, none⟩ = some (.int .i64 0) := (bC BK221.out 2).trans rfl; have hcz13_3 : w10.cell? ⟨gb221, 3, none⟩ = some (.bool false) := (bC BK221.out 3).trans rfl; have hcz13_4 : w10.cell? ⟨gb221, 4, none⟩ = some (.slice none 0 0) := (bC BK221.out 4).trans rfl; have hfz13_0 := bZ BK221.out 0; have hfz13_1 := bZ BK221.out 1; have hfz13_2 := bZ BK221.out 2; have hfz13_3 := bZ BK221.out 3; have hfz13_4 := bZ BK221.out 4))
    go_loopg [6] k (fun kq v6 w' => ∃ (x6_1 : Int) (x222004_1 : List (List Int)) (u222004 : Value), v6 = .int .i64 x6_1 ∧ Aside0 (dailiesref06_New.l0 kq x6_1 a0_0 a0_1 a0_2 a0_3 a0_0 a0_1 a0_2 a0_3 x222004_1 = some (r1, r2, r3, r4, r5, r6)) ∧ Aside0 (kq ≤ k) ∧ Aside0 (Kd.S (Kd.slice 72 (Kd.int .u16)) 53 w' w.heap.size (fun _ => True) u222004 x222004_1) ∧ Aside0 (w'.heap[gb218]? = some (.cells #[.int .i64 a0_0, .int .i64 a0_1, .int .i64 a0_2, .bool a0_3] 26 (0, 0))) ∧ Aside0 (w'.heap[gb219]? = some (.cells #[.int .i64 0, .int .i64 0, .int .i64 0, .bool false, (.slice none 0 0)] 39 (0, 0))) ∧ Aside0 (w'.heap[gb221]? = some (.cells #[.int .i64 a0_0, .int .i64 a0_1, .int .i64 a0_2, .bool a0_3, u222004] 39 (0, 0))) ∧ Aside0 (Below w.heap.size w w'))
    case atStart => exact ⟨(0), (([] : List (List Int))), (.slice none 0 0), (by first | rfl | (simp; done) | (simp [*]; done)), H', ⟨Nat.le_refl _⟩, ⟨by first | exact Kd.S_nil _ _ _ _ _ | exact Kd.N_nil _ _ _ _ _ | exact Kd.V_nil _ _ _ _ _ | exact Kd.Q_nil _ _ _ _ _ | exact Kd.R_nil _ _ _ _ _⟩, ⟨by (with_reducible repeat apply dX); refine bF ?_ NB218_221.out _; (with_reducible repeat apply dX); refine bF ?_ NB218_221.out _; (with_reducible repeat apply dX); refine bF ?_ NB218_221.out _; (with_reducible repeat apply dX); refine bF ?_ NB218_221.out _; (with_reducible repeat apply dX); refine bF ?_ NB218_221.out _; (with_reducible repeat apply dX); exact BK218.out⟩, ⟨by (with_reducible repeat apply dX); refine bF ?_ NB219_221.out _; (with_reducible repeat apply dX); refine bF ?_ NB219_221.out _; (with_reducible repeat apply dX); refine bF ?_ NB219_221.out _; (with_reducible repeat apply dX); refine bF ?_ NB219_221.out _; (with_reducible repeat apply dX); refine bF ?_ NB219_221.out _; (with_reducible repeat apply dX); exact BK219.out⟩, ⟨by (with_reducible repeat apply dX); refine bP (cs := #[.int .i64 a0_0, .int .i64 a0_1, .int .i64 a0_2, .bool a0_3, .slice none 0 0]) ?_ 4 _ rfl; (with_reducible repeat apply dX); refine bP (cs := #[.int .i64 a0_0, .int .i64 a0_1, .int .i64 a0_2, .bool false, .slice none 0 0]) ?_ 3 _ rfl; (with_reducible repeat apply dX); refine bP (cs := #[.int .i64 a0_0, .int .i64 a0_1, .int .i64 0, .bool false, .slice none 0 0]) ?_ 2 _ rfl; (with_reducible repeat apply dX); refine bP (cs := #[.int .i64 a0_0, .int .i64 0, .int .i64 0, .bool false, .slice none 0 0]) ?_ 1 _ rfl; (with_reducible repeat apply dX); refine bP (cs := #[.int .i64 0, .int .i64 0, .int .i64 0, .bool false, .slice none 0 0]) ?_ 0 _ rfl; (with_reducible repeat apply dX); exact BK221.out⟩, ⟨by repeat (first | (with_reducible first | exact HB.out | apply bA | apply bN | apply bD | refine bS ?_ GE218.out | refine bS ?_ GE219.out | refine bS ?_ GE221.out) | exact HB.out)⟩⟩
    case round =>
      clear H'
      try clear c1
      try clear c2
      try clear p2
      try clear c3
      try clear c3b0
      try clear c3b1
      try clear c6
      try clear c11
      try clear c12
      try clear hcz13_0
      try clear hcz13_1
      try clear hcz13_2
      try clear hcz13_3
      try clear hcz13_4
      try clear hcz7_0
      try clear hcz7_1
      try clear hcz7_2
      try clear hcz7_3
      try clear hcz9_0
      try clear hcz9_1
      try clear hcz9_2
      try clear hcz9_3
      try clear hfz13_0
      try clear hfz13_1
      try clear hfz13_2
      try clear hfz13_3
      try clear hfz13_4
      try clear hfz7_0
      try clear hfz7_1
      try clear hfz7_2
      try clear hfz7_3
      try clear hfz9_0
      try clear hfz9_1
      try clear hfz9_2
      try clear hfz9_3
      obtain ⟨x6_1, x222004_1, u222004, rfl, HA, HK1, HO_222004, BK218, BK219, BK221, HB⟩ := hrel
      cases gk with
      | zero => exact absurd HA.out (by simp [dailiesref06_New.l0])
      | succ k1 =>
        have H := HA.out
        clear HA
        simp only [dailiesref06_New.l0] at H
        replace H := Option.bind_eq_some_iff.mp H
        obtain ⟨t222, A140, H⟩ := H
        replace H : (if x6_1 < t222 then ((dailiesref06_wide.f a0_0 a0_1 a0_2 a0_3 x6_1).bind fun t223 => (if 0 ≤ (wrap64 (t223 * a0_1)) then (if (wrap64 (t223 * a0_1) : Int).toNat ≤ 140737488355328 then (if x222004_1.length < 5864062014805 then (dailiesref06_New.l0 k1 (wrap64 (x6_1 + 1)) a0_0 a0_1 a0_2 a0_3 a0_0 a0_1 a0_2 a0_3 (x222004_1 ++ [(List.replicate (wrap64 (t223 * a0_1) : Int).toNat 0)])) else (none)) else (none)) else (none))) else (some (a0_0, a0_1, a0_2, a0_3, x222004_1, 0))) = some (r1, r2, r3, r4, r5, r6) := H
        have A14 := am A140
        clear A140
        by_cases c15 : x6_1 < t222
        · rw [if_pos c15] at H
          have c15b0 : decide (x6_1 < t222) = true := decide_eq_true c15
          clear c15
          replace H := Option.bind_eq_some_iff.mp H
          obtain ⟨t223, A160, H⟩ := H
          replace H : (if 0 ≤ (wrap64 (t223 * a0_1)) then (if (wrap64 (t223 * a0_1) : Int).toNat ≤ 140737488355328 then (if x222004_1.length < 5864062014805 then (dailiesref06_New.l0 k1 (wrap64 (x6_1 + 1)) a0_0 a0_1 a0_2 a0_3 a0_0 a0_1 a0_2 a0_3 (x222004_1 ++ [(List.replicate (wrap64 (t223 * a0_1) : Int).toNat 0)])) else (none)) else (none)) else (none)) = some (r1, r2, r3, r4, r5, r6) := H
          have A16 := am A160
          clear A160
          obtain ⟨ji17, hji17⟩ : ∃ j_ : Int, (wrap64 (t223 * a0_1)) = j_ := ⟨_, rfl⟩
          replace H : (if 0 ≤ (ji17) then (if (ji17 : Int).toNat ≤ 140737488355328 then (if x222004_1.length < 5864062014805 then (dailiesref06_New.l0 k1 (wrap64 (x6_1 + 1)) a0_0 a0_1 a0_2 a0_3 a0_0 a0_1 a0_2 a0_3 (x222004_1 ++ [(List.replicate (ji17 : Int).toNat 0)])) else (none)) else (none)) else (none)) = some (r1, r2, r3, r4, r5, r6) := by first | (rw [hji17] at H; exact H) | (simp only [hji17] at H ⊢; exact H)
          (try rw [hji17] at A14)
          (try rw [hji17] at A16)
          have hji17w : (IntKind.i64.wrap (t223 * a0_1)) = ji17 := (i64_w _).trans hji17
          by_cases c18 : 0 ≤ (ji17)
          · rw [if_pos c18] at H
            have c18b0 := eq_true c18
            have c18b1 : decide (0 ≤ (ji17)) = true := decide_eq_true c18
            clear c18
            by_cases c19 : (ji17 : Int).toNat ≤ 140737488355328
            · rw [if_pos c19] at H
              have c19b0 := eq_true c19
              have c19b1 : decide ((ji17 : Int).toNat ≤ 140737488355328) = true := decide_eq_true c19
              clear c19
              obtain ⟨y224, hy224⟩ : ∃ y_ : List Int, y_ = (List.replicate (ji17 : Int).toNat 0) := ⟨_, rfl⟩
              replace H : (if x222004_1.length < 5864062014805 then (dailiesref06_New.l0 k1 (wrap64 (x6_1 + 1)) a0_0 a0_1 a0_2 a0_3 a0_0 a0_1 a0_2 a0_3 (x222004_1 ++ [y224])) else (none)) = some (r1, r2, r3, r4, r5, r6) := by first | (rw [hy224]; with_reducible exact H) | (have H2_ := (Option.bind_some _ _).symm.trans H; rw [hy224]; with_reducible exact H2_) | (have H2_ := (Option.bind_some _ _).symm.trans H; with_reducible exact H2_) | with_reducible exact H | (rw [hy224]; exact H) | exact H
              have Ny224 := am hy224
              clear hy224
              by_cases c20 : x222004_1.length < 5864062014805
              · rw [if_pos c20] at H
                have LMc20 := am c20
                clear c20
                obtain ⟨y227, hy227⟩ : ∃ y_ : List (List Int), y_ = (x222004_1 ++ [y224]) := ⟨_, rfl⟩
                replace H : (dailiesref06_New.l0 k1 (wrap64 (x6_1 + 1)) a0_0 a0_1 a0_2 a0_3 a0_0 a0_1 a0_2 a0_3 y227) = some (r1, r2, r3, r4, r5, r6) := by first | (rw [hy227]; with_reducible exact H) | (have H2_ := (Option.bind_some _ _).symm.trans H; rw [hy227]; with_reducible exact H2_) | (have H2_ := (Option.bind_some _ _).symm.trans H; with_reducible exact H2_) | with_reducible exact H | (rw [hy227]; exact H) | exact H
                have Ny227 := am hy227
                clear hy227
                have H' := am H
                clear H
                have hnb21 := NB218_219.out
                have hnc21 := NB219_218.out
                have hnb22 := NB218_221.out
                have hnc22 := NB221_218.out
                have hcz23_0 : wr.cell? ⟨gb218, 0, none⟩ = some (.int .i64 a0_0) := (bC BK218.out 0).trans rfl
                have hcz23_1 : wr.cell? ⟨gb218, 1, none⟩ = some (.int .i64 a0_1) := (bC BK218.out 1).trans rfl
                have hcz23_2 : wr.cell? ⟨gb218, 2, none⟩ = some (.int .i64 a0_2) := (bC BK218.out 2).trans rfl
                have hcz23_3 : wr.cell? ⟨gb218, 3, none⟩ = some (.bool a0_3) := (bC BK218.out 3).trans rfl
                have hfz23_0 := bZ BK218.out 0
                have hfz23_1 := bZ BK218.out 1
                have hfz23_2 := bZ BK218.out 2
                have hfz23_3 := bZ BK218.out 3
                try go_wp2_with (first | ((with_reducible refine gate_callee (f := 60) rfl ?_); refine goesL_ (some 17) rfl rfl Try.func60 (by kernel_rfl) rfl #[.agg #[.int .i64 a0_0, .int .i64 a0_1, .int .i64 a0_2, .bool a0_3]] rfl (by (try simp only [List.map_toArray, List.map_cons, List.map_nil]); first | done | rfl | (simp only [List.length_drop, List.length_take]; rfl)) ?_; (with_reducible refine (dailiesref06_count.calls a0_0 a0_1 a0_2 a0_3 t222 _ A14.out).mono ?_); rintro e w24 ⟨rfl, hb⟩; refine ⟨_, rfl, ?_⟩; have n0_ := am (Kd.S_below (by (with_reducible repeat (first | apply kA | apply kN | apply kD)); exact HO_222004.out) hb); have n1_ := am (bB (g := gb218) (o := .cells #[.int .i64 a0_0, .int .i64 a0_1, .int .i64 a0_2, .bool a0_3] 26 (0, 0)) (by (with_reducible repeat apply dX); exact BK218.out) hb); have n2_ := am (bB (g := gb219) (o := .cells #[.int .i64 0, .int .i64 0, .int .i64 0, .bool false, .slice none 0 0] 39 (0, 0)) (by (with_reducible repeat apply dX); exact BK219.out) hb); have n3_ := am (bB (g := gb221) (o := .cells #[.int .i64 a0_0, .int .i64 a0_1, .int .i64 a0_2, .bool a0_3, u222004] 39 (0, 0)) (by (with_reducible repeat apply dX); exact BK221.out) hb); have n4_ := am (bT (by repeat (first | (with_reducible first | exact HB.out | apply bA | apply bN | apply bD | refine bS ?_ GE218.out | refine bS ?_ GE219.out | refine bS ?_ GE221.out) | exact HB.out)) hb); clear HO_222004; clear BK218; clear BK219; clear BK221; clear HB; have HO_222004 := n0_; have BK218 := n1_; have BK219 := n2_; have BK221 := n3_; have HB := n4_; clear n0_ n1_ n2_ n3_ n4_; (try clear hb); (try clear hb2); (try clear hk); (try clear hi)))
                have n0_ := am (kD HO_222004.out)
                have n1_ := am (blk_drew BK218.out)
                have n2_ := am (blk_drew BK219.out)
                have n3_ := am (blk_drew BK221.out)
                have n4_ := am (bD HB.out)
                clear HO_222004
                clear BK218
                clear BK219
                clear BK221
                clear HB
                have HO_222004 := n0_
                have BK218 := n1_
                have BK219 := n2_
                have BK221 := n3_
                have HB := n4_
                clear n0_ n1_ n2_ n3_ n4_
                refine start_ (n := 13) (S := fun w' => w'.cell? ⟨gb221, 0, none⟩ = some (.int .i64 a0_0) ∧ w'.cell? ⟨gb221, 1, none⟩ = some (.int .i64 a0_1) ∧ w'.cell? ⟨gb221, 2, none⟩ = some (.int .i64 a0_2) ∧ w'.cell? ⟨gb221, 3, none⟩ = some (.bool a0_3) ∧ w'.cell? ⟨gb221, 4, none⟩ = some (u222004) ∧ w'.cell? ⟨gb218, 0, none⟩ = some (.int .i64 a0_0) ∧ w'.cell? ⟨gb218, 1, none⟩ = some (.int .i64 a0_1) ∧ w'.cell? ⟨gb218, 2, none⟩ = some (.int .i64 a0_2) ∧ w'.cell? ⟨gb218, 3, none⟩ = some (.bool a0_3)) (ds := [12]) #[false, false, false, false, false, false, false, false, false, false, false, false, false] (by kernel_rfl) rfl rfl ⟨(bC BK221.out 0).trans rfl, (bC BK221.out 1).trans rfl, (bC BK221.out 2).trans rfl, (bC BK221.out 3).trans rfl, (bC BK221.out 4).trans rfl, (bC BK218.out 0).trans rfl, (bC BK218.out 1).trans rfl, (bC BK218.out 2).trans rfl, (bC BK218.out 3).trans rfl⟩ (fun hHeld => ?_); refine with_tabW dailiesref06_New.tab8 dailiesref06_New.bits8 (fun HT_ HW_ => ?_)
                generalize w24.drew = w25 at HO_222004 BK218 BK219 BK221 HB hHeld ⊢
                refine pure_ (i := 0) (N := some 21) (v := ?_) (a' := ?_) #[true, false, false, false, false, false, false, false, false, false, false, false, false] rfl rfl (any_of HT_.out (by kernel_rfl)) (fun _ _ _ h => h) (Or.inl ⟨by rfl, ?_⟩) ?_ ?_
                rotate_left
                · intro w'
                  go_simp
                  with_reducible rfl
                rotate_left
                · simp only [Act.put, List.setIfInBounds_toArray, List.set_cons_zero, List.set_cons_succ, i64_w, i32_w]
                  rfl
                refine pure_ (i := 3) (N := some 24) (v := ?_) (a' := ?_) #[true, false, false, true, false, false, false, false, false, false, false, false, false] rfl rfl (any_of HT_.out (by kernel_rfl)) (fun _ _ _ h => h) (Or.inl ⟨by rfl, ?_⟩) ?_ ?_
                rotate_left
                · intro w'
                  go_simp
                  with_reducible rfl
                rotate_left
                · simp only [Act.put, List.setIfInBounds_toArray, List.set_cons_zero, List.set_cons_succ, i64_w, i32_w]
                  rfl
                refine pure_ (i := 5) (N := some 26) (v := ?_) (a' := ?_) #[true, false, false, true, false, true, false, false, false, false, false, false, false] rfl rfl (any_of HT_.out (by kernel_rfl)) (fun _ _ _ h => h) (Or.inl ⟨by rfl, ?_⟩) ?_ ?_
                rotate_left
                · intro w'
                  go_simp
                  with_reducible rfl
                rotate_left
                · simp only [Act.put, List.setIfInBounds_toArray, List.set_cons_zero, List.set_cons_succ, i64_w, i32_w]
                  rfl
                refine take_ (i := 1) (N := some 22) (v := ?_) (a' := ?_) #[true, true, false, true, false, true, false, false, false, false, false, false, false] rfl rfl (take_ofW HT_.out HW_.out (by kernel_rfl)) (fun _ _ _ h => h) (Or.inl ⟨by rfl, ?_⟩) hHeld ?_ ?_
                rotate_left
                · rintro w' ⟨s0, s1, s2, s3, s4, s5, s6, s7, s8⟩
                  go_simp
                  with_reducible rfl
                rotate_left
                · simp only [Act.put, List.setIfInBounds_toArray, List.set_cons_zero, List.set_cons_succ, i64_w, i32_w]
                  rfl
                refine take_ (i := 2) (N := some 23) (v := ?_) (a' := ?_) #[true, true, true, true, false, true, false, false, false, false, false, false, false] rfl rfl (take_ofW HT_.out HW_.out (by kernel_rfl)) (fun _ _ _ h => h) (Or.inl ⟨by rfl, ?_⟩) hHeld ?_ ?_
                rotate_left
                · rintro w' ⟨s0, s1, s2, s3, s4, s5, s6, s7, s8⟩
                  go_simp
                  with_reducible rfl
                rotate_left
                · simp only [Act.put, List.setIfInBounds_toArray, List.set_cons_zero, List.set_cons_succ, i64_w, i32_w]
                  rfl
                refine take_ (i := 6) (N := some 27) (v := ?_) (a' := ?_) #[true, true, true, true, false, true, true, false, false, false, false, false, false] rfl rfl (take_ofW HT_.out HW_.out (by kernel_rfl)) (fun _ _ _ h => h) (Or.inl ⟨by rfl, ?_⟩) hHeld ?_ ?_
                rotate_left
                · rintro w' ⟨s0, s1, s2, s3, s4, s5, s6, s7, s8⟩
                  go_simp
                  with_reducible rfl
                rotate_left
                · simp only [Act.put, List.setIfInBounds_toArray, List.set_cons_zero, List.set_cons_succ, i64_w, i32_w]
                  rfl
                refine one_ (i := 4) (N := some 25) #[true, true, true, true, true, true, true, false, false, false, false, false, false] rfl rfl (one_of HT_.out (by kernel_rfl)) (by decide) (fun K hK => ?_)
                refine goes_ Try.func57 (by kernel_rfl) rfl #[.agg #[.int .i64 a0_0, .int .i64 a0_1, .int .i64 a0_2, .bool a0_3], .int .i64 x6_1] (by rfl) rfl rfl (by (try simp only [List.map_toArray, List.map_cons, List.map_nil]); first | done | rfl | (simp only [List.length_drop, List.length_take]; rfl)) ?_
                with_reducible refine (dailiesref06_wide.calls a0_0 a0_1 a0_2 a0_3 x6_1 t223 _ A16.out).mono ?_
                rintro e w26 ⟨rfl, hb⟩
                refine ⟨_, rfl, ?_⟩
                have n0_ := am (Kd.S_below (by (with_reducible repeat (first | apply kA | apply kN | apply kD)); exact HO_222004.out) hb)
                have n1_ := am (bB (g := gb218) (o := .cells #[.int .i64 a0_0, .int .i64 a0_1, .int .i64 a0_2, .bool a0_3] 26 (0, 0)) (by (with_reducible repeat apply dX); exact BK218.out) hb)
                have n2_ := am (bB (g := gb219) (o := .cells #[.int .i64 0, .int .i64 0, .int .i64 0, .bool false, .slice none 0 0] 39 (0, 0)) (by (with_reducible repeat apply dX); exact BK219.out) hb)
                have n3_ := am (bB (g := gb221) (o := .cells #[.int .i64 a0_0, .int .i64 a0_1, .int .i64 a0_2, .bool a0_3, u222004] 39 (0, 0)) (by (with_reducible repeat apply dX); exact BK221.out) hb)
                have n4_ := am (bT (by repeat (first | (with_reducible first | exact HB.out | apply bA | apply bN | apply bD | refine bS ?_ GE218.out | refine bS ?_ GE219.out | refine bS ?_ GE221.out) | exact HB.out)) hb)
                clear HO_222004
                clear BK218
                clear BK219
                clear BK221
                clear HB
                have HO_222004 := n0_
                have BK218 := n1_
                have BK219 := n2_
                have BK221 := n3_
                have HB := n4_
                clear n0_ n1_ n2_ n3_ n4_
                (try clear hb)
                (try clear hb2)
                (try clear hk)
                (try clear hi)
                refine hK.out _ _ ⟨(bC BK221.out 0).trans rfl, (bC BK221.out 1).trans rfl, (bC BK221.out 2).trans rfl, (bC BK221.out 3).trans rfl, (bC BK221.out 4).trans rfl, (bC BK218.out 0).trans rfl, (bC BK218.out 1).trans rfl, (bC BK218.out 2).trans rfl, (bC BK218.out 3).trans rfl⟩ (fun hHeld => ?_)
                clear hK K
                refine norm_ (a' := ?_) ?_ ?_
                rotate_left
                · show Act.put _ (some 25) _ = _
                  simp only [Act.put, List.setIfInBounds_toArray, List.set_cons_zero, List.set_cons_succ, i64_w, i32_w]
                  rfl
                refine pure_ (i := 7) (N := some 28) (v := ?_) (a' := ?_) #[true, true, true, true, true, true, true, true, false, false, false, false, false] rfl rfl (any_of HT_.out (by kernel_rfl)) (fun _ _ _ h => h) (Or.inl ⟨by rfl, ?_⟩) ?_ ?_
                rotate_left
                · intro w'
                  go_simp
                  with_reducible rfl
                rotate_left
                · simp only [Act.put, List.setIfInBounds_toArray, List.set_cons_zero, List.set_cons_succ, i64_w, i32_w]
                  rfl
                refine one_ (i := 8) (N := some 29) #[true, true, true, true, true, true, true, true, true, false, false, false, false] rfl rfl (one_of HT_.out (by kernel_rfl)) (by decide) (fun K hK => ?_)
                refine Kd.R_make_step (Kd.int .u16) _ 72 (by rfl) (N := 29) rfl 53 _ _ rfl ji17 rfl rfl Try.underlying53 (.int .u16 0) 2 info72 rfl (by decide) (by omega) 0 (ok := fun _ => True) (okp := fun _ => True) rfl (fun _ hk => hk) trivial (of_decide_eq_true (by first | (with_reducible assumption) | assumption)) (Nat.le_trans (Nat.mul_le_mul_right _ (of_decide_eq_true (by first | (with_reducible assumption) | assumption) : ji17.toNat ≤ 140737488355328)) (by omega)) (Below.refl _ _) (Nat.le_refl _) ?_
                intro v225 w27 ho28 hb hg_ hnew_
                clear hg_ hnew_
                (first | rw [← Ny224.out] at ho28 | (simp only [Int.reduceToNat] at ho28; rw [← Ny224.out] at ho28))
                have n0_ := am (Kd.S_elder' (by (with_reducible repeat (first | apply kA | apply kN | apply kD)); exact HO_222004.out) (Kd.R_base ho28) hb)
                have n1_ := am (Kd.R_lower ho28 (bU (by repeat (first | (with_reducible first | exact HB.out | apply bA | apply bN | apply bD | refine bS ?_ GE218.out | refine bS ?_ GE219.out | refine bS ?_ GE221.out) | exact HB.out))))
                have n2_ := am (bB (g := gb218) (o := .cells #[.int .i64 a0_0, .int .i64 a0_1, .int .i64 a0_2, .bool a0_3] 26 (0, 0)) (by (with_reducible repeat apply dX); exact BK218.out) hb)
                have n3_ := am (bB (g := gb219) (o := .cells #[.int .i64 0, .int .i64 0, .int .i64 0, .bool false, .slice none 0 0] 39 (0, 0)) (by (with_reducible repeat apply dX); exact BK219.out) hb)
                have n4_ := am (bB (g := gb221) (o := .cells #[.int .i64 a0_0, .int .i64 a0_1, .int .i64 a0_2, .bool a0_3, u222004] 39 (0, 0)) (by (with_reducible repeat apply dX); exact BK221.out) hb)
                have n5_ := am (bT (by repeat (first | (with_reducible first | exact HB.out | apply bA | apply bN | apply bD | refine bS ?_ GE218.out | refine bS ?_ GE219.out | refine bS ?_ GE221.out) | exact HB.out)) hb)
                clear HO_222004
                clear BK218
                clear BK219
                clear BK221
                clear HB
                have HO_222004 := n0_
                have HO226 := n1_
                have BK218 := n2_
                have BK219 := n3_
                have BK221 := n4_
                have HB := n5_
                clear n0_ n1_ n2_ n3_ n4_ n5_
                clear hb ho28
                obtain ⟨Ao30, co30, eo30⟩ := Kd.R_slice HO226.out
                (first | subst eo30 | (injection eo30 with f1_ f2_ f3_; have f4_ := f1_.symm; have f5_ := f3_.symm; clear f1_ f2_ f3_; subst f4_; subst f5_))
                refine hK.out _ _ ⟨(bC BK221.out 0).trans rfl, (bC BK221.out 1).trans rfl, (bC BK221.out 2).trans rfl, (bC BK221.out 3).trans rfl, (bC BK221.out 4).trans rfl, (bC BK218.out 0).trans rfl, (bC BK218.out 1).trans rfl, (bC BK218.out 2).trans rfl, (bC BK218.out 3).trans rfl⟩ (fun hHeld => ?_)
                clear hK K
                refine norm_ (a' := ?_) ?_ ?_
                rotate_left
                · show Act.put _ (some 29) _ = _
                  simp only [Act.put, List.setIfInBounds_toArray, List.set_cons_zero, List.set_cons_succ, i64_w, i32_w]
                  rfl
                refine one_ (i := 9) (N := some 30) #[true, true, true, true, true, true, true, true, true, true, false, false, false] rfl rfl (one_of HT_.out (by kernel_rfl)) (by decide) (fun K hK => ?_)
                refine value_ (w1 := ?_) (v := ?_) (by rfl) rfl ?_ ?_
                rotate_left 2
                · go_simp
                  constructor
                  · rfl
                  · rfl
                refine hK.out _ _ ⟨(bC (blk_alloc BK221.out _) 0).trans rfl, (bC (blk_alloc BK221.out _) 1).trans rfl, (bC (blk_alloc BK221.out _) 2).trans rfl, (bC (blk_alloc BK221.out _) 3).trans rfl, (bC (blk_alloc BK221.out _) 4).trans rfl, (bC (blk_alloc BK218.out _) 0).trans rfl, (bC (blk_alloc BK218.out _) 1).trans rfl, (bC (blk_alloc BK218.out _) 2).trans rfl, (bC (blk_alloc BK218.out _) 3).trans rfl⟩ (fun hHeld => ?_)
                clear hK K
                refine norm_ (a' := ?_) ?_ ?_
                rotate_left
                · show Act.put _ (some 30) _ = _
                  simp only [Act.put, List.setIfInBounds_toArray, List.set_cons_zero, List.set_cons_succ, i64_w, i32_w]
                  rfl
                refine one_ (i := 10) (N := some 31) #[true, true, true, true, true, true, true, true, true, true, true, false, false] rfl rfl (one_of HT_.out (by kernel_rfl)) (by decide) (fun K hK => ?_)
                refine Kd.S_append_step (Kd.slice 72 (Kd.int .u16)) (w0 := w) w.heap.size (by rfl) (.tmp 22) (.tmp 30) 37 53 (.slice none 0 0) 24 rfl Try.underlying37 info53 rfl (by decide) (by omega) u222004 x222004_1 y224 [.slice Ao30 y224.length co30] (fun _ => True) (fun k_ => some k_ = (.slice Ao30 y224.length co30 : Value).ownBlock) rfl rfl ?aP (fun k_ hk_ => ((Kd.R_mono (ok' := fun k_ => ((fun _ => True)) k_ ∧ some k_ ≠ (u222004 : Value).ownBlock) (Kd.R_apart' (HO226.out) (Kd.S_typed HO_222004.out) (by decide)) (fun k_ hk => ⟨trivial, hk.2⟩))).1 k_ hk_.symm) ?aF ?aO ?aB ?aS ?aL ?_
                (case aP => exact Kd.M_row (Kd.R_mono (Kd.R_tight rfl (Kd.R_mono (ok' := fun k_ => ((fun _ => True)) k_ ∧ some k_ ≠ (u222004 : Value).ownBlock) (Kd.R_apart' (HO226.out) (Kd.S_typed HO_222004.out) (by decide)) (fun k_ hk => ⟨trivial, hk.2⟩))) (fun _ h_ => h_)))
                (case aB => exact (by repeat (first | (with_reducible first | exact HB.out | apply bA | apply bN | apply bD | refine bS ?_ GE218.out | refine bS ?_ GE219.out | refine bS ?_ GE221.out) | exact HB.out)))
                (case aF => exact (fun _ _ => trivial))
                (case aO => exact (by (with_reducible repeat (first | apply kA | apply kN | apply kD)); exact Kd.S_mono HO_222004.out (fun k_ hk => ⟨trivial, fun e_ => hk.2 e_⟩)))
                (case aS => exact (bU (by repeat (first | (with_reducible first | exact HB.out | apply bA | apply bN | apply bD | refine bS ?_ GE218.out | refine bS ?_ GE219.out | refine bS ?_ GE221.out) | exact HB.out))))
                (case aL => have := LMc20.out; omega)
                intro v228 w29 ho hb hg hat
                rw [← Ny227.out] at ho
                have n0_ := am (blk_grown (g := gb218) (o := .cells #[.int .i64 a0_0, .int .i64 a0_1, .int .i64 a0_2, .bool a0_3] 26 (0, 0)) (by (with_reducible repeat apply dX); exact BK218.out) hg (Kd.S_ne HO_222004.out BK218.out (by decide)))
                have n1_ := am (blk_grown (g := gb219) (o := .cells #[.int .i64 0, .int .i64 0, .int .i64 0, .bool false, .slice none 0 0] 39 (0, 0)) (by (with_reducible repeat apply dX); exact BK219.out) hg (Kd.S_ne HO_222004.out BK219.out (by decide)))
                have n2_ := am (blk_grown (g := gb221) (o := .cells #[.int .i64 a0_0, .int .i64 a0_1, .int .i64 a0_2, .bool a0_3, u222004] 39 (0, 0)) (by (with_reducible repeat apply dX); exact BK221.out) hg (Kd.S_ne HO_222004.out BK221.out (by decide)))
                have n3_ := am (hb)
                have n4_ := am (ho)
                clear BK218
                clear BK219
                clear BK221
                clear HB
                clear HO_222004
                clear HO226
                have BK218 := n0_
                have BK219 := n1_
                have BK221 := n2_
                have HB := n3_
                have HO229 := n4_
                clear n0_ n1_ n2_ n3_ n4_
                clear ho hb hg hat
                obtain ⟨Ao31, co31, eo31⟩ := Kd.S_slice HO229.out
                (first | subst eo31 | (injection eo31 with f1_ f2_ f3_; have f4_ := f1_.symm; have f5_ := f3_.symm; clear f1_ f2_ f3_; subst f4_; subst f5_))
                refine hK.out _ _ ⟨(bC BK221.out 0).trans rfl, (bC BK221.out 1).trans rfl, (bC BK221.out 2).trans rfl, (bC BK221.out 3).trans rfl, (bC BK221.out 4).trans rfl, (bC BK218.out 0).trans rfl, (bC BK218.out 1).trans rfl, (bC BK218.out 2).trans rfl, (bC BK218.out 3).trans rfl⟩ (fun hHeld => ?_)
                clear hK K
                refine norm_ (a' := ?_) ?_ ?_
                rotate_left
                · show Act.put _ (some 31) _ = _
                  simp only [Act.put, List.setIfInBounds_toArray, List.set_cons_zero, List.set_cons_succ, i64_w, i32_w]
                  rfl
                refine pure_ (i := 11) (N := some 32) (v := ?_) (a' := ?_) #[true, true, true, true, true, true, true, true, true, true, true, true, false] rfl rfl (any_of HT_.out (by kernel_rfl)) (fun _ _ _ h => h) (Or.inl ⟨by rfl, ?_⟩) ?_ ?_
                rotate_left
                · intro w'
                  go_simp
                  with_reducible rfl
                rotate_left
                · simp only [Act.put, List.setIfInBounds_toArray, List.set_cons_zero, List.set_cons_succ, i64_w, i32_w]
                  rfl
                refine last_ (i := 12) (N := none) #[true, true, true, true, true, true, true, true, true, true, true, true, true] rfl rfl (one_of HT_.out (by kernel_rfl)) (by decide) (fun K hK => ?_)
                have hs32 : w29.cell? ⟨gb221, 4, none⟩ = some (u222004) := (bC BK221.out 4).trans rfl
                have hfs32 := bZ BK221.out 4
                have hns32_0 := NB218_221.out
                have hns32_1 := NB219_221.out
                have hms32_0 := NB221_218.out
                have hms32_1 := NB221_219.out
                refine skip_ (w1 := ?_) (by rfl) rfl ?_ ?_
                rotate_left
                · go_simp
                  rfl
                refine hK.out _ _ ?_
                clear hK K
                refine done_ (done_of HT_.out (by kernel_rfl)) ?_
                try go_wp2
                go_roundg k1
                case measure => have := HK1.out; omega
                case rel => exact ⟨(wrap64 (x6_1 + 1)), (y227), (.slice Ao31 y227.length co31), (by first | rfl | (simp; done) | (simp [*]; done)), H', ⟨by have := HK1.out; omega⟩, ⟨by (with_reducible repeat (first | apply kA | apply kN | apply kD)); exact Kd.S_mono (kF (p := ⟨gb221, 4, none⟩) (kT HO229.out BK221.out (by decide)) (fun _ hk => hk.2) (.slice Ao31 y227.length co31)) (fun _ hk => trivial)⟩, ⟨by (with_reducible repeat apply dX); refine bF ?_ NB218_221.out _; (with_reducible repeat apply dX); exact BK218.out⟩, ⟨by (with_reducible repeat apply dX); refine bF ?_ NB219_221.out _; (with_reducible repeat apply dX); exact BK219.out⟩, ⟨by (with_reducible repeat apply dX); refine bP (cs := #[.int .i64 a0_0, .int .i64 a0_1, .int .i64 a0_2, .bool a0_3, u222004]) ?_ 4 _ rfl; (with_reducible repeat apply dX); exact BK221.out⟩, ⟨by repeat (first | (with_reducible first | exact HB.out | apply bA | apply bN | apply bD | refine bS ?_ GE218.out | refine bS ?_ GE219.out | refine bS ?_ GE221.out) | exact HB.out)⟩⟩
              · rw [if_neg c20] at H
                exact absurd H (by simp)
            · rw [if_neg c19] at H
              exact absurd H (by simp)
          · rw [if_neg c18] at H
            exact absurd H (by simp)
        · rw [if_neg c15] at H
          have c15b0 : decide (x6_1 < t222) = false := decide_eq_false c15
          clear c15
          simp only [Option.some.injEq, Prod.mk.injEq] at H
          obtain ⟨rfl, rfl, rfl, rfl, rfl, rfl⟩ := H
          have hnb33 := NB218_219.out
          have hnc33 := NB219_218.out
          have hnb34 := NB218_221.out
          have hnc34 := NB221_218.out
          have hcz35_0 : wr.cell? ⟨gb218, 0, none⟩ = some (.int .i64 a0_0) := (bC BK218.out 0).trans rfl
          have hcz35_1 : wr.cell? ⟨gb218, 1, none⟩ = some (.int .i64 a0_1) := (bC BK218.out 1).trans rfl
          have hcz35_2 : wr.cell? ⟨gb218, 2, none⟩ = some (.int .i64 a0_2) := (bC BK218.out 2).trans rfl
          have hcz35_3 : wr.cell? ⟨gb218, 3, none⟩ = some (.bool a0_3) := (bC BK218.out 3).trans rfl
          have hfz35_0 := bZ BK218.out 0
          have hfz35_1 := bZ BK218.out 1
          have hfz35_2 := bZ BK218.out 2
          have hfz35_3 := bZ BK218.out 3
          go_wp2_with (first | ((with_reducible refine gate_callee (f := 60) rfl ?_); refine goesL_ (some 17) rfl rfl Try.func60 (by kernel_rfl) rfl #[.agg #[.int .i64 a0_0, .int .i64 a0_1, .int .i64 a0_2, .bool a0_3]] rfl (by (try simp only [List.map_toArray, List.map_cons, List.map_nil]); first | done | rfl | (simp only [List.length_drop, List.length_take]; rfl)) ?_; (with_reducible refine (dailiesref06_count.calls a0_0 a0_1 a0_2 a0_3 t222 _ A14.out).mono ?_); rintro e w36 ⟨rfl, hb⟩; refine ⟨_, rfl, ?_⟩; have n0_ := am (Kd.S_below (by (with_reducible repeat (first | apply kA | apply kN | apply kD)); exact HO_222004.out) hb); have n1_ := am (bB (g := gb218) (o := .cells #[.int .i64 a0_0, .int .i64 a0_1, .int .i64 a0_2, .bool a0_3] 26 (0, 0)) (by (with_reducible repeat apply dX); exact BK218.out) hb); have n2_ := am (bB (g := gb219) (o := .cells #[.int .i64 0, .int .i64 0, .int .i64 0, .bool false, .slice none 0 0] 39 (0, 0)) (by (with_reducible repeat apply dX); exact BK219.out) hb); have n3_ := am (bB (g := gb221) (o := .cells #[.int .i64 a0_0, .int .i64 a0_1, .int .i64 a0_2, .bool a0_3, u222004] 39 (0, 0)) (by (with_reducible repeat apply dX); exact BK221.out) hb); have n4_ := am (bT (by repeat (first | (with_reducible first | exact HB.out | apply bA | apply bN | apply bD | refine bS ?_ GE218.out | refine bS ?_ GE219.out | refine bS ?_ GE221.out) | exact HB.out)) hb); clear HO_222004; clear BK218; clear BK219; clear BK221; clear HB; have HO_222004 := n0_; have BK218 := n1_; have BK219 := n2_; have BK221 := n3_; have HB := n4_; clear n0_ n1_ n2_ n3_ n4_; (try clear hb); (try clear hb2); (try clear hk); (try clear hi); have hnb37 := NB221_219.out; have hnc37 := NB219_221.out; have hcz38_0 : w36.cell? ⟨gb221, 0, none⟩ = some (.int .i64 a0_0) := (bC BK221.out 0).trans rfl; have hcz38_1 : w36.cell? ⟨gb221, 1, none⟩ = some (.int .i64 a0_1) := (bC BK221.out 1).trans rfl; have hcz38_2 : w36.cell? ⟨gb221, 2, none⟩ = some (.int .i64 a0_2) := (bC BK221.out 2).trans rfl; have hcz38_3 : w36.cell? ⟨gb221, 3, none⟩ = some (.bool a0_3) := (bC BK221.out 3).trans rfl; have hcz38_4 : w36.cell? ⟨gb221, 4, none⟩ = some (u222004) := (bC BK221.out 4).trans rfl; have hfz38_0 := bZ BK221.out 0; have hfz38_1 := bZ BK221.out 1; have hfz38_2 := bZ BK221.out 2; have hfz38_3 := bZ BK221.out 3; have hfz38_4 := bZ BK221.out 4; have hcz39_0 : w36.cell? ⟨gb219, 0, none⟩ = some (.int .i64 0) := (bC BK219.out 0).trans rfl; have hcz39_1 : w36.cell? ⟨gb219, 1, none⟩ = some (.int .i64 0) := (bC BK219.out 1).trans rfl; have hcz39_2 : w36.cell? ⟨gb219, 2, none⟩ = some (.int .i64 0) := (bC BK219.out 2).trans rfl; have hcz39_3 : w36.cell? ⟨gb219, 3, none⟩ = some (.bool false) := (bC BK219.out 3).trans rfl; have hcz39_4 : w36.cell? ⟨gb219, 4, none⟩ = some (.slice none 0 0) := (bC BK219.out 4).trans rfl; have hfz39_0 := bZ BK219.out 0; have hfz39_1 := bZ BK219.out 1; have hfz39_2 := bZ BK219.out 2; have hfz39_3 := bZ BK219.out 3; have hfz39_4 := bZ BK219.out 4; obtain ⟨Ao40, co40, eo40⟩ := Kd.S_slice HO_222004.out; subst eo40))
          refine bodyPost_ret (results_ct rfl _ _ gb219 39 #[.int .i64 a0_0, .int .i64 a0_1, .int .i64 a0_2, .bool a0_3, .slice Ao40 x222004_1.length co40] (0, 0) _ rfl (by (with_reducible repeat apply dX); refine bP (cs := #[.int .i64 a0_0, .int .i64 a0_1, .int .i64 a0_2, .bool a0_3, .slice none 0 0]) ?_ 4 _ rfl; (with_reducible repeat apply dX); refine bP (cs := #[.int .i64 a0_0, .int .i64 a0_1, .int .i64 a0_2, .bool false, .slice none 0 0]) ?_ 3 _ rfl; (with_reducible repeat apply dX); refine bP (cs := #[.int .i64 a0_0, .int .i64 a0_1, .int .i64 0, .bool false, .slice none 0 0]) ?_ 2 _ rfl; (with_reducible repeat apply dX); refine bP (cs := #[.int .i64 a0_0, .int .i64 0, .int .i64 0, .bool false, .slice none 0 0]) ?_ 1 _ rfl; (with_reducible repeat apply dX); refine bP (cs := #[.int .i64 0, .int .i64 0, .int .i64 0, .bool false, .slice none 0 0]) ?_ 0 _ rfl; (with_reducible repeat apply dX); exact BK219.out) Try.underlying39 rfl (by kernel_rfl)) rfl ?_
          exact ⟨_, by first | rfl | (simp [errW_none, errW_some] <;> rfl) | (simp [*, errW_none, errW_some] <;> rfl), by (with_reducible repeat (first | apply kA | apply kN | apply kD)); exact Kd.S_mono (kF (p := ⟨gb219, 4, none⟩) (kF (p := ⟨gb219, 3, none⟩) (kF (p := ⟨gb219, 2, none⟩) (kF (p := ⟨gb219, 1, none⟩) (kF (p := ⟨gb219, 0, none⟩) (kT HO_222004.out BK219.out (by decide)) (fun _ hk => hk.2) (.int .i64 a0_0)) (fun _ hk => hk.2) (.int .i64 a0_1)) (fun _ hk => hk.2) (.int .i64 a0_2)) (fun _ hk => hk.2) (.bool a0_3)) (fun _ hk => hk.2) (.slice Ao40 x222004_1.length co40)) (fun _ hk => trivial), by repeat (first | (with_reducible first | exact HB.out | apply bA | apply bN | apply bD | refine bS ?_ GE218.out | refine bS ?_ GE219.out | refine bS ?_ GE221.out) | exact HB.out)⟩
  · rw [if_neg c3] at H
    have c3b0 : (t220 == 0) = false := beq_eq_false_iff_ne.mpr c3
    have c3b1 : (t220 != 0) = true := bne_iff_ne.mpr c3
    simp only [Option.some.injEq, Prod.mk.injEq] at H
    obtain ⟨rfl, rfl, rfl, rfl, rfl, rfl⟩ := H
    go_enter Try.func24, Try.ntmps24
    go_wp2_with (first | ((with_reducible refine gD (N := 1) rfl ?_); refine bE ?hg (N := 1) ?hd (cs := #[.int .i64 a0_0, .int .i64 a0_1, .int .i64 a0_2, .bool a0_3]) (t := 26) ?hr ?_; (case hd => rfl); (case hg => rfl); (case hr => first | (go_simp; done) | (go_simp; rfl)); intro gb218 hg w41 hbox hb; have n0_ := am (bT (by repeat (first | (with_reducible first | exact HB.out | apply bA | apply bN | apply bD) | exact HB.out)) hb); have n1_ := am (hbox); have n2_ := am ((by rw [hg]; exact (bU (by repeat (first | (with_reducible first | exact HB.out | apply bA | apply bN | apply bD) | exact HB.out))) : w.heap.size ≤ gb218)); have n3_ := am ((by rw [hg]; exact (bU (by repeat (first | (with_reducible first | exact HB.out | apply bA | apply bN | apply bD) | exact HB.out))) : w.heap.size ≤ gb218)); clear HB; have HB := n0_; have BK218 := n1_; have GW218 := n2_; have GE218 := n3_; clear n0_ n1_ n2_ n3_; clear hb hbox hg) | ((with_reducible refine gD (N := 2) rfl ?_); refine bE ?hg (N := 2) ?hd (cs := #[.int .i64 0, .int .i64 0, .int .i64 0, .bool false, .slice none 0 0]) (t := 39) ?hr ?_; (case hd => rfl); (case hg => rfl); (case hr => first | (go_simp; done) | (go_simp; rfl)); intro gb219 hg w42 hbox hb; have n0_ := am (bB (g := gb218) (o := .cells #[.int .i64 a0_0, .int .i64 a0_1, .int .i64 a0_2, .bool a0_3] 26 (0, 0)) (by (with_reducible repeat apply dX); exact BK218.out) hb); have n1_ := am (bT (by repeat (first | (with_reducible first | exact HB.out | apply bA | apply bN | apply bD | refine bS ?_ GE218.out) | exact HB.out)) hb); have n2_ := am (hbox); have n3_ := am ((by rw [hg]; exact (bU (by repeat (first | (with_reducible first | exact HB.out | apply bA | apply bN | apply bD | refine bS ?_ GE218.out) | exact HB.out))) : w.heap.size ≤ gb219)); have n4_ := am ((by rw [hg]; exact (bU (by repeat (first | (with_reducible first | exact HB.out | apply bA | apply bN | apply bD | refine bS ?_ GE218.out) | exact HB.out))) : w.heap.size ≤ gb219)); have n5_ := am ((by rw [hg]; exact nL (bL (g := gb218) (o := .cells #[.int .i64 a0_0, .int .i64 a0_1, .int .i64 a0_2, .bool a0_3] 26 (0, 0)) (by (with_reducible repeat apply dX); exact BK218.out)) : gb218 ≠ gb219)); have n6_ := am ((by rw [hg]; exact nG (bL (g := gb218) (o := .cells #[.int .i64 a0_0, .int .i64 a0_1, .int .i64 a0_2, .bool a0_3] 26 (0, 0)) (by (with_reducible repeat apply dX); exact BK218.out)) : gb219 ≠ gb218)); clear BK218; clear HB; have BK218 := n0_; have HB := n1_; have BK219 := n2_; have GW219 := n3_; have GE219 := n4_; have NB218_219 := n5_; have NB219_218 := n6_; clear n0_ n1_ n2_ n3_ n4_ n5_ n6_; clear hb hbox hg; have hnb43 := NB218_219.out; have hnc43 := NB219_218.out; have hcz44_0 : w42.cell? ⟨gb218, 0, none⟩ = some (.int .i64 a0_0) := (bC BK218.out 0).trans rfl; have hcz44_1 : w42.cell? ⟨gb218, 1, none⟩ = some (.int .i64 a0_1) := (bC BK218.out 1).trans rfl; have hcz44_2 : w42.cell? ⟨gb218, 2, none⟩ = some (.int .i64 a0_2) := (bC BK218.out 2).trans rfl; have hcz44_3 : w42.cell? ⟨gb218, 3, none⟩ = some (.bool a0_3) := (bC BK218.out 3).trans rfl; have hfz44_0 := bZ BK218.out 0; have hfz44_1 := bZ BK218.out 1; have hfz44_2 := bZ BK218.out 2; have hfz44_3 := bZ BK218.out 3) | ((with_reducible refine gate_callee (f := 22) rfl ?_); refine goesL_ (some 8) rfl rfl Try.func22 (by kernel_rfl) rfl #[.agg #[.int .i64 a0_0, .int .i64 a0_1, .int .i64 a0_2, .bool a0_3]] rfl (by (try simp only [List.map_toArray, List.map_cons, List.map_nil]); first | done | rfl | (simp only [List.length_drop, List.length_take]; rfl)) ?_; (with_reducible refine (dailiesref06_Shaped.calls k a0_0 a0_1 a0_2 a0_3 t220 _ A2.out).mono ?_); rintro e w45 ⟨rfl, hb⟩; refine ⟨_, rfl, ?_⟩; have n0_ := am (bB (g := gb218) (o := .cells #[.int .i64 a0_0, .int .i64 a0_1, .int .i64 a0_2, .bool a0_3] 26 (0, 0)) (by (with_reducible repeat apply dX); exact BK218.out) hb); have n1_ := am (bB (g := gb219) (o := .cells #[.int .i64 0, .int .i64 0, .int .i64 0, .bool false, .slice none 0 0] 39 (0, 0)) (by (with_reducible repeat apply dX); exact BK219.out) hb); have n2_ := am (bT (by repeat (first | (with_reducible first | exact HB.out | apply bA | apply bN | apply bD | refine bS ?_ GE218.out | refine bS ?_ GE219.out) | exact HB.out)) hb); clear BK218; clear BK219; clear HB; have BK218 := n0_; have BK219 := n1_; have HB := n2_; clear n0_ n1_ n2_; (try clear hb); (try clear hb2); (try clear hk); (try clear hi); have hcz46_0 : w45.cell? ⟨gb219, 0, none⟩ = some (.int .i64 0) := (bC BK219.out 0).trans rfl; have hcz46_1 : w45.cell? ⟨gb219, 1, none⟩ = some (.int .i64 0) := (bC BK219.out 1).trans rfl; have hcz46_2 : w45.cell? ⟨gb219, 2, none⟩ = some (.int .i64 0) := (bC BK219.out 2).trans rfl; have hcz46_3 : w45.cell? ⟨gb219, 3, none⟩ = some (.bool false) := (bC BK219.out 3).trans rfl; have hcz46_4 : w45.cell? ⟨gb219, 4, none⟩ = some (.slice none 0 0) := (bC BK219.out 4).trans rfl; have hfz46_0 := bZ BK219.out 0; have hfz46_1 := bZ BK219.out 1; have hfz46_2 := bZ BK219.out 2; have hfz46_3 := bZ BK219.out 3; have hfz46_4 := bZ BK219.out 4))
    refine bodyPost_ret (results_ct rfl _ _ gb219 39 #[.int .i64 0, .int .i64 0, .int .i64 0, .bool false, .slice none 0 0] (0, 0) _ rfl (by (with_reducible repeat apply dX); refine bP (cs := #[.int .i64 0, .int .i64 0, .int .i64 0, .bool false, .slice none 0 0]) ?_ 4 _ rfl; (with_reducible repeat apply dX); refine bP (cs := #[.int .i64 0, .int .i64 0, .int .i64 0, .bool false, .slice none 0 0]) ?_ 3 _ rfl; (with_reducible repeat apply dX); refine bP (cs := #[.int .i64 0, .int .i64 0, .int .i64 0, .bool false, .slice none 0 0]) ?_ 2 _ rfl; (with_reducible repeat apply dX); refine bP (cs := #[.int .i64 0, .int .i64 0, .int .i64 0, .bool false, .slice none 0 0]) ?_ 1 _ rfl; (with_reducible repeat apply dX); refine bP (cs := #[.int .i64 0, .int .i64 0, .int .i64 0, .bool false, .slice none 0 0]) ?_ 0 _ rfl; (with_reducible repeat apply dX); exact BK219.out) Try.underlying39 rfl (by kernel_rfl)) rfl ?_
    exact ⟨_, by first | rfl | (simp [errW_none, errW_some] <;> rfl) | (simp [*, errW_none, errW_some] <;> rfl), by first | exact Kd.S_nil _ _ _ _ _ | exact Kd.N_nil _ _ _ _ _ | exact Kd.V_nil _ _ _ _ _ | exact Kd.Q_nil _ _ _ _ _ | exact Kd.R_nil _ _ _ _ _, by repeat (first | (with_reducible first | exact HB.out | apply bA | apply bN | apply bD | refine bS ?_ GE218.out | refine bS ?_ GE219.out) | exact HB.out)⟩

end Go.Proofs.Ytdoikehkibefpaa.PPb
