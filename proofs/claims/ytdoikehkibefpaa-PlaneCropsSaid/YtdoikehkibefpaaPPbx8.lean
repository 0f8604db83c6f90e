-- Laid by a program of this session (wip/tools/prx.py), over the kit's printer of walks; Lean checks it.
import Derived.Test.YtdoikehkibefpaaPPbx0
import Derived.Test.YtdoikehkibefpaaPPbx2
namespace Go.Proofs.Ytdoikehkibefpaa.PPb
open Go.RowKit Go.Proofs.YtdoikehkibefpaaW.PrintWords Go.Proofs.YtdoikehkibefpaaW.PrintLast Go.Proofs.YtdoikehkibefpaaW.PrintMore
open Go.Proofs.YtdoikehkibefpaaW.PrintWords renaming blk_far → bF, below_set → bS, blk_frozen → bZ, below_alloc → bA, pw_below_drewN → bN, below_drew1 → bD, blk_below → bB, blk_cell → bC, blk_set → bs, blk_lt → bL, blk_put → bP, below_step → bT, below_size → bU, box_event → bE, gate_dst → gD
open Go.Proofs.YtdoikehkibefpaaW.PrintWords.Kd renaming S_far → kF, S_types → kT, S_alloc → kA, S_drewN → kN, S_drew → kD
set_option linter.unusedVariables false
set_option linter.unusedSimpArgs false

/-! ### dailieslaw06_sameBlock: function 36 -/
mutual
def dailieslaw06_sameBlock.j0 : Nat → Bool → Int → Int → List Int → Int → Int → List Int → Option (Bool)
 | 0, _, _, _, _, _, _, _ => none
 | k + 1, x26, x166000, x166001, x166002, x167000, x167001, x167002 => if x26 = true then (some false) else (dailieslaw06_sameBlock.l0 k 0 x166000 x166001 x166002 x167000 x167001 x167002)
def dailieslaw06_sameBlock.l0 : Nat → Int → Int → Int → List Int → Int → Int → List Int → Option (Bool)
 | 0, _, _, _, _, _, _, _ => none
 | k + 1, x5, x166000, x166001, x166002, x167000, x167001, x167002 => if x5 < (x166002.length : Int) then (if 0 ≤ x5 then (if x5 < (x167002.length : Int) then (if (rd x166002 x5) = (rd x167002 x5) then (dailieslaw06_sameBlock.l0 k (wrap64 (x5 + 1)) x166000 x166001 x166002 x167000 x167001 x167002) else (some false)) else (none)) else (none)) else (some true)
end
def dailieslaw06_sameBlock.f (k : Nat) (a0_0 : Int) (a0_1 : Int) (l0_2 : List Int) (a1_0 : Int) (a1_1 : Int) (l1_2 : List Int) : Option (Bool) := if a0_0 = a1_0 then (if a0_1 = a1_1 then (dailieslaw06_sameBlock.j0 k ((l0_2.length : Int) != (l1_2.length : Int)) a0_0 a0_1 l0_2 a1_0 a1_1 l1_2) else (dailieslaw06_sameBlock.j0 k true a0_0 a0_1 l0_2 a1_0 a1_1 l1_2)) else (dailieslaw06_sameBlock.j0 k true a0_0 a0_1 l0_2 a1_0 a1_1 l1_2)
theorem dailieslaw06_sameBlock.mono_l : ∀ k, (∀ y0 y1 y2 y3 y4 y5 y6, LeO (dailieslaw06_sameBlock.j0 k y0 y1 y2 y3 y4 y5 y6) (dailieslaw06_sameBlock.j0 (k + 1) y0 y1 y2 y3 y4 y5 y6)) ∧ (∀ y0 y1 y2 y3 y4 y5 y6, LeO (dailieslaw06_sameBlock.l0 k y0 y1 y2 y3 y4 y5 y6) (dailieslaw06_sameBlock.l0 (k + 1) y0 y1 y2 y3 y4 y5 y6))
 | 0 => ⟨fun _ _ _ _ _ _ _ r h => by simp [dailieslaw06_sameBlock.j0] at h, fun _ _ _ _ _ _ _ r h => by simp [dailieslaw06_sameBlock.l0] at h⟩
 | k + 1 => by
  obtain ⟨ih0, ih1⟩ := dailieslaw06_sameBlock.mono_l k
  refine ⟨?_, ?_⟩
  ·intro y0 y1 y2 y3 y4 y5 y6
   unfold dailieslaw06_sameBlock.j0
   repeat' first
   | (with_reducible exact ih0 _ _ _ _ _ _ _)
   | (with_reducible exact ih1 _ _ _ _ _ _ _)
   | (with_reducible exact LeO.refl _)
   | (with_reducible exact LeO.none _)
   | (with_reducible refine LeO.ite ?_ ?_)
   | (with_reducible refine LeO.bind ?_ (fun _ => ?_))
   | exact ih0 _ _ _ _ _ _ _
   | exact ih1 _ _ _ _ _ _ _
   | exact LeO.none _
   | refine LeO.ite ?_ ?_
   | refine LeO.bind ?_ (fun _ => ?_)
  ·intro y0 y1 y2 y3 y4 y5 y6
   unfold dailieslaw06_sameBlock.l0
   repeat' first
   | (with_reducible exact ih0 _ _ _ _ _ _ _)
   | (with_reducible exact ih1 _ _ _ _ _ _ _)
   | (with_reducible exact LeO.refl _)
   | (with_reducible exact LeO.none _)
   | (with_reducible refine LeO.ite ?_ ?_)
   | (with_reducible refine LeO.bind ?_ (fun _ => ?_))
   | exact ih0 _ _ _ _ _ _ _
   | exact ih1 _ _ _ _ _ _ _
   | exact LeO.none _
   | refine LeO.ite ?_ ?_
   | refine LeO.bind ?_ (fun _ => ?_)
theorem dailieslaw06_sameBlock.mono : ∀ a0 a1 a2 a3 a4 a5 k, LeO (dailieslaw06_sameBlock.f k a0 a1 a2 a3 a4 a5) (dailieslaw06_sameBlock.f (k + 1) a0 a1 a2 a3 a4 a5) := by
 intro a0 a1 a2 a3 a4 a5 k
 obtain ⟨ih0, ih1⟩ := dailieslaw06_sameBlock.mono_l k
 unfold dailieslaw06_sameBlock.f
 repeat' first
   | (with_reducible exact ih0 _ _ _ _ _ _ _)
   | (with_reducible exact ih1 _ _ _ _ _ _ _)
   | (with_reducible exact LeO.refl _)
   | (with_reducible exact LeO.none _)
   | (with_reducible refine LeO.ite ?_ ?_)
   | (with_reducible refine LeO.bind ?_ (fun _ => ?_))
   | exact ih0 _ _ _ _ _ _ _
   | exact ih1 _ _ _ _ _ _ _
   | exact LeO.none _
   | refine LeO.ite ?_ ?_
   | refine LeO.bind ?_ (fun _ => ?_)
set_option maxHeartbeats 8000000 in
set_option maxRecDepth 100000 in
theorem dailieslaw06_sameBlock.calls (k : Nat) (a0_0 : Int) (a0_1 : Int) (A0_2 : Option Addr) (c0_2 : Nat) (l0_2 : List Int) (a1_0 : Int) (a1_1 : Int) (A1_2 : Option Addr) (c1_2 : Nat) (l1_2 : List Int) (r : Bool) (w : World) (hr0_2 : Kd.C (Kd.int .u16) w A0_2 l0_2.length l0_2) (hc0_2 : l0_2.length ≤ c0_2) (hr1_2 : Kd.C (Kd.int .u16) w A1_2 l1_2.length l1_2) (hc1_2 : l1_2.length ≤ c1_2) (h : dailieslaw06_sameBlock.f k a0_0 a0_1 l0_2 a1_0 a1_1 l1_2 = some r) :
  Calls Try.prog 36 #[.agg #[.int .i64 a0_0, .int .i64 a0_1, .slice A0_2 l0_2.length c0_2], .agg #[.int .i64 a1_0, .int .i64 a1_1, .slice A1_2 l1_2.length c1_2]] w fun e w' => e = .returned (.bool r) ∧ Below w.heap.size w w' := by
 have hu55 := Try.underlying55
 have HR0_2 := am hr0_2
 have HC0_2 := am hc0_2
 clear hr0_2 hc0_2
 have HR1_2 := am hr1_2
 have HC1_2 := am hc1_2
 clear hr1_2 hc1_2
 have HB := am (Below.refl w.heap.size w)
 have H : (if a0_0 = a1_0 then (if a0_1 = a1_1 then (dailieslaw06_sameBlock.j0 k ((l0_2.length : Int) != (l1_2.length : Int)) a0_0 a0_1 l0_2 a1_0 a1_1 l1_2) else (dailieslaw06_sameBlock.j0 k true a0_0 a0_1 l0_2 a1_0 a1_1 l1_2)) else (dailieslaw06_sameBlock.j0 k true a0_0 a0_1 l0_2 a1_0 a1_1 l1_2)) = some r := h
 clear h
 have HC3 := am H
 clear H
 go_enter Try.func36, Try.ntmps36
 go_upto_region 1 with (first | ((with_reducible refine gD (N := 2) rfl ?_); (try (refine gate_guard (by rfl) ?_; dsimp only)); refine bE ?hg (N := 2) ?hd (cs := #[.int .i64 a0_0, .int .i64 a0_1, .slice A0_2 l0_2.length c0_2]) (t := 55) ?hr ?_; (case hd => rfl); (case hg => rfl); (case hr => first | (go_simp; done) | (go_simp; rfl)); intro gb165 hg w4 hbox hb; have n0_ := am (bT (by repeat (first | (with_reducible first | exact HB.out | apply bA | apply bN | apply bD) | exact HB.out)) hb); have n1_ := am (hbox); have n2_ := am ((by rw [hg]; exact (bU (by repeat (first | (with_reducible first | exact HB.out | apply bA | apply bN | apply bD) | exact HB.out))) : w.heap.size ≤ gb165)); have n3_ := am ((by rw [hg]; exact (bU (by repeat (first | (with_reducible first | exact HB.out | apply bA | apply bN | apply bD) | exact HB.out))) : w.heap.size ≤ gb165)); clear HB; have HB := n0_; have BK165 := n1_; have GW165 := n2_; have GE165 := n3_; clear n0_ n1_ n2_ n3_; clear hb hbox hg) | ((with_reducible refine gD (N := 3) rfl ?_); (try (refine gate_guard (by rfl) ?_; dsimp only)); refine bE ?hg (N := 3) ?hd (cs := #[.int .i64 a1_0, .int .i64 a1_1, .slice A1_2 l1_2.length c1_2]) (t := 55) ?hr ?_; (case hd => rfl); (case hg => rfl); (case hr => first | (go_simp; done) | (go_simp; rfl)); intro gb166 hg w5 hbox hb; have n0_ := am (bB (g := gb165) (o := .cells #[.int .i64 a0_0, .int .i64 a0_1, .slice A0_2 l0_2.length c0_2] 55 (0, 0)) (by (with_reducible repeat apply dX); exact BK165.out) hb); have n1_ := am (bT (by repeat (first | (with_reducible first | exact HB.out | apply bA | apply bN | apply bD | refine bS ?_ GE165.out) | exact HB.out)) hb); have n2_ := am (hbox); have n3_ := am ((by rw [hg]; exact (bU (by repeat (first | (with_reducible first | exact HB.out | apply bA | apply bN | apply bD | refine bS ?_ GE165.out) | exact HB.out))) : w.heap.size ≤ gb166)); have n4_ := am ((by rw [hg]; exact (bU (by repeat (first | (with_reducible first | exact HB.out | apply bA | apply bN | apply bD | refine bS ?_ GE165.out) | exact HB.out))) : w.heap.size ≤ gb166)); have n5_ := am ((by rw [hg]; exact nL (bL (g := gb165) (o := .cells #[.int .i64 a0_0, .int .i64 a0_1, .slice A0_2 l0_2.length c0_2] 55 (0, 0)) (by (with_reducible repeat apply dX); exact BK165.out)) : gb165 ≠ gb166)); have n6_ := am ((by rw [hg]; exact nG (bL (g := gb165) (o := .cells #[.int .i64 a0_0, .int .i64 a0_1, .slice A0_2 l0_2.length c0_2] 55 (0, 0)) (by (with_reducible repeat apply dX); exact BK165.out)) : gb166 ≠ gb165)); clear BK165; clear HB; have BK165 := n0_; have HB := n1_; have BK166 := n2_; have GW166 := n3_; have GE166 := n4_; have NB165_166 := n5_; have NB166_165 := n6_; clear n0_ n1_ n2_ n3_ n4_ n5_ n6_; clear hb hbox hg))
 repeat (go_quiet (first | ((with_reducible refine gD (N := 2) rfl ?_); (try (refine gate_guard (by rfl) ?_; dsimp only)); refine bE ?hg (N := 2) ?hd (cs := #[.int .i64 a0_0, .int .i64 a0_1, .slice A0_2 l0_2.length c0_2]) (t := 55) ?hr ?_; (case hd => rfl); (case hg => rfl); (case hr => first | (go_simp; done) | (go_simp; rfl)); intro gb165 hg w4 hbox hb; have n0_ := am (bT (by repeat (first | (with_reducible first | exact HB.out | apply bA | apply bN | apply bD) | exact HB.out)) hb); have n1_ := am (hbox); have n2_ := am ((by rw [hg]; exact (bU (by repeat (first | (with_reducible first | exact HB.out | apply bA | apply bN | apply bD) | exact HB.out))) : w.heap.size ≤ gb165)); have n3_ := am ((by rw [hg]; exact (bU (by repeat (first | (with_reducible first | exact HB.out | apply bA | apply bN | apply bD) | exact HB.out))) : w.heap.size ≤ gb165)); clear HB; have HB := n0_; have BK165 := n1_; have GW165 := n2_; have GE165 := n3_; clear n0_ n1_ n2_ n3_; clear hb hbox hg) | ((with_reducible refine gD (N := 3) rfl ?_); (try (refine gate_guard (by rfl) ?_; dsimp only)); refine bE ?hg (N := 3) ?hd (cs := #[.int .i64 a1_0, .int .i64 a1_1, .slice A1_2 l1_2.length c1_2]) (t := 55) ?hr ?_; (case hd => rfl); (case hg => rfl); (case hr => first | (go_simp; done) | (go_simp; rfl)); intro gb166 hg w5 hbox hb; have n0_ := am (bB (g := gb165) (o := .cells #[.int .i64 a0_0, .int .i64 a0_1, .slice A0_2 l0_2.length c0_2] 55 (0, 0)) (by (with_reducible repeat apply dX); exact BK165.out) hb); have n1_ := am (bT (by repeat (first | (with_reducible first | exact HB.out | apply bA | apply bN | apply bD | refine bS ?_ GE165.out) | exact HB.out)) hb); have n2_ := am (hbox); have n3_ := am ((by rw [hg]; exact (bU (by repeat (first | (with_reducible first | exact HB.out | apply bA | apply bN | apply bD | refine bS ?_ GE165.out) | exact HB.out))) : w.heap.size ≤ gb166)); have n4_ := am ((by rw [hg]; exact (bU (by repeat (first | (with_reducible first | exact HB.out | apply bA | apply bN | apply bD | refine bS ?_ GE165.out) | exact HB.out))) : w.heap.size ≤ gb166)); have n5_ := am ((by rw [hg]; exact nL (bL (g := gb165) (o := .cells #[.int .i64 a0_0, .int .i64 a0_1, .slice A0_2 l0_2.length c0_2] 55 (0, 0)) (by (with_reducible repeat apply dX); exact BK165.out)) : gb165 ≠ gb166)); have n6_ := am ((by rw [hg]; exact nG (bL (g := gb165) (o := .cells #[.int .i64 a0_0, .int .i64 a0_1, .slice A0_2 l0_2.length c0_2] 55 (0, 0)) (by (with_reducible repeat apply dX); exact BK165.out)) : gb166 ≠ gb165)); clear BK165; clear HB; have BK165 := n0_; have HB := n1_; have BK166 := n2_; have GW166 := n3_; have GE166 := n4_; have NB165_166 := n5_; have NB166_165 := n6_; clear n0_ n1_ n2_ n3_ n4_ n5_ n6_; clear hb hbox hg)); go_upto_region 1 with (first | ((with_reducible refine gD (N := 2) rfl ?_); (try (refine gate_guard (by rfl) ?_; dsimp only)); refine bE ?hg (N := 2) ?hd (cs := #[.int .i64 a0_0, .int .i64 a0_1, .slice A0_2 l0_2.length c0_2]) (t := 55) ?hr ?_; (case hd => rfl); (case hg => rfl); (case hr => first | (go_simp; done) | (go_simp; rfl)); intro gb165 hg w4 hbox hb; have n0_ := am (bT (by repeat (first | (with_reducible first | exact HB.out | apply bA | apply bN | apply bD) | exact HB.out)) hb); have n1_ := am (hbox); have n2_ := am ((by rw [hg]; exact (bU (by repeat (first | (with_reducible first | exact HB.out | apply bA | apply bN | apply bD) | exact HB.out))) : w.heap.size ≤ gb165)); have n3_ := am ((by rw [hg]; exact (bU (by repeat (first | (with_reducible first | exact HB.out | apply bA | apply bN | apply bD) | exact HB.out))) : w.heap.size ≤ gb165)); clear HB; have HB := n0_; have BK165 := n1_; have GW165 := n2_; have GE165 := n3_; clear n0_ n1_ n2_ n3_; clear hb hbox hg) | ((with_reducible refine gD (N := 3) rfl ?_); (try (refine gate_guard (by rfl) ?_; dsimp only)); refine bE ?hg (N := 3) ?hd (cs := #[.int .i64 a1_0, .int .i64 a1_1, .slice A1_2 l1_2.length c1_2]) (t := 55) ?hr ?_; (case hd => rfl); (case hg => rfl); (case hr => first | (go_simp; done) | (go_simp; rfl)); intro gb166 hg w5 hbox hb; have n0_ := am (bB (g := gb165) (o := .cells #[.int .i64 a0_0, .int .i64 a0_1, .slice A0_2 l0_2.length c0_2] 55 (0, 0)) (by (with_reducible repeat apply dX); exact BK165.out) hb); have n1_ := am (bT (by repeat (first | (with_reducible first | exact HB.out | apply bA | apply bN | apply bD | refine bS ?_ GE165.out) | exact HB.out)) hb); have n2_ := am (hbox); have n3_ := am ((by rw [hg]; exact (bU (by repeat (first | (with_reducible first | exact HB.out | apply bA | apply bN | apply bD | refine bS ?_ GE165.out) | exact HB.out))) : w.heap.size ≤ gb166)); have n4_ := am ((by rw [hg]; exact (bU (by repeat (first | (with_reducible first | exact HB.out | apply bA | apply bN | apply bD | refine bS ?_ GE165.out) | exact HB.out))) : w.heap.size ≤ gb166)); have n5_ := am ((by rw [hg]; exact nL (bL (g := gb165) (o := .cells #[.int .i64 a0_0, .int .i64 a0_1, .slice A0_2 l0_2.length c0_2] 55 (0, 0)) (by (with_reducible repeat apply dX); exact BK165.out)) : gb165 ≠ gb166)); have n6_ := am ((by rw [hg]; exact nG (bL (g := gb165) (o := .cells #[.int .i64 a0_0, .int .i64 a0_1, .slice A0_2 l0_2.length c0_2] 55 (0, 0)) (by (with_reducible repeat apply dX); exact BK165.out)) : gb166 ≠ gb165)); clear BK165; clear HB; have BK165 := n0_; have HB := n1_; have BK166 := n2_; have GW166 := n3_; have GE166 := n4_; have NB165_166 := n5_; have NB166_165 := n6_; clear n0_ n1_ n2_ n3_ n4_ n5_ n6_; clear hb hbox hg)))
 (try simp only [Act.put, List.setIfInBounds_toArray, List.set_cons_zero, List.set_cons_succ])
 go_cut [26] (fun v26 wc => ∃ (kq : Nat) (x26_2 : Bool), v26 = .bool x26_2 ∧ Aside0 (dailieslaw06_sameBlock.j0 kq x26_2 a0_0 a0_1 l0_2 a1_0 a1_1 l1_2 = some r) ∧ Aside0 (kq ≤ k) ∧ Aside0 (wc.heap[gb165]? = some (.cells #[.int .i64 a0_0, .int .i64 a0_1, (.slice A0_2 l0_2.length c0_2)] 55 (0, 0))) ∧ Aside0 (wc.heap[gb166]? = some (.cells #[.int .i64 a1_0, .int .i64 a1_1, (.slice A1_2 l1_2.length c1_2)] 55 (0, 0))) ∧ Aside0 (Below w.heap.size w wc))
 case first =>
  have H := HC3.out
  clear HC3
  by_cases c6 : a0_0 = a1_0
  ·rw [if_pos c6] at H
   have c6b0 : (a0_0 == a1_0) = true := beq_iff_eq.mpr c6
   have c6b1 : (a0_0 != a1_0) = false := bne_eq_false_iff_eq.mpr c6
   clear c6
   (first | rw [c6b0] | (simp only [i64_w, i32_w]; rw [c6b0]) | skip)
   by_cases c7 : a0_1 = a1_1
   ·rw [if_pos c7] at H
    have c7b0 : (a0_1 == a1_1) = true := beq_iff_eq.mpr c7
    have c7b1 : (a0_1 != a1_1) = false := bne_eq_false_iff_eq.mpr c7
    clear c7
    have H' := am H
    clear H
    have hnb8 := NB165_166.out
    have hnc8 := NB166_165.out
    have hcz9_0 : w5.cell? ⟨gb165, 0, none⟩ = some (.int .i64 a0_0) := (bC BK165.out 0).trans rfl
    have hcz9_1 : w5.cell? ⟨gb165, 1, none⟩ = some (.int .i64 a0_1) := (bC BK165.out 1).trans rfl
    have hcz9_2 : w5.cell? ⟨gb165, 2, none⟩ = some (.slice A0_2 l0_2.length c0_2) := (bC BK165.out 2).trans rfl
    have hfz9_0 := bZ BK165.out 0
    have hfz9_1 := bZ BK165.out 1
    have hfz9_2 := bZ BK165.out 2
    have hcz10_0 : w5.cell? ⟨gb166, 0, none⟩ = some (.int .i64 a1_0) := (bC BK166.out 0).trans rfl
    have hcz10_1 : w5.cell? ⟨gb166, 1, none⟩ = some (.int .i64 a1_1) := (bC BK166.out 1).trans rfl
    have hcz10_2 : w5.cell? ⟨gb166, 2, none⟩ = some (.slice A1_2 l1_2.length c1_2) := (bC BK166.out 2).trans rfl
    have hfz10_0 := bZ BK166.out 0
    have hfz10_1 := bZ BK166.out 1
    have hfz10_2 := bZ BK166.out 2
    go_wp2
    repeat (go_quiet (fail); try go_wp2)
    go_meet
    case rel => exact ⟨_, (((l0_2.length : Int) != (l1_2.length : Int))), (by first | rfl | (simp; done) | (simp [*]; done)), H', ⟨by first | omega | exact Nat.le_refl _⟩, ⟨by (with_reducible repeat apply dX); exact BK165.out⟩, ⟨by (with_reducible repeat apply dX); exact BK166.out⟩, ⟨by repeat (first | (with_reducible first | exact HB.out | apply bA | apply bN | apply bD | refine bS ?_ GE165.out | refine bS ?_ GE166.out) | exact HB.out)⟩⟩
   ·rw [if_neg c7] at H
    have c7b0 : (a0_1 == a1_1) = false := beq_eq_false_iff_ne.mpr c7
    have c7b1 : (a0_1 != a1_1) = true := bne_iff_ne.mpr c7
    have H' := am H
    clear H
    have hnb11 := NB165_166.out
    have hnc11 := NB166_165.out
    have hcz12_0 : w5.cell? ⟨gb165, 0, none⟩ = some (.int .i64 a0_0) := (bC BK165.out 0).trans rfl
    have hcz12_1 : w5.cell? ⟨gb165, 1, none⟩ = some (.int .i64 a0_1) := (bC BK165.out 1).trans rfl
    have hcz12_2 : w5.cell? ⟨gb165, 2, none⟩ = some (.slice A0_2 l0_2.length c0_2) := (bC BK165.out 2).trans rfl
    have hfz12_0 := bZ BK165.out 0
    have hfz12_1 := bZ BK165.out 1
    have hfz12_2 := bZ BK165.out 2
    have hcz13_0 : w5.cell? ⟨gb166, 0, none⟩ = some (.int .i64 a1_0) := (bC BK166.out 0).trans rfl
    have hcz13_1 : w5.cell? ⟨gb166, 1, none⟩ = some (.int .i64 a1_1) := (bC BK166.out 1).trans rfl
    have hcz13_2 : w5.cell? ⟨gb166, 2, none⟩ = some (.slice A1_2 l1_2.length c1_2) := (bC BK166.out 2).trans rfl
    have hfz13_0 := bZ BK166.out 0
    have hfz13_1 := bZ BK166.out 1
    have hfz13_2 := bZ BK166.out 2
    go_wp2
    repeat (go_quiet (fail); try go_wp2)
    go_meet
    case rel => exact ⟨_, (true), (by first | rfl | (simp; done) | (simp [*]; done)), H', ⟨by first | omega | exact Nat.le_refl _⟩, ⟨by (with_reducible repeat apply dX); exact BK165.out⟩, ⟨by (with_reducible repeat apply dX); exact BK166.out⟩, ⟨by repeat (first | (with_reducible first | exact HB.out | apply bA | apply bN | apply bD | refine bS ?_ GE165.out | refine bS ?_ GE166.out) | exact HB.out)⟩⟩
  ·rw [if_neg c6] at H
   have c6b0 : (a0_0 == a1_0) = false := beq_eq_false_iff_ne.mpr c6
   have c6b1 : (a0_0 != a1_0) = true := bne_iff_ne.mpr c6
   (first | rw [c6b0] | (simp only [i64_w, i32_w]; rw [c6b0]) | skip)
   have H' := am H
   clear H
   have hnb14 := NB165_166.out
   have hnc14 := NB166_165.out
   have hcz15_0 : w5.cell? ⟨gb165, 0, none⟩ = some (.int .i64 a0_0) := (bC BK165.out 0).trans rfl
   have hcz15_1 : w5.cell? ⟨gb165, 1, none⟩ = some (.int .i64 a0_1) := (bC BK165.out 1).trans rfl
   have hcz15_2 : w5.cell? ⟨gb165, 2, none⟩ = some (.slice A0_2 l0_2.length c0_2) := (bC BK165.out 2).trans rfl
   have hfz15_0 := bZ BK165.out 0
   have hfz15_1 := bZ BK165.out 1
   have hfz15_2 := bZ BK165.out 2
   have hcz16_0 : w5.cell? ⟨gb166, 0, none⟩ = some (.int .i64 a1_0) := (bC BK166.out 0).trans rfl
   have hcz16_1 : w5.cell? ⟨gb166, 1, none⟩ = some (.int .i64 a1_1) := (bC BK166.out 1).trans rfl
   have hcz16_2 : w5.cell? ⟨gb166, 2, none⟩ = some (.slice A1_2 l1_2.length c1_2) := (bC BK166.out 2).trans rfl
   have hfz16_0 := bZ BK166.out 0
   have hfz16_1 := bZ BK166.out 1
   have hfz16_2 := bZ BK166.out 2
   go_wp2
   repeat (go_quiet (fail); try go_wp2)
   go_meet
   case rel => exact ⟨_, (true), (by first | rfl | (simp; done) | (simp [*]; done)), H', ⟨by first | omega | exact Nat.le_refl _⟩, ⟨by (with_reducible repeat apply dX); exact BK165.out⟩, ⟨by (with_reducible repeat apply dX); exact BK166.out⟩, ⟨by repeat (first | (with_reducible first | exact HB.out | apply bA | apply bN | apply bD | refine bS ?_ GE165.out | refine bS ?_ GE166.out) | exact HB.out)⟩⟩
 case rest =>
  clear HC3
  try clear c1
  try clear p2
  try clear c3
  try clear c6
  try clear c6b0
  try clear c6b1
  try clear c7
  try clear c7b0
  try clear c7b1
  try clear c8
  try clear c11
  try clear c14
  try clear hcz10_0
  try clear hcz10_1
  try clear hcz10_2
  try clear hcz12_0
  try clear hcz12_1
  try clear hcz12_2
  try clear hcz13_0
  try clear hcz13_1
  try clear hcz13_2
  try clear hcz15_0
  try clear hcz15_1
  try clear hcz15_2
  try clear hcz16_0
  try clear hcz16_1
  try clear hcz16_2
  try clear hcz9_0
  try clear hcz9_1
  try clear hcz9_2
  try clear hfz10_0
  try clear hfz10_1
  try clear hfz10_2
  try clear hfz12_0
  try clear hfz12_1
  try clear hfz12_2
  try clear hfz13_0
  try clear hfz13_1
  try clear hfz13_2
  try clear hfz15_0
  try clear hfz15_1
  try clear hfz15_2
  try clear hfz16_0
  try clear hfz16_1
  try clear hfz16_2
  try clear hfz9_0
  try clear hfz9_1
  try clear hfz9_2
  obtain ⟨kq, x26_2, rfl, HA, HJ2, BK165, BK166, HB⟩ := hcut
  cases kq with
  | zero => exact absurd HA.out (by simp [dailieslaw06_sameBlock.j0])
  | succ kj2 =>
   have H := HA.out
   clear HA
   simp only [dailieslaw06_sameBlock.j0] at H
   by_cases c17 : x26_2 = true
   ·subst c17
    have H1 : (some false) = some r := by rw [if_pos rfl] at H; exact H
    clear H
    have H := H1
    clear H1
    obtain rfl := Option.some.inj H
    go_wp2
    repeat (go_quiet (fail); try go_wp2)
    go_ret
    exact ⟨by first | rfl | (simp [errW_none, errW_some] <;> rfl) | (simp [*, errW_none, errW_some] <;> rfl), by repeat (first | (with_reducible first | exact HB.out | apply bA | apply bN | apply bD | refine bS ?_ GE165.out | refine bS ?_ GE166.out) | exact HB.out)⟩
   ·replace c17 := Bool.eq_false_iff.mpr c17
    subst c17
    have H1 : (dailieslaw06_sameBlock.l0 kj2 0 a0_0 a0_1 l0_2 a1_0 a1_1 l1_2) = some r := by rw [if_neg (show ¬ (false = true) by decide)] at H; exact H
    clear H
    have H := H1
    clear H1
    have H' := am H
    clear H
    go_wp2
    repeat (go_quiet (fail); try go_wp2)
    go_loopg [5] kj2 (fun kq v5 w' => ∃ (x5_2 : Int), v5 = .int .i64 x5_2 ∧ Aside0 (dailieslaw06_sameBlock.l0 kq x5_2 a0_0 a0_1 l0_2 a1_0 a1_1 l1_2 = some r) ∧ Aside0 (kq ≤ kj2) ∧ Aside0 (w'.heap[gb165]? = some (.cells #[.int .i64 a0_0, .int .i64 a0_1, (.slice A0_2 l0_2.length c0_2)] 55 (0, 0))) ∧ Aside0 (w'.heap[gb166]? = some (.cells #[.int .i64 a1_0, .int .i64 a1_1, (.slice A1_2 l1_2.length c1_2)] 55 (0, 0))) ∧ Aside0 (Below w.heap.size w w'))
    case atStart => exact ⟨(0), (by first | rfl | (simp; done) | (simp [*]; done)), H', ⟨Nat.le_refl _⟩, ⟨by (with_reducible repeat apply dX); exact BK165.out⟩, ⟨by (with_reducible repeat apply dX); exact BK166.out⟩, ⟨by repeat (first | (with_reducible first | exact HB.out | apply bA | apply bN | apply bD | refine bS ?_ GE165.out | refine bS ?_ GE166.out) | exact HB.out)⟩⟩
    case round =>
     clear H'
     try clear c1
     try clear p2
     try clear c3
     try clear c6
     try clear c6b0
     try clear c6b1
     try clear c7
     try clear c7b0
     try clear c7b1
     try clear c8
     try clear c11
     try clear c14
     try clear c17
     try clear hcz10_0
     try clear hcz10_1
     try clear hcz10_2
     try clear hcz12_0
     try clear hcz12_1
     try clear hcz12_2
     try clear hcz13_0
     try clear hcz13_1
     try clear hcz13_2
     try clear hcz15_0
     try clear hcz15_1
     try clear hcz15_2
     try clear hcz16_0
     try clear hcz16_1
     try clear hcz16_2
     try clear hcz9_0
     try clear hcz9_1
     try clear hcz9_2
     try clear hfz10_0
     try clear hfz10_1
     try clear hfz10_2
     try clear hfz12_0
     try clear hfz12_1
     try clear hfz12_2
     try clear hfz13_0
     try clear hfz13_1
     try clear hfz13_2
     try clear hfz15_0
     try clear hfz15_1
     try clear hfz15_2
     try clear hfz16_0
     try clear hfz16_1
     try clear hfz16_2
     try clear hfz9_0
     try clear hfz9_1
     try clear hfz9_2
     try clear p2
     obtain ⟨x5_2, rfl, HA, HK2, BK165, BK166, HB⟩ := hrel
     cases gk with
     | zero => exact absurd HA.out (by simp [dailieslaw06_sameBlock.l0])
     | succ k2 =>
      have H := HA.out
      clear HA
      simp only [dailieslaw06_sameBlock.l0] at H
      by_cases c18 : x5_2 < (l0_2.length : Int)
      ·rw [if_pos c18] at H
       have c18b0 : decide (x5_2 < (l0_2.length : Int)) = true := decide_eq_true c18
       clear c18
       by_cases c19 : 0 ≤ x5_2
       ·rw [if_pos c19] at H
        have c19b0 : decide (0 ≤ x5_2) = true := decide_eq_true c19
        clear c19
        by_cases c20 : x5_2 < (l1_2.length : Int)
        ·rw [if_pos c20] at H
         have c20b0 : decide (x5_2 < (l1_2.length : Int)) = true := decide_eq_true c20
         clear c20
         by_cases c21 : (rd l0_2 x5_2) = (rd l1_2 x5_2)
         ·rw [if_pos c21] at H
          have c21b0 : ((rd l0_2 x5_2) == (rd l1_2 x5_2)) = true := beq_iff_eq.mpr c21
          have c21b1 : ((rd l0_2 x5_2) != (rd l1_2 x5_2)) = false := bne_eq_false_iff_eq.mpr c21
          clear c21
          have H' := am H
          clear H
          have hnb22 := NB165_166.out
          have hnc22 := NB166_165.out
          have hcz23_0 : wr.cell? ⟨gb165, 0, none⟩ = some (.int .i64 a0_0) := (bC BK165.out 0).trans rfl
          have hcz23_1 : wr.cell? ⟨gb165, 1, none⟩ = some (.int .i64 a0_1) := (bC BK165.out 1).trans rfl
          have hcz23_2 : wr.cell? ⟨gb165, 2, none⟩ = some (.slice A0_2 l0_2.length c0_2) := (bC BK165.out 2).trans rfl
          have hfz23_0 := bZ BK165.out 0
          have hfz23_1 := bZ BK165.out 1
          have hfz23_2 := bZ BK165.out 2
          have p167 : 0 ≤ (x5_2 : Int) := of_decide_eq_true (by first | (with_reducible assumption) | assumption)
          have q167 : x5_2 < (l0_2.length : Int) := of_decide_eq_true (by first | (with_reducible assumption) | assumption)
          obtain ⟨ad167, e167, hx167_0⟩ := Kd.at_int HR0_2.out x5_2 p167 q167
          cases e167
          replace hx167_0 := (HB.out.cell (World.block_lt_of_cell? w _ hx167_0)).trans hx167_0
          replace p167 := eq_true p167
          replace q167 := eq_true q167
          have hcz24_0 : wr.cell? ⟨gb166, 0, none⟩ = some (.int .i64 a1_0) := (bC BK166.out 0).trans rfl
          have hcz24_1 : wr.cell? ⟨gb166, 1, none⟩ = some (.int .i64 a1_1) := (bC BK166.out 1).trans rfl
          have hcz24_2 : wr.cell? ⟨gb166, 2, none⟩ = some (.slice A1_2 l1_2.length c1_2) := (bC BK166.out 2).trans rfl
          have hfz24_0 := bZ BK166.out 0
          have hfz24_1 := bZ BK166.out 1
          have hfz24_2 := bZ BK166.out 2
          have p168 : 0 ≤ (x5_2 : Int) := of_decide_eq_true (by first | (with_reducible assumption) | assumption)
          have q168 : x5_2 < (l1_2.length : Int) := of_decide_eq_true (by first | (with_reducible assumption) | assumption)
          obtain ⟨ad168, e168, hx168_0⟩ := Kd.at_int HR1_2.out x5_2 p168 q168
          cases e168
          replace hx168_0 := (HB.out.cell (World.block_lt_of_cell? w _ hx168_0)).trans hx168_0
          replace p168 := eq_true p168
          replace q168 := eq_true q168
          go_wp2
          repeat (go_quiet (fail); try go_wp2)
          go_roundg k2
          case measure => have := HJ2.out; have := HK2.out; omega
          case rel => exact ⟨(wrap64 (x5_2 + 1)), (by first | rfl | (simp; done) | (simp [*]; done)), H', ⟨by have := HJ2.out; have := HK2.out; omega⟩, ⟨by (with_reducible repeat apply dX); exact BK165.out⟩, ⟨by (with_reducible repeat apply dX); exact BK166.out⟩, ⟨by repeat (first | (with_reducible first | exact HB.out | apply bA | apply bN | apply bD | refine bS ?_ GE165.out | refine bS ?_ GE166.out) | exact HB.out)⟩⟩
         ·rw [if_neg c21] at H
          have c21b0 : ((rd l0_2 x5_2) == (rd l1_2 x5_2)) = false := beq_eq_false_iff_ne.mpr c21
          have c21b1 : ((rd l0_2 x5_2) != (rd l1_2 x5_2)) = true := bne_iff_ne.mpr c21
          obtain rfl := Option.some.inj H
          have hnb25 := NB165_166.out
          have hnc25 := NB166_165.out
          have hcz26_0 : wr.cell? ⟨gb165, 0, none⟩ = some (.int .i64 a0_0) := (bC BK165.out 0).trans rfl
          have hcz26_1 : wr.cell? ⟨gb165, 1, none⟩ = some (.int .i64 a0_1) := (bC BK165.out 1).trans rfl
          have hcz26_2 : wr.cell? ⟨gb165, 2, none⟩ = some (.slice A0_2 l0_2.length c0_2) := (bC BK165.out 2).trans rfl
          have hfz26_0 := bZ BK165.out 0
          have hfz26_1 := bZ BK165.out 1
          have hfz26_2 := bZ BK165.out 2
          have p167 : 0 ≤ (x5_2 : Int) := of_decide_eq_true (by first | (with_reducible assumption) | assumption)
          have q167 : x5_2 < (l0_2.length : Int) := of_decide_eq_true (by first | (with_reducible assumption) | assumption)
          obtain ⟨ad167, e167, hx167_0⟩ := Kd.at_int HR0_2.out x5_2 p167 q167
          cases e167
          replace hx167_0 := (HB.out.cell (World.block_lt_of_cell? w _ hx167_0)).trans hx167_0
          replace p167 := eq_true p167
          replace q167 := eq_true q167
          have hcz27_0 : wr.cell? ⟨gb166, 0, none⟩ = some (.int .i64 a1_0) := (bC BK166.out 0).trans rfl
          have hcz27_1 : wr.cell? ⟨gb166, 1, none⟩ = some (.int .i64 a1_1) := (bC BK166.out 1).trans rfl
          have hcz27_2 : wr.cell? ⟨gb166, 2, none⟩ = some (.slice A1_2 l1_2.length c1_2) := (bC BK166.out 2).trans rfl
          have hfz27_0 := bZ BK166.out 0
          have hfz27_1 := bZ BK166.out 1
          have hfz27_2 := bZ BK166.out 2
          have p168 : 0 ≤ (x5_2 : Int) := of_decide_eq_true (by first | (with_reducible assumption) | assumption)
          have q168 : x5_2 < (l1_2.length : Int) := of_decide_eq_true (by first | (with_reducible assumption) | assumption)
          obtain ⟨ad168, e168, hx168_0⟩ := Kd.at_int HR1_2.out x5_2 p168 q168
          cases e168
          replace hx168_0 := (HB.out.cell (World.block_lt_of_cell? w _ hx168_0)).trans hx168_0
          replace p168 := eq_true p168
          replace q168 := eq_true q168
          go_wp2
          repeat (go_quiet (fail); try go_wp2)
          go_ret
          exact ⟨by first | rfl | (simp [errW_none, errW_some] <;> rfl) | (simp [*, errW_none, errW_some] <;> rfl), by repeat (first | (with_reducible first | exact HB.out | apply bA | apply bN | apply bD | refine bS ?_ GE165.out | refine bS ?_ GE166.out) | exact HB.out)⟩
        ·rw [if_neg c20] at H
         exact absurd H (by simp)
       ·rw [if_neg c19] at H
        exact absurd H (by simp)
      ·rw [if_neg c18] at H
       have c18b0 : decide (x5_2 < (l0_2.length : Int)) = false := decide_eq_false c18
       clear c18
       obtain rfl := Option.some.inj H
       have hnb28 := NB165_166.out
       have hnc28 := NB166_165.out
       have hcz29_0 : wr.cell? ⟨gb165, 0, none⟩ = some (.int .i64 a0_0) := (bC BK165.out 0).trans rfl
       have hcz29_1 : wr.cell? ⟨gb165, 1, none⟩ = some (.int .i64 a0_1) := (bC BK165.out 1).trans rfl
       have hcz29_2 : wr.cell? ⟨gb165, 2, none⟩ = some (.slice A0_2 l0_2.length c0_2) := (bC BK165.out 2).trans rfl
       have hfz29_0 := bZ BK165.out 0
       have hfz29_1 := bZ BK165.out 1
       have hfz29_2 := bZ BK165.out 2
       go_wp2
       repeat (go_quiet (fail); try go_wp2)
       go_ret
       exact ⟨by first | rfl | (simp [errW_none, errW_some] <;> rfl) | (simp [*, errW_none, errW_some] <;> rfl), by repeat (first | (with_reducible first | exact HB.out | apply bA | apply bN | apply bD | refine bS ?_ GE165.out | refine bS ?_ GE166.out) | exact HB.out)⟩

/-! ### dailieslaw06_place: function 34 -/
def dailieslaw06_place.f (a0 : Int) (a1 : Int) : Option (Int) := if a0 < 0 then (if a1 = 0 then (none) else (some (Int.tmod (wrap64 (-(wrap64 (a0 + 1)))) a1))) else (if a1 = 0 then (none) else (some (Int.tmod a0 a1)))
set_option maxHeartbeats 8000000 in
set_option maxRecDepth 100000 in
theorem dailieslaw06_place.calls (a0 : Int) (a1 : Int) (r : Int) (w : World) (h : dailieslaw06_place.f a0 a1 = some r) :
  Calls Try.prog 34 #[.int .i64 a0, .int .i64 a1] w fun e w' => e = .returned (.int .i64 r) ∧ Drawn0 w w' := by
 have H : (if a0 < 0 then (if a1 = 0 then (none) else (some (Int.tmod (wrap64 (-(wrap64 (a0 + 1)))) a1))) else (if a1 = 0 then (none) else (some (Int.tmod a0 a1)))) = some r := h
 clear h
 by_cases c3 : a0 < 0
 ·rw [if_pos c3] at H
  have c3b0 : decide (a0 < 0) = true := decide_eq_true c3
  clear c3
  by_cases c4 : a1 = 0
  ·rw [if_pos c4] at H
   exact absurd H (by simp)
  ·rw [if_neg c4] at H
   have c4b0 : (a1 == 0) = false := beq_eq_false_iff_ne.mpr c4
   have c4b1 : (a1 != 0) = true := bne_iff_ne.mpr c4
   obtain rfl := Option.some.inj H
   go_enter Try.func34, Try.ntmps34
   go_wp2
   go_ret
   exact ⟨by first | rfl | (simp; done) | (simp [*]; done), by repeat (first | exact Drawn0.refl _ | apply Drawn0.step)⟩
 ·rw [if_neg c3] at H
  have c3b0 : decide (a0 < 0) = false := decide_eq_false c3
  clear c3
  by_cases c5 : a1 = 0
  ·rw [if_pos c5] at H
   exact absurd H (by simp)
  ·rw [if_neg c5] at H
   have c5b0 : (a1 == 0) = false := beq_eq_false_iff_ne.mpr c5
   have c5b1 : (a1 != 0) = true := bne_iff_ne.mpr c5
   obtain rfl := Option.some.inj H
   go_enter Try.func34, Try.ntmps34
   go_wp2
   go_ret
   exact ⟨by first | rfl | (simp; done) | (simp [*]; done), by repeat (first | exact Drawn0.refl _ | apply Drawn0.step)⟩

-- NOT PRINTED: function 73 (slices_EqualFunc_uint16_uint16_uint16_uint16)

/-! ### plane_Same: function 47 -/

def plane_Same.f (a0_0 : Int) (a0_1 : Int) (a0_2 : Int) (a0_3 : Bool) (l0_4 : List (List Int)) (a1_0 : Int) (a1_1 : Int) (a1_2 : Int) (a1_3 : Bool) (l1_4 : List (List Int)) : Option (Bool) := some (sameF a0_0 a0_1 a0_2 a0_3 l0_4 a1_0 a1_1 a1_2 a1_3 l1_4)
theorem plane_Same.calls (a0_0 : Int) (a0_1 : Int) (a0_2 : Int) (a0_3 : Bool) (A0_4 : Option Addr) (c0_4 : Nat) (l0_4 : List (List Int)) (a1_0 : Int) (a1_1 : Int) (a1_2 : Int) (a1_3 : Bool) (A1_4 : Option Addr) (c1_4 : Nat) (l1_4 : List (List Int)) (r : Bool) (w : World) (hr0_4 : Kd.C (Kd.slice 72 (Kd.int .u16)) w A0_4 l0_4.length l0_4) (hc0_4 : l0_4.length ≤ c0_4) (hr1_4 : Kd.C (Kd.slice 72 (Kd.int .u16)) w A1_4 l1_4.length l1_4) (hc1_4 : l1_4.length ≤ c1_4) (h : plane_Same.f a0_0 a0_1 a0_2 a0_3 l0_4 a1_0 a1_1 a1_2 a1_3 l1_4 = some r) :
  Calls Try.prog 47 #[.agg #[.int .i64 a0_0, .int .i64 a0_1, .int .i64 a0_2, .bool a0_3, .slice A0_4 l0_4.length c0_4], .agg #[.int .i64 a1_0, .int .i64 a1_1, .int .i64 a1_2, .bool a1_3, .slice A1_4 l1_4.length c1_4]] w fun e w' => e = .returned (.bool r) ∧ Below w.heap.size w w' := by
 injection h with h
 subst h
 exact same_ok a0_0 a0_1 a0_2 a0_3 A0_4 c0_4 l0_4 a1_0 a1_1 a1_2 a1_3 A1_4 c1_4 l1_4 w hr0_4 hr1_4

/-! ### dailieslaw06_part: function 51 -/

def dailieslaw06_part.f (a0 : Int) (a1 : Int) (a2 : Int) (a3 : Int) : Option (Int × Int × Int × Int) := if (1 ≤ a0 ∧ a0 ≤ 4096) ∧ (1 ≤ a1 ∧ a1 ≤ 4096) ∧ in64 a2 ∧ in64 a3 then some (partV a0 a1 a2 a3) else none
theorem dailieslaw06_part.calls (a0 : Int) (a1 : Int) (a2 : Int) (a3 : Int) (r1 : Int) (r2 : Int) (r3 : Int) (r4 : Int) (w : World) (h : dailieslaw06_part.f a0 a1 a2 a3 = some (r1, r2, r3, r4)) :
  Calls Try.prog 51 #[.int .i64 a0, .int .i64 a1, .int .i64 a2, .int .i64 a3] w fun e w' => e = .returned (.agg #[.int .i64 r1, .int .i64 r2, .int .i64 r3, .int .i64 r4]) ∧ Below w.heap.size w w' := by
 unfold dailieslaw06_part.f at h
 split at h
 ·rename_i hc
  injection h with h
  exact part_ok a0 a1 a2 a3 r1 r2 r3 r4 w hc.1 hc.2.1 hc.2.2.1 hc.2.2.2 h
 ·cases h

/-! ### dailieslaw06_whole: function 46 -/

def dailieslaw06_whole.f (a0_0 : Int) (a0_1 : Int) (a0_2 : Int) (a0_3 : Bool) (a1 : Int) (a2 : Int) : Option (Int × Int × Int × Int) := if (1 ≤ a0_0 ∧ a0_0 ≤ 4096) ∧ (1 ≤ a0_1 ∧ a0_1 ≤ 4096) ∧ in64 a1 ∧ in64 a2 then some (wholeV a0_0 a0_1 a1 a2) else none
theorem dailieslaw06_whole.calls (a0_0 : Int) (a0_1 : Int) (a0_2 : Int) (a0_3 : Bool) (a1 : Int) (a2 : Int) (r1 : Int) (r2 : Int) (r3 : Int) (r4 : Int) (w : World) (h : dailieslaw06_whole.f a0_0 a0_1 a0_2 a0_3 a1 a2 = some (r1, r2, r3, r4)) :
  Calls Try.prog 46 #[.agg #[.int .i64 a0_0, .int .i64 a0_1, .int .i64 a0_2, .bool a0_3], .int .i64 a1, .int .i64 a2] w fun e w' => e = .returned (.agg #[.int .i64 r1, .int .i64 r2, .int .i64 r3, .int .i64 r4]) ∧ Below w.heap.size w w' := by
 unfold dailieslaw06_whole.f at h
 split at h
 ·rename_i hc
  injection h with h
  exact whole_ok a0_0 a0_1 a0_2 a0_3 a1 a2 r1 r2 r3 r4 w hc.1 hc.2.1 hc.2.2.1 hc.2.2.2 h
 ·cases h

/-! ### plane_Samples: function 20 -/
def plane_Samples.f (k : Nat) (a0_0 : Int) (a0_1 : Int) (a0_2 : Int) (a0_3 : Bool) : Option (Int × Int) := (plane_Shaped.f k a0_0 a0_1 a0_2 a0_3).bind fun t170 => (if t170 = 0 then ((plane_total.f k a0_0 a0_1 a0_2 a0_3).bind fun t171 => (some (t171, 0))) else (some (0, t170)))
theorem plane_Samples.mono : ∀ a0 a1 a2 a3 k, LeO (plane_Samples.f k a0 a1 a2 a3) (plane_Samples.f (k + 1) a0 a1 a2 a3) := by
 intro a0 a1 a2 a3 k
 unfold plane_Samples.f
 repeat' first
   | (with_reducible exact plane_Shaped.mono _ _ _ _ _)
   | (with_reducible exact plane_total.mono _ _ _ _ _)
   | (with_reducible exact LeO.refl _)
   | (with_reducible exact LeO.none _)
   | (with_reducible refine LeO.ite ?_ ?_)
   | (with_reducible refine LeO.bind ?_ (fun _ => ?_))
   | exact plane_Shaped.mono _ _ _ _ _
   | exact plane_total.mono _ _ _ _ _
   | exact LeO.none _
   | refine LeO.ite ?_ ?_
   | refine LeO.bind ?_ (fun _ => ?_)
set_option maxHeartbeats 8000000 in
set_option maxRecDepth 100000 in
theorem plane_Samples.calls (k : Nat) (a0_0 : Int) (a0_1 : Int) (a0_2 : Int) (a0_3 : Bool) (r1 : Int) (r2 : Int) (w : World) (h : plane_Samples.f k a0_0 a0_1 a0_2 a0_3 = some (r1, r2)) :
  Calls Try.prog 20 #[.agg #[.int .i64 a0_0, .int .i64 a0_1, .int .i64 a0_2, .bool a0_3]] w fun e w' => e = .returned (.tuple #[.int .i64 r1, .int .i64 r2]) ∧ Below w.heap.size w w' := by
 have hu26 := Try.underlying26
 have HB := am (Below.refl w.heap.size w)
 have H : ((plane_Shaped.f k a0_0 a0_1 a0_2 a0_3).bind fun t170 => (if t170 = 0 then ((plane_total.f k a0_0 a0_1 a0_2 a0_3).bind fun t171 => (some (t171, 0))) else (some (0, t170)))) = some (r1, r2) := h
 clear h
 replace H := Option.bind_eq_some_iff.mp H
 obtain ⟨t170, A20, H⟩ := H
 replace H : (if t170 = 0 then ((plane_total.f k a0_0 a0_1 a0_2 a0_3).bind fun t171 => (some (t171, 0))) else (some (0, t170))) = some (r1, r2) := H
 have A2 := am A20
 clear A20
 by_cases c3 : t170 = 0
 ·rw [if_pos c3] at H
  have c3b0 : (t170 == 0) = true := beq_iff_eq.mpr c3
  have c3b1 : (t170 != 0) = false := bne_eq_false_iff_eq.mpr c3
  clear c3
  replace H := Option.bind_eq_some_iff.mp H
  obtain ⟨t171, A40, H⟩ := H
  replace H : (some (t171, 0)) = some (r1, r2) := H
  have A4 := am A40
  clear A40
  simp only [Option.some.injEq, Prod.mk.injEq] at H
  obtain ⟨rfl, rfl⟩ := H
  go_enter Try.func20, Try.ntmps20
  go_wp2_with (first | ((with_reducible refine gD (N := 1) rfl ?_); refine bE ?hg (N := 1) ?hd (cs := #[.int .i64 a0_0, .int .i64 a0_1, .int .i64 a0_2, .bool a0_3]) (t := 26) ?hr ?_; (case hd => rfl); (case hg => rfl); (case hr => first | (go_simp; done) | (go_simp; rfl)); intro gb169 hg w5 hbox hb; have n0_ := am (bT (by repeat (first | (with_reducible first | exact HB.out | apply bA | apply bN | apply bD) | exact HB.out)) hb); have n1_ := am (hbox); have n2_ := am ((by rw [hg]; exact (bU (by repeat (first | (with_reducible first | exact HB.out | apply bA | apply bN | apply bD) | exact HB.out))) : w.heap.size ≤ gb169)); have n3_ := am ((by rw [hg]; exact (bU (by repeat (first | (with_reducible first | exact HB.out | apply bA | apply bN | apply bD) | exact HB.out))) : w.heap.size ≤ gb169)); clear HB; have HB := n0_; have BK169 := n1_; have GW169 := n2_; have GE169 := n3_; clear n0_ n1_ n2_ n3_; clear hb hbox hg; have hcz6_0 : w5.cell? ⟨gb169, 0, none⟩ = some (.int .i64 a0_0) := (bC BK169.out 0).trans rfl; have hcz6_1 : w5.cell? ⟨gb169, 1, none⟩ = some (.int .i64 a0_1) := (bC BK169.out 1).trans rfl; have hcz6_2 : w5.cell? ⟨gb169, 2, none⟩ = some (.int .i64 a0_2) := (bC BK169.out 2).trans rfl; have hcz6_3 : w5.cell? ⟨gb169, 3, none⟩ = some (.bool a0_3) := (bC BK169.out 3).trans rfl; have hfz6_0 := bZ BK169.out 0; have hfz6_1 := bZ BK169.out 1; have hfz6_2 := bZ BK169.out 2; have hfz6_3 := bZ BK169.out 3) | ((with_reducible refine gate_callee (f := 17) rfl ?_); refine goesL_ (some 6) rfl rfl Try.func17 (by kernel_rfl) rfl #[.agg #[.int .i64 a0_0, .int .i64 a0_1, .int .i64 a0_2, .bool a0_3]] rfl (by (try simp only [List.map_toArray, List.map_cons, List.map_nil]); first | done | rfl | (simp only [List.length_drop, List.length_take]; rfl)) ?_; (with_reducible refine (plane_Shaped.calls k a0_0 a0_1 a0_2 a0_3 t170 _ A2.out).mono ?_); rintro e w7 ⟨rfl, hb⟩; refine ⟨_, rfl, ?_⟩; have n0_ := am (bB (g := gb169) (o := .cells #[.int .i64 a0_0, .int .i64 a0_1, .int .i64 a0_2, .bool a0_3] 26 (0, 0)) (by (with_reducible repeat apply dX); exact BK169.out) hb); have n1_ := am (bT (by repeat (first | (with_reducible first | exact HB.out | apply bA | apply bN | apply bD | refine bS ?_ GE169.out) | exact HB.out)) hb); clear BK169; clear HB; have BK169 := n0_; have HB := n1_; clear n0_ n1_; (try clear hb); (try clear hb2); (try clear hk); (try clear hi); have hcz8_0 : w7.cell? ⟨gb169, 0, none⟩ = some (.int .i64 a0_0) := (bC BK169.out 0).trans rfl; have hcz8_1 : w7.cell? ⟨gb169, 1, none⟩ = some (.int .i64 a0_1) := (bC BK169.out 1).trans rfl; have hcz8_2 : w7.cell? ⟨gb169, 2, none⟩ = some (.int .i64 a0_2) := (bC BK169.out 2).trans rfl; have hcz8_3 : w7.cell? ⟨gb169, 3, none⟩ = some (.bool a0_3) := (bC BK169.out 3).trans rfl; have hfz8_0 := bZ BK169.out 0; have hfz8_1 := bZ BK169.out 1; have hfz8_2 := bZ BK169.out 2; have hfz8_3 := bZ BK169.out 3) | ((with_reducible refine gate_callee (f := 53) rfl ?_); refine goesL_ (some 11) rfl rfl Try.func53 (by kernel_rfl) rfl #[.agg #[.int .i64 a0_0, .int .i64 a0_1, .int .i64 a0_2, .bool a0_3]] rfl (by (try simp only [List.map_toArray, List.map_cons, List.map_nil]); first | done | rfl | (simp only [List.length_drop, List.length_take]; rfl)) ?_; (with_reducible refine (plane_total.calls k a0_0 a0_1 a0_2 a0_3 t171 _ A4.out).mono ?_); rintro e w9 ⟨rfl, hb⟩; refine ⟨_, rfl, ?_⟩; have n0_ := am (bB (g := gb169) (o := .cells #[.int .i64 a0_0, .int .i64 a0_1, .int .i64 a0_2, .bool a0_3] 26 (0, 0)) (by (with_reducible repeat apply dX); exact BK169.out) hb); have n1_ := am (bT (by repeat (first | (with_reducible first | exact HB.out | apply bA | apply bN | apply bD | refine bS ?_ GE169.out) | exact HB.out)) hb); clear BK169; clear HB; have BK169 := n0_; have HB := n1_; clear n0_ n1_; (try clear hb); (try clear hb2); (try clear hk); (try clear hi)))
  go_ret2
  exact ⟨by first | rfl | (simp [errW_none, errW_some] <;> rfl) | (simp [*, errW_none, errW_some] <;> rfl), by repeat (first | (with_reducible first | exact HB.out | apply bA | apply bN | apply bD | refine bS ?_ GE169.out) | exact HB.out)⟩
 ·rw [if_neg c3] at H
  have c3b0 : (t170 == 0) = false := beq_eq_false_iff_ne.mpr c3
  have c3b1 : (t170 != 0) = true := bne_iff_ne.mpr c3
  simp only [Option.some.injEq, Prod.mk.injEq] at H
  obtain ⟨rfl, rfl⟩ := H
  go_enter Try.func20, Try.ntmps20
  go_wp2_with (first | ((with_reducible refine gD (N := 1) rfl ?_); refine bE ?hg (N := 1) ?hd (cs := #[.int .i64 a0_0, .int .i64 a0_1, .int .i64 a0_2, .bool a0_3]) (t := 26) ?hr ?_; (case hd => rfl); (case hg => rfl); (case hr => first | (go_simp; done) | (go_simp; rfl)); intro gb169 hg w10 hbox hb; have n0_ := am (bT (by repeat (first | (with_reducible first | exact HB.out | apply bA | apply bN | apply bD) | exact HB.out)) hb); have n1_ := am (hbox); have n2_ := am ((by rw [hg]; exact (bU (by repeat (first | (with_reducible first | exact HB.out | apply bA | apply bN | apply bD) | exact HB.out))) : w.heap.size ≤ gb169)); have n3_ := am ((by rw [hg]; exact (bU (by repeat (first | (with_reducible first | exact HB.out | apply bA | apply bN | apply bD) | exact HB.out))) : w.heap.size ≤ gb169)); clear HB; have HB := n0_; have BK169 := n1_; have GW169 := n2_; have GE169 := n3_; clear n0_ n1_ n2_ n3_; clear hb hbox hg; have hcz11_0 : w10.cell? ⟨gb169, 0, none⟩ = some (.int .i64 a0_0) := (bC BK169.out 0).trans rfl; have hcz11_1 : w10.cell? ⟨gb169, 1, none⟩ = some (.int .i64 a0_1) := (bC BK169.out 1).trans rfl; have hcz11_2 : w10.cell? ⟨gb169, 2, none⟩ = some (.int .i64 a0_2) := (bC BK169.out 2).trans rfl; have hcz11_3 : w10.cell? ⟨gb169, 3, none⟩ = some (.bool a0_3) := (bC BK169.out 3).trans rfl; have hfz11_0 := bZ BK169.out 0; have hfz11_1 := bZ BK169.out 1; have hfz11_2 := bZ BK169.out 2; have hfz11_3 := bZ BK169.out 3) | ((with_reducible refine gate_callee (f := 17) rfl ?_); refine goesL_ (some 6) rfl rfl Try.func17 (by kernel_rfl) rfl #[.agg #[.int .i64 a0_0, .int .i64 a0_1, .int .i64 a0_2, .bool a0_3]] rfl (by (try simp only [List.map_toArray, List.map_cons, List.map_nil]); first | done | rfl | (simp only [List.length_drop, List.length_take]; rfl)) ?_; (with_reducible refine (plane_Shaped.calls k a0_0 a0_1 a0_2 a0_3 t170 _ A2.out).mono ?_); rintro e w12 ⟨rfl, hb⟩; refine ⟨_, rfl, ?_⟩; have n0_ := am (bB (g := gb169) (o := .cells #[.int .i64 a0_0, .int .i64 a0_1, .int .i64 a0_2, .bool a0_3] 26 (0, 0)) (by (with_reducible repeat apply dX); exact BK169.out) hb); have n1_ := am (bT (by repeat (first | (with_reducible first | exact HB.out | apply bA | apply bN | apply bD | refine bS ?_ GE169.out) | exact HB.out)) hb); clear BK169; clear HB; have BK169 := n0_; have HB := n1_; clear n0_ n1_; (try clear hb); (try clear hb2); (try clear hk); (try clear hi)))
  go_ret2
  exact ⟨by first | rfl | (simp [errW_none, errW_some] <;> rfl) | (simp [*, errW_none, errW_some] <;> rfl), by repeat (first | (with_reducible first | exact HB.out | apply bA | apply bN | apply bD | refine bS ?_ GE169.out) | exact HB.out)⟩

end Go.Proofs.Ytdoikehkibefpaa.PPb
