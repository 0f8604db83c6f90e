-- Laid by a program of this session (wip/tools/prx.py), over the kit's printer of walks; Lean checks it.
import Derived.Test.YtdoikehkibefpaaPPbx0
import Derived.Test.YtdoikehkibefpaaPPbx2
import Derived.Test.YtdoikehkibefpaaPPbx3
import Derived.Test.YtdoikehkibefpaaPPbx6
namespace Go.Proofs.Ytdoikehkibefpaa.PPb
open Go.RowKit Go.Proofs.YtdoikehkibefpaaW.PrintWords Go.Proofs.YtdoikehkibefpaaW.PrintLast Go.Proofs.YtdoikehkibefpaaW.PrintMore
open Go.Proofs.YtdoikehkibefpaaW.PrintWords renaming blk_far → bF, below_set → bS, blk_frozen → bZ, below_alloc → bA, pw_below_drewN → bN, below_drew1 → bD, blk_below → bB, blk_cell → bC, blk_set → bs, blk_lt → bL, blk_put → bP, below_step → bT, below_size → bU, box_event → bE, gate_dst → gD
open Go.Proofs.YtdoikehkibefpaaW.PrintWords.Kd renaming S_far → kF, S_types → kT, S_alloc → kA, S_drewN → kN, S_drew → kD
set_option linter.unusedVariables false
set_option linter.unusedSimpArgs false

/-! ### plane_Crop: function 33 -/
def plane_Crop.j0 : Nat → Int → Bool → Int → Int → Int → Bool → List (List Int) → Int → Int → Int → Int → Option (Int × Int × List Int × Int)
 | 0, _, _, _, _, _, _, _, _, _, _, _ => none
 | k + 1, x1, x31, x154000, x154001, x154002, x154003, x154004, x155000, x155001, x155002, x155003 => if x31 = true then (some (0, 0, ([] : List Int), 65)) else (if 0 ≤ x1 then (if x1 < (x154004.length : Int) then ((plane_width.f x154000 x154001 x154002 x154003 x1).bind fun t161 => ((plane_taken.f k (rd_L1 x154004 x1) t161 x155000 x155001 x155002 x155003).bind fun t162 => (some (x155002, x155003, t162, 0)))) else (none)) else (none))
def plane_Crop.f (k : Nat) (a0_0 : Int) (a0_1 : Int) (a0_2 : Int) (a0_3 : Bool) (l0_4 : List (List Int)) (a1 : Int) (a2_0 : Int) (a2_1 : Int) (a2_2 : Int) (a2_3 : Int) : Option (Int × Int × List Int × Int) := (plane_Valid.f k a0_0 a0_1 a0_2 a0_3 l0_4).bind fun t156 => (if t156 = 0 then ((plane_there.f a0_0 a0_1 a0_2 a0_3 a1).bind fun t157 => (if t157 = true then ((plane_width.f a0_0 a0_1 a0_2 a0_3 a1).bind fun t158 => ((plane_lies.f a2_0 a2_1 a2_2 a2_3 t158 a0_1).bind fun t159 => (plane_Crop.j0 k a1 (!t159) a0_0 a0_1 a0_2 a0_3 l0_4 a2_0 a2_1 a2_2 a2_3))) else (plane_Crop.j0 k a1 true a0_0 a0_1 a0_2 a0_3 l0_4 a2_0 a2_1 a2_2 a2_3))) else (some (0, 0, ([] : List Int), t156)))
theorem plane_Crop.mono_l : ∀ k, (∀ y0 y1 y2 y3 y4 y5 y6 y7 y8 y9 y10, LeO (plane_Crop.j0 k y0 y1 y2 y3 y4 y5 y6 y7 y8 y9 y10) (plane_Crop.j0 (k + 1) y0 y1 y2 y3 y4 y5 y6 y7 y8 y9 y10))
 | 0 => fun _ _ _ _ _ _ _ _ _ _ _ r h => by simp [plane_Crop.j0] at h
 | k + 1 => by
  have ih0 := plane_Crop.mono_l k
  ·intro y0 y1 y2 y3 y4 y5 y6 y7 y8 y9 y10
   unfold plane_Crop.j0
   repeat' first
   | (with_reducible exact ih0 _ _ _ _ _ _ _ _ _ _ _)
   | (with_reducible exact plane_Valid.mono _ _ _ _ _ _)
   | (with_reducible exact plane_taken.mono _ _ _ _ _ _ _)
   | (with_reducible exact LeO.refl _)
   | (with_reducible exact LeO.none _)
   | (with_reducible refine LeO.ite ?_ ?_)
   | (with_reducible refine LeO.bind ?_ (fun _ => ?_))
   | exact ih0 _ _ _ _ _ _ _ _ _ _ _
   | exact plane_Valid.mono _ _ _ _ _ _
   | exact plane_taken.mono _ _ _ _ _ _ _
   | exact LeO.none _
   | refine LeO.ite ?_ ?_
   | refine LeO.bind ?_ (fun _ => ?_)
theorem plane_Crop.mono : ∀ a0 a1 a2 a3 a4 a5 a6 a7 a8 a9 k, LeO (plane_Crop.f k a0 a1 a2 a3 a4 a5 a6 a7 a8 a9) (plane_Crop.f (k + 1) a0 a1 a2 a3 a4 a5 a6 a7 a8 a9) := by
 intro a0 a1 a2 a3 a4 a5 a6 a7 a8 a9 k
 have ih0 := plane_Crop.mono_l k
 unfold plane_Crop.f
 repeat' first
   | (with_reducible exact ih0 _ _ _ _ _ _ _ _ _ _ _)
   | (with_reducible exact plane_Valid.mono _ _ _ _ _ _)
   | (with_reducible exact plane_taken.mono _ _ _ _ _ _ _)
   | (with_reducible exact LeO.refl _)
   | (with_reducible exact LeO.none _)
   | (with_reducible refine LeO.ite ?_ ?_)
   | (with_reducible refine LeO.bind ?_ (fun _ => ?_))
   | exact ih0 _ _ _ _ _ _ _ _ _ _ _
   | exact plane_Valid.mono _ _ _ _ _ _
   | exact plane_taken.mono _ _ _ _ _ _ _
   | exact LeO.none _
   | refine LeO.ite ?_ ?_
   | refine LeO.bind ?_ (fun _ => ?_)
def plane_Crop.T4 : Bool × List (List Nat × List Nat) := (true, [([], []), ([0], [0]), ([], []), ([1, 2], [1, 2]), ([3], [3]), ([4, 3], [4]), ([5], [5]), ([5], [5]), ([7, 5], [5, 7]), ([5], [5]), ([8, 9, 5, 5], [5, 8, 9]), ([5], [5]), ([11, 5], [5, 11]), ([12, 5], [5, 12]), ([6, 10, 13, 10, 5], [5, 6, 10, 13]), ([14, 5], [5, 14]), ([5, 15], [5, 15])])
def plane_Crop.B4 : List Nat := [0, 1, 0, 7, 15, 31, 63, 63, 191, 63, 959, 63, 2111, 6207, 16383, 32767, 65535]
theorem plane_Crop.tab4 : rtab .any (opsOf Try.f33 4) = plane_Crop.T4 := by kernel_rfl
theorem plane_Crop.bits4 : waitsOk plane_Crop.T4.2 plane_Crop.B4 = true := by kernel_rfl
def plane_Crop.T6 : Bool × List (List Nat × List Nat) := (true, [([], []), ([0], [0]), ([], []), ([2], [2]), ([], []), ([4], [4]), ([], []), ([5, 6], [5, 6]), ([7], [7]), ([], []), ([9], [9]), ([], []), ([10, 11], [10, 11]), ([], []), ([8, 12, 13, 12], [8, 12, 13]), ([1, 3, 14], [1, 3, 14]), ([15, 14, 0, 1, 2, 3, 4, 5, 6, 7, 8, 9, 10, 11, 12, 13, 14, 15], [15]), ([16, 0, 1, 2, 3, 4, 5, 6, 7, 8, 9, 10, 11, 12, 13, 14, 15, 16], [])])
def plane_Crop.B6 : List Nat := [0, 1, 0, 4, 0, 16, 0, 112, 240, 0, 512, 0, 3584, 0, 16368, 32767, 65535, 131071]
theorem plane_Crop.tab6 : rtab .any (opsOf Try.f33 6) = plane_Crop.T6 := by kernel_rfl
theorem plane_Crop.bits6 : waitsOk plane_Crop.T6.2 plane_Crop.B6 = true := by kernel_rfl
set_option maxHeartbeats 8000000 in
set_option maxRecDepth 100000 in
theorem plane_Crop.calls (k : Nat) (a0_0 : Int) (a0_1 : Int) (a0_2 : Int) (a0_3 : Bool) (A0_4 : Option Addr) (c0_4 : Nat) (l0_4 : List (List Int)) (a1 : Int) (a2_0 : Int) (a2_1 : Int) (a2_2 : Int) (a2_3 : Int) (r1 : Int) (r2 : Int) (r3 : List Int) (r4 : Int) (w : World) (hr0_4 : Kd.C (Kd.slice 72 (Kd.int .u16)) w A0_4 l0_4.length l0_4) (hc0_4 : l0_4.length ≤ c0_4) (h : plane_Crop.f k a0_0 a0_1 a0_2 a0_3 l0_4 a1 a2_0 a2_1 a2_2 a2_3 = some (r1, r2, r3, r4)) :
  Calls Try.prog 33 #[.agg #[.int .i64 a0_0, .int .i64 a0_1, .int .i64 a0_2, .bool a0_3, .slice A0_4 l0_4.length c0_4], .int .i64 a1, .agg #[.int .i64 a2_0, .int .i64 a2_1, .int .i64 a2_2, .int .i64 a2_3]] w fun e w' => ∃ v2_ : Value, e = .returned (.tuple #[.agg #[.int .i64 r1, .int .i64 r2, v2_], .int .i64 r4]) ∧ Kd.R (Kd.int .u16) 72 w' w.heap.size (fun _ => True) v2_ r3 ∧ Below w.heap.size w w' := by
 have hu39 := Try.underlying39
 have hu52 := Try.underlying52
 have hu55 := Try.underlying55
 have hu26 := Try.underlying26
 have HR0_4 := am hr0_4
 have HC0_4 := am hc0_4
 clear hr0_4 hc0_4
 have HB := am (Below.refl w.heap.size w)
 have H : ((plane_Valid.f k a0_0 a0_1 a0_2 a0_3 l0_4).bind fun t156 => (if t156 = 0 then ((plane_there.f a0_0 a0_1 a0_2 a0_3 a1).bind fun t157 => (if t157 = true then ((plane_width.f a0_0 a0_1 a0_2 a0_3 a1).bind fun t158 => ((plane_lies.f a2_0 a2_1 a2_2 a2_3 t158 a0_1).bind fun t159 => (plane_Crop.j0 k a1 (!t159) a0_0 a0_1 a0_2 a0_3 l0_4 a2_0 a2_1 a2_2 a2_3))) else (plane_Crop.j0 k a1 true a0_0 a0_1 a0_2 a0_3 l0_4 a2_0 a2_1 a2_2 a2_3))) else (some (0, 0, ([] : List Int), t156)))) = some (r1, r2, r3, r4) := h
 clear h
 replace H := Option.bind_eq_some_iff.mp H
 obtain ⟨t156, A40, H⟩ := H
 replace H : (if t156 = 0 then ((plane_there.f a0_0 a0_1 a0_2 a0_3 a1).bind fun t157 => (if t157 = true then ((plane_width.f a0_0 a0_1 a0_2 a0_3 a1).bind fun t158 => ((plane_lies.f a2_0 a2_1 a2_2 a2_3 t158 a0_1).bind fun t159 => (plane_Crop.j0 k a1 (!t159) a0_0 a0_1 a0_2 a0_3 l0_4 a2_0 a2_1 a2_2 a2_3))) else (plane_Crop.j0 k a1 true a0_0 a0_1 a0_2 a0_3 l0_4 a2_0 a2_1 a2_2 a2_3))) else (some (0, 0, ([] : List Int), t156))) = some (r1, r2, r3, r4) := H
 have A4 := am A40
 clear A40
 by_cases c5 : t156 = 0
 ·rw [if_pos c5] at H
  have c5b0 : (t156 == 0) = true := beq_iff_eq.mpr c5
  have c5b1 : (t156 != 0) = false := bne_eq_false_iff_eq.mpr c5
  clear c5
  have HC6 := am H
  clear H
  go_enter Try.func33, Try.ntmps33
  go_upto_region 4 with (first | ((with_reducible refine gD (N := 3) rfl ?_); refine bE ?hg (N := 3) ?hd (cs := #[.int .i64 a0_0, .int .i64 a0_1, .int .i64 a0_2, .bool a0_3, .slice A0_4 l0_4.length c0_4]) (t := 39) ?hr ?_; (case hd => rfl); (case hg => rfl); (case hr => first | (go_simp; done) | (go_simp; rfl)); intro gb153 hg w7 hbox hb; have n0_ := am (bT (by repeat (first | (with_reducible first | exact HB.out | apply bA | apply bN | apply bD) | exact HB.out)) hb); have n1_ := am (hbox); have n2_ := am ((by rw [hg]; exact (bU (by repeat (first | (with_reducible first | exact HB.out | apply bA | apply bN | apply bD) | exact HB.out))) : w.heap.size ≤ gb153)); have n3_ := am ((by rw [hg]; exact (bU (by repeat (first | (with_reducible first | exact HB.out | apply bA | apply bN | apply bD) | exact HB.out))) : w.heap.size ≤ gb153)); clear HB; have HB := n0_; have BK153 := n1_; have GW153 := n2_; have GE153 := n3_; clear n0_ n1_ n2_ n3_; clear hb hbox hg) | ((with_reducible refine gD (N := 5) rfl ?_); refine bE ?hg (N := 5) ?hd (cs := #[.int .i64 a2_0, .int .i64 a2_1, .int .i64 a2_2, .int .i64 a2_3]) (t := 52) ?hr ?_; (case hd => rfl); (case hg => rfl); (case hr => first | (go_simp; done) | (go_simp; rfl)); intro gb154 hg w8 hbox hb; have n0_ := am (bB (g := gb153) (o := .cells #[.int .i64 a0_0, .int .i64 a0_1, .int .i64 a0_2, .bool a0_3, .slice A0_4 l0_4.length c0_4] 39 (0, 0)) (by (with_reducible repeat apply dX); exact BK153.out) hb); have n1_ := am (bT (by repeat (first | (with_reducible first | exact HB.out | apply bA | apply bN | apply bD | refine bS ?_ GE153.out) | exact HB.out)) hb); have n2_ := am (hbox); have n3_ := am ((by rw [hg]; exact (bU (by repeat (first | (with_reducible first | exact HB.out | apply bA | apply bN | apply bD | refine bS ?_ GE153.out) | exact HB.out))) : w.heap.size ≤ gb154)); have n4_ := am ((by rw [hg]; exact (bU (by repeat (first | (with_reducible first | exact HB.out | apply bA | apply bN | apply bD | refine bS ?_ GE153.out) | exact HB.out))) : w.heap.size ≤ gb154)); have n5_ := am ((by rw [hg]; exact nL (bL (g := gb153) (o := .cells #[.int .i64 a0_0, .int .i64 a0_1, .int .i64 a0_2, .bool a0_3, .slice A0_4 l0_4.length c0_4] 39 (0, 0)) (by (with_reducible repeat apply dX); exact BK153.out)) : gb153 ≠ gb154)); have n6_ := am ((by rw [hg]; exact nG (bL (g := gb153) (o := .cells #[.int .i64 a0_0, .int .i64 a0_1, .int .i64 a0_2, .bool a0_3, .slice A0_4 l0_4.length c0_4] 39 (0, 0)) (by (with_reducible repeat apply dX); exact BK153.out)) : gb154 ≠ gb153)); clear BK153; clear HB; have BK153 := n0_; have HB := n1_; have BK154 := n2_; have GW154 := n3_; have GE154 := n4_; have NB153_154 := n5_; have NB154_153 := n6_; clear n0_ n1_ n2_ n3_ n4_ n5_ n6_; clear hb hbox hg) | ((with_reducible refine gD (N := 6) rfl ?_); refine bE ?hg (N := 6) ?hd (cs := #[.int .i64 0, .int .i64 0, .slice none 0 0]) (t := 55) ?hr ?_; (case hd => rfl); (case hg => rfl); (case hr => first | (go_simp; done) | (go_simp; rfl)); intro gb155 hg w9 hbox hb; have n0_ := am (bB (g := gb153) (o := .cells #[.int .i64 a0_0, .int .i64 a0_1, .int .i64 a0_2, .bool a0_3, .slice A0_4 l0_4.length c0_4] 39 (0, 0)) (by (with_reducible repeat apply dX); exact BK153.out) hb); have n1_ := am (bB (g := gb154) (o := .cells #[.int .i64 a2_0, .int .i64 a2_1, .int .i64 a2_2, .int .i64 a2_3] 52 (0, 0)) (by (with_reducible repeat apply dX); exact BK154.out) hb); have n2_ := am (bT (by repeat (first | (with_reducible first | exact HB.out | apply bA | apply bN | apply bD | refine bS ?_ GE153.out | refine bS ?_ GE154.out) | exact HB.out)) hb); have n3_ := am (hbox); have n4_ := am ((by rw [hg]; exact (bU (by repeat (first | (with_reducible first | exact HB.out | apply bA | apply bN | apply bD | refine bS ?_ GE153.out | refine bS ?_ GE154.out) | exact HB.out))) : w.heap.size ≤ gb155)); have n5_ := am ((by rw [hg]; exact (bU (by repeat (first | (with_reducible first | exact HB.out | apply bA | apply bN | apply bD | refine bS ?_ GE153.out | refine bS ?_ GE154.out) | exact HB.out))) : w.heap.size ≤ gb155)); have n6_ := am ((by rw [hg]; exact nL (bL (g := gb153) (o := .cells #[.int .i64 a0_0, .int .i64 a0_1, .int .i64 a0_2, .bool a0_3, .slice A0_4 l0_4.length c0_4] 39 (0, 0)) (by (with_reducible repeat apply dX); exact BK153.out)) : gb153 ≠ gb155)); have n7_ := am ((by rw [hg]; exact nG (bL (g := gb153) (o := .cells #[.int .i64 a0_0, .int .i64 a0_1, .int .i64 a0_2, .bool a0_3, .slice A0_4 l0_4.length c0_4] 39 (0, 0)) (by (with_reducible repeat apply dX); exact BK153.out)) : gb155 ≠ gb153)); have n8_ := am ((by rw [hg]; exact nL (bL (g := gb154) (o := .cells #[.int .i64 a2_0, .int .i64 a2_1, .int .i64 a2_2, .int .i64 a2_3] 52 (0, 0)) (by (with_reducible repeat apply dX); exact BK154.out)) : gb154 ≠ gb155)); have n9_ := am ((by rw [hg]; exact nG (bL (g := gb154) (o := .cells #[.int .i64 a2_0, .int .i64 a2_1, .int .i64 a2_2, .int .i64 a2_3] 52 (0, 0)) (by (with_reducible repeat apply dX); exact BK154.out)) : gb155 ≠ gb154)); clear BK153; clear BK154; clear HB; have BK153 := n0_; have BK154 := n1_; have HB := n2_; have BK155 := n3_; have GW155 := n4_; have GE155 := n5_; have NB153_155 := n6_; have NB155_153 := n7_; have NB154_155 := n8_; have NB155_154 := n9_; clear n0_ n1_ n2_ n3_ n4_ n5_ n6_ n7_ n8_ n9_; clear hb hbox hg; have hnb10 := NB153_154.out; have hnc10 := NB154_153.out; have hnb11 := NB153_155.out; have hnc11 := NB155_153.out; have hcz12_0 : w9.cell? ⟨gb153, 0, none⟩ = some (.int .i64 a0_0) := (bC BK153.out 0).trans rfl; have hcz12_1 : w9.cell? ⟨gb153, 1, none⟩ = some (.int .i64 a0_1) := (bC BK153.out 1).trans rfl; have hcz12_2 : w9.cell? ⟨gb153, 2, none⟩ = some (.int .i64 a0_2) := (bC BK153.out 2).trans rfl; have hcz12_3 : w9.cell? ⟨gb153, 3, none⟩ = some (.bool a0_3) := (bC BK153.out 3).trans rfl; have hcz12_4 : w9.cell? ⟨gb153, 4, none⟩ = some (.slice A0_4 l0_4.length c0_4) := (bC BK153.out 4).trans rfl; have hfz12_0 := bZ BK153.out 0; have hfz12_1 := bZ BK153.out 1; have hfz12_2 := bZ BK153.out 2; have hfz12_3 := bZ BK153.out 3; have hfz12_4 := bZ BK153.out 4) | ((with_reducible refine gate_callee (f := 29) rfl ?_); refine goesL_ (some 10) rfl rfl Try.func29 (by kernel_rfl) rfl #[.agg #[.int .i64 a0_0, .int .i64 a0_1, .int .i64 a0_2, .bool a0_3, .slice A0_4 l0_4.length c0_4]] rfl (by (try simp only [List.map_toArray, List.map_cons, List.map_nil]); first | done | rfl | (simp only [List.length_drop, List.length_take]; rfl)) ?_; (with_reducible refine (plane_Valid.calls k a0_0 a0_1 a0_2 a0_3 _ _ l0_4 t156 _ ?side1 ?side2 A4.out).mono ?_); (case side1 => repeat (first | exact (Kd.C_below HR0_4.out HB.out) | (with_reducible refine Kd.C_alloc ?_ _) | (with_reducible refine Kd.C_drewN ?_ _) | (with_reducible refine Kd.C_drew ?_))); (case side2 => exact HC0_4.out); rintro e w13 ⟨rfl, hb⟩; refine ⟨_, rfl, ?_⟩; have n0_ := am (bB (g := gb153) (o := .cells #[.int .i64 a0_0, .int .i64 a0_1, .int .i64 a0_2, .bool a0_3, .slice A0_4 l0_4.length c0_4] 39 (0, 0)) (by (with_reducible repeat apply dX); exact BK153.out) hb); have n1_ := am (bB (g := gb154) (o := .cells #[.int .i64 a2_0, .int .i64 a2_1, .int .i64 a2_2, .int .i64 a2_3] 52 (0, 0)) (by (with_reducible repeat apply dX); exact BK154.out) hb); have n2_ := am (bB (g := gb155) (o := .cells #[.int .i64 0, .int .i64 0, .slice none 0 0] 55 (0, 0)) (by (with_reducible repeat apply dX); exact BK155.out) hb); have n3_ := am (bT (by repeat (first | (with_reducible first | exact HB.out | apply bA | apply bN | apply bD | refine bS ?_ GE153.out | refine bS ?_ GE154.out | refine bS ?_ GE155.out) | exact HB.out)) hb); clear BK153; clear BK154; clear BK155; clear HB; have BK153 := n0_; have BK154 := n1_; have BK155 := n2_; have HB := n3_; clear n0_ n1_ n2_ n3_; (try clear hb); (try clear hb2); (try clear hk); (try clear hi)))
  (try simp only [Act.put, List.setIfInBounds_toArray, List.set_cons_zero, List.set_cons_succ])
  go_cut [31] (fun v31 wc => ∃ (kq : Nat) (x31_5 : Bool), v31 = .bool x31_5 ∧ Aside0 (plane_Crop.j0 kq a1 x31_5 a0_0 a0_1 a0_2 a0_3 l0_4 a2_0 a2_1 a2_2 a2_3 = some (r1, r2, r3, r4)) ∧ Aside0 (kq ≤ k) ∧ Aside0 (wc.heap[gb153]? = some (.cells #[.int .i64 a0_0, .int .i64 a0_1, .int .i64 a0_2, .bool a0_3, (.slice A0_4 l0_4.length c0_4)] 39 (0, 0))) ∧ Aside0 (wc.heap[gb154]? = some (.cells #[.int .i64 a2_0, .int .i64 a2_1, .int .i64 a2_2, .int .i64 a2_3] 52 (0, 0))) ∧ Aside0 (wc.heap[gb155]? = some (.cells #[.int .i64 0, .int .i64 0, (.slice none 0 0)] 55 (0, 0))) ∧ Aside0 (Below w.heap.size w wc))
  case first =>
   have H := HC6.out
   clear HC6
   replace H := Option.bind_eq_some_iff.mp H
   obtain ⟨t157, A140, H⟩ := H
   replace H : (if t157 = true then ((plane_width.f a0_0 a0_1 a0_2 a0_3 a1).bind fun t158 => ((plane_lies.f a2_0 a2_1 a2_2 a2_3 t158 a0_1).bind fun t159 => (plane_Crop.j0 k a1 (!t159) a0_0 a0_1 a0_2 a0_3 l0_4 a2_0 a2_1 a2_2 a2_3))) else (plane_Crop.j0 k a1 true a0_0 a0_1 a0_2 a0_3 l0_4 a2_0 a2_1 a2_2 a2_3)) = some (r1, r2, r3, r4) := H
   have A14 := am A140
   clear A140
   by_cases c15 : t157 = true
   ·subst c15
    have H1 : ((plane_width.f a0_0 a0_1 a0_2 a0_3 a1).bind fun t158 => ((plane_lies.f a2_0 a2_1 a2_2 a2_3 t158 a0_1).bind fun t159 => (plane_Crop.j0 k a1 (!t159) a0_0 a0_1 a0_2 a0_3 l0_4 a2_0 a2_1 a2_2 a2_3))) = some (r1, r2, r3, r4) := by rw [if_pos rfl] at H; exact H
    clear H
    have H := H1
    clear H1
    replace H := Option.bind_eq_some_iff.mp H
    obtain ⟨t158, A160, H⟩ := H
    replace H : ((plane_lies.f a2_0 a2_1 a2_2 a2_3 t158 a0_1).bind fun t159 => (plane_Crop.j0 k a1 (!t159) a0_0 a0_1 a0_2 a0_3 l0_4 a2_0 a2_1 a2_2 a2_3)) = some (r1, r2, r3, r4) := H
    have A16 := am A160
    clear A160
    replace H := Option.bind_eq_some_iff.mp H
    obtain ⟨t159, A170, H⟩ := H
    replace H : (plane_Crop.j0 k a1 (!t159) a0_0 a0_1 a0_2 a0_3 l0_4 a2_0 a2_1 a2_2 a2_3) = some (r1, r2, r3, r4) := H
    have A17 := am A170
    clear A170
    have H' := am H
    clear H
    try go_wp2
    have n0_ := am (blk_drew BK153.out)
    have n1_ := am (blk_drew BK154.out)
    have n2_ := am (blk_drew BK155.out)
    have n3_ := am (bD HB.out)
    clear BK153
    clear BK154
    clear BK155
    clear HB
    have BK153 := n0_
    have BK154 := n1_
    have BK155 := n2_
    have HB := n3_
    clear n0_ n1_ n2_ n3_
    refine start_ (n := 17) (S := fun w' => w'.cell? ⟨gb153, 0, none⟩ = some (.int .i64 a0_0) ∧ w'.cell? ⟨gb153, 1, none⟩ = some (.int .i64 a0_1) ∧ w'.cell? ⟨gb153, 2, none⟩ = some (.int .i64 a0_2) ∧ w'.cell? ⟨gb153, 3, none⟩ = some (.bool a0_3) ∧ w'.cell? ⟨gb153, 4, none⟩ = some (.slice A0_4 l0_4.length c0_4) ∧ w'.cell? ⟨gb154, 0, none⟩ = some (.int .i64 a2_0) ∧ w'.cell? ⟨gb154, 1, none⟩ = some (.int .i64 a2_1) ∧ w'.cell? ⟨gb154, 2, none⟩ = some (.int .i64 a2_2) ∧ w'.cell? ⟨gb154, 3, none⟩ = some (.int .i64 a2_3)) (ds := []) #[false, false, false, false, false, false, false, false, false, false, false, false, false, false, false, false, false] (by kernel_rfl) rfl rfl ⟨(bC BK153.out 0).trans rfl, (bC BK153.out 1).trans rfl, (bC BK153.out 2).trans rfl, (bC BK153.out 3).trans rfl, (bC BK153.out 4).trans rfl, (bC BK154.out 0).trans rfl, (bC BK154.out 1).trans rfl, (bC BK154.out 2).trans rfl, (bC BK154.out 3).trans rfl⟩ (fun hHeld => ?_); refine with_tabW plane_Crop.tab4 plane_Crop.bits4 (fun HT_ HW_ => ?_)
    generalize w13.drew = w18 at BK153 BK154 BK155 HB hHeld ⊢
    refine pure_ (i := 0) (N := some 15) (v := ?_) (a' := ?_) #[true, false, false, false, false, false, false, false, false, false, false, false, false, false, false, false, false] rfl rfl (any_of HT_.out (by kernel_rfl)) (fun _ _ _ h => h) (Or.inl ⟨by rfl, ?_⟩) ?_ ?_
    rotate_left
    ·intro w'
     go_simp
     with_reducible rfl
    rotate_left
    ·simp only [Act.put, List.setIfInBounds_toArray, List.set_cons_zero, List.set_cons_succ, i64_w, i32_w]
     rfl
    refine pure_ (i := 2) (N := some 17) (v := ?_) (a' := ?_) #[true, false, true, false, false, false, false, false, false, false, false, false, false, false, false, false, false] rfl rfl (any_of HT_.out (by kernel_rfl)) (fun _ _ _ h => h) (Or.inl ⟨by rfl, ?_⟩) ?_ ?_
    rotate_left
    ·intro w'
     go_simp
     with_reducible rfl
    rotate_left
    ·simp only [Act.put, List.setIfInBounds_toArray, List.set_cons_zero, List.set_cons_succ, i64_w, i32_w]
     rfl
    refine take_ (i := 1) (N := some 16) (v := ?_) (a' := ?_) #[true, true, true, false, false, false, false, false, false, false, false, false, false, false, false, false, false] rfl rfl (take_ofW HT_.out HW_.out (by kernel_rfl)) (fun _ _ _ h => h) (Or.inl ⟨by rfl, ?_⟩) hHeld ?_ ?_
    rotate_left
    ·rintro w' ⟨s0, s1, s2, s3, s4, s5, s6, s7, s8⟩
     go_simp
     with_reducible rfl
    rotate_left
    ·simp only [Act.put, List.setIfInBounds_toArray, List.set_cons_zero, List.set_cons_succ, i64_w, i32_w]
     rfl
    refine one_ (i := 3) (N := some 18) #[true, true, true, true, false, false, false, false, false, false, false, false, false, false, false, false, false] rfl rfl (one_of HT_.out (by kernel_rfl)) (by decide) (fun K hK => ?_)
    refine goes_ Try.func54 (by kernel_rfl) rfl #[.agg #[.int .i64 a0_0, .int .i64 a0_1, .int .i64 a0_2, .bool a0_3], .int .i64 a1] (by rfl) rfl rfl (by (try simp only [List.map_toArray, List.map_cons, List.map_nil]); first | done | rfl | (simp only [List.length_drop, List.length_take]; rfl)) ?_
    with_reducible refine (plane_there.calls a0_0 a0_1 a0_2 a0_3 a1 true _ A14.out).mono ?_
    rintro e w19 ⟨rfl, hb⟩
    refine ⟨_, rfl, ?_⟩
    have n0_ := am (bB (g := gb153) (o := .cells #[.int .i64 a0_0, .int .i64 a0_1, .int .i64 a0_2, .bool a0_3, .slice A0_4 l0_4.length c0_4] 39 (0, 0)) (by (with_reducible repeat apply dX); exact BK153.out) hb)
    have n1_ := am (bB (g := gb154) (o := .cells #[.int .i64 a2_0, .int .i64 a2_1, .int .i64 a2_2, .int .i64 a2_3] 52 (0, 0)) (by (with_reducible repeat apply dX); exact BK154.out) hb)
    have n2_ := am (bB (g := gb155) (o := .cells #[.int .i64 0, .int .i64 0, .slice none 0 0] 55 (0, 0)) (by (with_reducible repeat apply dX); exact BK155.out) hb)
    have n3_ := am (bT (by repeat (first | (with_reducible first | exact HB.out | apply bA | apply bN | apply bD | refine bS ?_ GE153.out | refine bS ?_ GE154.out | refine bS ?_ GE155.out) | exact HB.out)) hb)
    clear BK153
    clear BK154
    clear BK155
    clear HB
    have BK153 := n0_
    have BK154 := n1_
    have BK155 := n2_
    have HB := n3_
    clear n0_ n1_ n2_ n3_
    (try clear hb)
    (try clear hb2)
    (try clear hk)
    (try clear hi)
    refine hK.out _ _ ⟨(bC BK153.out 0).trans rfl, (bC BK153.out 1).trans rfl, (bC BK153.out 2).trans rfl, (bC BK153.out 3).trans rfl, (bC BK153.out 4).trans rfl, (bC BK154.out 0).trans rfl, (bC BK154.out 1).trans rfl, (bC BK154.out 2).trans rfl, (bC BK154.out 3).trans rfl⟩ (fun hHeld => ?_)
    clear hK K
    refine norm_ (a' := ?_) ?_ ?_
    rotate_left
    ·show Act.put _ (some 18) _ = _
     simp only [Act.put, List.setIfInBounds_toArray, List.set_cons_zero, List.set_cons_succ, i64_w, i32_w]
     rfl
    refine pure_ (i := 4) (N := some 19) (v := ?_) (a' := ?_) #[true, true, true, true, true, false, false, false, false, false, false, false, false, false, false, false, false] rfl rfl (any_of HT_.out (by kernel_rfl)) (fun _ _ _ h => h) (Or.inl ⟨by rfl, ?_⟩) ?_ ?_
    rotate_left
    ·intro w'
     go_simp
     with_reducible rfl
    rotate_left
    ·simp only [Act.put, List.setIfInBounds_toArray, List.set_cons_zero, List.set_cons_succ, i64_w, i32_w]
     rfl
    refine pure_ (i := 5) (N := some 20) (v := ?_) (a' := ?_) #[true, true, true, true, true, true, false, false, false, false, false, false, false, false, false, false, false] rfl rfl (any_of HT_.out (by kernel_rfl)) (fun _ _ _ h => h) (Or.inl ⟨by rfl, ?_⟩) ?_ ?_
    rotate_left
    ·intro w'
     go_simp
     with_reducible rfl
    rotate_left
    ·simp only [Act.put, List.setIfInBounds_toArray, List.set_cons_zero, List.set_cons_succ, i64_w, i32_w]
     rfl
    refine pure_ (i := 7) (N := some 22) (v := ?_) (a' := ?_) #[true, true, true, true, true, true, false, true, false, false, false, false, false, false, false, false, false] rfl rfl (any_of HT_.out (by kernel_rfl)) (fun _ _ _ h => h) (Or.inl ⟨by rfl, ?_⟩) ?_ ?_
    rotate_left
    ·intro w'
     go_simp
     with_reducible rfl
    rotate_left
    ·simp only [Act.put, List.setIfInBounds_toArray, List.set_cons_zero, List.set_cons_succ, i64_w, i32_w]
     rfl
    refine pure_ (i := 9) (N := some 24) (v := ?_) (a' := ?_) #[true, true, true, true, true, true, false, true, false, true, false, false, false, false, false, false, false] rfl rfl (any_of HT_.out (by kernel_rfl)) (fun _ _ _ h => h) (Or.inl ⟨by rfl, ?_⟩) ?_ ?_
    rotate_left
    ·intro w'
     go_simp
     with_reducible rfl
    rotate_left
    ·simp only [Act.put, List.setIfInBounds_toArray, List.set_cons_zero, List.set_cons_succ, i64_w, i32_w]
     rfl
    refine pure_ (i := 11) (N := some 26) (v := ?_) (a' := ?_) #[true, true, true, true, true, true, false, true, false, true, false, true, false, false, false, false, false] rfl rfl (any_of HT_.out (by kernel_rfl)) (fun _ _ _ h => h) (Or.inl ⟨by rfl, ?_⟩) ?_ ?_
    rotate_left
    ·intro w'
     go_simp
     with_reducible rfl
    rotate_left
    ·simp only [Act.put, List.setIfInBounds_toArray, List.set_cons_zero, List.set_cons_succ, i64_w, i32_w]
     rfl
    refine pure_ (i := 12) (N := some 27) (v := ?_) (a' := ?_) #[true, true, true, true, true, true, false, true, false, true, false, true, true, false, false, false, false] rfl rfl (any_of HT_.out (by kernel_rfl)) (fun _ _ _ h => h) (Or.inl ⟨by rfl, ?_⟩) ?_ ?_
    rotate_left
    ·intro w'
     go_simp
     with_reducible rfl
    rotate_left
    ·simp only [Act.put, List.setIfInBounds_toArray, List.set_cons_zero, List.set_cons_succ, i64_w, i32_w]
     rfl
    refine take_ (i := 6) (N := some 21) (v := ?_) (a' := ?_) #[true, true, true, true, true, true, true, true, false, true, false, true, true, false, false, false, false] rfl rfl (take_ofW HT_.out HW_.out (by kernel_rfl)) (fun _ _ _ h => h) (Or.inl ⟨by rfl, ?_⟩) hHeld ?_ ?_
    rotate_left
    ·rintro w' ⟨s0, s1, s2, s3, s4, s5, s6, s7, s8⟩
     go_simp
     with_reducible rfl
    rotate_left
    ·simp only [Act.put, List.setIfInBounds_toArray, List.set_cons_zero, List.set_cons_succ, i64_w, i32_w]
     rfl
    refine take_ (i := 8) (N := some 23) (v := ?_) (a' := ?_) #[true, true, true, true, true, true, true, true, true, true, false, true, true, false, false, false, false] rfl rfl (take_ofW HT_.out HW_.out (by kernel_rfl)) (fun _ _ _ h => h) (Or.inl ⟨by rfl, ?_⟩) hHeld ?_ ?_
    rotate_left
    ·rintro w' ⟨s0, s1, s2, s3, s4, s5, s6, s7, s8⟩
     go_simp
     with_reducible rfl
    rotate_left
    ·simp only [Act.put, List.setIfInBounds_toArray, List.set_cons_zero, List.set_cons_succ, i64_w, i32_w]
     rfl
    refine take_ (i := 13) (N := some 28) (v := ?_) (a' := ?_) #[true, true, true, true, true, true, true, true, true, true, false, true, true, true, false, false, false] rfl rfl (take_ofW HT_.out HW_.out (by kernel_rfl)) (fun _ _ _ h => h) (Or.inl ⟨by rfl, ?_⟩) hHeld ?_ ?_
    rotate_left
    ·rintro w' ⟨s0, s1, s2, s3, s4, s5, s6, s7, s8⟩
     go_simp
     with_reducible rfl
    rotate_left
    ·simp only [Act.put, List.setIfInBounds_toArray, List.set_cons_zero, List.set_cons_succ, i64_w, i32_w]
     rfl
    refine one_ (i := 10) (N := some 25) #[true, true, true, true, true, true, true, true, true, true, true, true, true, true, false, false, false] rfl rfl (one_of HT_.out (by kernel_rfl)) (by decide) (fun K hK => ?_)
    refine goes_ Try.func55 (by kernel_rfl) rfl #[.agg #[.int .i64 a0_0, .int .i64 a0_1, .int .i64 a0_2, .bool a0_3], .int .i64 a1] (by rfl) rfl rfl (by (try simp only [List.map_toArray, List.map_cons, List.map_nil]); first | done | rfl | (simp only [List.length_drop, List.length_take]; rfl)) ?_
    with_reducible refine (plane_width.calls a0_0 a0_1 a0_2 a0_3 a1 t158 _ A16.out).mono ?_
    rintro e w20 ⟨rfl, hb⟩
    refine ⟨_, rfl, ?_⟩
    have n0_ := am (bB (g := gb153) (o := .cells #[.int .i64 a0_0, .int .i64 a0_1, .int .i64 a0_2, .bool a0_3, .slice A0_4 l0_4.length c0_4] 39 (0, 0)) (by (with_reducible repeat apply dX); exact BK153.out) hb)
    have n1_ := am (bB (g := gb154) (o := .cells #[.int .i64 a2_0, .int .i64 a2_1, .int .i64 a2_2, .int .i64 a2_3] 52 (0, 0)) (by (with_reducible repeat apply dX); exact BK154.out) hb)
    have n2_ := am (bB (g := gb155) (o := .cells #[.int .i64 0, .int .i64 0, .slice none 0 0] 55 (0, 0)) (by (with_reducible repeat apply dX); exact BK155.out) hb)
    have n3_ := am (bT (by repeat (first | (with_reducible first | exact HB.out | apply bA | apply bN | apply bD | refine bS ?_ GE153.out | refine bS ?_ GE154.out | refine bS ?_ GE155.out) | exact HB.out)) hb)
    clear BK153
    clear BK154
    clear BK155
    clear HB
    have BK153 := n0_
    have BK154 := n1_
    have BK155 := n2_
    have HB := n3_
    clear n0_ n1_ n2_ n3_
    (try clear hb)
    (try clear hb2)
    (try clear hk)
    (try clear hi)
    refine hK.out _ _ ⟨(bC BK153.out 0).trans rfl, (bC BK153.out 1).trans rfl, (bC BK153.out 2).trans rfl, (bC BK153.out 3).trans rfl, (bC BK153.out 4).trans rfl, (bC BK154.out 0).trans rfl, (bC BK154.out 1).trans rfl, (bC BK154.out 2).trans rfl, (bC BK154.out 3).trans rfl⟩ (fun hHeld => ?_)
    clear hK K
    refine norm_ (a' := ?_) ?_ ?_
    rotate_left
    ·show Act.put _ (some 25) _ = _
     simp only [Act.put, List.setIfInBounds_toArray, List.set_cons_zero, List.set_cons_succ, i64_w, i32_w]
     rfl
    refine one_ (i := 14) (N := some 29) #[true, true, true, true, true, true, true, true, true, true, true, true, true, true, true, false, false] rfl rfl (one_of HT_.out (by kernel_rfl)) (by decide) (fun K hK => ?_)
    refine goes_ Try.func65 (by kernel_rfl) rfl #[.agg #[.int .i64 a2_0, .int .i64 a2_1, .int .i64 a2_2, .int .i64 a2_3], .int .i64 t158, .int .i64 a0_1] (by rfl) rfl rfl (by (try simp only [List.map_toArray, List.map_cons, List.map_nil]); first | done | rfl | (simp only [List.length_drop, List.length_take]; rfl)) ?_
    with_reducible refine (plane_lies.calls a2_0 a2_1 a2_2 a2_3 t158 a0_1 t159 _ A17.out).mono ?_
    rintro e w21 ⟨rfl, hb⟩
    refine ⟨_, rfl, ?_⟩
    have n0_ := am (bB (g := gb153) (o := .cells #[.int .i64 a0_0, .int .i64 a0_1, .int .i64 a0_2, .bool a0_3, .slice A0_4 l0_4.length c0_4] 39 (0, 0)) (by (with_reducible repeat apply dX); exact BK153.out) hb)
    have n1_ := am (bB (g := gb154) (o := .cells #[.int .i64 a2_0, .int .i64 a2_1, .int .i64 a2_2, .int .i64 a2_3] 52 (0, 0)) (by (with_reducible repeat apply dX); exact BK154.out) hb)
    have n2_ := am (bB (g := gb155) (o := .cells #[.int .i64 0, .int .i64 0, .slice none 0 0] 55 (0, 0)) (by (with_reducible repeat apply dX); exact BK155.out) hb)
    have n3_ := am (bT (by repeat (first | (with_reducible first | exact HB.out | apply bA | apply bN | apply bD | refine bS ?_ GE153.out | refine bS ?_ GE154.out | refine bS ?_ GE155.out) | exact HB.out)) hb)
    clear BK153
    clear BK154
    clear BK155
    clear HB
    have BK153 := n0_
    have BK154 := n1_
    have BK155 := n2_
    have HB := n3_
    clear n0_ n1_ n2_ n3_
    (try clear hb)
    (try clear hb2)
    (try clear hk)
    (try clear hi)
    refine hK.out _ _ ⟨(bC BK153.out 0).trans rfl, (bC BK153.out 1).trans rfl, (bC BK153.out 2).trans rfl, (bC BK153.out 3).trans rfl, (bC BK153.out 4).trans rfl, (bC BK154.out 0).trans rfl, (bC BK154.out 1).trans rfl, (bC BK154.out 2).trans rfl, (bC BK154.out 3).trans rfl⟩ (fun hHeld => ?_)
    clear hK K
    refine norm_ (a' := ?_) ?_ ?_
    rotate_left
    ·show Act.put _ (some 29) _ = _
     simp only [Act.put, List.setIfInBounds_toArray, List.set_cons_zero, List.set_cons_succ, i64_w, i32_w]
     rfl
    refine pure_ (i := 15) (N := some 30) (v := ?_) (a' := ?_) #[true, true, true, true, true, true, true, true, true, true, true, true, true, true, true, true, false] rfl rfl (any_of HT_.out (by kernel_rfl)) (fun _ _ _ h => h) (Or.inl ⟨by rfl, ?_⟩) ?_ ?_
    rotate_left
    ·intro w'
     go_simp
     with_reducible rfl
    rotate_left
    ·simp only [Act.put, List.setIfInBounds_toArray, List.set_cons_zero, List.set_cons_succ, i64_w, i32_w]
     rfl
    refine pure_ (i := 16) (N := some 31) (v := ?_) (a' := ?_) #[true, true, true, true, true, true, true, true, true, true, true, true, true, true, true, true, true] rfl rfl (any_of HT_.out (by kernel_rfl)) (fun _ _ _ h => h) (Or.inl ⟨by rfl, ?_⟩) ?_ ?_
    rotate_left
    ·intro w'
     go_simp
     with_reducible rfl
    rotate_left
    ·simp only [Act.put, List.setIfInBounds_toArray, List.set_cons_zero, List.set_cons_succ, i64_w, i32_w]
     rfl
    refine done_ (done_of HT_.out (by kernel_rfl)) ?_
    try go_wp2
    go_meet
    case rel => exact ⟨_, (!t159), (by first | rfl | (simp; done) | (simp [*]; done)), H', ⟨by first | omega | exact Nat.le_refl _⟩, ⟨by (with_reducible repeat apply dX); exact BK153.out⟩, ⟨by (with_reducible repeat apply dX); exact BK154.out⟩, ⟨by (with_reducible repeat apply dX); exact BK155.out⟩, ⟨by repeat (first | (with_reducible first | exact HB.out | apply bA | apply bN | apply bD | refine bS ?_ GE153.out | refine bS ?_ GE154.out | refine bS ?_ GE155.out) | exact HB.out)⟩⟩
   ·replace c15 := Bool.eq_false_iff.mpr c15
    subst c15
    have H1 : (plane_Crop.j0 k a1 true a0_0 a0_1 a0_2 a0_3 l0_4 a2_0 a2_1 a2_2 a2_3) = some (r1, r2, r3, r4) := by rw [if_neg (show ¬ (false = true) by decide)] at H; exact H
    clear H
    have H := H1
    clear H1
    have H' := am H
    clear H
    try go_wp2
    have n0_ := am (blk_drew BK153.out)
    have n1_ := am (blk_drew BK154.out)
    have n2_ := am (blk_drew BK155.out)
    have n3_ := am (bD HB.out)
    clear BK153
    clear BK154
    clear BK155
    clear HB
    have BK153 := n0_
    have BK154 := n1_
    have BK155 := n2_
    have HB := n3_
    clear n0_ n1_ n2_ n3_
    refine start_ (n := 17) (S := fun w' => w'.cell? ⟨gb153, 0, none⟩ = some (.int .i64 a0_0) ∧ w'.cell? ⟨gb153, 1, none⟩ = some (.int .i64 a0_1) ∧ w'.cell? ⟨gb153, 2, none⟩ = some (.int .i64 a0_2) ∧ w'.cell? ⟨gb153, 3, none⟩ = some (.bool a0_3) ∧ w'.cell? ⟨gb153, 4, none⟩ = some (.slice A0_4 l0_4.length c0_4)) (ds := []) #[false, false, false, false, false, false, false, false, false, false, false, false, false, false, false, false, false] (by kernel_rfl) rfl rfl ⟨(bC BK153.out 0).trans rfl, (bC BK153.out 1).trans rfl, (bC BK153.out 2).trans rfl, (bC BK153.out 3).trans rfl, (bC BK153.out 4).trans rfl⟩ (fun hHeld => ?_); refine with_tabW plane_Crop.tab4 plane_Crop.bits4 (fun HT_ HW_ => ?_)
    generalize w13.drew = w22 at BK153 BK154 BK155 HB hHeld ⊢
    refine pure_ (i := 0) (N := some 15) (v := ?_) (a' := ?_) #[true, false, false, false, false, false, false, false, false, false, false, false, false, false, false, false, false] rfl rfl (any_of HT_.out (by kernel_rfl)) (fun _ _ _ h => h) (Or.inl ⟨by rfl, ?_⟩) ?_ ?_
    rotate_left
    ·intro w'
     go_simp
     with_reducible rfl
    rotate_left
    ·simp only [Act.put, List.setIfInBounds_toArray, List.set_cons_zero, List.set_cons_succ, i64_w, i32_w]
     rfl
    refine pure_ (i := 2) (N := some 17) (v := ?_) (a' := ?_) #[true, false, true, false, false, false, false, false, false, false, false, false, false, false, false, false, false] rfl rfl (any_of HT_.out (by kernel_rfl)) (fun _ _ _ h => h) (Or.inl ⟨by rfl, ?_⟩) ?_ ?_
    rotate_left
    ·intro w'
     go_simp
     with_reducible rfl
    rotate_left
    ·simp only [Act.put, List.setIfInBounds_toArray, List.set_cons_zero, List.set_cons_succ, i64_w, i32_w]
     rfl
    refine take_ (i := 1) (N := some 16) (v := ?_) (a' := ?_) #[true, true, true, false, false, false, false, false, false, false, false, false, false, false, false, false, false] rfl rfl (take_ofW HT_.out HW_.out (by kernel_rfl)) (fun _ _ _ h => h) (Or.inl ⟨by rfl, ?_⟩) hHeld ?_ ?_
    rotate_left
    ·rintro w' ⟨s0, s1, s2, s3, s4⟩
     go_simp
     with_reducible rfl
    rotate_left
    ·simp only [Act.put, List.setIfInBounds_toArray, List.set_cons_zero, List.set_cons_succ, i64_w, i32_w]
     rfl
    refine one_ (i := 3) (N := some 18) #[true, true, true, true, false, false, false, false, false, false, false, false, false, false, false, false, false] rfl rfl (one_of HT_.out (by kernel_rfl)) (by decide) (fun K hK => ?_)
    refine goes_ Try.func54 (by kernel_rfl) rfl #[.agg #[.int .i64 a0_0, .int .i64 a0_1, .int .i64 a0_2, .bool a0_3], .int .i64 a1] (by rfl) rfl rfl (by (try simp only [List.map_toArray, List.map_cons, List.map_nil]); first | done | rfl | (simp only [List.length_drop, List.length_take]; rfl)) ?_
    with_reducible refine (plane_there.calls a0_0 a0_1 a0_2 a0_3 a1 false _ A14.out).mono ?_
    rintro e w23 ⟨rfl, hb⟩
    refine ⟨_, rfl, ?_⟩
    have n0_ := am (bB (g := gb153) (o := .cells #[.int .i64 a0_0, .int .i64 a0_1, .int .i64 a0_2, .bool a0_3, .slice A0_4 l0_4.length c0_4] 39 (0, 0)) (by (with_reducible repeat apply dX); exact BK153.out) hb)
    have n1_ := am (bB (g := gb154) (o := .cells #[.int .i64 a2_0, .int .i64 a2_1, .int .i64 a2_2, .int .i64 a2_3] 52 (0, 0)) (by (with_reducible repeat apply dX); exact BK154.out) hb)
    have n2_ := am (bB (g := gb155) (o := .cells #[.int .i64 0, .int .i64 0, .slice none 0 0] 55 (0, 0)) (by (with_reducible repeat apply dX); exact BK155.out) hb)
    have n3_ := am (bT (by repeat (first | (with_reducible first | exact HB.out | apply bA | apply bN | apply bD | refine bS ?_ GE153.out | refine bS ?_ GE154.out | refine bS ?_ GE155.out) | exact HB.out)) hb)
    clear BK153
    clear BK154
    clear BK155
    clear HB
    have BK153 := n0_
    have BK154 := n1_
    have BK155 := n2_
    have HB := n3_
    clear n0_ n1_ n2_ n3_
    (try clear hb)
    (try clear hb2)
    (try clear hk)
    (try clear hi)
    refine hK.out _ _ ⟨(bC BK153.out 0).trans rfl, (bC BK153.out 1).trans rfl, (bC BK153.out 2).trans rfl, (bC BK153.out 3).trans rfl, (bC BK153.out 4).trans rfl⟩ (fun hHeld => ?_)
    clear hK K
    refine norm_ (a' := ?_) ?_ ?_
    rotate_left
    ·show Act.put _ (some 18) _ = _
     simp only [Act.put, List.setIfInBounds_toArray, List.set_cons_zero, List.set_cons_succ, i64_w, i32_w]
     rfl
    refine pure_ (i := 4) (N := some 19) (v := ?_) (a' := ?_) #[true, true, true, true, true, false, false, false, false, false, false, false, false, false, false, false, false] rfl rfl (any_of HT_.out (by kernel_rfl)) (fun _ _ _ h => h) (Or.inl ⟨by rfl, ?_⟩) ?_ ?_
    rotate_left
    ·intro w'
     go_simp
     with_reducible rfl
    rotate_left
    ·simp only [Act.put, List.setIfInBounds_toArray, List.set_cons_zero, List.set_cons_succ, i64_w, i32_w]
     rfl
    refine pure_ (i := 5) (N := some 20) (v := ?_) (a' := ?_) #[true, true, true, true, true, true, false, false, false, false, false, false, false, false, false, false, false] rfl rfl (any_of HT_.out (by kernel_rfl)) (fun _ _ _ h => h) (Or.inl ⟨by rfl, ?_⟩) ?_ ?_
    rotate_left
    ·intro w'
     go_simp
     with_reducible rfl
    rotate_left
    ·simp only [Act.put, List.setIfInBounds_toArray, List.set_cons_zero, List.set_cons_succ, i64_w, i32_w]
     rfl
    refine pure_ (i := 6) (N := some 21) (v := undef) (a' := ?_) #[true, true, true, true, true, true, true, false, false, false, false, false, false, false, false, false, false] rfl rfl (any_of HT_.out (by kernel_rfl)) (fun _ _ _ h => h) (Or.inr ⟨by rfl, rfl⟩) ?_ ?_
    rotate_left
    ·simp only [Act.put, List.setIfInBounds_toArray, List.set_cons_zero, List.set_cons_succ, i64_w, i32_w]
     rfl
    refine pure_ (i := 7) (N := some 22) (v := undef) (a' := ?_) #[true, true, true, true, true, true, true, true, false, false, false, false, false, false, false, false, false] rfl rfl (any_of HT_.out (by kernel_rfl)) (fun _ _ _ h => h) (Or.inr ⟨by rfl, rfl⟩) ?_ ?_
    rotate_left
    ·simp only [Act.put, List.setIfInBounds_toArray, List.set_cons_zero, List.set_cons_succ, i64_w, i32_w]
     rfl
    refine pure_ (i := 8) (N := some 23) (v := undef) (a' := ?_) #[true, true, true, true, true, true, true, true, true, false, false, false, false, false, false, false, false] rfl rfl (any_of HT_.out (by kernel_rfl)) (fun _ _ _ h => h) (Or.inr ⟨by rfl, rfl⟩) ?_ ?_
    rotate_left
    ·simp only [Act.put, List.setIfInBounds_toArray, List.set_cons_zero, List.set_cons_succ, i64_w, i32_w]
     rfl
    refine pure_ (i := 9) (N := some 24) (v := undef) (a' := ?_) #[true, true, true, true, true, true, true, true, true, true, false, false, false, false, false, false, false] rfl rfl (any_of HT_.out (by kernel_rfl)) (fun _ _ _ h => h) (Or.inr ⟨by rfl, rfl⟩) ?_ ?_
    rotate_left
    ·simp only [Act.put, List.setIfInBounds_toArray, List.set_cons_zero, List.set_cons_succ, i64_w, i32_w]
     rfl
    refine pure_ (i := 10) (N := some 25) (v := undef) (a' := ?_) #[true, true, true, true, true, true, true, true, true, true, true, false, false, false, false, false, false] rfl rfl (any_of HT_.out (by kernel_rfl)) (fun _ _ _ h => h) (Or.inr ⟨by rfl, rfl⟩) ?_ ?_
    rotate_left
    ·simp only [Act.put, List.setIfInBounds_toArray, List.set_cons_zero, List.set_cons_succ, i64_w, i32_w]
     rfl
    refine pure_ (i := 11) (N := some 26) (v := undef) (a' := ?_) #[true, true, true, true, true, true, true, true, true, true, true, true, false, false, false, false, false] rfl rfl (any_of HT_.out (by kernel_rfl)) (fun _ _ _ h => h) (Or.inr ⟨by rfl, rfl⟩) ?_ ?_
    rotate_left
    ·simp only [Act.put, List.setIfInBounds_toArray, List.set_cons_zero, List.set_cons_succ, i64_w, i32_w]
     rfl
    refine pure_ (i := 12) (N := some 27) (v := undef) (a' := ?_) #[true, true, true, true, true, true, true, true, true, true, true, true, true, false, false, false, false] rfl rfl (any_of HT_.out (by kernel_rfl)) (fun _ _ _ h => h) (Or.inr ⟨by rfl, rfl⟩) ?_ ?_
    rotate_left
    ·simp only [Act.put, List.setIfInBounds_toArray, List.set_cons_zero, List.set_cons_succ, i64_w, i32_w]
     rfl
    refine pure_ (i := 13) (N := some 28) (v := undef) (a' := ?_) #[true, true, true, true, true, true, true, true, true, true, true, true, true, true, false, false, false] rfl rfl (any_of HT_.out (by kernel_rfl)) (fun _ _ _ h => h) (Or.inr ⟨by rfl, rfl⟩) ?_ ?_
    rotate_left
    ·simp only [Act.put, List.setIfInBounds_toArray, List.set_cons_zero, List.set_cons_succ, i64_w, i32_w]
     rfl
    refine pure_ (i := 14) (N := some 29) (v := undef) (a' := ?_) #[true, true, true, true, true, true, true, true, true, true, true, true, true, true, true, false, false] rfl rfl (any_of HT_.out (by kernel_rfl)) (fun _ _ _ h => h) (Or.inr ⟨by rfl, rfl⟩) ?_ ?_
    rotate_left
    ·simp only [Act.put, List.setIfInBounds_toArray, List.set_cons_zero, List.set_cons_succ, i64_w, i32_w]
     rfl
    refine pure_ (i := 15) (N := some 30) (v := undef) (a' := ?_) #[true, true, true, true, true, true, true, true, true, true, true, true, true, true, true, true, false] rfl rfl (any_of HT_.out (by kernel_rfl)) (fun _ _ _ h => h) (Or.inr ⟨by rfl, rfl⟩) ?_ ?_
    rotate_left
    ·simp only [Act.put, List.setIfInBounds_toArray, List.set_cons_zero, List.set_cons_succ, i64_w, i32_w]
     rfl
    refine pure_ (i := 16) (N := some 31) (v := ?_) (a' := ?_) #[true, true, true, true, true, true, true, true, true, true, true, true, true, true, true, true, true] rfl rfl (any_of HT_.out (by kernel_rfl)) (fun _ _ _ h => h) (Or.inl ⟨by rfl, ?_⟩) ?_ ?_
    rotate_left
    ·intro w'
     go_simp
     with_reducible rfl
    rotate_left
    ·simp only [Act.put, List.setIfInBounds_toArray, List.set_cons_zero, List.set_cons_succ, i64_w, i32_w]
     rfl
    refine done_ (done_of HT_.out (by kernel_rfl)) ?_
    try go_wp2
    go_meet
    case rel => exact ⟨_, (true), (by first | rfl | (simp; done) | (simp [*]; done)), H', ⟨by first | omega | exact Nat.le_refl _⟩, ⟨by (with_reducible repeat apply dX); exact BK153.out⟩, ⟨by (with_reducible repeat apply dX); exact BK154.out⟩, ⟨by (with_reducible repeat apply dX); exact BK155.out⟩, ⟨by repeat (first | (with_reducible first | exact HB.out | apply bA | apply bN | apply bD | refine bS ?_ GE153.out | refine bS ?_ GE154.out | refine bS ?_ GE155.out) | exact HB.out)⟩⟩
  case rest =>
   clear HC6
   try clear c1
   try clear c2
   try clear p2
   try clear c3
   try clear c5
   try clear c5b0
   try clear c5b1
   try clear c6
   try clear c10
   try clear c11
   try clear c15
   try clear hcz12_0
   try clear hcz12_1
   try clear hcz12_2
   try clear hcz12_3
   try clear hcz12_4
   try clear hfz12_0
   try clear hfz12_1
   try clear hfz12_2
   try clear hfz12_3
   try clear hfz12_4
   obtain ⟨kq, x31_5, rfl, HA, HJ5, BK153, BK154, BK155, HB⟩ := hcut
   cases kq with
   | zero => exact absurd HA.out (by simp [plane_Crop.j0])
   | succ kj5 =>
    have H := HA.out
    clear HA
    simp only [plane_Crop.j0] at H
    by_cases c24 : x31_5 = true
    ·subst c24
     have H1 : (some (0, 0, ([] : List Int), 65)) = some (r1, r2, r3, r4) := by rw [if_pos rfl] at H; exact H
     clear H
     have H := H1
     clear H1
     simp only [Option.some.injEq, Prod.mk.injEq] at H
     obtain ⟨rfl, rfl, rfl, rfl⟩ := H
     have hnb25 := NB155_153.out
     have hnc25 := NB153_155.out
     have hnb26 := NB155_154.out
     have hnc26 := NB154_155.out
     have hcz27_0 : wc.cell? ⟨gb155, 0, none⟩ = some (.int .i64 0) := (bC BK155.out 0).trans rfl
     have hcz27_1 : wc.cell? ⟨gb155, 1, none⟩ = some (.int .i64 0) := (bC BK155.out 1).trans rfl
     have hcz27_2 : wc.cell? ⟨gb155, 2, none⟩ = some (.slice none 0 0) := (bC BK155.out 2).trans rfl
     have hfz27_0 := bZ BK155.out 0
     have hfz27_1 := bZ BK155.out 1
     have hfz27_2 := bZ BK155.out 2
     go_wp2
     refine bodyPost_ret (results_ct rfl _ _ gb155 55 #[.int .i64 0, .int .i64 0, .slice none 0 0] (0, 0) _ rfl (by (with_reducible repeat apply dX); refine bP (cs := #[.int .i64 0, .int .i64 0, .slice none 0 0]) ?_ 2 _ rfl; (with_reducible repeat apply dX); refine bP (cs := #[.int .i64 0, .int .i64 0, .slice none 0 0]) ?_ 1 _ rfl; (with_reducible repeat apply dX); refine bP (cs := #[.int .i64 0, .int .i64 0, .slice none 0 0]) ?_ 0 _ rfl; (with_reducible repeat apply dX); exact BK155.out) Try.underlying55 rfl (by kernel_rfl)) rfl ?_
     exact ⟨_, by first | rfl | (simp [errW_none, errW_some] <;> rfl) | (simp [*, errW_none, errW_some] <;> rfl), by first | exact Kd.R_nil _ _ _ _ _ | exact Kd.N_nil _ _ _ _ _ | exact Kd.V_nil _ _ _ _ _ | exact Kd.Q_nil _ _ _ _ _ | exact Kd.S_nil _ _ _ _ _, by repeat (first | (with_reducible first | exact HB.out | apply bA | apply bN | apply bD | refine bS ?_ GE153.out | refine bS ?_ GE154.out | refine bS ?_ GE155.out) | exact HB.out)⟩
    ·replace c24 := Bool.eq_false_iff.mpr c24
     subst c24
     have H1 : (if 0 ≤ a1 then (if a1 < (l0_4.length : Int) then ((plane_width.f a0_0 a0_1 a0_2 a0_3 a1).bind fun t161 => ((plane_taken.f kj5 (rd_L1 l0_4 a1) t161 a2_0 a2_1 a2_2 a2_3).bind fun t162 => (some (a2_2, a2_3, t162, 0)))) else (none)) else (none)) = some (r1, r2, r3, r4) := by rw [if_neg (show ¬ (false = true) by decide)] at H; exact H
     clear H
     have H := H1
     clear H1
     by_cases c28 : 0 ≤ a1
     ·rw [if_pos c28] at H
      have c28b0 : decide (0 ≤ a1) = true := decide_eq_true c28
      clear c28
      by_cases c29 : a1 < (l0_4.length : Int)
      ·rw [if_pos c29] at H
       have c29b0 : decide (a1 < (l0_4.length : Int)) = true := decide_eq_true c29
       clear c29
       replace H := Option.bind_eq_some_iff.mp H
       obtain ⟨t161, A300, H⟩ := H
       replace H : ((plane_taken.f kj5 (rd_L1 l0_4 a1) t161 a2_0 a2_1 a2_2 a2_3).bind fun t162 => (some (a2_2, a2_3, t162, 0))) = some (r1, r2, r3, r4) := H
       have A30 := am A300
       clear A300
       replace H := Option.bind_eq_some_iff.mp H
       obtain ⟨t162, A310, H⟩ := H
       replace H : (some (a2_2, a2_3, t162, 0)) = some (r1, r2, r3, r4) := H
       have A31 := am A310
       clear A310
       simp only [Option.some.injEq, Prod.mk.injEq] at H
       obtain ⟨rfl, rfl, rfl, rfl⟩ := H
       try go_wp2
       have n0_ := am (blk_drew BK153.out)
       have n1_ := am (blk_drew BK154.out)
       have n2_ := am (blk_drew BK155.out)
       have n3_ := am (bD HB.out)
       clear BK153
       clear BK154
       clear BK155
       clear HB
       have BK153 := n0_
       have BK154 := n1_
       have BK155 := n2_
       have HB := n3_
       clear n0_ n1_ n2_ n3_
       have p160 : 0 ≤ (a1 : Int) := of_decide_eq_true (by first | (with_reducible assumption) | assumption)
       have q160 : a1 < (l0_4.length : Int) := of_decide_eq_true (by first | (with_reducible assumption) | assumption)
       obtain ⟨ad160, A160_0, c160_0, e160, hx160_0, hl160_0, hi160_0⟩ := at_L1 HR0_4.out a1 p160 q160
       have hw160_0 := hx160_0
       cases e160
       replace hx160_0 := (HB.out.cell (World.block_lt_of_cell? w _ hx160_0)).trans hx160_0
       have HR160_0 := am hi160_0
       have HC160_0 := am hl160_0
       clear hi160_0 hl160_0
       replace p160 := eq_true p160
       replace q160 := eq_true q160
       refine start_ (n := 18) (S := fun w' => w'.cell? ⟨gb154, 0, none⟩ = some (.int .i64 a2_0) ∧ w'.cell? ⟨gb154, 1, none⟩ = some (.int .i64 a2_1) ∧ w'.cell? ⟨gb154, 2, none⟩ = some (.int .i64 a2_2) ∧ w'.cell? ⟨gb154, 3, none⟩ = some (.int .i64 a2_3) ∧ w'.cell? ⟨gb153, 0, none⟩ = some (.int .i64 a0_0) ∧ w'.cell? ⟨gb153, 1, none⟩ = some (.int .i64 a0_1) ∧ w'.cell? ⟨gb153, 2, none⟩ = some (.int .i64 a0_2) ∧ w'.cell? ⟨gb153, 3, none⟩ = some (.bool a0_3) ∧ w'.cell? ⟨gb153, 4, none⟩ = some (.slice (some ad160) l0_4.length c0_4) ∧ w'.cell? (ad160.add (a1).toNat) = some (.slice A160_0 (rd_L1 l0_4 a1).length c160_0)) (ds := []) #[false, false, false, false, false, false, false, false, false, false, false, false, false, false, false, false, false, false] (by kernel_rfl) rfl rfl ⟨(bC BK154.out 0).trans rfl, (bC BK154.out 1).trans rfl, (bC BK154.out 2).trans rfl, (bC BK154.out 3).trans rfl, (bC BK153.out 0).trans rfl, (bC BK153.out 1).trans rfl, (bC BK153.out 2).trans rfl, (bC BK153.out 3).trans rfl, (bC BK153.out 4).trans rfl, ((HB.out.cell (World.block_lt_of_cell? w _ hw160_0)).trans hw160_0)⟩ (fun hHeld => ?_); refine with_tabW plane_Crop.tab6 plane_Crop.bits6 (fun HT_ HW_ => ?_)
       generalize wc.drew = w32 at BK153 BK154 BK155 HB HR160_0 hx160_0 hHeld ⊢
       refine pure_ (i := 0) (N := some 33) (v := ?_) (a' := ?_) #[true, false, false, false, false, false, false, false, false, false, false, false, false, false, false, false, false, false] rfl rfl (any_of HT_.out (by kernel_rfl)) (fun _ _ _ h => h) (Or.inl ⟨by rfl, ?_⟩) ?_ ?_
       rotate_left
       ·intro w'
        go_simp
        with_reducible rfl
       rotate_left
       ·simp only [Act.put, List.setIfInBounds_toArray, List.set_cons_zero, List.set_cons_succ, i64_w, i32_w]
        rfl
       refine pure_ (i := 2) (N := some 35) (v := ?_) (a' := ?_) #[true, false, true, false, false, false, false, false, false, false, false, false, false, false, false, false, false, false] rfl rfl (any_of HT_.out (by kernel_rfl)) (fun _ _ _ h => h) (Or.inl ⟨by rfl, ?_⟩) ?_ ?_
       rotate_left
       ·intro w'
        go_simp
        with_reducible rfl
       rotate_left
       ·simp only [Act.put, List.setIfInBounds_toArray, List.set_cons_zero, List.set_cons_succ, i64_w, i32_w]
        rfl
       refine pure_ (i := 4) (N := some 37) (v := ?_) (a' := ?_) #[true, false, true, false, true, false, false, false, false, false, false, false, false, false, false, false, false, false] rfl rfl (any_of HT_.out (by kernel_rfl)) (fun _ _ _ h => h) (Or.inl ⟨by rfl, ?_⟩) ?_ ?_
       rotate_left
       ·intro w'
        go_simp
        with_reducible rfl
       rotate_left
       ·simp only [Act.put, List.setIfInBounds_toArray, List.set_cons_zero, List.set_cons_succ, i64_w, i32_w]
        rfl
       refine pure_ (i := 6) (N := some 39) (v := ?_) (a' := ?_) #[true, false, true, false, true, false, true, false, false, false, false, false, false, false, false, false, false, false] rfl rfl (any_of HT_.out (by kernel_rfl)) (fun _ _ _ h => h) (Or.inl ⟨by rfl, ?_⟩) ?_ ?_
       rotate_left
       ·intro w'
        go_simp
        with_reducible rfl
       rotate_left
       ·simp only [Act.put, List.setIfInBounds_toArray, List.set_cons_zero, List.set_cons_succ, i64_w, i32_w]
        rfl
       refine pure_ (i := 9) (N := some 42) (v := ?_) (a' := ?_) #[true, false, true, false, true, false, true, false, false, true, false, false, false, false, false, false, false, false] rfl rfl (any_of HT_.out (by kernel_rfl)) (fun _ _ _ h => h) (Or.inl ⟨by rfl, ?_⟩) ?_ ?_
       rotate_left
       ·intro w'
        go_simp
        with_reducible rfl
       rotate_left
       ·simp only [Act.put, List.setIfInBounds_toArray, List.set_cons_zero, List.set_cons_succ, i64_w, i32_w]
        rfl
       refine pure_ (i := 11) (N := some 44) (v := ?_) (a' := ?_) #[true, false, true, false, true, false, true, false, false, true, false, true, false, false, false, false, false, false] rfl rfl (any_of HT_.out (by kernel_rfl)) (fun _ _ _ h => h) (Or.inl ⟨by rfl, ?_⟩) ?_ ?_
       rotate_left
       ·intro w'
        go_simp
        with_reducible rfl
       rotate_left
       ·simp only [Act.put, List.setIfInBounds_toArray, List.set_cons_zero, List.set_cons_succ, i64_w, i32_w]
        rfl
       refine take_ (i := 1) (N := some 34) (v := ?_) (a' := ?_) #[true, true, true, false, true, false, true, false, false, true, false, true, false, false, false, false, false, false] rfl rfl (take_ofW HT_.out HW_.out (by kernel_rfl)) (fun _ _ _ h => h) (Or.inl ⟨by rfl, ?_⟩) hHeld ?_ ?_
       rotate_left
       ·rintro w' ⟨s0, s1, s2, s3, s4, s5, s6, s7, s8, s9⟩
        go_simp
        with_reducible rfl
       rotate_left
       ·simp only [Act.put, List.setIfInBounds_toArray, List.set_cons_zero, List.set_cons_succ, i64_w, i32_w]
        rfl
       refine take_ (i := 3) (N := some 36) (v := ?_) (a' := ?_) #[true, true, true, true, true, false, true, false, false, true, false, true, false, false, false, false, false, false] rfl rfl (take_ofW HT_.out HW_.out (by kernel_rfl)) (fun _ _ _ h => h) (Or.inl ⟨by rfl, ?_⟩) hHeld ?_ ?_
       rotate_left
       ·rintro w' ⟨s0, s1, s2, s3, s4, s5, s6, s7, s8, s9⟩
        go_simp
        with_reducible rfl
       rotate_left
       ·simp only [Act.put, List.setIfInBounds_toArray, List.set_cons_zero, List.set_cons_succ, i64_w, i32_w]
        rfl
       refine take_ (i := 5) (N := some 38) (v := ?_) (a' := ?_) #[true, true, true, true, true, true, true, false, false, true, false, true, false, false, false, false, false, false] rfl rfl (take_ofW HT_.out HW_.out (by kernel_rfl)) (fun _ _ _ h => h) (Or.inl ⟨by rfl, ?_⟩) hHeld ?_ ?_
       rotate_left
       ·rintro w' ⟨s0, s1, s2, s3, s4, s5, s6, s7, s8, s9⟩
        go_simp
        with_reducible rfl
       rotate_left
       ·simp only [Act.put, List.setIfInBounds_toArray, List.set_cons_zero, List.set_cons_succ, i64_w, i32_w]
        rfl
       refine pure_ (i := 7) (N := some 40) (v := ?_) (a' := ?_) #[true, true, true, true, true, true, true, true, false, true, false, true, false, false, false, false, false, false] rfl rfl (any_of HT_.out (by kernel_rfl)) (fun _ _ _ h => h) (Or.inl ⟨by rfl, ?_⟩) ?_ ?_
       rotate_left
       ·intro w'
        go_simp
        with_reducible rfl
       rotate_left
       ·simp only [Act.put, List.setIfInBounds_toArray, List.set_cons_zero, List.set_cons_succ, i64_w, i32_w]
        rfl
       refine take_ (i := 8) (N := some 41) (v := ?_) (a' := ?_) #[true, true, true, true, true, true, true, true, true, true, false, true, false, false, false, false, false, false] rfl rfl (take_ofW HT_.out HW_.out (by kernel_rfl)) (fun _ _ _ h => h) (Or.inl ⟨by rfl, ?_⟩) hHeld ?_ ?_
       rotate_left
       ·rintro w' ⟨s0, s1, s2, s3, s4, s5, s6, s7, s8, s9⟩
        go_simp
        with_reducible rfl
       rotate_left
       ·simp only [Act.put, List.setIfInBounds_toArray, List.set_cons_zero, List.set_cons_succ, i64_w, i32_w]
        rfl
       refine take_ (i := 10) (N := some 43) (v := ?_) (a' := ?_) #[true, true, true, true, true, true, true, true, true, true, true, true, false, false, false, false, false, false] rfl rfl (take_ofW HT_.out HW_.out (by kernel_rfl)) (fun _ _ _ h => h) (Or.inl ⟨by rfl, ?_⟩) hHeld ?_ ?_
       rotate_left
       ·rintro w' ⟨s0, s1, s2, s3, s4, s5, s6, s7, s8, s9⟩
        go_simp
        with_reducible rfl
       rotate_left
       ·simp only [Act.put, List.setIfInBounds_toArray, List.set_cons_zero, List.set_cons_succ, i64_w, i32_w]
        rfl
       refine take_ (i := 13) (N := some 46) (v := ?_) (a' := ?_) #[true, true, true, true, true, true, true, true, true, true, true, true, false, true, false, false, false, false] rfl rfl (take_ofW HT_.out HW_.out (by kernel_rfl)) (fun _ _ _ h => h) (Or.inl ⟨by rfl, ?_⟩) hHeld ?_ ?_
       rotate_left
       ·rintro w' ⟨s0, s1, s2, s3, s4, s5, s6, s7, s8, s9⟩
        go_simp
        with_reducible rfl
       rotate_left
       ·simp only [Act.put, List.setIfInBounds_toArray, List.set_cons_zero, List.set_cons_succ, i64_w, i32_w]
        rfl
       refine one_ (i := 12) (N := some 45) #[true, true, true, true, true, true, true, true, true, true, true, true, true, true, false, false, false, false] rfl rfl (one_of HT_.out (by kernel_rfl)) (by decide) (fun K hK => ?_)
       refine goes_ Try.func55 (by kernel_rfl) rfl #[.agg #[.int .i64 a0_0, .int .i64 a0_1, .int .i64 a0_2, .bool a0_3], .int .i64 a1] (by rfl) rfl rfl (by (try simp only [List.map_toArray, List.map_cons, List.map_nil]); first | done | rfl | (simp only [List.length_drop, List.length_take]; rfl)) ?_
       with_reducible refine (plane_width.calls a0_0 a0_1 a0_2 a0_3 a1 t161 _ A30.out).mono ?_
       rintro e w33 ⟨rfl, hb⟩
       refine ⟨_, rfl, ?_⟩
       have n0_ := am (bB (g := gb153) (o := .cells #[.int .i64 a0_0, .int .i64 a0_1, .int .i64 a0_2, .bool a0_3, .slice (some ad160) l0_4.length c0_4] 39 (0, 0)) (by (with_reducible repeat apply dX); exact BK153.out) hb)
       have n1_ := am (bB (g := gb154) (o := .cells #[.int .i64 a2_0, .int .i64 a2_1, .int .i64 a2_2, .int .i64 a2_3] 52 (0, 0)) (by (with_reducible repeat apply dX); exact BK154.out) hb)
       have n2_ := am (bB (g := gb155) (o := .cells #[.int .i64 0, .int .i64 0, .slice none 0 0] 55 (0, 0)) (by (with_reducible repeat apply dX); exact BK155.out) hb)
       have n3_ := am (bT (by repeat (first | (with_reducible first | exact HB.out | apply bA | apply bN | apply bD | refine bS ?_ GE153.out | refine bS ?_ GE154.out | refine bS ?_ GE155.out) | exact HB.out)) hb)
       clear BK153
       clear BK154
       clear BK155
       clear HB
       have BK153 := n0_
       have BK154 := n1_
       have BK155 := n2_
       have HB := n3_
       clear n0_ n1_ n2_ n3_
       (try clear hb)
       (try clear hb2)
       (try clear hk)
       (try clear hi)
       refine hK.out _ _ ⟨(bC BK154.out 0).trans rfl, (bC BK154.out 1).trans rfl, (bC BK154.out 2).trans rfl, (bC BK154.out 3).trans rfl, (bC BK153.out 0).trans rfl, (bC BK153.out 1).trans rfl, (bC BK153.out 2).trans rfl, (bC BK153.out 3).trans rfl, (bC BK153.out 4).trans rfl, ((HB.out.cell (World.block_lt_of_cell? w _ hw160_0)).trans hw160_0)⟩ (fun hHeld => ?_)
       clear hK K
       refine norm_ (a' := ?_) ?_ ?_
       rotate_left
       ·show Act.put _ (some 45) _ = _
        simp only [Act.put, List.setIfInBounds_toArray, List.set_cons_zero, List.set_cons_succ, i64_w, i32_w]
        rfl
       refine one_ (i := 14) (N := some 47) #[true, true, true, true, true, true, true, true, true, true, true, true, true, true, true, false, false, false] rfl rfl (one_of HT_.out (by kernel_rfl)) (by decide) (fun K hK => ?_)
       refine goes_ Try.func66 (by kernel_rfl) rfl #[.slice A160_0 (rd_L1 l0_4 a1).length c160_0, .int .i64 t161, .agg #[.int .i64 a2_0, .int .i64 a2_1, .int .i64 a2_2, .int .i64 a2_3]] (by rfl) rfl rfl (by (try simp only [List.map_toArray, List.map_cons, List.map_nil]); first | done | rfl | (simp only [List.length_drop, List.length_take]; rfl)) ?_
       with_reducible refine (plane_taken.calls kj5 _ _ (rd_L1 l0_4 a1) t161 a2_0 a2_1 a2_2 a2_3 t162 _ ?side1 ?side2 A31.out).mono ?_
       (case side1 => repeat (first | exact (Kd.C_below HR160_0.out HB.out) | (with_reducible refine Kd.C_alloc ?_ _) | (with_reducible refine Kd.C_drewN ?_ _) | (with_reducible refine Kd.C_drew ?_)))
       (case side2 => exact HC160_0.out)
       rintro e w34 ⟨v163, rfl, ho0, hb⟩
       refine ⟨_, rfl, ?_⟩
       have n0_ := am (Kd.R_lower ho0 (bU (by repeat (first | (with_reducible first | exact HB.out | apply bA | apply bN | apply bD | refine bS ?_ GE153.out | refine bS ?_ GE154.out | refine bS ?_ GE155.out) | exact HB.out))))
       have n1_ := am (bB (g := gb153) (o := .cells #[.int .i64 a0_0, .int .i64 a0_1, .int .i64 a0_2, .bool a0_3, .slice (some ad160) l0_4.length c0_4] 39 (0, 0)) (by (with_reducible repeat apply dX); exact BK153.out) hb)
       have n2_ := am (bB (g := gb154) (o := .cells #[.int .i64 a2_0, .int .i64 a2_1, .int .i64 a2_2, .int .i64 a2_3] 52 (0, 0)) (by (with_reducible repeat apply dX); exact BK154.out) hb)
       have n3_ := am (bB (g := gb155) (o := .cells #[.int .i64 0, .int .i64 0, .slice none 0 0] 55 (0, 0)) (by (with_reducible repeat apply dX); exact BK155.out) hb)
       have n4_ := am (bT (by repeat (first | (with_reducible first | exact HB.out | apply bA | apply bN | apply bD | refine bS ?_ GE153.out | refine bS ?_ GE154.out | refine bS ?_ GE155.out) | exact HB.out)) hb)
       clear BK153
       clear BK154
       clear BK155
       clear HB
       have HO164 := n0_
       have BK153 := n1_
       have BK154 := n2_
       have BK155 := n3_
       have HB := n4_
       clear n0_ n1_ n2_ n3_ n4_
       (try clear hb)
       (try clear hb2)
       (try clear hk)
       (try clear hi)
       (try clear ho0)
       obtain ⟨Ao35, co35, eo35⟩ := Kd.R_slice HO164.out
       (first | subst eo35 | (injection eo35 with f1_ f2_ f3_; have f4_ := f1_.symm; have f5_ := f3_.symm; clear f1_ f2_ f3_; subst f4_; subst f5_))
       refine hK.out _ _ ⟨(bC BK154.out 0).trans rfl, (bC BK154.out 1).trans rfl, (bC BK154.out 2).trans rfl, (bC BK154.out 3).trans rfl, (bC BK153.out 0).trans rfl, (bC BK153.out 1).trans rfl, (bC BK153.out 2).trans rfl, (bC BK153.out 3).trans rfl, (bC BK153.out 4).trans rfl, ((HB.out.cell (World.block_lt_of_cell? w _ hw160_0)).trans hw160_0)⟩ (fun hHeld => ?_)
       clear hK K
       refine norm_ (a' := ?_) ?_ ?_
       rotate_left
       ·show Act.put _ (some 47) _ = _
        simp only [Act.put, List.setIfInBounds_toArray, List.set_cons_zero, List.set_cons_succ, i64_w, i32_w]
        rfl
       refine pure_ (i := 15) (N := some 48) (v := ?_) (a' := ?_) #[true, true, true, true, true, true, true, true, true, true, true, true, true, true, true, true, false, false] rfl rfl (any_of HT_.out (by kernel_rfl)) (fun _ _ _ h => h) (Or.inl ⟨by rfl, ?_⟩) ?_ ?_
       rotate_left
       ·intro w'
        go_simp
        with_reducible rfl
       rotate_left
       ·simp only [Act.put, List.setIfInBounds_toArray, List.set_cons_zero, List.set_cons_succ, i64_w, i32_w]
        rfl
       refine one_ (i := 16) (N := none) #[true, true, true, true, true, true, true, true, true, true, true, true, true, true, true, true, true, false] rfl rfl (one_of HT_.out (by kernel_rfl)) (by decide) (fun K hK => ?_)
       have hs36 : w34.cell? ⟨gb155, 0, none⟩ = some (.int .i64 0) := (bC BK155.out 0).trans rfl
       have hfs36 := bZ BK155.out 0
       have hns36_0 := NB153_155.out
       have hns36_1 := NB154_155.out
       have hms36_0 := NB155_153.out
       have hms36_1 := NB155_154.out
       have hs37 : w34.cell? ⟨gb155, 1, none⟩ = some (.int .i64 0) := (bC BK155.out 1).trans rfl
       have hfs37 := bZ BK155.out 1
       have hns37_0 := NB153_155.out
       have hns37_1 := NB154_155.out
       have hms37_0 := NB155_153.out
       have hms37_1 := NB155_154.out
       have hs38 : w34.cell? ⟨gb155, 2, none⟩ = some (.slice none 0 0) := (bC BK155.out 2).trans rfl
       have hfs38 := bZ BK155.out 2
       have hns38_0 := NB153_155.out
       have hns38_1 := NB154_155.out
       have hms38_0 := NB155_153.out
       have hms38_1 := NB155_154.out
       refine skip_ (w1 := ?_) (by rfl) rfl ?_ ?_
       rotate_left
       ·go_simp
        rfl
       refine hK.out _ _ ⟨((cell_far (p := ⟨gb155, _, none⟩) NB154_155.out _).trans (((cell_far (p := ⟨gb155, _, none⟩) NB154_155.out _).trans (((cell_far (p := ⟨gb155, _, none⟩) NB154_155.out _).trans (hHeld.1)))))), ((cell_far (p := ⟨gb155, _, none⟩) NB154_155.out _).trans (((cell_far (p := ⟨gb155, _, none⟩) NB154_155.out _).trans (((cell_far (p := ⟨gb155, _, none⟩) NB154_155.out _).trans (hHeld.2.1)))))), ((cell_far (p := ⟨gb155, _, none⟩) NB154_155.out _).trans (((cell_far (p := ⟨gb155, _, none⟩) NB154_155.out _).trans (((cell_far (p := ⟨gb155, _, none⟩) NB154_155.out _).trans (hHeld.2.2.1)))))), ((cell_far (p := ⟨gb155, _, none⟩) NB154_155.out _).trans (((cell_far (p := ⟨gb155, _, none⟩) NB154_155.out _).trans (((cell_far (p := ⟨gb155, _, none⟩) NB154_155.out _).trans (hHeld.2.2.2.1)))))), ((cell_far (p := ⟨gb155, _, none⟩) NB153_155.out _).trans (((cell_far (p := ⟨gb155, _, none⟩) NB153_155.out _).trans (((cell_far (p := ⟨gb155, _, none⟩) NB153_155.out _).trans (hHeld.2.2.2.2.1)))))), ((cell_far (p := ⟨gb155, _, none⟩) NB153_155.out _).trans (((cell_far (p := ⟨gb155, _, none⟩) NB153_155.out _).trans (((cell_far (p := ⟨gb155, _, none⟩) NB153_155.out _).trans (hHeld.2.2.2.2.2.1)))))), ((cell_far (p := ⟨gb155, _, none⟩) NB153_155.out _).trans (((cell_far (p := ⟨gb155, _, none⟩) NB153_155.out _).trans (((cell_far (p := ⟨gb155, _, none⟩) NB153_155.out _).trans (hHeld.2.2.2.2.2.2.1)))))), ((cell_far (p := ⟨gb155, _, none⟩) NB153_155.out _).trans (((cell_far (p := ⟨gb155, _, none⟩) NB153_155.out _).trans (((cell_far (p := ⟨gb155, _, none⟩) NB153_155.out _).trans (hHeld.2.2.2.2.2.2.2.1)))))), ((cell_far (p := ⟨gb155, _, none⟩) NB153_155.out _).trans (((cell_far (p := ⟨gb155, _, none⟩) NB153_155.out _).trans (((cell_far (p := ⟨gb155, _, none⟩) NB153_155.out _).trans (hHeld.2.2.2.2.2.2.2.2.1)))))), ((cell_far (p := ⟨gb155, _, none⟩) (by first | exact nL (Nat.lt_of_lt_of_le (by have := World.block_lt_of_cell? _ _ hw160_0; first | rwa [add_block] at this | exact this) GW155.out) | (rw [add_block]; exact nL (Nat.lt_of_lt_of_le (by have := World.block_lt_of_cell? _ _ hw160_0; first | rwa [add_block] at this | exact this) GW155.out)) | (show (Addr.add _ _).block ≠ _; rw [add_block]; exact nL (Nat.lt_of_lt_of_le (by have := World.block_lt_of_cell? _ _ hw160_0; first | rwa [add_block] at this | exact this) GW155.out)) | (dsimp only; exact nL (Nat.lt_of_lt_of_le (by have := World.block_lt_of_cell? _ _ hw160_0; first | rwa [add_block] at this | exact this) GW155.out))) _).trans (((cell_far (p := ⟨gb155, _, none⟩) (by first | exact nL (Nat.lt_of_lt_of_le (by have := World.block_lt_of_cell? _ _ hw160_0; first | rwa [add_block] at this | exact this) GW155.out) | (rw [add_block]; exact nL (Nat.lt_of_lt_of_le (by have := World.block_lt_of_cell? _ _ hw160_0; first | rwa [add_block] at this | exact this) GW155.out)) | (show (Addr.add _ _).block ≠ _; rw [add_block]; exact nL (Nat.lt_of_lt_of_le (by have := World.block_lt_of_cell? _ _ hw160_0; first | rwa [add_block] at this | exact this) GW155.out)) | (dsimp only; exact nL (Nat.lt_of_lt_of_le (by have := World.block_lt_of_cell? _ _ hw160_0; first | rwa [add_block] at this | exact this) GW155.out))) _).trans (((cell_far (p := ⟨gb155, _, none⟩) (by first | exact nL (Nat.lt_of_lt_of_le (by have := World.block_lt_of_cell? _ _ hw160_0; first | rwa [add_block] at this | exact this) GW155.out) | (rw [add_block]; exact nL (Nat.lt_of_lt_of_le (by have := World.block_lt_of_cell? _ _ hw160_0; first | rwa [add_block] at this | exact this) GW155.out)) | (show (Addr.add _ _).block ≠ _; rw [add_block]; exact nL (Nat.lt_of_lt_of_le (by have := World.block_lt_of_cell? _ _ hw160_0; first | rwa [add_block] at this | exact this) GW155.out)) | (dsimp only; exact nL (Nat.lt_of_lt_of_le (by have := World.block_lt_of_cell? _ _ hw160_0; first | rwa [add_block] at this | exact this) GW155.out))) _).trans (hHeld.2.2.2.2.2.2.2.2.2))))))⟩ (fun hHeld => ?_)
       clear hK K
       refine pure_ (i := 17) (N := some 7) (v := ?_) (a' := ?_) #[true, true, true, true, true, true, true, true, true, true, true, true, true, true, true, true, true, true] rfl rfl (any_of HT_.out (by kernel_rfl)) (fun _ _ _ h => h) (Or.inl ⟨by rfl, ?_⟩) ?_ ?_
       rotate_left
       ·intro w'
        go_simp
        with_reducible rfl
       rotate_left
       ·simp only [Act.put, List.setIfInBounds_toArray, List.set_cons_zero, List.set_cons_succ, i64_w, i32_w]
        rfl
       refine done_ (done_of HT_.out (by kernel_rfl)) ?_
       try go_wp2
       refine bodyPost_ret (results_ct rfl _ _ gb155 55 #[.int .i64 a2_2, .int .i64 a2_3, .slice Ao35 t162.length co35] (0, 0) _ rfl (by (with_reducible repeat apply dX); refine bP (cs := #[.int .i64 a2_2, .int .i64 a2_3, .slice none 0 0]) ?_ 2 _ rfl; (with_reducible repeat apply dX); refine bP (cs := #[.int .i64 a2_2, .int .i64 0, .slice none 0 0]) ?_ 1 _ rfl; (with_reducible repeat apply dX); refine bP (cs := #[.int .i64 0, .int .i64 0, .slice none 0 0]) ?_ 0 _ rfl; (with_reducible repeat apply dX); exact BK155.out) Try.underlying55 rfl (by kernel_rfl)) rfl ?_
       exact ⟨_, by first | rfl | (simp [errW_none, errW_some] <;> rfl) | (simp [*, errW_none, errW_some] <;> rfl), by (with_reducible repeat (first | apply Kd.R_alloc | apply Kd.R_drewN | apply Kd.R_drew)); exact Kd.R_mono (Kd.R_far (p := ⟨gb155, 2, none⟩) (Kd.R_far (p := ⟨gb155, 1, none⟩) (Kd.R_far (p := ⟨gb155, 0, none⟩) (Kd.R_types HO164.out BK155.out (by decide)) (fun _ hk => hk.2) (.int .i64 a2_2)) (fun _ hk => hk.2) (.int .i64 a2_3)) (fun _ hk => hk.2) (.slice Ao35 t162.length co35)) (fun _ hk => trivial), by repeat (first | (with_reducible first | exact HB.out | apply bA | apply bN | apply bD | refine bS ?_ GE153.out | refine bS ?_ GE154.out | refine bS ?_ GE155.out) | exact HB.out)⟩
      ·rw [if_neg c29] at H
       exact absurd H (by simp)
     ·rw [if_neg c28] at H
      exact absurd H (by simp)
 ·rw [if_neg c5] at H
  have c5b0 : (t156 == 0) = false := beq_eq_false_iff_ne.mpr c5
  have c5b1 : (t156 != 0) = true := bne_iff_ne.mpr c5
  simp only [Option.some.injEq, Prod.mk.injEq] at H
  obtain ⟨rfl, rfl, rfl, rfl⟩ := H
  go_enter Try.func33, Try.ntmps33
  go_wp2_with (first | ((with_reducible refine gD (N := 3) rfl ?_); refine bE ?hg (N := 3) ?hd (cs := #[.int .i64 a0_0, .int .i64 a0_1, .int .i64 a0_2, .bool a0_3, .slice A0_4 l0_4.length c0_4]) (t := 39) ?hr ?_; (case hd => rfl); (case hg => rfl); (case hr => first | (go_simp; done) | (go_simp; rfl)); intro gb153 hg w39 hbox hb; have n0_ := am (bT (by repeat (first | (with_reducible first | exact HB.out | apply bA | apply bN | apply bD) | exact HB.out)) hb); have n1_ := am (hbox); have n2_ := am ((by rw [hg]; exact (bU (by repeat (first | (with_reducible first | exact HB.out | apply bA | apply bN | apply bD) | exact HB.out))) : w.heap.size ≤ gb153)); have n3_ := am ((by rw [hg]; exact (bU (by repeat (first | (with_reducible first | exact HB.out | apply bA | apply bN | apply bD) | exact HB.out))) : w.heap.size ≤ gb153)); clear HB; have HB := n0_; have BK153 := n1_; have GW153 := n2_; have GE153 := n3_; clear n0_ n1_ n2_ n3_; clear hb hbox hg) | ((with_reducible refine gD (N := 5) rfl ?_); refine bE ?hg (N := 5) ?hd (cs := #[.int .i64 a2_0, .int .i64 a2_1, .int .i64 a2_2, .int .i64 a2_3]) (t := 52) ?hr ?_; (case hd => rfl); (case hg => rfl); (case hr => first | (go_simp; done) | (go_simp; rfl)); intro gb154 hg w40 hbox hb; have n0_ := am (bB (g := gb153) (o := .cells #[.int .i64 a0_0, .int .i64 a0_1, .int .i64 a0_2, .bool a0_3, .slice A0_4 l0_4.length c0_4] 39 (0, 0)) (by (with_reducible repeat apply dX); exact BK153.out) hb); have n1_ := am (bT (by repeat (first | (with_reducible first | exact HB.out | apply bA | apply bN | apply bD | refine bS ?_ GE153.out) | exact HB.out)) hb); have n2_ := am (hbox); have n3_ := am ((by rw [hg]; exact (bU (by repeat (first | (with_reducible first | exact HB.out | apply bA | apply bN | apply bD | refine bS ?_ GE153.out) | exact HB.out))) : w.heap.size ≤ gb154)); have n4_ := am ((by rw [hg]; exact (bU (by repeat (first | (with_reducible first | exact HB.out | apply bA | apply bN | apply bD | refine bS ?_ GE153.out) | exact HB.out))) : w.heap.size ≤ gb154)); have n5_ := am ((by rw [hg]; exact nL (bL (g := gb153) (o := .cells #[.int .i64 a0_0, .int .i64 a0_1, .int .i64 a0_2, .bool a0_3, .slice A0_4 l0_4.length c0_4] 39 (0, 0)) (by (with_reducible repeat apply dX); exact BK153.out)) : gb153 ≠ gb154)); have n6_ := am ((by rw [hg]; exact nG (bL (g := gb153) (o := .cells #[.int .i64 a0_0, .int .i64 a0_1, .int .i64 a0_2, .bool a0_3, .slice A0_4 l0_4.length c0_4] 39 (0, 0)) (by (with_reducible repeat apply dX); exact BK153.out)) : gb154 ≠ gb153)); clear BK153; clear HB; have BK153 := n0_; have HB := n1_; have BK154 := n2_; have GW154 := n3_; have GE154 := n4_; have NB153_154 := n5_; have NB154_153 := n6_; clear n0_ n1_ n2_ n3_ n4_ n5_ n6_; clear hb hbox hg) | ((with_reducible refine gD (N := 6) rfl ?_); refine bE ?hg (N := 6) ?hd (cs := #[.int .i64 0, .int .i64 0, .slice none 0 0]) (t := 55) ?hr ?_; (case hd => rfl); (case hg => rfl); (case hr => first | (go_simp; done) | (go_simp; rfl)); intro gb155 hg w41 hbox hb; have n0_ := am (bB (g := gb153) (o := .cells #[.int .i64 a0_0, .int .i64 a0_1, .int .i64 a0_2, .bool a0_3, .slice A0_4 l0_4.length c0_4] 39 (0, 0)) (by (with_reducible repeat apply dX); exact BK153.out) hb); have n1_ := am (bB (g := gb154) (o := .cells #[.int .i64 a2_0, .int .i64 a2_1, .int .i64 a2_2, .int .i64 a2_3] 52 (0, 0)) (by (with_reducible repeat apply dX); exact BK154.out) hb); have n2_ := am (bT (by repeat (first | (with_reducible first | exact HB.out | apply bA | apply bN | apply bD | refine bS ?_ GE153.out | refine bS ?_ GE154.out) | exact HB.out)) hb); have n3_ := am (hbox); have n4_ := am ((by rw [hg]; exact (bU (by repeat (first | (with_reducible first | exact HB.out | apply bA | apply bN | apply bD | refine bS ?_ GE153.out | refine bS ?_ GE154.out) | exact HB.out))) : w.heap.size ≤ gb155)); have n5_ := am ((by rw [hg]; exact (bU (by repeat (first | (with_reducible first | exact HB.out | apply bA | apply bN | apply bD | refine bS ?_ GE153.out | refine bS ?_ GE154.out) | exact HB.out))) : w.heap.size ≤ gb155)); have n6_ := am ((by rw [hg]; exact nL (bL (g := gb153) (o := .cells #[.int .i64 a0_0, .int .i64 a0_1, .int .i64 a0_2, .bool a0_3, .slice A0_4 l0_4.length c0_4] 39 (0, 0)) (by (with_reducible repeat apply dX); exact BK153.out)) : gb153 ≠ gb155)); have n7_ := am ((by rw [hg]; exact nG (bL (g := gb153) (o := .cells #[.int .i64 a0_0, .int .i64 a0_1, .int .i64 a0_2, .bool a0_3, .slice A0_4 l0_4.length c0_4] 39 (0, 0)) (by (with_reducible repeat apply dX); exact BK153.out)) : gb155 ≠ gb153)); have n8_ := am ((by rw [hg]; exact nL (bL (g := gb154) (o := .cells #[.int .i64 a2_0, .int .i64 a2_1, .int .i64 a2_2, .int .i64 a2_3] 52 (0, 0)) (by (with_reducible repeat apply dX); exact BK154.out)) : gb154 ≠ gb155)); have n9_ := am ((by rw [hg]; exact nG (bL (g := gb154) (o := .cells #[.int .i64 a2_0, .int .i64 a2_1, .int .i64 a2_2, .int .i64 a2_3] 52 (0, 0)) (by (with_reducible repeat apply dX); exact BK154.out)) : gb155 ≠ gb154)); clear BK153; clear BK154; clear HB; have BK153 := n0_; have BK154 := n1_; have HB := n2_; have BK155 := n3_; have GW155 := n4_; have GE155 := n5_; have NB153_155 := n6_; have NB155_153 := n7_; have NB154_155 := n8_; have NB155_154 := n9_; clear n0_ n1_ n2_ n3_ n4_ n5_ n6_ n7_ n8_ n9_; clear hb hbox hg; have hnb42 := NB153_154.out; have hnc42 := NB154_153.out; have hnb43 := NB153_155.out; have hnc43 := NB155_153.out; have hcz44_0 : w41.cell? ⟨gb153, 0, none⟩ = some (.int .i64 a0_0) := (bC BK153.out 0).trans rfl; have hcz44_1 : w41.cell? ⟨gb153, 1, none⟩ = some (.int .i64 a0_1) := (bC BK153.out 1).trans rfl; have hcz44_2 : w41.cell? ⟨gb153, 2, none⟩ = some (.int .i64 a0_2) := (bC BK153.out 2).trans rfl; have hcz44_3 : w41.cell? ⟨gb153, 3, none⟩ = some (.bool a0_3) := (bC BK153.out 3).trans rfl; have hcz44_4 : w41.cell? ⟨gb153, 4, none⟩ = some (.slice A0_4 l0_4.length c0_4) := (bC BK153.out 4).trans rfl; have hfz44_0 := bZ BK153.out 0; have hfz44_1 := bZ BK153.out 1; have hfz44_2 := bZ BK153.out 2; have hfz44_3 := bZ BK153.out 3; have hfz44_4 := bZ BK153.out 4) | ((with_reducible refine gate_callee (f := 29) rfl ?_); refine goesL_ (some 10) rfl rfl Try.func29 (by kernel_rfl) rfl #[.agg #[.int .i64 a0_0, .int .i64 a0_1, .int .i64 a0_2, .bool a0_3, .slice A0_4 l0_4.length c0_4]] rfl (by (try simp only [List.map_toArray, List.map_cons, List.map_nil]); first | done | rfl | (simp only [List.length_drop, List.length_take]; rfl)) ?_; (with_reducible refine (plane_Valid.calls k a0_0 a0_1 a0_2 a0_3 _ _ l0_4 t156 _ ?side1 ?side2 A4.out).mono ?_); (case side1 => repeat (first | exact (Kd.C_below HR0_4.out HB.out) | (with_reducible refine Kd.C_alloc ?_ _) | (with_reducible refine Kd.C_drewN ?_ _) | (with_reducible refine Kd.C_drew ?_))); (case side2 => exact HC0_4.out); rintro e w45 ⟨rfl, hb⟩; refine ⟨_, rfl, ?_⟩; have n0_ := am (bB (g := gb153) (o := .cells #[.int .i64 a0_0, .int .i64 a0_1, .int .i64 a0_2, .bool a0_3, .slice A0_4 l0_4.length c0_4] 39 (0, 0)) (by (with_reducible repeat apply dX); exact BK153.out) hb); have n1_ := am (bB (g := gb154) (o := .cells #[.int .i64 a2_0, .int .i64 a2_1, .int .i64 a2_2, .int .i64 a2_3] 52 (0, 0)) (by (with_reducible repeat apply dX); exact BK154.out) hb); have n2_ := am (bB (g := gb155) (o := .cells #[.int .i64 0, .int .i64 0, .slice none 0 0] 55 (0, 0)) (by (with_reducible repeat apply dX); exact BK155.out) hb); have n3_ := am (bT (by repeat (first | (with_reducible first | exact HB.out | apply bA | apply bN | apply bD | refine bS ?_ GE153.out | refine bS ?_ GE154.out | refine bS ?_ GE155.out) | exact HB.out)) hb); clear BK153; clear BK154; clear BK155; clear HB; have BK153 := n0_; have BK154 := n1_; have BK155 := n2_; have HB := n3_; clear n0_ n1_ n2_ n3_; (try clear hb); (try clear hb2); (try clear hk); (try clear hi); have hnb46 := NB155_154.out; have hnc46 := NB154_155.out; have hcz47_0 : w45.cell? ⟨gb155, 0, none⟩ = some (.int .i64 0) := (bC BK155.out 0).trans rfl; have hcz47_1 : w45.cell? ⟨gb155, 1, none⟩ = some (.int .i64 0) := (bC BK155.out 1).trans rfl; have hcz47_2 : w45.cell? ⟨gb155, 2, none⟩ = some (.slice none 0 0) := (bC BK155.out 2).trans rfl; have hfz47_0 := bZ BK155.out 0; have hfz47_1 := bZ BK155.out 1; have hfz47_2 := bZ BK155.out 2))
  refine bodyPost_ret (results_ct rfl _ _ gb155 55 #[.int .i64 0, .int .i64 0, .slice none 0 0] (0, 0) _ rfl (by (with_reducible repeat apply dX); refine bP (cs := #[.int .i64 0, .int .i64 0, .slice none 0 0]) ?_ 2 _ rfl; (with_reducible repeat apply dX); refine bP (cs := #[.int .i64 0, .int .i64 0, .slice none 0 0]) ?_ 1 _ rfl; (with_reducible repeat apply dX); refine bP (cs := #[.int .i64 0, .int .i64 0, .slice none 0 0]) ?_ 0 _ rfl; (with_reducible repeat apply dX); exact BK155.out) Try.underlying55 rfl (by kernel_rfl)) rfl ?_
  exact ⟨_, by first | rfl | (simp [errW_none, errW_some] <;> rfl) | (simp [*, errW_none, errW_some] <;> rfl), by first | exact Kd.R_nil _ _ _ _ _ | exact Kd.N_nil _ _ _ _ _ | exact Kd.V_nil _ _ _ _ _ | exact Kd.Q_nil _ _ _ _ _ | exact Kd.S_nil _ _ _ _ _, by repeat (first | (with_reducible first | exact HB.out | apply bA | apply bN | apply bD | refine bS ?_ GE153.out | refine bS ?_ GE154.out | refine bS ?_ GE155.out) | exact HB.out)⟩

end Go.Proofs.Ytdoikehkibefpaa.PPb
