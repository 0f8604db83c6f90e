-- Laid by a program of this session (wip/tools/prx.py), over the kit's printer of walks; Lean checks it.
import Derived.Test.YtdoikehkibefpaaPPbx0
import Derived.Test.YtdoikehkibefpaaPPbx3
import Derived.Test.YtdoikehkibefpaaPPbx5
import Derived.Test.YtdoikehkibefpaaPPbx7
namespace Go.Proofs.Ytdoikehkibefpaa.PPb
open Go.RowKit Go.Proofs.YtdoikehkibefpaaW.PrintWords Go.Proofs.YtdoikehkibefpaaW.PrintLast Go.Proofs.YtdoikehkibefpaaW.PrintMore
open Go.Proofs.YtdoikehkibefpaaW.PrintWords renaming blk_far → bF, below_set → bS, blk_frozen → bZ, below_alloc → bA, pw_below_drewN → bN, below_drew1 → bD, blk_below → bB, blk_cell → bC, blk_set → bs, blk_lt → bL, blk_put → bP, below_step → bT, below_size → bU, box_event → bE, gate_dst → gD
open Go.Proofs.YtdoikehkibefpaaW.PrintWords.Kd renaming S_far → kF, S_types → kT, S_alloc → kA, S_drewN → kN, S_drew → kD
set_option linter.unusedVariables false
set_option linter.unusedSimpArgs false

/-! ### dailiesref06_Crop: function 35 -/
mutual
def dailiesref06_Crop.l0 : Nat → Int → Int → Int → Int → Int → Int → Bool → List (List Int) → Int → Int → Int → Int → Int → Int → List Int → Option (Int × Int × List Int × Int)
 | 0, _, _, _, _, _, _, _, _, _, _, _, _, _, _, _ => none
 | k + 1, x1, x10, x13, x188000, x188001, x188002, x188003, x188004, x189000, x189001, x189002, x189003, x195000, x195001, x195002 => if x13 < x189003 then (dailiesref06_Crop.l1 k x1 x10 x13 0 x188000 x188001 x188002 x188003 x188004 x189000 x189001 x189002 x189003 x195000 x195001 x195002) else (some (x195000, x195001, x195002, 0))
def dailiesref06_Crop.l1 : Nat → Int → Int → Int → Int → Int → Int → Int → Bool → List (List Int) → Int → Int → Int → Int → Int → Int → List Int → Option (Int × Int × List Int × Int)
 | 0, _, _, _, _, _, _, _, _, _, _, _, _, _, _, _, _ => none
 | k + 1, x1, x10, x13, x14, x188000, x188001, x188002, x188003, x188004, x189000, x189001, x189002, x189003, x195000, x195001, x195002 => if x14 < x189002 then (if 0 ≤ x1 then (if x1 < (x188004.length : Int) then (if 0 ≤ (wrap64 ((wrap64 ((wrap64 ((wrap64 (x189001 + x13)) * x10)) + x189000)) + x14)) then (if (wrap64 ((wrap64 ((wrap64 ((wrap64 (x189001 + x13)) * x10)) + x189000)) + x14)) < ((rd_L1 x188004 x1).length : Int) then (if x195002.length < 70368744177664 then (dailiesref06_Crop.l1 k x1 x10 x13 (wrap64 (x14 + 1)) x188000 x188001 x188002 x188003 x188004 x189000 x189001 x189002 x189003 x195000 x195001 (x195002 ++ [rd (rd_L1 x188004 x1) (wrap64 ((wrap64 ((wrap64 ((wrap64 (x189001 + x13)) * x10)) + x189000)) + x14))])) else (none)) else (none)) else (none)) else (none)) else (none)) else (dailiesref06_Crop.l0 k x1 x10 (wrap64 (x13 + 1)) x188000 x188001 x188002 x188003 x188004 x189000 x189001 x189002 x189003 x195000 x195001 x195002)
end
def dailiesref06_Crop.f (k : Nat) (a0_0 : Int) (a0_1 : Int) (a0_2 : Int) (a0_3 : Bool) (l0_4 : List (List Int)) (a1 : Int) (a2_0 : Int) (a2_1 : Int) (a2_2 : Int) (a2_3 : Int) : Option (Int × Int × List Int × Int) := (dailiesref06_Valid.f k a0_0 a0_1 a0_2 a0_3 l0_4).bind fun t190 => (if t190 = 0 then ((dailiesref06_there.f a0_0 a0_1 a0_2 a0_3 a1).bind fun t191 => (if t191 = true then ((dailiesref06_wide.f a0_0 a0_1 a0_2 a0_3 a1).bind fun t192 => ((dailiesref06_lies.f a2_0 a2_1 a2_2 a2_3 t192 a0_1).bind fun t193 => (if t193 = true then (dailiesref06_Crop.l0 k a1 t192 0 a0_0 a0_1 a0_2 a0_3 l0_4 a2_0 a2_1 a2_2 a2_3 a2_2 a2_3 ([] : List Int)) else (some (0, 0, ([] : List Int), 65))))) else (some (0, 0, ([] : List Int), 65)))) else (some (0, 0, ([] : List Int), t190)))
theorem dailiesref06_Crop.mono_l : ∀ k, (∀ y0 y1 y2 y3 y4 y5 y6 y7 y8 y9 y10 y11 y12 y13 y14, LeO (dailiesref06_Crop.l0 k y0 y1 y2 y3 y4 y5 y6 y7 y8 y9 y10 y11 y12 y13 y14) (dailiesref06_Crop.l0 (k + 1) y0 y1 y2 y3 y4 y5 y6 y7 y8 y9 y10 y11 y12 y13 y14)) ∧ (∀ y0 y1 y2 y3 y4 y5 y6 y7 y8 y9 y10 y11 y12 y13 y14 y15, LeO (dailiesref06_Crop.l1 k y0 y1 y2 y3 y4 y5 y6 y7 y8 y9 y10 y11 y12 y13 y14 y15) (dailiesref06_Crop.l1 (k + 1) y0 y1 y2 y3 y4 y5 y6 y7 y8 y9 y10 y11 y12 y13 y14 y15))
 | 0 => ⟨fun _ _ _ _ _ _ _ _ _ _ _ _ _ _ _ r h => by simp [dailiesref06_Crop.l0] at h, fun _ _ _ _ _ _ _ _ _ _ _ _ _ _ _ _ r h => by simp [dailiesref06_Crop.l1] at h⟩
 | k + 1 => by
  obtain ⟨ih0, ih1⟩ := dailiesref06_Crop.mono_l k
  refine ⟨?_, ?_⟩
  ·intro y0 y1 y2 y3 y4 y5 y6 y7 y8 y9 y10 y11 y12 y13 y14
   unfold dailiesref06_Crop.l0
   repeat' first
   | (with_reducible exact ih0 _ _ _ _ _ _ _ _ _ _ _ _ _ _ _)
   | (with_reducible exact ih1 _ _ _ _ _ _ _ _ _ _ _ _ _ _ _ _)
   | (with_reducible exact dailiesref06_Valid.mono _ _ _ _ _ _)
   | (with_reducible exact LeO.refl _)
   | (with_reducible exact LeO.none _)
   | (with_reducible refine LeO.ite ?_ ?_)
   | (with_reducible refine LeO.bind ?_ (fun _ => ?_))
   | exact ih0 _ _ _ _ _ _ _ _ _ _ _ _ _ _ _
   | exact ih1 _ _ _ _ _ _ _ _ _ _ _ _ _ _ _ _
   | exact dailiesref06_Valid.mono _ _ _ _ _ _
   | exact LeO.none _
   | refine LeO.ite ?_ ?_
   | refine LeO.bind ?_ (fun _ => ?_)
  ·intro y0 y1 y2 y3 y4 y5 y6 y7 y8 y9 y10 y11 y12 y13 y14 y15
   unfold dailiesref06_Crop.l1
   repeat' first
   | (with_reducible exact ih0 _ _ _ _ _ _ _ _ _ _ _ _ _ _ _)
   | (with_reducible exact ih1 _ _ _ _ _ _ _ _ _ _ _ _ _ _ _ _)
   | (with_reducible exact dailiesref06_Valid.mono _ _ _ _ _ _)
   | (with_reducible exact LeO.refl _)
   | (with_reducible exact LeO.none _)
   | (with_reducible refine LeO.ite ?_ ?_)
   | (with_reducible refine LeO.bind ?_ (fun _ => ?_))
   | exact ih0 _ _ _ _ _ _ _ _ _ _ _ _ _ _ _
   | exact ih1 _ _ _ _ _ _ _ _ _ _ _ _ _ _ _ _
   | exact dailiesref06_Valid.mono _ _ _ _ _ _
   | exact LeO.none _
   | refine LeO.ite ?_ ?_
   | refine LeO.bind ?_ (fun _ => ?_)
theorem dailiesref06_Crop.mono : ∀ a0 a1 a2 a3 a4 a5 a6 a7 a8 a9 k, LeO (dailiesref06_Crop.f k a0 a1 a2 a3 a4 a5 a6 a7 a8 a9) (dailiesref06_Crop.f (k + 1) a0 a1 a2 a3 a4 a5 a6 a7 a8 a9) := by
 intro a0 a1 a2 a3 a4 a5 a6 a7 a8 a9 k
 obtain ⟨ih0, ih1⟩ := dailiesref06_Crop.mono_l k
 unfold dailiesref06_Crop.f
 repeat' first
   | (with_reducible exact ih0 _ _ _ _ _ _ _ _ _ _ _ _ _ _ _)
   | (with_reducible exact ih1 _ _ _ _ _ _ _ _ _ _ _ _ _ _ _ _)
   | (with_reducible exact dailiesref06_Valid.mono _ _ _ _ _ _)
   | (with_reducible exact LeO.refl _)
   | (with_reducible exact LeO.none _)
   | (with_reducible refine LeO.ite ?_ ?_)
   | (with_reducible refine LeO.bind ?_ (fun _ => ?_))
   | exact ih0 _ _ _ _ _ _ _ _ _ _ _ _ _ _ _
   | exact ih1 _ _ _ _ _ _ _ _ _ _ _ _ _ _ _ _
   | exact dailiesref06_Valid.mono _ _ _ _ _ _
   | exact LeO.none _
   | refine LeO.ite ?_ ?_
   | refine LeO.bind ?_ (fun _ => ?_)
def dailiesref06_Crop.T18 : Bool × List (List Nat × List Nat) := (true, [([], []), ([0], [0]), ([], []), ([2], [2]), ([], []), ([3, 4], [3, 4]), ([5], [5]), ([], []), ([7], [7]), ([], []), ([8, 9], [8, 9]), ([], []), ([10, 11], [10, 11]), ([], []), ([13], [13]), ([12, 14], [12, 14]), ([], []), ([15, 16], [15, 16]), ([6, 17], [6, 17]), ([18], [18]), ([19], [19]), ([1, 20], [1, 20]), ([0, 1, 2, 3, 4, 5, 6, 7, 8, 9, 10, 11, 12, 13, 14, 15, 16, 17, 18, 19, 20, 21], []), ([22, 21, 21, 0, 1, 2, 3, 4, 5, 6, 7, 8, 9, 10, 11, 12, 13, 14, 15, 16, 17, 18, 19, 20, 21], [21, 22])])
def dailiesref06_Crop.B18 : List Nat := [0, 1, 0, 4, 0, 28, 60, 0, 128, 0, 896, 0, 3968, 0, 8192, 32640, 0, 130944, 262140, 524284, 1048572, 2097151, 4194303, 8388607]
theorem dailiesref06_Crop.tab18 : rtab .any (opsOf Try.f35 18) = dailiesref06_Crop.T18 := by kernel_rfl
theorem dailiesref06_Crop.bits18 : waitsOk dailiesref06_Crop.T18.2 dailiesref06_Crop.B18 = true := by kernel_rfl
set_option maxHeartbeats 8000000 in
set_option maxRecDepth 100000 in
theorem dailiesref06_Crop.calls (k : Nat) (a0_0 : Int) (a0_1 : Int) (a0_2 : Int) (a0_3 : Bool) (A0_4 : Option Addr) (c0_4 : Nat) (l0_4 : List (List Int)) (a1 : Int) (a2_0 : Int) (a2_1 : Int) (a2_2 : Int) (a2_3 : Int) (r1 : Int) (r2 : Int) (r3 : List Int) (r4 : Int) (w : World) (hr0_4 : Kd.C (Kd.slice 72 (Kd.int .u16)) w A0_4 l0_4.length l0_4) (hc0_4 : l0_4.length ≤ c0_4) (h : dailiesref06_Crop.f k a0_0 a0_1 a0_2 a0_3 l0_4 a1 a2_0 a2_1 a2_2 a2_3 = some (r1, r2, r3, r4)) :
  Calls Try.prog 35 #[.agg #[.int .i64 a0_0, .int .i64 a0_1, .int .i64 a0_2, .bool a0_3, .slice A0_4 l0_4.length c0_4], .int .i64 a1, .agg #[.int .i64 a2_0, .int .i64 a2_1, .int .i64 a2_2, .int .i64 a2_3]] w fun e w' => ∃ v2_ : Value, e = .returned (.tuple #[.agg #[.int .i64 r1, .int .i64 r2, v2_], .int .i64 r4]) ∧ Kd.R (Kd.int .u16) 72 w' w.heap.size (fun _ => True) v2_ r3 ∧ Below w.heap.size w w' := by
 have hu39 := Try.underlying39
 have hu52 := Try.underlying52
 have hu55 := Try.underlying55
 have hu26 := Try.underlying26
 have HR0_4 := am hr0_4
 have HC0_4 := am hc0_4
 clear hr0_4 hc0_4
 have HB := am (Below.refl w.heap.size w)
 have H : ((dailiesref06_Valid.f k a0_0 a0_1 a0_2 a0_3 l0_4).bind fun t190 => (if t190 = 0 then ((dailiesref06_there.f a0_0 a0_1 a0_2 a0_3 a1).bind fun t191 => (if t191 = true then ((dailiesref06_wide.f a0_0 a0_1 a0_2 a0_3 a1).bind fun t192 => ((dailiesref06_lies.f a2_0 a2_1 a2_2 a2_3 t192 a0_1).bind fun t193 => (if t193 = true then (dailiesref06_Crop.l0 k a1 t192 0 a0_0 a0_1 a0_2 a0_3 l0_4 a2_0 a2_1 a2_2 a2_3 a2_2 a2_3 ([] : List Int)) else (some (0, 0, ([] : List Int), 65))))) else (some (0, 0, ([] : List Int), 65)))) else (some (0, 0, ([] : List Int), t190)))) = some (r1, r2, r3, r4) := h
 clear h
 replace H := Option.bind_eq_some_iff.mp H
 obtain ⟨t190, A40, H⟩ := H
 replace H : (if t190 = 0 then ((dailiesref06_there.f a0_0 a0_1 a0_2 a0_3 a1).bind fun t191 => (if t191 = true then ((dailiesref06_wide.f a0_0 a0_1 a0_2 a0_3 a1).bind fun t192 => ((dailiesref06_lies.f a2_0 a2_1 a2_2 a2_3 t192 a0_1).bind fun t193 => (if t193 = true then (dailiesref06_Crop.l0 k a1 t192 0 a0_0 a0_1 a0_2 a0_3 l0_4 a2_0 a2_1 a2_2 a2_3 a2_2 a2_3 ([] : List Int)) else (some (0, 0, ([] : List Int), 65))))) else (some (0, 0, ([] : List Int), 65)))) else (some (0, 0, ([] : List Int), t190))) = some (r1, r2, r3, r4) := H
 have A4 := am A40
 clear A40
 by_cases c5 : t190 = 0
 ·rw [if_pos c5] at H
  have c5b0 : (t190 == 0) = true := beq_iff_eq.mpr c5
  have c5b1 : (t190 != 0) = false := bne_eq_false_iff_eq.mpr c5
  clear c5
  replace H := Option.bind_eq_some_iff.mp H
  obtain ⟨t191, A60, H⟩ := H
  replace H : (if t191 = true then ((dailiesref06_wide.f a0_0 a0_1 a0_2 a0_3 a1).bind fun t192 => ((dailiesref06_lies.f a2_0 a2_1 a2_2 a2_3 t192 a0_1).bind fun t193 => (if t193 = true then (dailiesref06_Crop.l0 k a1 t192 0 a0_0 a0_1 a0_2 a0_3 l0_4 a2_0 a2_1 a2_2 a2_3 a2_2 a2_3 ([] : List Int)) else (some (0, 0, ([] : List Int), 65))))) else (some (0, 0, ([] : List Int), 65))) = some (r1, r2, r3, r4) := H
  have A6 := am A60
  clear A60
  by_cases c7 : t191 = true
  ·subst c7
   have H1 : ((dailiesref06_wide.f a0_0 a0_1 a0_2 a0_3 a1).bind fun t192 => ((dailiesref06_lies.f a2_0 a2_1 a2_2 a2_3 t192 a0_1).bind fun t193 => (if t193 = true then (dailiesref06_Crop.l0 k a1 t192 0 a0_0 a0_1 a0_2 a0_3 l0_4 a2_0 a2_1 a2_2 a2_3 a2_2 a2_3 ([] : List Int)) else (some (0, 0, ([] : List Int), 65))))) = some (r1, r2, r3, r4) := by rw [if_pos rfl] at H; exact H
   clear H
   have H := H1
   clear H1
   replace H := Option.bind_eq_some_iff.mp H
   obtain ⟨t192, A80, H⟩ := H
   replace H : ((dailiesref06_lies.f a2_0 a2_1 a2_2 a2_3 t192 a0_1).bind fun t193 => (if t193 = true then (dailiesref06_Crop.l0 k a1 t192 0 a0_0 a0_1 a0_2 a0_3 l0_4 a2_0 a2_1 a2_2 a2_3 a2_2 a2_3 ([] : List Int)) else (some (0, 0, ([] : List Int), 65)))) = some (r1, r2, r3, r4) := H
   have A8 := am A80
   clear A80
   replace H := Option.bind_eq_some_iff.mp H
   obtain ⟨t193, A90, H⟩ := H
   replace H : (if t193 = true then (dailiesref06_Crop.l0 k a1 t192 0 a0_0 a0_1 a0_2 a0_3 l0_4 a2_0 a2_1 a2_2 a2_3 a2_2 a2_3 ([] : List Int)) else (some (0, 0, ([] : List Int), 65))) = some (r1, r2, r3, r4) := H
   have A9 := am A90
   clear A90
   by_cases c10 : t193 = true
   ·subst c10
    have H1 : (dailiesref06_Crop.l0 k a1 t192 0 a0_0 a0_1 a0_2 a0_3 l0_4 a2_0 a2_1 a2_2 a2_3 a2_2 a2_3 ([] : List Int)) = some (r1, r2, r3, r4) := by rw [if_pos rfl] at H; exact H
    clear H
    have H := H1
    clear H1
    have H' := am H
    clear H
    go_enter Try.func35, Try.ntmps35
    go_wp2_with (first | ((with_reducible refine gD (N := 3) rfl ?_); refine bE ?hg (N := 3) ?hd (cs := #[.int .i64 a0_0, .int .i64 a0_1, .int .i64 a0_2, .bool a0_3, .slice A0_4 l0_4.length c0_4]) (t := 39) ?hr ?_; (case hd => rfl); (case hg => rfl); (case hr => first | (go_simp; done) | (go_simp; rfl)); intro gb187 hg w11 hbox hb; have n0_ := am (bT (by repeat (first | (with_reducible first | exact HB.out | apply bA | apply bN | apply bD) | exact HB.out)) hb); have n1_ := am (hbox); have n2_ := am ((by rw [hg]; exact (bU (by repeat (first | (with_reducible first | exact HB.out | apply bA | apply bN | apply bD) | exact HB.out))) : w.heap.size ≤ gb187)); have n3_ := am ((by rw [hg]; exact (bU (by repeat (first | (with_reducible first | exact HB.out | apply bA | apply bN | apply bD) | exact HB.out))) : w.heap.size ≤ gb187)); clear HB; have HB := n0_; have BK187 := n1_; have GW187 := n2_; have GE187 := n3_; clear n0_ n1_ n2_ n3_; clear hb hbox hg) | ((with_reducible refine gD (N := 5) rfl ?_); refine bE ?hg (N := 5) ?hd (cs := #[.int .i64 a2_0, .int .i64 a2_1, .int .i64 a2_2, .int .i64 a2_3]) (t := 52) ?hr ?_; (case hd => rfl); (case hg => rfl); (case hr => first | (go_simp; done) | (go_simp; rfl)); intro gb188 hg w12 hbox hb; have n0_ := am (bB (g := gb187) (o := .cells #[.int .i64 a0_0, .int .i64 a0_1, .int .i64 a0_2, .bool a0_3, .slice A0_4 l0_4.length c0_4] 39 (0, 0)) (by (with_reducible repeat apply dX); exact BK187.out) hb); have n1_ := am (bT (by repeat (first | (with_reducible first | exact HB.out | apply bA | apply bN | apply bD | refine bS ?_ GE187.out) | exact HB.out)) hb); have n2_ := am (hbox); have n3_ := am ((by rw [hg]; exact (bU (by repeat (first | (with_reducible first | exact HB.out | apply bA | apply bN | apply bD | refine bS ?_ GE187.out) | exact HB.out))) : w.heap.size ≤ gb188)); have n4_ := am ((by rw [hg]; exact (bU (by repeat (first | (with_reducible first | exact HB.out | apply bA | apply bN | apply bD | refine bS ?_ GE187.out) | exact HB.out))) : w.heap.size ≤ gb188)); have n5_ := am ((by rw [hg]; exact nL (bL (g := gb187) (o := .cells #[.int .i64 a0_0, .int .i64 a0_1, .int .i64 a0_2, .bool a0_3, .slice A0_4 l0_4.length c0_4] 39 (0, 0)) (by (with_reducible repeat apply dX); exact BK187.out)) : gb187 ≠ gb188)); have n6_ := am ((by rw [hg]; exact nG (bL (g := gb187) (o := .cells #[.int .i64 a0_0, .int .i64 a0_1, .int .i64 a0_2, .bool a0_3, .slice A0_4 l0_4.length c0_4] 39 (0, 0)) (by (with_reducible repeat apply dX); exact BK187.out)) : gb188 ≠ gb187)); clear BK187; clear HB; have BK187 := n0_; have HB := n1_; have BK188 := n2_; have GW188 := n3_; have GE188 := n4_; have NB187_188 := n5_; have NB188_187 := n6_; clear n0_ n1_ n2_ n3_ n4_ n5_ n6_; clear hb hbox hg) | ((with_reducible refine gD (N := 6) rfl ?_); refine bE ?hg (N := 6) ?hd (cs := #[.int .i64 0, .int .i64 0, .slice none 0 0]) (t := 55) ?hr ?_; (case hd => rfl); (case hg => rfl); (case hr => first | (go_simp; done) | (go_simp; rfl)); intro gb189 hg w13 hbox hb; have n0_ := am (bB (g := gb187) (o := .cells #[.int .i64 a0_0, .int .i64 a0_1, .int .i64 a0_2, .bool a0_3, .slice A0_4 l0_4.length c0_4] 39 (0, 0)) (by (with_reducible repeat apply dX); exact BK187.out) hb); have n1_ := am (bB (g := gb188) (o := .cells #[.int .i64 a2_0, .int .i64 a2_1, .int .i64 a2_2, .int .i64 a2_3] 52 (0, 0)) (by (with_reducible repeat apply dX); exact BK188.out) hb); have n2_ := am (bT (by repeat (first | (with_reducible first | exact HB.out | apply bA | apply bN | apply bD | refine bS ?_ GE187.out | refine bS ?_ GE188.out) | exact HB.out)) hb); have n3_ := am (hbox); have n4_ := am ((by rw [hg]; exact (bU (by repeat (first | (with_reducible first | exact HB.out | apply bA | apply bN | apply bD | refine bS ?_ GE187.out | refine bS ?_ GE188.out) | exact HB.out))) : w.heap.size ≤ gb189)); have n5_ := am ((by rw [hg]; exact (bU (by repeat (first | (with_reducible first | exact HB.out | apply bA | apply bN | apply bD | refine bS ?_ GE187.out | refine bS ?_ GE188.out) | exact HB.out))) : w.heap.size ≤ gb189)); have n6_ := am ((by rw [hg]; exact nL (bL (g := gb187) (o := .cells #[.int .i64 a0_0, .int .i64 a0_1, .int .i64 a0_2, .bool a0_3, .slice A0_4 l0_4.length c0_4] 39 (0, 0)) (by (with_reducible repeat apply dX); exact BK187.out)) : gb187 ≠ gb189)); have n7_ := am ((by rw [hg]; exact nG (bL (g := gb187) (o := .cells #[.int .i64 a0_0, .int .i64 a0_1, .int .i64 a0_2, .bool a0_3, .slice A0_4 l0_4.length c0_4] 39 (0, 0)) (by (with_reducible repeat apply dX); exact BK187.out)) : gb189 ≠ gb187)); have n8_ := am ((by rw [hg]; exact nL (bL (g := gb188) (o := .cells #[.int .i64 a2_0, .int .i64 a2_1, .int .i64 a2_2, .int .i64 a2_3] 52 (0, 0)) (by (with_reducible repeat apply dX); exact BK188.out)) : gb188 ≠ gb189)); have n9_ := am ((by rw [hg]; exact nG (bL (g := gb188) (o := .cells #[.int .i64 a2_0, .int .i64 a2_1, .int .i64 a2_2, .int .i64 a2_3] 52 (0, 0)) (by (with_reducible repeat apply dX); exact BK188.out)) : gb189 ≠ gb188)); clear BK187; clear BK188; clear HB; have BK187 := n0_; have BK188 := n1_; have HB := n2_; have BK189 := n3_; have GW189 := n4_; have GE189 := n5_; have NB187_189 := n6_; have NB189_187 := n7_; have NB188_189 := n8_; have NB189_188 := n9_; clear n0_ n1_ n2_ n3_ n4_ n5_ n6_ n7_ n8_ n9_; clear hb hbox hg; have hnb14 := NB187_188.out; have hnc14 := NB188_187.out; have hnb15 := NB187_189.out; have hnc15 := NB189_187.out; have hcz16_0 : w13.cell? ⟨gb187, 0, none⟩ = some (.int .i64 a0_0) := (bC BK187.out 0).trans rfl; have hcz16_1 : w13.cell? ⟨gb187, 1, none⟩ = some (.int .i64 a0_1) := (bC BK187.out 1).trans rfl; have hcz16_2 : w13.cell? ⟨gb187, 2, none⟩ = some (.int .i64 a0_2) := (bC BK187.out 2).trans rfl; have hcz16_3 : w13.cell? ⟨gb187, 3, none⟩ = some (.bool a0_3) := (bC BK187.out 3).trans rfl; have hcz16_4 : w13.cell? ⟨gb187, 4, none⟩ = some (.slice A0_4 l0_4.length c0_4) := (bC BK187.out 4).trans rfl; have hfz16_0 := bZ BK187.out 0; have hfz16_1 := bZ BK187.out 1; have hfz16_2 := bZ BK187.out 2; have hfz16_3 := bZ BK187.out 3; have hfz16_4 := bZ BK187.out 4) | ((with_reducible refine gate_callee (f := 31) rfl ?_); refine goesL_ (some 16) rfl rfl Try.func31 (by kernel_rfl) rfl #[.agg #[.int .i64 a0_0, .int .i64 a0_1, .int .i64 a0_2, .bool a0_3, .slice A0_4 l0_4.length c0_4]] rfl (by (try simp only [List.map_toArray, List.map_cons, List.map_nil]); first | done | rfl | (simp only [List.length_drop, List.length_take]; rfl)) ?_; (with_reducible refine (dailiesref06_Valid.calls k a0_0 a0_1 a0_2 a0_3 _ _ l0_4 t190 _ ?side1 ?side2 A4.out).mono ?_); (case side1 => repeat (first | exact (Kd.C_below HR0_4.out HB.out) | (with_reducible refine Kd.C_alloc ?_ _) | (with_reducible refine Kd.C_drewN ?_ _) | (with_reducible refine Kd.C_drew ?_))); (case side2 => exact HC0_4.out); rintro e w17 ⟨rfl, hb⟩; refine ⟨_, rfl, ?_⟩; have n0_ := am (bB (g := gb187) (o := .cells #[.int .i64 a0_0, .int .i64 a0_1, .int .i64 a0_2, .bool a0_3, .slice A0_4 l0_4.length c0_4] 39 (0, 0)) (by (with_reducible repeat apply dX); exact BK187.out) hb); have n1_ := am (bB (g := gb188) (o := .cells #[.int .i64 a2_0, .int .i64 a2_1, .int .i64 a2_2, .int .i64 a2_3] 52 (0, 0)) (by (with_reducible repeat apply dX); exact BK188.out) hb); have n2_ := am (bB (g := gb189) (o := .cells #[.int .i64 0, .int .i64 0, .slice none 0 0] 55 (0, 0)) (by (with_reducible repeat apply dX); exact BK189.out) hb); have n3_ := am (bT (by repeat (first | (with_reducible first | exact HB.out | apply bA | apply bN | apply bD | refine bS ?_ GE187.out | refine bS ?_ GE188.out | refine bS ?_ GE189.out) | exact HB.out)) hb); clear BK187; clear BK188; clear BK189; clear HB; have BK187 := n0_; have BK188 := n1_; have BK189 := n2_; have HB := n3_; clear n0_ n1_ n2_ n3_; (try clear hb); (try clear hb2); (try clear hk); (try clear hi); have hcz18_0 : w17.cell? ⟨gb187, 0, none⟩ = some (.int .i64 a0_0) := (bC BK187.out 0).trans rfl; have hcz18_1 : w17.cell? ⟨gb187, 1, none⟩ = some (.int .i64 a0_1) := (bC BK187.out 1).trans rfl; have hcz18_2 : w17.cell? ⟨gb187, 2, none⟩ = some (.int .i64 a0_2) := (bC BK187.out 2).trans rfl; have hcz18_3 : w17.cell? ⟨gb187, 3, none⟩ = some (.bool a0_3) := (bC BK187.out 3).trans rfl; have hcz18_4 : w17.cell? ⟨gb187, 4, none⟩ = some (.slice A0_4 l0_4.length c0_4) := (bC BK187.out 4).trans rfl; have hfz18_0 := bZ BK187.out 0; have hfz18_1 := bZ BK187.out 1; have hfz18_2 := bZ BK187.out 2; have hfz18_3 := bZ BK187.out 3; have hfz18_4 := bZ BK187.out 4) | ((with_reducible refine gate_callee (f := 56) rfl ?_); refine goesL_ (some 24) rfl rfl Try.func56 (by kernel_rfl) rfl #[.agg #[.int .i64 a0_0, .int .i64 a0_1, .int .i64 a0_2, .bool a0_3], .int .i64 a1] rfl (by (try simp only [List.map_toArray, List.map_cons, List.map_nil]); first | done | rfl | (simp only [List.length_drop, List.length_take]; rfl)) ?_; (with_reducible refine (dailiesref06_there.calls a0_0 a0_1 a0_2 a0_3 a1 true _ A6.out).mono ?_); rintro e w19 ⟨rfl, hb⟩; refine ⟨_, rfl, ?_⟩; have n0_ := am (bB (g := gb187) (o := .cells #[.int .i64 a0_0, .int .i64 a0_1, .int .i64 a0_2, .bool a0_3, .slice A0_4 l0_4.length c0_4] 39 (0, 0)) (by (with_reducible repeat apply dX); exact BK187.out) hb); have n1_ := am (bB (g := gb188) (o := .cells #[.int .i64 a2_0, .int .i64 a2_1, .int .i64 a2_2, .int .i64 a2_3] 52 (0, 0)) (by (with_reducible repeat apply dX); exact BK188.out) hb); have n2_ := am (bB (g := gb189) (o := .cells #[.int .i64 0, .int .i64 0, .slice none 0 0] 55 (0, 0)) (by (with_reducible repeat apply dX); exact BK189.out) hb); have n3_ := am (bT (by repeat (first | (with_reducible first | exact HB.out | apply bA | apply bN | apply bD | refine bS ?_ GE187.out | refine bS ?_ GE188.out | refine bS ?_ GE189.out) | exact HB.out)) hb); clear BK187; clear BK188; clear BK189; clear HB; have BK187 := n0_; have BK188 := n1_; have BK189 := n2_; have HB := n3_; clear n0_ n1_ n2_ n3_; (try clear hb); (try clear hb2); (try clear hk); (try clear hi); have hcz20_0 : w19.cell? ⟨gb187, 0, none⟩ = some (.int .i64 a0_0) := (bC BK187.out 0).trans rfl; have hcz20_1 : w19.cell? ⟨gb187, 1, none⟩ = some (.int .i64 a0_1) := (bC BK187.out 1).trans rfl; have hcz20_2 : w19.cell? ⟨gb187, 2, none⟩ = some (.int .i64 a0_2) := (bC BK187.out 2).trans rfl; have hcz20_3 : w19.cell? ⟨gb187, 3, none⟩ = some (.bool a0_3) := (bC BK187.out 3).trans rfl; have hcz20_4 : w19.cell? ⟨gb187, 4, none⟩ = some (.slice A0_4 l0_4.length c0_4) := (bC BK187.out 4).trans rfl; have hfz20_0 := bZ BK187.out 0; have hfz20_1 := bZ BK187.out 1; have hfz20_2 := bZ BK187.out 2; have hfz20_3 := bZ BK187.out 3; have hfz20_4 := bZ BK187.out 4) | ((with_reducible refine gate_callee (f := 57) rfl ?_); refine goesL_ (some 31) rfl rfl Try.func57 (by kernel_rfl) rfl #[.agg #[.int .i64 a0_0, .int .i64 a0_1, .int .i64 a0_2, .bool a0_3], .int .i64 a1] rfl (by (try simp only [List.map_toArray, List.map_cons, List.map_nil]); first | done | rfl | (simp only [List.length_drop, List.length_take]; rfl)) ?_; (with_reducible refine (dailiesref06_wide.calls a0_0 a0_1 a0_2 a0_3 a1 t192 _ A8.out).mono ?_); rintro e w21 ⟨rfl, hb⟩; refine ⟨_, rfl, ?_⟩; have n0_ := am (bB (g := gb187) (o := .cells #[.int .i64 a0_0, .int .i64 a0_1, .int .i64 a0_2, .bool a0_3, .slice A0_4 l0_4.length c0_4] 39 (0, 0)) (by (with_reducible repeat apply dX); exact BK187.out) hb); have n1_ := am (bB (g := gb188) (o := .cells #[.int .i64 a2_0, .int .i64 a2_1, .int .i64 a2_2, .int .i64 a2_3] 52 (0, 0)) (by (with_reducible repeat apply dX); exact BK188.out) hb); have n2_ := am (bB (g := gb189) (o := .cells #[.int .i64 0, .int .i64 0, .slice none 0 0] 55 (0, 0)) (by (with_reducible repeat apply dX); exact BK189.out) hb); have n3_ := am (bT (by repeat (first | (with_reducible first | exact HB.out | apply bA | apply bN | apply bD | refine bS ?_ GE187.out | refine bS ?_ GE188.out | refine bS ?_ GE189.out) | exact HB.out)) hb); clear BK187; clear BK188; clear BK189; clear HB; have BK187 := n0_; have BK188 := n1_; have BK189 := n2_; have HB := n3_; clear n0_ n1_ n2_ n3_; (try clear hb); (try clear hb2); (try clear hk); (try clear hi); have hnb22 := NB188_189.out; have hnc22 := NB189_188.out; have hcz23_0 : w21.cell? ⟨gb188, 0, none⟩ = some (.int .i64 a2_0) := (bC BK188.out 0).trans rfl; have hcz23_1 : w21.cell? ⟨gb188, 1, none⟩ = some (.int .i64 a2_1) := (bC BK188.out 1).trans rfl; have hcz23_2 : w21.cell? ⟨gb188, 2, none⟩ = some (.int .i64 a2_2) := (bC BK188.out 2).trans rfl; have hcz23_3 : w21.cell? ⟨gb188, 3, none⟩ = some (.int .i64 a2_3) := (bC BK188.out 3).trans rfl; have hfz23_0 := bZ BK188.out 0; have hfz23_1 := bZ BK188.out 1; have hfz23_2 := bZ BK188.out 2; have hfz23_3 := bZ BK188.out 3; have hcz24_0 : w21.cell? ⟨gb187, 0, none⟩ = some (.int .i64 a0_0) := (bC BK187.out 0).trans rfl; have hcz24_1 : w21.cell? ⟨gb187, 1, none⟩ = some (.int .i64 a0_1) := (bC BK187.out 1).trans rfl; have hcz24_2 : w21.cell? ⟨gb187, 2, none⟩ = some (.int .i64 a0_2) := (bC BK187.out 2).trans rfl; have hcz24_3 : w21.cell? ⟨gb187, 3, none⟩ = some (.bool a0_3) := (bC BK187.out 3).trans rfl; have hcz24_4 : w21.cell? ⟨gb187, 4, none⟩ = some (.slice A0_4 l0_4.length c0_4) := (bC BK187.out 4).trans rfl; have hfz24_0 := bZ BK187.out 0; have hfz24_1 := bZ BK187.out 1; have hfz24_2 := bZ BK187.out 2; have hfz24_3 := bZ BK187.out 3; have hfz24_4 := bZ BK187.out 4) | ((with_reducible refine gate_callee (f := 67) rfl ?_); refine goesL_ (some 37) rfl rfl Try.func67 (by kernel_rfl) rfl #[.agg #[.int .i64 a2_0, .int .i64 a2_1, .int .i64 a2_2, .int .i64 a2_3], .int .i64 t192, .int .i64 a0_1] rfl (by (try simp only [List.map_toArray, List.map_cons, List.map_nil]); first | done | rfl | (simp only [List.length_drop, List.length_take]; rfl)) ?_; (with_reducible refine (dailiesref06_lies.calls a2_0 a2_1 a2_2 a2_3 t192 a0_1 true _ A9.out).mono ?_); rintro e w25 ⟨rfl, hb⟩; refine ⟨_, rfl, ?_⟩; have n0_ := am (bB (g := gb187) (o := .cells #[.int .i64 a0_0, .int .i64 a0_1, .int .i64 a0_2, .bool a0_3, .slice A0_4 l0_4.length c0_4] 39 (0, 0)) (by (with_reducible repeat apply dX); exact BK187.out) hb); have n1_ := am (bB (g := gb188) (o := .cells #[.int .i64 a2_0, .int .i64 a2_1, .int .i64 a2_2, .int .i64 a2_3] 52 (0, 0)) (by (with_reducible repeat apply dX); exact BK188.out) hb); have n2_ := am (bB (g := gb189) (o := .cells #[.int .i64 0, .int .i64 0, .slice none 0 0] 55 (0, 0)) (by (with_reducible repeat apply dX); exact BK189.out) hb); have n3_ := am (bT (by repeat (first | (with_reducible first | exact HB.out | apply bA | apply bN | apply bD | refine bS ?_ GE187.out | refine bS ?_ GE188.out | refine bS ?_ GE189.out) | exact HB.out)) hb); clear BK187; clear BK188; clear BK189; clear HB; have BK187 := n0_; have BK188 := n1_; have BK189 := n2_; have HB := n3_; clear n0_ n1_ n2_ n3_; (try clear hb); (try clear hb2); (try clear hk); (try clear hi); have hcz26_0 : w25.cell? ⟨gb188, 0, none⟩ = some (.int .i64 a2_0) := (bC BK188.out 0).trans rfl; have hcz26_1 : w25.cell? ⟨gb188, 1, none⟩ = some (.int .i64 a2_1) := (bC BK188.out 1).trans rfl; have hcz26_2 : w25.cell? ⟨gb188, 2, none⟩ = some (.int .i64 a2_2) := (bC BK188.out 2).trans rfl; have hcz26_3 : w25.cell? ⟨gb188, 3, none⟩ = some (.int .i64 a2_3) := (bC BK188.out 3).trans rfl; have hfz26_0 := bZ BK188.out 0; have hfz26_1 := bZ BK188.out 1; have hfz26_2 := bZ BK188.out 2; have hfz26_3 := bZ BK188.out 3) | ((with_reducible refine gD (N := 12) rfl ?_); refine bE ?hg (N := 12) ?hd (cs := #[.int .i64 0, .int .i64 0, .slice none 0 0]) (t := 55) ?hr ?_; (case hd => rfl); (case hg => rfl); (case hr => first | (go_simp; done) | (go_simp; rfl)); intro gb194 hg w27 hbox hb; have n0_ := am (bB (g := gb187) (o := .cells #[.int .i64 a0_0, .int .i64 a0_1, .int .i64 a0_2, .bool a0_3, .slice A0_4 l0_4.length c0_4] 39 (0, 0)) (by (with_reducible repeat apply dX); exact BK187.out) hb); have n1_ := am (bB (g := gb188) (o := .cells #[.int .i64 a2_0, .int .i64 a2_1, .int .i64 a2_2, .int .i64 a2_3] 52 (0, 0)) (by (with_reducible repeat apply dX); exact BK188.out) hb); have n2_ := am (bB (g := gb189) (o := .cells #[.int .i64 0, .int .i64 0, .slice none 0 0] 55 (0, 0)) (by (with_reducible repeat apply dX); exact BK189.out) hb); have n3_ := am (bT (by repeat (first | (with_reducible first | exact HB.out | apply bA | apply bN | apply bD | refine bS ?_ GE187.out | refine bS ?_ GE188.out | refine bS ?_ GE189.out) | exact HB.out)) hb); have n4_ := am (hbox); have n5_ := am ((by rw [hg]; exact (bU (by repeat (first | (with_reducible first | exact HB.out | apply bA | apply bN | apply bD | refine bS ?_ GE187.out | refine bS ?_ GE188.out | refine bS ?_ GE189.out) | exact HB.out))) : w.heap.size ≤ gb194)); have n6_ := am ((by rw [hg]; exact (bU (by repeat (first | (with_reducible first | exact HB.out | apply bA | apply bN | apply bD | refine bS ?_ GE187.out | refine bS ?_ GE188.out | refine bS ?_ GE189.out) | exact HB.out))) : w.heap.size ≤ gb194)); have n7_ := am ((by rw [hg]; exact nL (bL (g := gb187) (o := .cells #[.int .i64 a0_0, .int .i64 a0_1, .int .i64 a0_2, .bool a0_3, .slice A0_4 l0_4.length c0_4] 39 (0, 0)) (by (with_reducible repeat apply dX); exact BK187.out)) : gb187 ≠ gb194)); have n8_ := am ((by rw [hg]; exact nG (bL (g := gb187) (o := .cells #[.int .i64 a0_0, .int .i64 a0_1, .int .i64 a0_2, .bool a0_3, .slice A0_4 l0_4.length c0_4] 39 (0, 0)) (by (with_reducible repeat apply dX); exact BK187.out)) : gb194 ≠ gb187)); have n9_ := am ((by rw [hg]; exact nL (bL (g := gb188) (o := .cells #[.int .i64 a2_0, .int .i64 a2_1, .int .i64 a2_2, .int .i64 a2_3] 52 (0, 0)) (by (with_reducible repeat apply dX); exact BK188.out)) : gb188 ≠ gb194)); have n10_ := am ((by rw [hg]; exact nG (bL (g := gb188) (o := .cells #[.int .i64 a2_0, .int .i64 a2_1, .int .i64 a2_2, .int .i64 a2_3] 52 (0, 0)) (by (with_reducible repeat apply dX); exact BK188.out)) : gb194 ≠ gb188)); have n11_ := am ((by rw [hg]; exact nL (bL (g := gb189) (o := .cells #[.int .i64 0, .int .i64 0, .slice none 0 0] 55 (0, 0)) (by (with_reducible repeat apply dX); exact BK189.out)) : gb189 ≠ gb194)); have n12_ := am ((by rw [hg]; exact nG (bL (g := gb189) (o := .cells #[.int .i64 0, .int .i64 0, .slice none 0 0] 55 (0, 0)) (by (with_reducible repeat apply dX); exact BK189.out)) : gb194 ≠ gb189)); clear BK187; clear BK188; clear BK189; clear HB; have BK187 := n0_; have BK188 := n1_; have BK189 := n2_; have HB := n3_; have BK194 := n4_; have GW194 := n5_; have GE194 := n6_; have NB187_194 := n7_; have NB194_187 := n8_; have NB188_194 := n9_; have NB194_188 := n10_; have NB189_194 := n11_; have NB194_189 := n12_; clear n0_ n1_ n2_ n3_ n4_ n5_ n6_ n7_ n8_ n9_ n10_ n11_ n12_; clear hb hbox hg; have hnb28 := NB194_187.out; have hnc28 := NB187_194.out; have hnb29 := NB194_188.out; have hnc29 := NB188_194.out; have hnb30 := NB194_189.out; have hnc30 := NB189_194.out; have hcz31_0 : w27.cell? ⟨gb194, 0, none⟩ = some (.int .i64 0) := (bC BK194.out 0).trans rfl; have hcz31_1 : w27.cell? ⟨gb194, 1, none⟩ = some (.int .i64 0) := (bC BK194.out 1).trans rfl; have hcz31_2 : w27.cell? ⟨gb194, 2, none⟩ = some (.slice none 0 0) := (bC BK194.out 2).trans rfl; have hfz31_0 := bZ BK194.out 0; have hfz31_1 := bZ BK194.out 1; have hfz31_2 := bZ BK194.out 2))
    go_loopg [13] k (fun kq v13 w' => ∃ (x13_1 : Int) (x195002_1 : List Int) (u195002 : Value), v13 = .int .i64 x13_1 ∧ Aside0 (dailiesref06_Crop.l0 kq a1 t192 x13_1 a0_0 a0_1 a0_2 a0_3 l0_4 a2_0 a2_1 a2_2 a2_3 a2_2 a2_3 x195002_1 = some (r1, r2, r3, r4)) ∧ Aside0 (kq ≤ k) ∧ Aside0 (Kd.R (Kd.int .u16) 72 w' w.heap.size (fun _ => True) u195002 x195002_1) ∧ Aside0 (w'.heap[gb187]? = some (.cells #[.int .i64 a0_0, .int .i64 a0_1, .int .i64 a0_2, .bool a0_3, (.slice A0_4 l0_4.length c0_4)] 39 (0, 0))) ∧ Aside0 (w'.heap[gb188]? = some (.cells #[.int .i64 a2_0, .int .i64 a2_1, .int .i64 a2_2, .int .i64 a2_3] 52 (0, 0))) ∧ Aside0 (w'.heap[gb189]? = some (.cells #[.int .i64 0, .int .i64 0, (.slice none 0 0)] 55 (0, 0))) ∧ Aside0 (w'.heap[gb194]? = some (.cells #[.int .i64 a2_2, .int .i64 a2_3, u195002] 55 (0, 0))) ∧ Aside0 (Below w.heap.size w w'))
    case atStart => exact ⟨(0), (([] : List Int)), (.slice none 0 0), (by first | rfl | (simp; done) | (simp [*]; done)), H', ⟨Nat.le_refl _⟩, ⟨by first | exact Kd.R_nil _ _ _ _ _ | exact Kd.N_nil _ _ _ _ _ | exact Kd.V_nil _ _ _ _ _ | exact Kd.Q_nil _ _ _ _ _ | exact Kd.S_nil _ _ _ _ _⟩, ⟨by (with_reducible repeat apply dX); refine bF ?_ NB187_194.out _; (with_reducible repeat apply dX); refine bF ?_ NB187_194.out _; (with_reducible repeat apply dX); refine bF ?_ NB187_194.out _; (with_reducible repeat apply dX); exact BK187.out⟩, ⟨by (with_reducible repeat apply dX); refine bF ?_ NB188_194.out _; (with_reducible repeat apply dX); refine bF ?_ NB188_194.out _; (with_reducible repeat apply dX); refine bF ?_ NB188_194.out _; (with_reducible repeat apply dX); exact BK188.out⟩, ⟨by (with_reducible repeat apply dX); refine bF ?_ NB189_194.out _; (with_reducible repeat apply dX); refine bF ?_ NB189_194.out _; (with_reducible repeat apply dX); refine bF ?_ NB189_194.out _; (with_reducible repeat apply dX); exact BK189.out⟩, ⟨by (with_reducible repeat apply dX); refine bP (cs := #[.int .i64 a2_2, .int .i64 a2_3, .slice none 0 0]) ?_ 2 _ rfl; (with_reducible repeat apply dX); refine bP (cs := #[.int .i64 a2_2, .int .i64 0, .slice none 0 0]) ?_ 1 _ rfl; (with_reducible repeat apply dX); refine bP (cs := #[.int .i64 0, .int .i64 0, .slice none 0 0]) ?_ 0 _ rfl; (with_reducible repeat apply dX); exact BK194.out⟩, ⟨by repeat (first | (with_reducible first | exact HB.out | apply bA | apply bN | apply bD | refine bS ?_ GE187.out | refine bS ?_ GE188.out | refine bS ?_ GE189.out | refine bS ?_ GE194.out) | exact HB.out)⟩⟩
    case round =>
     clear H'
     try clear c1
     try clear c2
     try clear p2
     try clear c3
     try clear c5
     try clear c5b0
     try clear c5b1
     try clear c6
     try clear c7
     try clear c10
     try clear c14
     try clear c15
     try clear c22
     try clear c28
     try clear c29
     try clear c30
     try clear c31
     try clear hcz16_0
     try clear hcz16_1
     try clear hcz16_2
     try clear hcz16_3
     try clear hcz16_4
     try clear hcz18_0
     try clear hcz18_1
     try clear hcz18_2
     try clear hcz18_3
     try clear hcz18_4
     try clear hcz20_0
     try clear hcz20_1
     try clear hcz20_2
     try clear hcz20_3
     try clear hcz20_4
     try clear hcz23_0
     try clear hcz23_1
     try clear hcz23_2
     try clear hcz23_3
     try clear hcz24_0
     try clear hcz24_1
     try clear hcz24_2
     try clear hcz24_3
     try clear hcz24_4
     try clear hcz26_0
     try clear hcz26_1
     try clear hcz26_2
     try clear hcz26_3
     try clear hcz31_0
     try clear hcz31_1
     try clear hcz31_2
     try clear hfz16_0
     try clear hfz16_1
     try clear hfz16_2
     try clear hfz16_3
     try clear hfz16_4
     try clear hfz18_0
     try clear hfz18_1
     try clear hfz18_2
     try clear hfz18_3
     try clear hfz18_4
     try clear hfz20_0
     try clear hfz20_1
     try clear hfz20_2
     try clear hfz20_3
     try clear hfz20_4
     try clear hfz23_0
     try clear hfz23_1
     try clear hfz23_2
     try clear hfz23_3
     try clear hfz24_0
     try clear hfz24_1
     try clear hfz24_2
     try clear hfz24_3
     try clear hfz24_4
     try clear hfz26_0
     try clear hfz26_1
     try clear hfz26_2
     try clear hfz26_3
     try clear hfz31_0
     try clear hfz31_1
     try clear hfz31_2
     obtain ⟨x13_1, x195002_1, u195002, rfl, HA, HK1, HO_195002, BK187, BK188, BK189, BK194, HB⟩ := hrel
     cases gk with
     | zero => exact absurd HA.out (by simp [dailiesref06_Crop.l0])
     | succ k1 =>
      have H := HA.out
      clear HA
      simp only [dailiesref06_Crop.l0] at H
      by_cases c32 : x13_1 < a2_3
      ·rw [if_pos c32] at H
       have c32b0 : decide (x13_1 < a2_3) = true := decide_eq_true c32
       clear c32
       have H' := am H
       clear H
       have hnb33 := NB188_187.out
       have hnc33 := NB187_188.out
       have hnb34 := NB188_189.out
       have hnc34 := NB189_188.out
       have hnb35 := NB188_194.out
       have hnc35 := NB194_188.out
       have hcz36_0 : wr.cell? ⟨gb188, 0, none⟩ = some (.int .i64 a2_0) := (bC BK188.out 0).trans rfl
       have hcz36_1 : wr.cell? ⟨gb188, 1, none⟩ = some (.int .i64 a2_1) := (bC BK188.out 1).trans rfl
       have hcz36_2 : wr.cell? ⟨gb188, 2, none⟩ = some (.int .i64 a2_2) := (bC BK188.out 2).trans rfl
       have hcz36_3 : wr.cell? ⟨gb188, 3, none⟩ = some (.int .i64 a2_3) := (bC BK188.out 3).trans rfl
       have hfz36_0 := bZ BK188.out 0
       have hfz36_1 := bZ BK188.out 1
       have hfz36_2 := bZ BK188.out 2
       have hfz36_3 := bZ BK188.out 3
       go_wp2
       go_loopg [14] k1 (fun kq v14 w' => ∃ (x14_2 : Int) (x195002_2 : List Int) (u195002 : Value), v14 = .int .i64 x14_2 ∧ Aside0 (dailiesref06_Crop.l1 kq a1 t192 x13_1 x14_2 a0_0 a0_1 a0_2 a0_3 l0_4 a2_0 a2_1 a2_2 a2_3 a2_2 a2_3 x195002_2 = some (r1, r2, r3, r4)) ∧ Aside0 (kq ≤ k1) ∧ Aside0 (Kd.R (Kd.int .u16) 72 w' w.heap.size (fun _ => True) u195002 x195002_2) ∧ Aside0 (w'.heap[gb187]? = some (.cells #[.int .i64 a0_0, .int .i64 a0_1, .int .i64 a0_2, .bool a0_3, (.slice A0_4 l0_4.length c0_4)] 39 (0, 0))) ∧ Aside0 (w'.heap[gb188]? = some (.cells #[.int .i64 a2_0, .int .i64 a2_1, .int .i64 a2_2, .int .i64 a2_3] 52 (0, 0))) ∧ Aside0 (w'.heap[gb189]? = some (.cells #[.int .i64 0, .int .i64 0, (.slice none 0 0)] 55 (0, 0))) ∧ Aside0 (w'.heap[gb194]? = some (.cells #[.int .i64 a2_2, .int .i64 a2_3, u195002] 55 (0, 0))) ∧ Aside0 (Below w.heap.size w w'))
       case atStart => exact ⟨(0), (x195002_1), (u195002), (by first | rfl | (simp; done) | (simp [*]; done)), H', ⟨Nat.le_refl _⟩, ⟨by (with_reducible repeat (first | apply Kd.R_alloc | apply Kd.R_drewN | apply Kd.R_drew)); exact HO_195002.out⟩, ⟨by (with_reducible repeat apply dX); exact BK187.out⟩, ⟨by (with_reducible repeat apply dX); exact BK188.out⟩, ⟨by (with_reducible repeat apply dX); exact BK189.out⟩, ⟨by (with_reducible repeat apply dX); exact BK194.out⟩, ⟨by repeat (first | (with_reducible first | exact HB.out | apply bA | apply bN | apply bD | refine bS ?_ GE187.out | refine bS ?_ GE188.out | refine bS ?_ GE189.out | refine bS ?_ GE194.out) | exact HB.out)⟩⟩
       case round =>
        clear H'
        try clear c1
        try clear c2
        try clear p2
        try clear c3
        try clear c5
        try clear c5b0
        try clear c5b1
        try clear c6
        try clear c7
        try clear c10
        try clear c14
        try clear c15
        try clear c22
        try clear c28
        try clear c29
        try clear c30
        try clear c31
        try clear c32
        try clear c32b0
        try clear c33
        try clear c34
        try clear c35
        try clear hcz16_0
        try clear hcz16_1
        try clear hcz16_2
        try clear hcz16_3
        try clear hcz16_4
        try clear hcz18_0
        try clear hcz18_1
        try clear hcz18_2
        try clear hcz18_3
        try clear hcz18_4
        try clear hcz20_0
        try clear hcz20_1
        try clear hcz20_2
        try clear hcz20_3
        try clear hcz20_4
        try clear hcz23_0
        try clear hcz23_1
        try clear hcz23_2
        try clear hcz23_3
        try clear hcz24_0
        try clear hcz24_1
        try clear hcz24_2
        try clear hcz24_3
        try clear hcz24_4
        try clear hcz26_0
        try clear hcz26_1
        try clear hcz26_2
        try clear hcz26_3
        try clear hcz31_0
        try clear hcz31_1
        try clear hcz31_2
        try clear hcz36_0
        try clear hcz36_1
        try clear hcz36_2
        try clear hcz36_3
        try clear hfz16_0
        try clear hfz16_1
        try clear hfz16_2
        try clear hfz16_3
        try clear hfz16_4
        try clear hfz18_0
        try clear hfz18_1
        try clear hfz18_2
        try clear hfz18_3
        try clear hfz18_4
        try clear hfz20_0
        try clear hfz20_1
        try clear hfz20_2
        try clear hfz20_3
        try clear hfz20_4
        try clear hfz23_0
        try clear hfz23_1
        try clear hfz23_2
        try clear hfz23_3
        try clear hfz24_0
        try clear hfz24_1
        try clear hfz24_2
        try clear hfz24_3
        try clear hfz24_4
        try clear hfz26_0
        try clear hfz26_1
        try clear hfz26_2
        try clear hfz26_3
        try clear hfz31_0
        try clear hfz31_1
        try clear hfz31_2
        try clear hfz36_0
        try clear hfz36_1
        try clear hfz36_2
        try clear hfz36_3
        try clear p2
        obtain ⟨x14_2, x195002_2, u195002, rfl, HA, HK2, HO_195002, BK187, BK188, BK189, BK194, HB⟩ := hrel
        cases gk with
        | zero => exact absurd HA.out (by simp [dailiesref06_Crop.l1])
        | succ k2 =>
         have H := HA.out
         clear HA
         simp only [dailiesref06_Crop.l1] at H
         by_cases c37 : x14_2 < a2_2
         ·rw [if_pos c37] at H
          have c37b0 : decide (x14_2 < a2_2) = true := decide_eq_true c37
          clear c37
          by_cases c38 : 0 ≤ a1
          ·rw [if_pos c38] at H
           have c38b0 : decide (0 ≤ a1) = true := decide_eq_true c38
           clear c38
           by_cases c39 : a1 < (l0_4.length : Int)
           ·rw [if_pos c39] at H
            have c39b0 : decide (a1 < (l0_4.length : Int)) = true := decide_eq_true c39
            clear c39
            obtain ⟨ji40, hji40⟩ : ∃ j_ : Int, (wrap64 ((wrap64 ((wrap64 ((wrap64 (a2_1 + x13_1)) * t192)) + a2_0)) + x14_2)) = j_ := ⟨_, rfl⟩
            replace H : (if 0 ≤ (ji40) then (if (ji40) < ((rd_L1 l0_4 a1).length : Int) then (if x195002_2.length < 70368744177664 then (dailiesref06_Crop.l1 k2 a1 t192 x13_1 (wrap64 (x14_2 + 1)) a0_0 a0_1 a0_2 a0_3 l0_4 a2_0 a2_1 a2_2 a2_3 a2_2 a2_3 (x195002_2 ++ [rd (rd_L1 l0_4 a1) (ji40)])) else (none)) else (none)) else (none)) = some (r1, r2, r3, r4) := by first | (rw [hji40] at H; exact H) | (simp only [hji40] at H ⊢; exact H)
            have hji40w : (IntKind.i64.wrap ((wrap64 ((wrap64 ((wrap64 (a2_1 + x13_1)) * t192)) + a2_0)) + x14_2)) = ji40 := (i64_w _).trans hji40
            by_cases c41 : 0 ≤ (ji40)
            ·rw [if_pos c41] at H
             have c41b0 : decide (0 ≤ (ji40)) = true := decide_eq_true c41
             clear c41
             by_cases c42 : (ji40) < ((rd_L1 l0_4 a1).length : Int)
             ·rw [if_pos c42] at H
              have c42b0 : decide ((ji40) < ((rd_L1 l0_4 a1).length : Int)) = true := decide_eq_true c42
              clear c42
              by_cases c43 : x195002_2.length < 70368744177664
              ·rw [if_pos c43] at H
               have LMc43 := am c43
               clear c43
               obtain ⟨y197, hy197⟩ : ∃ y_ : List Int, y_ = (x195002_2 ++ [rd (rd_L1 l0_4 a1) (ji40)]) := ⟨_, rfl⟩
               replace H : (dailiesref06_Crop.l1 k2 a1 t192 x13_1 (wrap64 (x14_2 + 1)) a0_0 a0_1 a0_2 a0_3 l0_4 a2_0 a2_1 a2_2 a2_3 a2_2 a2_3 y197) = some (r1, r2, r3, r4) := by first | (rw [hy197]; with_reducible exact H) | (have H2_ := (Option.bind_some _ _).symm.trans H; rw [hy197]; with_reducible exact H2_) | (have H2_ := (Option.bind_some _ _).symm.trans H; with_reducible exact H2_) | with_reducible exact H | (rw [hy197]; exact H) | exact H
               have Ny197 := am hy197
               clear hy197
               have H' := am H
               clear H
               have hnb44 := NB188_187.out
               have hnc44 := NB187_188.out
               have hnb45 := NB188_189.out
               have hnc45 := NB189_188.out
               have hnb46 := NB188_194.out
               have hnc46 := NB194_188.out
               have hcz47_0 : wr.cell? ⟨gb188, 0, none⟩ = some (.int .i64 a2_0) := (bC BK188.out 0).trans rfl
               have hcz47_1 : wr.cell? ⟨gb188, 1, none⟩ = some (.int .i64 a2_1) := (bC BK188.out 1).trans rfl
               have hcz47_2 : wr.cell? ⟨gb188, 2, none⟩ = some (.int .i64 a2_2) := (bC BK188.out 2).trans rfl
               have hcz47_3 : wr.cell? ⟨gb188, 3, none⟩ = some (.int .i64 a2_3) := (bC BK188.out 3).trans rfl
               have hfz47_0 := bZ BK188.out 0
               have hfz47_1 := bZ BK188.out 1
               have hfz47_2 := bZ BK188.out 2
               have hfz47_3 := bZ BK188.out 3
               try go_wp2
               have n0_ := am (Kd.R_drew HO_195002.out)
               have n1_ := am (blk_drew BK187.out)
               have n2_ := am (blk_drew BK188.out)
               have n3_ := am (blk_drew BK189.out)
               have n4_ := am (blk_drew BK194.out)
               have n5_ := am (bD HB.out)
               clear HO_195002
               clear BK187
               clear BK188
               clear BK189
               clear BK194
               clear HB
               have HO_195002 := n0_
               have BK187 := n1_
               have BK188 := n2_
               have BK189 := n3_
               have BK194 := n4_
               have HB := n5_
               clear n0_ n1_ n2_ n3_ n4_ n5_
               have p195 : 0 ≤ (a1 : Int) := of_decide_eq_true (by first | (with_reducible assumption) | assumption)
               have q195 : a1 < (l0_4.length : Int) := of_decide_eq_true (by first | (with_reducible assumption) | assumption)
               obtain ⟨ad195, A195_0, c195_0, e195, hx195_0, hl195_0, hi195_0⟩ := at_L1 HR0_4.out a1 p195 q195
               have hw195_0 := hx195_0
               cases e195
               replace hx195_0 := (HB.out.cell (World.block_lt_of_cell? w _ hx195_0)).trans hx195_0
               have HR195_0 := am hi195_0
               have HC195_0 := am hl195_0
               clear hi195_0 hl195_0
               replace p195 := eq_true p195
               replace q195 := eq_true q195
               have p196 : 0 ≤ ((ji40) : Int) := of_decide_eq_true (by first | (with_reducible assumption) | assumption)
               have q196 : (ji40) < ((rd_L1 l0_4 a1).length : Int) := of_decide_eq_true (by first | (with_reducible assumption) | assumption)
               obtain ⟨ad196, e196, hx196_0⟩ := Kd.at_int HR195_0.out (ji40) p196 q196
               have hw196_0 := hx196_0
               cases e196
               replace hx196_0 := (HB.out.cell (World.block_lt_of_cell? w _ hx196_0)).trans hx196_0
               replace p196 := eq_true p196
               replace q196 := eq_true q196
               refine start_ (n := 24) (S := fun w' => w'.cell? ⟨gb194, 0, none⟩ = some (.int .i64 a2_2) ∧ w'.cell? ⟨gb194, 1, none⟩ = some (.int .i64 a2_3) ∧ w'.cell? ⟨gb194, 2, none⟩ = some (u195002) ∧ w'.cell? ⟨gb187, 0, none⟩ = some (.int .i64 a0_0) ∧ w'.cell? ⟨gb187, 1, none⟩ = some (.int .i64 a0_1) ∧ w'.cell? ⟨gb187, 2, none⟩ = some (.int .i64 a0_2) ∧ w'.cell? ⟨gb187, 3, none⟩ = some (.bool a0_3) ∧ w'.cell? ⟨gb187, 4, none⟩ = some (.slice (some ad195) l0_4.length c0_4) ∧ w'.cell? ⟨gb188, 0, none⟩ = some (.int .i64 a2_0) ∧ w'.cell? ⟨gb188, 1, none⟩ = some (.int .i64 a2_1) ∧ w'.cell? ⟨gb188, 2, none⟩ = some (.int .i64 a2_2) ∧ w'.cell? ⟨gb188, 3, none⟩ = some (.int .i64 a2_3) ∧ w'.cell? (ad195.add (a1).toNat) = some (.slice (some ad196) (rd_L1 l0_4 a1).length c195_0) ∧ w'.cell? (ad196.add ((ji40)).toNat) = some (.int .u16 (rd (rd_L1 l0_4 a1) (ji40)))) (ds := [23]) #[false, false, false, false, false, false, false, false, false, false, false, false, false, false, false, false, false, false, false, false, false, false, false, false] (by kernel_rfl) rfl rfl ⟨(bC BK194.out 0).trans rfl, (bC BK194.out 1).trans rfl, (bC BK194.out 2).trans rfl, (bC BK187.out 0).trans rfl, (bC BK187.out 1).trans rfl, (bC BK187.out 2).trans rfl, (bC BK187.out 3).trans rfl, (bC BK187.out 4).trans rfl, (bC BK188.out 0).trans rfl, (bC BK188.out 1).trans rfl, (bC BK188.out 2).trans rfl, (bC BK188.out 3).trans rfl, ((HB.out.cell (World.block_lt_of_cell? w _ hw195_0)).trans hw195_0), ((HB.out.cell (World.block_lt_of_cell? w _ hw196_0)).trans hw196_0)⟩ (fun hHeld => ?_); refine with_tabW dailiesref06_Crop.tab18 dailiesref06_Crop.bits18 (fun HT_ HW_ => ?_)
               generalize wr.drew = w48 at HO_195002 BK187 BK188 BK189 BK194 HB HR195_0 hx195_0 hx196_0 hHeld ⊢
               refine pure_ (i := 0) (N := some 58) (v := ?_) (a' := ?_) #[true, false, false, false, false, false, false, false, false, false, false, false, false, false, false, false, false, false, false, false, false, false, false, false] rfl rfl (any_of HT_.out (by kernel_rfl)) (fun _ _ _ h => h) (Or.inl ⟨by rfl, ?_⟩) ?_ ?_
               rotate_left
               ·intro w'
                go_simp
                with_reducible rfl
               rotate_left
               ·simp only [Act.put, List.setIfInBounds_toArray, List.set_cons_zero, List.set_cons_succ, i64_w, i32_w]
                rfl
               refine pure_ (i := 2) (N := some 60) (v := ?_) (a' := ?_) #[true, false, true, false, false, false, false, false, false, false, false, false, false, false, false, false, false, false, false, false, false, false, false, false] rfl rfl (any_of HT_.out (by kernel_rfl)) (fun _ _ _ h => h) (Or.inl ⟨by rfl, ?_⟩) ?_ ?_
               rotate_left
               ·intro w'
                go_simp
                with_reducible rfl
               rotate_left
               ·simp only [Act.put, List.setIfInBounds_toArray, List.set_cons_zero, List.set_cons_succ, i64_w, i32_w]
                rfl
               refine pure_ (i := 4) (N := some 62) (v := ?_) (a' := ?_) #[true, false, true, false, true, false, false, false, false, false, false, false, false, false, false, false, false, false, false, false, false, false, false, false] rfl rfl (any_of HT_.out (by kernel_rfl)) (fun _ _ _ h => h) (Or.inl ⟨by rfl, ?_⟩) ?_ ?_
               rotate_left
               ·intro w'
                go_simp
                with_reducible rfl
               rotate_left
               ·simp only [Act.put, List.setIfInBounds_toArray, List.set_cons_zero, List.set_cons_succ, i64_w, i32_w]
                rfl
               refine pure_ (i := 7) (N := some 65) (v := ?_) (a' := ?_) #[true, false, true, false, true, false, false, true, false, false, false, false, false, false, false, false, false, false, false, false, false, false, false, false] rfl rfl (any_of HT_.out (by kernel_rfl)) (fun _ _ _ h => h) (Or.inl ⟨by rfl, ?_⟩) ?_ ?_
               rotate_left
               ·intro w'
                go_simp
                with_reducible rfl
               rotate_left
               ·simp only [Act.put, List.setIfInBounds_toArray, List.set_cons_zero, List.set_cons_succ, i64_w, i32_w]
                rfl
               refine pure_ (i := 9) (N := some 67) (v := ?_) (a' := ?_) #[true, false, true, false, true, false, false, true, false, true, false, false, false, false, false, false, false, false, false, false, false, false, false, false] rfl rfl (any_of HT_.out (by kernel_rfl)) (fun _ _ _ h => h) (Or.inl ⟨by rfl, ?_⟩) ?_ ?_
               rotate_left
               ·intro w'
                go_simp
                with_reducible rfl
               rotate_left
               ·simp only [Act.put, List.setIfInBounds_toArray, List.set_cons_zero, List.set_cons_succ, i64_w, i32_w]
                rfl
               refine pure_ (i := 11) (N := some 69) (v := ?_) (a' := ?_) #[true, false, true, false, true, false, false, true, false, true, false, true, false, false, false, false, false, false, false, false, false, false, false, false] rfl rfl (any_of HT_.out (by kernel_rfl)) (fun _ _ _ h => h) (Or.inl ⟨by rfl, ?_⟩) ?_ ?_
               rotate_left
               ·intro w'
                go_simp
                with_reducible rfl
               rotate_left
               ·simp only [Act.put, List.setIfInBounds_toArray, List.set_cons_zero, List.set_cons_succ, i64_w, i32_w]
                rfl
               refine pure_ (i := 13) (N := some 71) (v := ?_) (a' := ?_) #[true, false, true, false, true, false, false, true, false, true, false, true, false, true, false, false, false, false, false, false, false, false, false, false] rfl rfl (any_of HT_.out (by kernel_rfl)) (fun _ _ _ h => h) (Or.inl ⟨by rfl, ?_⟩) ?_ ?_
               rotate_left
               ·intro w'
                go_simp
                with_reducible rfl
               rotate_left
               ·simp only [Act.put, List.setIfInBounds_toArray, List.set_cons_zero, List.set_cons_succ, i64_w, i32_w]
                rfl
               refine pure_ (i := 16) (N := some 74) (v := ?_) (a' := ?_) #[true, false, true, false, true, false, false, true, false, true, false, true, false, true, false, false, true, false, false, false, false, false, false, false] rfl rfl (any_of HT_.out (by kernel_rfl)) (fun _ _ _ h => h) (Or.inl ⟨by rfl, ?_⟩) ?_ ?_
               rotate_left
               ·intro w'
                go_simp
                with_reducible rfl
               rotate_left
               ·simp only [Act.put, List.setIfInBounds_toArray, List.set_cons_zero, List.set_cons_succ, i64_w, i32_w]
                rfl
               refine take_ (i := 1) (N := some 59) (v := ?_) (a' := ?_) #[true, true, true, false, true, false, false, true, false, true, false, true, false, true, false, false, true, false, false, false, false, false, false, false] rfl rfl (take_ofW HT_.out HW_.out (by kernel_rfl)) (fun _ _ _ h => h) (Or.inl ⟨by rfl, ?_⟩) hHeld ?_ ?_
               rotate_left
               ·rintro w' ⟨s0, s1, s2, s3, s4, s5, s6, s7, s8, s9, s10, s11, s12, s13⟩
                go_simp
                with_reducible rfl
               rotate_left
               ·simp only [Act.put, List.setIfInBounds_toArray, List.set_cons_zero, List.set_cons_succ, i64_w, i32_w]
                rfl
               refine take_ (i := 3) (N := some 61) (v := ?_) (a' := ?_) #[true, true, true, true, true, false, false, true, false, true, false, true, false, true, false, false, true, false, false, false, false, false, false, false] rfl rfl (take_ofW HT_.out HW_.out (by kernel_rfl)) (fun _ _ _ h => h) (Or.inl ⟨by rfl, ?_⟩) hHeld ?_ ?_
               rotate_left
               ·rintro w' ⟨s0, s1, s2, s3, s4, s5, s6, s7, s8, s9, s10, s11, s12, s13⟩
                go_simp
                with_reducible rfl
               rotate_left
               ·simp only [Act.put, List.setIfInBounds_toArray, List.set_cons_zero, List.set_cons_succ, i64_w, i32_w]
                rfl
               refine pure_ (i := 5) (N := some 63) (v := ?_) (a' := ?_) #[true, true, true, true, true, true, false, true, false, true, false, true, false, true, false, false, true, false, false, false, false, false, false, false] rfl rfl (any_of HT_.out (by kernel_rfl)) (fun _ _ _ h => h) (Or.inl ⟨by rfl, ?_⟩) ?_ ?_
               rotate_left
               ·intro w'
                go_simp
                with_reducible rfl
               rotate_left
               ·simp only [Act.put, List.setIfInBounds_toArray, List.set_cons_zero, List.set_cons_succ, i64_w, i32_w]
                rfl
               refine take_ (i := 6) (N := some 64) (v := ?_) (a' := ?_) #[true, true, true, true, true, true, true, true, false, true, false, true, false, true, false, false, true, false, false, false, false, false, false, false] rfl rfl (take_ofW HT_.out HW_.out (by kernel_rfl)) (fun _ _ _ h => h) (Or.inl ⟨by rfl, ?_⟩) hHeld ?_ ?_
               rotate_left
               ·rintro w' ⟨s0, s1, s2, s3, s4, s5, s6, s7, s8, s9, s10, s11, s12, s13⟩
                go_simp
                with_reducible rfl
               rotate_left
               ·simp only [Act.put, List.setIfInBounds_toArray, List.set_cons_zero, List.set_cons_succ, i64_w, i32_w]
                rfl
               refine take_ (i := 8) (N := some 66) (v := ?_) (a' := ?_) #[true, true, true, true, true, true, true, true, true, true, false, true, false, true, false, false, true, false, false, false, false, false, false, false] rfl rfl (take_ofW HT_.out HW_.out (by kernel_rfl)) (fun _ _ _ h => h) (Or.inl ⟨by rfl, ?_⟩) hHeld ?_ ?_
               rotate_left
               ·rintro w' ⟨s0, s1, s2, s3, s4, s5, s6, s7, s8, s9, s10, s11, s12, s13⟩
                go_simp
                with_reducible rfl
               rotate_left
               ·simp only [Act.put, List.setIfInBounds_toArray, List.set_cons_zero, List.set_cons_succ, i64_w, i32_w]
                rfl
               refine pure_ (i := 10) (N := some 68) (v := ?_) (a' := ?_) #[true, true, true, true, true, true, true, true, true, true, true, true, false, true, false, false, true, false, false, false, false, false, false, false] rfl rfl (any_of HT_.out (by kernel_rfl)) (fun _ _ _ h => h) (Or.inl ⟨by rfl, ?_⟩) ?_ ?_
               rotate_left
               ·intro w'
                go_simp
                with_reducible rfl
               rotate_left
               ·simp only [Act.put, List.setIfInBounds_toArray, List.set_cons_zero, List.set_cons_succ, i64_w, i32_w]
                rfl
               refine pure_ (i := 12) (N := some 70) (v := ?_) (a' := ?_) #[true, true, true, true, true, true, true, true, true, true, true, true, true, true, false, false, true, false, false, false, false, false, false, false] rfl rfl (any_of HT_.out (by kernel_rfl)) (fun _ _ _ h => h) (Or.inl ⟨by rfl, ?_⟩) ?_ ?_
               rotate_left
               ·intro w'
                go_simp
                with_reducible rfl
               rotate_left
               ·simp only [Act.put, List.setIfInBounds_toArray, List.set_cons_zero, List.set_cons_succ, i64_w, i32_w]
                rfl
               refine take_ (i := 14) (N := some 72) (v := ?_) (a' := ?_) #[true, true, true, true, true, true, true, true, true, true, true, true, true, true, true, false, true, false, false, false, false, false, false, false] rfl rfl (take_ofW HT_.out HW_.out (by kernel_rfl)) (fun _ _ _ h => h) (Or.inl ⟨by rfl, ?_⟩) hHeld ?_ ?_
               rotate_left
               ·rintro w' ⟨s0, s1, s2, s3, s4, s5, s6, s7, s8, s9, s10, s11, s12, s13⟩
                go_simp
                with_reducible rfl
               rotate_left
               ·simp only [Act.put, List.setIfInBounds_toArray, List.set_cons_zero, List.set_cons_succ, i64_w, i32_w]
                rfl
               refine pure_ (i := 15) (N := some 73) (v := ?_) (a' := ?_) #[true, true, true, true, true, true, true, true, true, true, true, true, true, true, true, true, true, false, false, false, false, false, false, false] rfl rfl (any_of HT_.out (by kernel_rfl)) (fun _ _ _ h => h) (Or.inl ⟨by rfl, ?_⟩) ?_ ?_
               rotate_left
               ·intro w'
                go_simp
                with_reducible rfl
               rotate_left
               ·simp only [Act.put, List.setIfInBounds_toArray, List.set_cons_zero, List.set_cons_succ, i64_w, i32_w]
                rfl
               refine pure_ (i := 17) (N := some 75) (v := ?_) (a' := ?_) #[true, true, true, true, true, true, true, true, true, true, true, true, true, true, true, true, true, true, false, false, false, false, false, false] rfl rfl (any_of HT_.out (by kernel_rfl)) (fun _ _ _ h => h) (Or.inl ⟨by rfl, ?_⟩) ?_ ?_
               rotate_left
               ·intro w'
                go_simp
                with_reducible rfl
               rotate_left
               ·simp only [Act.put, List.setIfInBounds_toArray, List.set_cons_zero, List.set_cons_succ, i64_w, i32_w]
                rfl
               refine pure_ (i := 18) (N := some 76) (v := ?_) (a' := ?_) #[true, true, true, true, true, true, true, true, true, true, true, true, true, true, true, true, true, true, true, false, false, false, false, false] rfl rfl (any_of HT_.out (by kernel_rfl)) (fun _ _ _ h => h) (Or.inl ⟨by rfl, ?_⟩) ?_ ?_
               rotate_left
               ·intro w'
                go_simp
                with_reducible rfl
               rotate_left
               ·simp only [Act.put, List.setIfInBounds_toArray, List.set_cons_zero, List.set_cons_succ, i64_w, i32_w]
                rfl
               refine take_ (i := 19) (N := some 77) (v := ?_) (a' := ?_) #[true, true, true, true, true, true, true, true, true, true, true, true, true, true, true, true, true, true, true, true, false, false, false, false] rfl rfl (take_ofW HT_.out HW_.out (by kernel_rfl)) (fun _ _ _ h => h) (Or.inl ⟨by rfl, ?_⟩) hHeld ?_ ?_
               rotate_left
               ·rintro w' ⟨s0, s1, s2, s3, s4, s5, s6, s7, s8, s9, s10, s11, s12, s13⟩
                go_simp
                with_reducible rfl
               rotate_left
               ·simp only [Act.put, List.setIfInBounds_toArray, List.set_cons_zero, List.set_cons_succ, i64_w, i32_w]
                rfl
               refine one_ (i := 20) (N := some 78) #[true, true, true, true, true, true, true, true, true, true, true, true, true, true, true, true, true, true, true, true, true, false, false, false] rfl rfl (one_of HT_.out (by kernel_rfl)) (by decide) (fun K hK => ?_)
               refine value_ (w1 := ?_) (v := ?_) (by rfl) rfl ?_ ?_
               rotate_left 2
               ·go_simp
                constructor
                ·rfl
                ·rfl
               refine hK.out _ _ ⟨(bC (blk_alloc BK194.out _) 0).trans rfl, (bC (blk_alloc BK194.out _) 1).trans rfl, (bC (blk_alloc BK194.out _) 2).trans rfl, (bC (blk_alloc BK187.out _) 0).trans rfl, (bC (blk_alloc BK187.out _) 1).trans rfl, (bC (blk_alloc BK187.out _) 2).trans rfl, (bC (blk_alloc BK187.out _) 3).trans rfl, (bC (blk_alloc BK187.out _) 4).trans rfl, (bC (blk_alloc BK188.out _) 0).trans rfl, (bC (blk_alloc BK188.out _) 1).trans rfl, (bC (blk_alloc BK188.out _) 2).trans rfl, (bC (blk_alloc BK188.out _) 3).trans rfl, (World.cell?_alloc_lt _ _ _ (World.block_lt_of_cell? _ _ (((HB.out.cell (World.block_lt_of_cell? w _ hw195_0)).trans hw195_0)))).trans (((HB.out.cell (World.block_lt_of_cell? w _ hw195_0)).trans hw195_0)), (World.cell?_alloc_lt _ _ _ (World.block_lt_of_cell? _ _ (((HB.out.cell (World.block_lt_of_cell? w _ hw196_0)).trans hw196_0)))).trans (((HB.out.cell (World.block_lt_of_cell? w _ hw196_0)).trans hw196_0))⟩ (fun hHeld => ?_)
               clear hK K
               refine norm_ (a' := ?_) ?_ ?_
               rotate_left
               ·show Act.put _ (some 78) _ = _
                simp only [Act.put, List.setIfInBounds_toArray, List.set_cons_zero, List.set_cons_succ, i64_w, i32_w]
                rfl
               refine one_ (i := 21) (N := some 79) #[true, true, true, true, true, true, true, true, true, true, true, true, true, true, true, true, true, true, true, true, true, true, false, false] rfl rfl (one_of HT_.out (by kernel_rfl)) (by decide) (fun K hK => ?_)
               refine Kd.R_append_step (Kd.int .u16) (w0 := w) w.heap.size (by rfl) (.tmp 59) (.tmp 78) 53 72 (.int .u16 0) 2 rfl Try.underlying53 info72 rfl (by decide) (by omega) u195002 x195002_2 (rd (rd_L1 l0_4 a1) (ji40)) [.int .u16 (rd (rd_L1 l0_4 a1) (ji40))] (fun _ => True) (fun _ => False) rfl rfl ?aP (fun _ hk => hk.elim) ?aF ?aO ?aB ?aS ?aL ?_
               (case aP => exact rfl)
               (case aB => exact (by repeat (first | (with_reducible first | exact HB.out | apply bA | apply bN | apply bD | refine bS ?_ GE187.out | refine bS ?_ GE188.out | refine bS ?_ GE189.out | refine bS ?_ GE194.out) | exact HB.out)))
               (case aF => exact (fun _ _ => trivial))
               (case aO => exact (by (with_reducible repeat (first | apply Kd.R_alloc | apply Kd.R_drewN | apply Kd.R_drew)); exact HO_195002.out))
               (case aS => exact (bU (by repeat (first | (with_reducible first | exact HB.out | apply bA | apply bN | apply bD | refine bS ?_ GE187.out | refine bS ?_ GE188.out | refine bS ?_ GE189.out | refine bS ?_ GE194.out) | exact HB.out))))
               (case aL => have := LMc43.out; omega)
               intro v198 w49 ho hb hg hat
               rw [← Ny197.out] at ho
               have n0_ := am (blk_grown (g := gb187) (o := .cells #[.int .i64 a0_0, .int .i64 a0_1, .int .i64 a0_2, .bool a0_3, .slice (some ad195) l0_4.length c0_4] 39 (0, 0)) (by (with_reducible repeat apply dX); exact BK187.out) hg (Kd.R_ne HO_195002.out BK187.out (by decide)))
               have n1_ := am (blk_grown (g := gb188) (o := .cells #[.int .i64 a2_0, .int .i64 a2_1, .int .i64 a2_2, .int .i64 a2_3] 52 (0, 0)) (by (with_reducible repeat apply dX); exact BK188.out) hg (Kd.R_ne HO_195002.out BK188.out (by decide)))
               have n2_ := am (blk_grown (g := gb189) (o := .cells #[.int .i64 0, .int .i64 0, .slice none 0 0] 55 (0, 0)) (by (with_reducible repeat apply dX); exact BK189.out) hg (Kd.R_ne HO_195002.out BK189.out (by decide)))
               have n3_ := am (blk_grown (g := gb194) (o := .cells #[.int .i64 a2_2, .int .i64 a2_3, u195002] 55 (0, 0)) (by (with_reducible repeat apply dX); exact BK194.out) hg (Kd.R_ne HO_195002.out BK194.out (by decide)))
               have n4_ := am (hb)
               have n5_ := am (ho)
               clear BK187
               clear BK188
               clear BK189
               clear BK194
               clear HB
               clear HO_195002
               have BK187 := n0_
               have BK188 := n1_
               have BK189 := n2_
               have BK194 := n3_
               have HB := n4_
               have HO199 := n5_
               clear n0_ n1_ n2_ n3_ n4_ n5_
               clear ho hb hg hat
               obtain ⟨Ao50, co50, eo50⟩ := Kd.R_slice HO199.out
               (first | subst eo50 | (injection eo50 with f1_ f2_ f3_; have f4_ := f1_.symm; have f5_ := f3_.symm; clear f1_ f2_ f3_; subst f4_; subst f5_))
               refine hK.out _ _ ⟨(bC BK194.out 0).trans rfl, (bC BK194.out 1).trans rfl, (bC BK194.out 2).trans rfl, (bC BK187.out 0).trans rfl, (bC BK187.out 1).trans rfl, (bC BK187.out 2).trans rfl, (bC BK187.out 3).trans rfl, (bC BK187.out 4).trans rfl, (bC BK188.out 0).trans rfl, (bC BK188.out 1).trans rfl, (bC BK188.out 2).trans rfl, (bC BK188.out 3).trans rfl, ((HB.out.cell (World.block_lt_of_cell? w _ hw195_0)).trans hw195_0), ((HB.out.cell (World.block_lt_of_cell? w _ hw196_0)).trans hw196_0)⟩ (fun hHeld => ?_)
               clear hK K
               refine norm_ (a' := ?_) ?_ ?_
               rotate_left
               ·show Act.put _ (some 79) _ = _
                simp only [Act.put, List.setIfInBounds_toArray, List.set_cons_zero, List.set_cons_succ, i64_w, i32_w]
                rfl
               refine pure_ (i := 22) (N := some 80) (v := ?_) (a' := ?_) #[true, true, true, true, true, true, true, true, true, true, true, true, true, true, true, true, true, true, true, true, true, true, true, false] rfl rfl (any_of HT_.out (by kernel_rfl)) (fun _ _ _ h => h) (Or.inl ⟨by rfl, ?_⟩) ?_ ?_
               rotate_left
               ·intro w'
                go_simp
                with_reducible rfl
               rotate_left
               ·simp only [Act.put, List.setIfInBounds_toArray, List.set_cons_zero, List.set_cons_succ, i64_w, i32_w]
                rfl
               refine last_ (i := 23) (N := none) #[true, true, true, true, true, true, true, true, true, true, true, true, true, true, true, true, true, true, true, true, true, true, true, true] rfl rfl (one_of HT_.out (by kernel_rfl)) (by decide) (fun K hK => ?_)
               have hs51 : w49.cell? ⟨gb194, 2, none⟩ = some (u195002) := (bC BK194.out 2).trans rfl
               have hfs51 := bZ BK194.out 2
               have hns51_0 := NB187_194.out
               have hns51_1 := NB188_194.out
               have hns51_2 := NB189_194.out
               have hms51_0 := NB194_187.out
               have hms51_1 := NB194_188.out
               have hms51_2 := NB194_189.out
               refine skip_ (w1 := ?_) (by rfl) rfl ?_ ?_
               rotate_left
               ·go_simp
                rfl
               refine hK.out _ _ ?_
               clear hK K
               refine done_ (done_of HT_.out (by kernel_rfl)) ?_
               try go_wp2
               go_roundg k2
               case measure => have := HK1.out; have := HK2.out; omega
               case rel => exact ⟨(wrap64 (x14_2 + 1)), (y197), (.slice Ao50 y197.length co50), (by first | rfl | (simp; done) | (simp [*]; done)), H', ⟨by have := HK1.out; have := HK2.out; omega⟩, ⟨by (with_reducible repeat (first | apply Kd.R_alloc | apply Kd.R_drewN | apply Kd.R_drew)); exact Kd.R_mono (Kd.R_far (p := ⟨gb194, 2, none⟩) (Kd.R_types HO199.out BK194.out (by decide)) (fun _ hk => hk.2) (.slice Ao50 y197.length co50)) (fun _ hk => trivial)⟩, ⟨by (with_reducible repeat apply dX); refine bF ?_ NB187_194.out _; (with_reducible repeat apply dX); exact BK187.out⟩, ⟨by (with_reducible repeat apply dX); refine bF ?_ NB188_194.out _; (with_reducible repeat apply dX); exact BK188.out⟩, ⟨by (with_reducible repeat apply dX); refine bF ?_ NB189_194.out _; (with_reducible repeat apply dX); exact BK189.out⟩, ⟨by (with_reducible repeat apply dX); refine bP (cs := #[.int .i64 a2_2, .int .i64 a2_3, u195002]) ?_ 2 _ rfl; (with_reducible repeat apply dX); exact BK194.out⟩, ⟨by repeat (first | (with_reducible first | exact HB.out | apply bA | apply bN | apply bD | refine bS ?_ GE187.out | refine bS ?_ GE188.out | refine bS ?_ GE189.out | refine bS ?_ GE194.out) | exact HB.out)⟩⟩
              ·rw [if_neg c43] at H
               exact absurd H (by simp)
             ·rw [if_neg c42] at H
              exact absurd H (by simp)
            ·rw [if_neg c41] at H
             exact absurd H (by simp)
           ·rw [if_neg c39] at H
            exact absurd H (by simp)
          ·rw [if_neg c38] at H
           exact absurd H (by simp)
         ·rw [if_neg c37] at H
          have c37b0 : decide (x14_2 < a2_2) = false := decide_eq_false c37
          clear c37
          have H' := am H
          clear H
          have hnb52 := NB188_187.out
          have hnc52 := NB187_188.out
          have hnb53 := NB188_189.out
          have hnc53 := NB189_188.out
          have hnb54 := NB188_194.out
          have hnc54 := NB194_188.out
          have hcz55_0 : wr.cell? ⟨gb188, 0, none⟩ = some (.int .i64 a2_0) := (bC BK188.out 0).trans rfl
          have hcz55_1 : wr.cell? ⟨gb188, 1, none⟩ = some (.int .i64 a2_1) := (bC BK188.out 1).trans rfl
          have hcz55_2 : wr.cell? ⟨gb188, 2, none⟩ = some (.int .i64 a2_2) := (bC BK188.out 2).trans rfl
          have hcz55_3 : wr.cell? ⟨gb188, 3, none⟩ = some (.int .i64 a2_3) := (bC BK188.out 3).trans rfl
          have hfz55_0 := bZ BK188.out 0
          have hfz55_1 := bZ BK188.out 1
          have hfz55_2 := bZ BK188.out 2
          have hfz55_3 := bZ BK188.out 3
          go_wp2
          go_roundg k2
          case measure => have := HK1.out; have := HK2.out; omega
          case rel => exact ⟨(wrap64 (x13_1 + 1)), (x195002_2), (u195002), (by first | rfl | (simp; done) | (simp [*]; done)), H', ⟨by have := HK1.out; have := HK2.out; omega⟩, ⟨by (with_reducible repeat (first | apply Kd.R_alloc | apply Kd.R_drewN | apply Kd.R_drew)); exact HO_195002.out⟩, ⟨by (with_reducible repeat apply dX); exact BK187.out⟩, ⟨by (with_reducible repeat apply dX); exact BK188.out⟩, ⟨by (with_reducible repeat apply dX); exact BK189.out⟩, ⟨by (with_reducible repeat apply dX); exact BK194.out⟩, ⟨by repeat (first | (with_reducible first | exact HB.out | apply bA | apply bN | apply bD | refine bS ?_ GE187.out | refine bS ?_ GE188.out | refine bS ?_ GE189.out | refine bS ?_ GE194.out) | exact HB.out)⟩⟩
      ·rw [if_neg c32] at H
       have c32b0 : decide (x13_1 < a2_3) = false := decide_eq_false c32
       clear c32
       simp only [Option.some.injEq, Prod.mk.injEq] at H
       obtain ⟨rfl, rfl, rfl, rfl⟩ := H
       have hnb56 := NB188_187.out
       have hnc56 := NB187_188.out
       have hnb57 := NB188_189.out
       have hnc57 := NB189_188.out
       have hnb58 := NB188_194.out
       have hnc58 := NB194_188.out
       have hcz59_0 : wr.cell? ⟨gb188, 0, none⟩ = some (.int .i64 a2_0) := (bC BK188.out 0).trans rfl
       have hcz59_1 : wr.cell? ⟨gb188, 1, none⟩ = some (.int .i64 a2_1) := (bC BK188.out 1).trans rfl
       have hcz59_2 : wr.cell? ⟨gb188, 2, none⟩ = some (.int .i64 a2_2) := (bC BK188.out 2).trans rfl
       have hcz59_3 : wr.cell? ⟨gb188, 3, none⟩ = some (.int .i64 a2_3) := (bC BK188.out 3).trans rfl
       have hfz59_0 := bZ BK188.out 0
       have hfz59_1 := bZ BK188.out 1
       have hfz59_2 := bZ BK188.out 2
       have hfz59_3 := bZ BK188.out 3
       have hnb60 := NB194_187.out
       have hnc60 := NB187_194.out
       have hnb61 := NB194_189.out
       have hnc61 := NB189_194.out
       have hcz62_0 : wr.cell? ⟨gb194, 0, none⟩ = some (.int .i64 a2_2) := (bC BK194.out 0).trans rfl
       have hcz62_1 : wr.cell? ⟨gb194, 1, none⟩ = some (.int .i64 a2_3) := (bC BK194.out 1).trans rfl
       have hcz62_2 : wr.cell? ⟨gb194, 2, none⟩ = some (u195002) := (bC BK194.out 2).trans rfl
       have hfz62_0 := bZ BK194.out 0
       have hfz62_1 := bZ BK194.out 1
       have hfz62_2 := bZ BK194.out 2
       have hnb63 := NB189_187.out
       have hnc63 := NB187_189.out
       have hcz64_0 : wr.cell? ⟨gb189, 0, none⟩ = some (.int .i64 0) := (bC BK189.out 0).trans rfl
       have hcz64_1 : wr.cell? ⟨gb189, 1, none⟩ = some (.int .i64 0) := (bC BK189.out 1).trans rfl
       have hcz64_2 : wr.cell? ⟨gb189, 2, none⟩ = some (.slice none 0 0) := (bC BK189.out 2).trans rfl
       have hfz64_0 := bZ BK189.out 0
       have hfz64_1 := bZ BK189.out 1
       have hfz64_2 := bZ BK189.out 2
       obtain ⟨Ao65, co65, eo65⟩ := Kd.R_slice HO_195002.out
       subst eo65
       go_wp2
       refine bodyPost_ret (results_ct rfl _ _ gb189 55 #[.int .i64 a2_2, .int .i64 a2_3, .slice Ao65 x195002_1.length co65] (0, 0) _ rfl (by (with_reducible repeat apply dX); refine bP (cs := #[.int .i64 a2_2, .int .i64 a2_3, .slice none 0 0]) ?_ 2 _ rfl; (with_reducible repeat apply dX); refine bP (cs := #[.int .i64 a2_2, .int .i64 0, .slice none 0 0]) ?_ 1 _ rfl; (with_reducible repeat apply dX); refine bP (cs := #[.int .i64 0, .int .i64 0, .slice none 0 0]) ?_ 0 _ rfl; (with_reducible repeat apply dX); exact BK189.out) Try.underlying55 rfl (by kernel_rfl)) rfl ?_
       exact ⟨_, by first | rfl | (simp [errW_none, errW_some] <;> rfl) | (simp [*, errW_none, errW_some] <;> rfl), by (with_reducible repeat (first | apply Kd.R_alloc | apply Kd.R_drewN | apply Kd.R_drew)); exact Kd.R_mono (Kd.R_far (p := ⟨gb189, 2, none⟩) (Kd.R_far (p := ⟨gb189, 1, none⟩) (Kd.R_far (p := ⟨gb189, 0, none⟩) (Kd.R_types HO_195002.out BK189.out (by decide)) (fun _ hk => hk.2) (.int .i64 a2_2)) (fun _ hk => hk.2) (.int .i64 a2_3)) (fun _ hk => hk.2) (.slice Ao65 x195002_1.length co65)) (fun _ hk => trivial), by repeat (first | (with_reducible first | exact HB.out | apply bA | apply bN | apply bD | refine bS ?_ GE187.out | refine bS ?_ GE188.out | refine bS ?_ GE189.out | refine bS ?_ GE194.out) | exact HB.out)⟩
   ·replace c10 := Bool.eq_false_iff.mpr c10
    subst c10
    have H1 : (some (0, 0, ([] : List Int), 65)) = some (r1, r2, r3, r4) := by rw [if_neg (show ¬ (false = true) by decide)] at H; exact H
    clear H
    have H := H1
    clear H1
    simp only [Option.some.injEq, Prod.mk.injEq] at H
    obtain ⟨rfl, rfl, rfl, rfl⟩ := H
    go_enter Try.func35, Try.ntmps35
    go_wp2_with (first | ((with_reducible refine gD (N := 3) rfl ?_); refine bE ?hg (N := 3) ?hd (cs := #[.int .i64 a0_0, .int .i64 a0_1, .int .i64 a0_2, .bool a0_3, .slice A0_4 l0_4.length c0_4]) (t := 39) ?hr ?_; (case hd => rfl); (case hg => rfl); (case hr => first | (go_simp; done) | (go_simp; rfl)); intro gb187 hg w66 hbox hb; have n0_ := am (bT (by repeat (first | (with_reducible first | exact HB.out | apply bA | apply bN | apply bD) | exact HB.out)) hb); have n1_ := am (hbox); have n2_ := am ((by rw [hg]; exact (bU (by repeat (first | (with_reducible first | exact HB.out | apply bA | apply bN | apply bD) | exact HB.out))) : w.heap.size ≤ gb187)); have n3_ := am ((by rw [hg]; exact (bU (by repeat (first | (with_reducible first | exact HB.out | apply bA | apply bN | apply bD) | exact HB.out))) : w.heap.size ≤ gb187)); clear HB; have HB := n0_; have BK187 := n1_; have GW187 := n2_; have GE187 := n3_; clear n0_ n1_ n2_ n3_; clear hb hbox hg) | ((with_reducible refine gD (N := 5) rfl ?_); refine bE ?hg (N := 5) ?hd (cs := #[.int .i64 a2_0, .int .i64 a2_1, .int .i64 a2_2, .int .i64 a2_3]) (t := 52) ?hr ?_; (case hd => rfl); (case hg => rfl); (case hr => first | (go_simp; done) | (go_simp; rfl)); intro gb188 hg w67 hbox hb; have n0_ := am (bB (g := gb187) (o := .cells #[.int .i64 a0_0, .int .i64 a0_1, .int .i64 a0_2, .bool a0_3, .slice A0_4 l0_4.length c0_4] 39 (0, 0)) (by (with_reducible repeat apply dX); exact BK187.out) hb); have n1_ := am (bT (by repeat (first | (with_reducible first | exact HB.out | apply bA | apply bN | apply bD | refine bS ?_ GE187.out) | exact HB.out)) hb); have n2_ := am (hbox); have n3_ := am ((by rw [hg]; exact (bU (by repeat (first | (with_reducible first | exact HB.out | apply bA | apply bN | apply bD | refine bS ?_ GE187.out) | exact HB.out))) : w.heap.size ≤ gb188)); have n4_ := am ((by rw [hg]; exact (bU (by repeat (first | (with_reducible first | exact HB.out | apply bA | apply bN | apply bD | refine bS ?_ GE187.out) | exact HB.out))) : w.heap.size ≤ gb188)); have n5_ := am ((by rw [hg]; exact nL (bL (g := gb187) (o := .cells #[.int .i64 a0_0, .int .i64 a0_1, .int .i64 a0_2, .bool a0_3, .slice A0_4 l0_4.length c0_4] 39 (0, 0)) (by (with_reducible repeat apply dX); exact BK187.out)) : gb187 ≠ gb188)); have n6_ := am ((by rw [hg]; exact nG (bL (g := gb187) (o := .cells #[.int .i64 a0_0, .int .i64 a0_1, .int .i64 a0_2, .bool a0_3, .slice A0_4 l0_4.length c0_4] 39 (0, 0)) (by (with_reducible repeat apply dX); exact BK187.out)) : gb188 ≠ gb187)); clear BK187; clear HB; have BK187 := n0_; have HB := n1_; have BK188 := n2_; have GW188 := n3_; have GE188 := n4_; have NB187_188 := n5_; have NB188_187 := n6_; clear n0_ n1_ n2_ n3_ n4_ n5_ n6_; clear hb hbox hg) | ((with_reducible refine gD (N := 6) rfl ?_); refine bE ?hg (N := 6) ?hd (cs := #[.int .i64 0, .int .i64 0, .slice none 0 0]) (t := 55) ?hr ?_; (case hd => rfl); (case hg => rfl); (case hr => first | (go_simp; done) | (go_simp; rfl)); intro gb189 hg w68 hbox hb; have n0_ := am (bB (g := gb187) (o := .cells #[.int .i64 a0_0, .int .i64 a0_1, .int .i64 a0_2, .bool a0_3, .slice A0_4 l0_4.length c0_4] 39 (0, 0)) (by (with_reducible repeat apply dX); exact BK187.out) hb); have n1_ := am (bB (g := gb188) (o := .cells #[.int .i64 a2_0, .int .i64 a2_1, .int .i64 a2_2, .int .i64 a2_3] 52 (0, 0)) (by (with_reducible repeat apply dX); exact BK188.out) hb); have n2_ := am (bT (by repeat (first | (with_reducible first | exact HB.out | apply bA | apply bN | apply bD | refine bS ?_ GE187.out | refine bS ?_ GE188.out) | exact HB.out)) hb); have n3_ := am (hbox); have n4_ := am ((by rw [hg]; exact (bU (by repeat (first | (with_reducible first | exact HB.out | apply bA | apply bN | apply bD | refine bS ?_ GE187.out | refine bS ?_ GE188.out) | exact HB.out))) : w.heap.size ≤ gb189)); have n5_ := am ((by rw [hg]; exact (bU (by repeat (first | (with_reducible first | exact HB.out | apply bA | apply bN | apply bD | refine bS ?_ GE187.out | refine bS ?_ GE188.out) | exact HB.out))) : w.heap.size ≤ gb189)); have n6_ := am ((by rw [hg]; exact nL (bL (g := gb187) (o := .cells #[.int .i64 a0_0, .int .i64 a0_1, .int .i64 a0_2, .bool a0_3, .slice A0_4 l0_4.length c0_4] 39 (0, 0)) (by (with_reducible repeat apply dX); exact BK187.out)) : gb187 ≠ gb189)); have n7_ := am ((by rw [hg]; exact nG (bL (g := gb187) (o := .cells #[.int .i64 a0_0, .int .i64 a0_1, .int .i64 a0_2, .bool a0_3, .slice A0_4 l0_4.length c0_4] 39 (0, 0)) (by (with_reducible repeat apply dX); exact BK187.out)) : gb189 ≠ gb187)); have n8_ := am ((by rw [hg]; exact nL (bL (g := gb188) (o := .cells #[.int .i64 a2_0, .int .i64 a2_1, .int .i64 a2_2, .int .i64 a2_3] 52 (0, 0)) (by (with_reducible repeat apply dX); exact BK188.out)) : gb188 ≠ gb189)); have n9_ := am ((by rw [hg]; exact nG (bL (g := gb188) (o := .cells #[.int .i64 a2_0, .int .i64 a2_1, .int .i64 a2_2, .int .i64 a2_3] 52 (0, 0)) (by (with_reducible repeat apply dX); exact BK188.out)) : gb189 ≠ gb188)); clear BK187; clear BK188; clear HB; have BK187 := n0_; have BK188 := n1_; have HB := n2_; have BK189 := n3_; have GW189 := n4_; have GE189 := n5_; have NB187_189 := n6_; have NB189_187 := n7_; have NB188_189 := n8_; have NB189_188 := n9_; clear n0_ n1_ n2_ n3_ n4_ n5_ n6_ n7_ n8_ n9_; clear hb hbox hg; have hnb69 := NB187_188.out; have hnc69 := NB188_187.out; have hnb70 := NB187_189.out; have hnc70 := NB189_187.out; have hcz71_0 : w68.cell? ⟨gb187, 0, none⟩ = some (.int .i64 a0_0) := (bC BK187.out 0).trans rfl; have hcz71_1 : w68.cell? ⟨gb187, 1, none⟩ = some (.int .i64 a0_1) := (bC BK187.out 1).trans rfl; have hcz71_2 : w68.cell? ⟨gb187, 2, none⟩ = some (.int .i64 a0_2) := (bC BK187.out 2).trans rfl; have hcz71_3 : w68.cell? ⟨gb187, 3, none⟩ = some (.bool a0_3) := (bC BK187.out 3).trans rfl; have hcz71_4 : w68.cell? ⟨gb187, 4, none⟩ = some (.slice A0_4 l0_4.length c0_4) := (bC BK187.out 4).trans rfl; have hfz71_0 := bZ BK187.out 0; have hfz71_1 := bZ BK187.out 1; have hfz71_2 := bZ BK187.out 2; have hfz71_3 := bZ BK187.out 3; have hfz71_4 := bZ BK187.out 4) | ((with_reducible refine gate_callee (f := 31) rfl ?_); refine goesL_ (some 16) rfl rfl Try.func31 (by kernel_rfl) rfl #[.agg #[.int .i64 a0_0, .int .i64 a0_1, .int .i64 a0_2, .bool a0_3, .slice A0_4 l0_4.length c0_4]] rfl (by (try simp only [List.map_toArray, List.map_cons, List.map_nil]); first | done | rfl | (simp only [List.length_drop, List.length_take]; rfl)) ?_; (with_reducible refine (dailiesref06_Valid.calls k a0_0 a0_1 a0_2 a0_3 _ _ l0_4 t190 _ ?side1 ?side2 A4.out).mono ?_); (case side1 => repeat (first | exact (Kd.C_below HR0_4.out HB.out) | (with_reducible refine Kd.C_alloc ?_ _) | (with_reducible refine Kd.C_drewN ?_ _) | (with_reducible refine Kd.C_drew ?_))); (case side2 => exact HC0_4.out); rintro e w72 ⟨rfl, hb⟩; refine ⟨_, rfl, ?_⟩; have n0_ := am (bB (g := gb187) (o := .cells #[.int .i64 a0_0, .int .i64 a0_1, .int .i64 a0_2, .bool a0_3, .slice A0_4 l0_4.length c0_4] 39 (0, 0)) (by (with_reducible repeat apply dX); exact BK187.out) hb); have n1_ := am (bB (g := gb188) (o := .cells #[.int .i64 a2_0, .int .i64 a2_1, .int .i64 a2_2, .int .i64 a2_3] 52 (0, 0)) (by (with_reducible repeat apply dX); exact BK188.out) hb); have n2_ := am (bB (g := gb189) (o := .cells #[.int .i64 0, .int .i64 0, .slice none 0 0] 55 (0, 0)) (by (with_reducible repeat apply dX); exact BK189.out) hb); have n3_ := am (bT (by repeat (first | (with_reducible first | exact HB.out | apply bA | apply bN | apply bD | refine bS ?_ GE187.out | refine bS ?_ GE188.out | refine bS ?_ GE189.out) | exact HB.out)) hb); clear BK187; clear BK188; clear BK189; clear HB; have BK187 := n0_; have BK188 := n1_; have BK189 := n2_; have HB := n3_; clear n0_ n1_ n2_ n3_; (try clear hb); (try clear hb2); (try clear hk); (try clear hi); have hcz73_0 : w72.cell? ⟨gb187, 0, none⟩ = some (.int .i64 a0_0) := (bC BK187.out 0).trans rfl; have hcz73_1 : w72.cell? ⟨gb187, 1, none⟩ = some (.int .i64 a0_1) := (bC BK187.out 1).trans rfl; have hcz73_2 : w72.cell? ⟨gb187, 2, none⟩ = some (.int .i64 a0_2) := (bC BK187.out 2).trans rfl; have hcz73_3 : w72.cell? ⟨gb187, 3, none⟩ = some (.bool a0_3) := (bC BK187.out 3).trans rfl; have hcz73_4 : w72.cell? ⟨gb187, 4, none⟩ = some (.slice A0_4 l0_4.length c0_4) := (bC BK187.out 4).trans rfl; have hfz73_0 := bZ BK187.out 0; have hfz73_1 := bZ BK187.out 1; have hfz73_2 := bZ BK187.out 2; have hfz73_3 := bZ BK187.out 3; have hfz73_4 := bZ BK187.out 4) | ((with_reducible refine gate_callee (f := 56) rfl ?_); refine goesL_ (some 24) rfl rfl Try.func56 (by kernel_rfl) rfl #[.agg #[.int .i64 a0_0, .int .i64 a0_1, .int .i64 a0_2, .bool a0_3], .int .i64 a1] rfl (by (try simp only [List.map_toArray, List.map_cons, List.map_nil]); first | done | rfl | (simp only [List.length_drop, List.length_take]; rfl)) ?_; (with_reducible refine (dailiesref06_there.calls a0_0 a0_1 a0_2 a0_3 a1 true _ A6.out).mono ?_); rintro e w74 ⟨rfl, hb⟩; refine ⟨_, rfl, ?_⟩; have n0_ := am (bB (g := gb187) (o := .cells #[.int .i64 a0_0, .int .i64 a0_1, .int .i64 a0_2, .bool a0_3, .slice A0_4 l0_4.length c0_4] 39 (0, 0)) (by (with_reducible repeat apply dX); exact BK187.out) hb); have n1_ := am (bB (g := gb188) (o := .cells #[.int .i64 a2_0, .int .i64 a2_1, .int .i64 a2_2, .int .i64 a2_3] 52 (0, 0)) (by (with_reducible repeat apply dX); exact BK188.out) hb); have n2_ := am (bB (g := gb189) (o := .cells #[.int .i64 0, .int .i64 0, .slice none 0 0] 55 (0, 0)) (by (with_reducible repeat apply dX); exact BK189.out) hb); have n3_ := am (bT (by repeat (first | (with_reducible first | exact HB.out | apply bA | apply bN | apply bD | refine bS ?_ GE187.out | refine bS ?_ GE188.out | refine bS ?_ GE189.out) | exact HB.out)) hb); clear BK187; clear BK188; clear BK189; clear HB; have BK187 := n0_; have BK188 := n1_; have BK189 := n2_; have HB := n3_; clear n0_ n1_ n2_ n3_; (try clear hb); (try clear hb2); (try clear hk); (try clear hi); have hcz75_0 : w74.cell? ⟨gb187, 0, none⟩ = some (.int .i64 a0_0) := (bC BK187.out 0).trans rfl; have hcz75_1 : w74.cell? ⟨gb187, 1, none⟩ = some (.int .i64 a0_1) := (bC BK187.out 1).trans rfl; have hcz75_2 : w74.cell? ⟨gb187, 2, none⟩ = some (.int .i64 a0_2) := (bC BK187.out 2).trans rfl; have hcz75_3 : w74.cell? ⟨gb187, 3, none⟩ = some (.bool a0_3) := (bC BK187.out 3).trans rfl; have hcz75_4 : w74.cell? ⟨gb187, 4, none⟩ = some (.slice A0_4 l0_4.length c0_4) := (bC BK187.out 4).trans rfl; have hfz75_0 := bZ BK187.out 0; have hfz75_1 := bZ BK187.out 1; have hfz75_2 := bZ BK187.out 2; have hfz75_3 := bZ BK187.out 3; have hfz75_4 := bZ BK187.out 4) | ((with_reducible refine gate_callee (f := 57) rfl ?_); refine goesL_ (some 31) rfl rfl Try.func57 (by kernel_rfl) rfl #[.agg #[.int .i64 a0_0, .int .i64 a0_1, .int .i64 a0_2, .bool a0_3], .int .i64 a1] rfl (by (try simp only [List.map_toArray, List.map_cons, List.map_nil]); first | done | rfl | (simp only [List.length_drop, List.length_take]; rfl)) ?_; (with_reducible refine (dailiesref06_wide.calls a0_0 a0_1 a0_2 a0_3 a1 t192 _ A8.out).mono ?_); rintro e w76 ⟨rfl, hb⟩; refine ⟨_, rfl, ?_⟩; have n0_ := am (bB (g := gb187) (o := .cells #[.int .i64 a0_0, .int .i64 a0_1, .int .i64 a0_2, .bool a0_3, .slice A0_4 l0_4.length c0_4] 39 (0, 0)) (by (with_reducible repeat apply dX); exact BK187.out) hb); have n1_ := am (bB (g := gb188) (o := .cells #[.int .i64 a2_0, .int .i64 a2_1, .int .i64 a2_2, .int .i64 a2_3] 52 (0, 0)) (by (with_reducible repeat apply dX); exact BK188.out) hb); have n2_ := am (bB (g := gb189) (o := .cells #[.int .i64 0, .int .i64 0, .slice none 0 0] 55 (0, 0)) (by (with_reducible repeat apply dX); exact BK189.out) hb); have n3_ := am (bT (by repeat (first | (with_reducible first | exact HB.out | apply bA | apply bN | apply bD | refine bS ?_ GE187.out | refine bS ?_ GE188.out | refine bS ?_ GE189.out) | exact HB.out)) hb); clear BK187; clear BK188; clear BK189; clear HB; have BK187 := n0_; have BK188 := n1_; have BK189 := n2_; have HB := n3_; clear n0_ n1_ n2_ n3_; (try clear hb); (try clear hb2); (try clear hk); (try clear hi); have hnb77 := NB188_189.out; have hnc77 := NB189_188.out; have hcz78_0 : w76.cell? ⟨gb188, 0, none⟩ = some (.int .i64 a2_0) := (bC BK188.out 0).trans rfl; have hcz78_1 : w76.cell? ⟨gb188, 1, none⟩ = some (.int .i64 a2_1) := (bC BK188.out 1).trans rfl; have hcz78_2 : w76.cell? ⟨gb188, 2, none⟩ = some (.int .i64 a2_2) := (bC BK188.out 2).trans rfl; have hcz78_3 : w76.cell? ⟨gb188, 3, none⟩ = some (.int .i64 a2_3) := (bC BK188.out 3).trans rfl; have hfz78_0 := bZ BK188.out 0; have hfz78_1 := bZ BK188.out 1; have hfz78_2 := bZ BK188.out 2; have hfz78_3 := bZ BK188.out 3; have hcz79_0 : w76.cell? ⟨gb187, 0, none⟩ = some (.int .i64 a0_0) := (bC BK187.out 0).trans rfl; have hcz79_1 : w76.cell? ⟨gb187, 1, none⟩ = some (.int .i64 a0_1) := (bC BK187.out 1).trans rfl; have hcz79_2 : w76.cell? ⟨gb187, 2, none⟩ = some (.int .i64 a0_2) := (bC BK187.out 2).trans rfl; have hcz79_3 : w76.cell? ⟨gb187, 3, none⟩ = some (.bool a0_3) := (bC BK187.out 3).trans rfl; have hcz79_4 : w76.cell? ⟨gb187, 4, none⟩ = some (.slice A0_4 l0_4.length c0_4) := (bC BK187.out 4).trans rfl; have hfz79_0 := bZ BK187.out 0; have hfz79_1 := bZ BK187.out 1; have hfz79_2 := bZ BK187.out 2; have hfz79_3 := bZ BK187.out 3; have hfz79_4 := bZ BK187.out 4) | ((with_reducible refine gate_callee (f := 67) rfl ?_); refine goesL_ (some 37) rfl rfl Try.func67 (by kernel_rfl) rfl #[.agg #[.int .i64 a2_0, .int .i64 a2_1, .int .i64 a2_2, .int .i64 a2_3], .int .i64 t192, .int .i64 a0_1] rfl (by (try simp only [List.map_toArray, List.map_cons, List.map_nil]); first | done | rfl | (simp only [List.length_drop, List.length_take]; rfl)) ?_; (with_reducible refine (dailiesref06_lies.calls a2_0 a2_1 a2_2 a2_3 t192 a0_1 false _ A9.out).mono ?_); rintro e w80 ⟨rfl, hb⟩; refine ⟨_, rfl, ?_⟩; have n0_ := am (bB (g := gb187) (o := .cells #[.int .i64 a0_0, .int .i64 a0_1, .int .i64 a0_2, .bool a0_3, .slice A0_4 l0_4.length c0_4] 39 (0, 0)) (by (with_reducible repeat apply dX); exact BK187.out) hb); have n1_ := am (bB (g := gb188) (o := .cells #[.int .i64 a2_0, .int .i64 a2_1, .int .i64 a2_2, .int .i64 a2_3] 52 (0, 0)) (by (with_reducible repeat apply dX); exact BK188.out) hb); have n2_ := am (bB (g := gb189) (o := .cells #[.int .i64 0, .int .i64 0, .slice none 0 0] 55 (0, 0)) (by (with_reducible repeat apply dX); exact BK189.out) hb); have n3_ := am (bT (by repeat (first | (with_reducible first | exact HB.out | apply bA | apply bN | apply bD | refine bS ?_ GE187.out | refine bS ?_ GE188.out | refine bS ?_ GE189.out) | exact HB.out)) hb); clear BK187; clear BK188; clear BK189; clear HB; have BK187 := n0_; have BK188 := n1_; have BK189 := n2_; have HB := n3_; clear n0_ n1_ n2_ n3_; (try clear hb); (try clear hb2); (try clear hk); (try clear hi); have hcz81_0 : w80.cell? ⟨gb189, 0, none⟩ = some (.int .i64 0) := (bC BK189.out 0).trans rfl; have hcz81_1 : w80.cell? ⟨gb189, 1, none⟩ = some (.int .i64 0) := (bC BK189.out 1).trans rfl; have hcz81_2 : w80.cell? ⟨gb189, 2, none⟩ = some (.slice none 0 0) := (bC BK189.out 2).trans rfl; have hfz81_0 := bZ BK189.out 0; have hfz81_1 := bZ BK189.out 1; have hfz81_2 := bZ BK189.out 2))
    refine bodyPost_ret (results_ct rfl _ _ gb189 55 #[.int .i64 0, .int .i64 0, .slice none 0 0] (0, 0) _ rfl (by (with_reducible repeat apply dX); refine bP (cs := #[.int .i64 0, .int .i64 0, .slice none 0 0]) ?_ 2 _ rfl; (with_reducible repeat apply dX); refine bP (cs := #[.int .i64 0, .int .i64 0, .slice none 0 0]) ?_ 1 _ rfl; (with_reducible repeat apply dX); refine bP (cs := #[.int .i64 0, .int .i64 0, .slice none 0 0]) ?_ 0 _ rfl; (with_reducible repeat apply dX); exact BK189.out) Try.underlying55 rfl (by kernel_rfl)) rfl ?_
    exact ⟨_, by first | rfl | (simp [errW_none, errW_some] <;> rfl) | (simp [*, errW_none, errW_some] <;> rfl), by first | exact Kd.R_nil _ _ _ _ _ | exact Kd.N_nil _ _ _ _ _ | exact Kd.V_nil _ _ _ _ _ | exact Kd.Q_nil _ _ _ _ _ | exact Kd.S_nil _ _ _ _ _, by repeat (first | (with_reducible first | exact HB.out | apply bA | apply bN | apply bD | refine bS ?_ GE187.out | refine bS ?_ GE188.out | refine bS ?_ GE189.out) | exact HB.out)⟩
  ·replace c7 := Bool.eq_false_iff.mpr c7
   subst c7
   have H1 : (some (0, 0, ([] : List Int), 65)) = some (r1, r2, r3, r4) := by rw [if_neg (show ¬ (false = true) by decide)] at H; exact H
   clear H
   have H := H1
   clear H1
   simp only [Option.some.injEq, Prod.mk.injEq] at H
   obtain ⟨rfl, rfl, rfl, rfl⟩ := H
   go_enter Try.func35, Try.ntmps35
   go_wp2_with (first | ((with_reducible refine gD (N := 3) rfl ?_); refine bE ?hg (N := 3) ?hd (cs := #[.int .i64 a0_0, .int .i64 a0_1, .int .i64 a0_2, .bool a0_3, .slice A0_4 l0_4.length c0_4]) (t := 39) ?hr ?_; (case hd => rfl); (case hg => rfl); (case hr => first | (go_simp; done) | (go_simp; rfl)); intro gb187 hg w82 hbox hb; have n0_ := am (bT (by repeat (first | (with_reducible first | exact HB.out | apply bA | apply bN | apply bD) | exact HB.out)) hb); have n1_ := am (hbox); have n2_ := am ((by rw [hg]; exact (bU (by repeat (first | (with_reducible first | exact HB.out | apply bA | apply bN | apply bD) | exact HB.out))) : w.heap.size ≤ gb187)); have n3_ := am ((by rw [hg]; exact (bU (by repeat (first | (with_reducible first | exact HB.out | apply bA | apply bN | apply bD) | exact HB.out))) : w.heap.size ≤ gb187)); clear HB; have HB := n0_; have BK187 := n1_; have GW187 := n2_; have GE187 := n3_; clear n0_ n1_ n2_ n3_; clear hb hbox hg) | ((with_reducible refine gD (N := 5) rfl ?_); refine bE ?hg (N := 5) ?hd (cs := #[.int .i64 a2_0, .int .i64 a2_1, .int .i64 a2_2, .int .i64 a2_3]) (t := 52) ?hr ?_; (case hd => rfl); (case hg => rfl); (case hr => first | (go_simp; done) | (go_simp; rfl)); intro gb188 hg w83 hbox hb; have n0_ := am (bB (g := gb187) (o := .cells #[.int .i64 a0_0, .int .i64 a0_1, .int .i64 a0_2, .bool a0_3, .slice A0_4 l0_4.length c0_4] 39 (0, 0)) (by (with_reducible repeat apply dX); exact BK187.out) hb); have n1_ := am (bT (by repeat (first | (with_reducible first | exact HB.out | apply bA | apply bN | apply bD | refine bS ?_ GE187.out) | exact HB.out)) hb); have n2_ := am (hbox); have n3_ := am ((by rw [hg]; exact (bU (by repeat (first | (with_reducible first | exact HB.out | apply bA | apply bN | apply bD | refine bS ?_ GE187.out) | exact HB.out))) : w.heap.size ≤ gb188)); have n4_ := am ((by rw [hg]; exact (bU (by repeat (first | (with_reducible first | exact HB.out | apply bA | apply bN | apply bD | refine bS ?_ GE187.out) | exact HB.out))) : w.heap.size ≤ gb188)); have n5_ := am ((by rw [hg]; exact nL (bL (g := gb187) (o := .cells #[.int .i64 a0_0, .int .i64 a0_1, .int .i64 a0_2, .bool a0_3, .slice A0_4 l0_4.length c0_4] 39 (0, 0)) (by (with_reducible repeat apply dX); exact BK187.out)) : gb187 ≠ gb188)); have n6_ := am ((by rw [hg]; exact nG (bL (g := gb187) (o := .cells #[.int .i64 a0_0, .int .i64 a0_1, .int .i64 a0_2, .bool a0_3, .slice A0_4 l0_4.length c0_4] 39 (0, 0)) (by (with_reducible repeat apply dX); exact BK187.out)) : gb188 ≠ gb187)); clear BK187; clear HB; have BK187 := n0_; have HB := n1_; have BK188 := n2_; have GW188 := n3_; have GE188 := n4_; have NB187_188 := n5_; have NB188_187 := n6_; clear n0_ n1_ n2_ n3_ n4_ n5_ n6_; clear hb hbox hg) | ((with_reducible refine gD (N := 6) rfl ?_); refine bE ?hg (N := 6) ?hd (cs := #[.int .i64 0, .int .i64 0, .slice none 0 0]) (t := 55) ?hr ?_; (case hd => rfl); (case hg => rfl); (case hr => first | (go_simp; done) | (go_simp; rfl)); intro gb189 hg w84 hbox hb; have n0_ := am (bB (g := gb187) (o := .cells #[.int .i64 a0_0, .int .i64 a0_1, .int .i64 a0_2, .bool a0_3, .slice A0_4 l0_4.length c0_4] 39 (0, 0)) (by (with_reducible repeat apply dX); exact BK187.out) hb); have n1_ := am (bB (g := gb188) (o := .cells #[.int .i64 a2_0, .int .i64 a2_1, .int .i64 a2_2, .int .i64 a2_3] 52 (0, 0)) (by (with_reducible repeat apply dX); exact BK188.out) hb); have n2_ := am (bT (by repeat (first | (with_reducible first | exact HB.out | apply bA | apply bN | apply bD | refine bS ?_ GE187.out | refine bS ?_ GE188.out) | exact HB.out)) hb); have n3_ := am (hbox); have n4_ := am ((by rw [hg]; exact (bU (by repeat (first | (with_reducible first | exact HB.out | apply bA | apply bN | apply bD | refine bS ?_ GE187.out | refine bS ?_ GE188.out) | exact HB.out))) : w.heap.size ≤ gb189)); have n5_ := am ((by rw [hg]; exact (bU (by repeat (first | (with_reducible first | exact HB.out | apply bA | apply bN | apply bD | refine bS ?_ GE187.out | refine bS ?_ GE188.out) | exact HB.out))) : w.heap.size ≤ gb189)); have n6_ := am ((by rw [hg]; exact nL (bL (g := gb187) (o := .cells #[.int .i64 a0_0, .int .i64 a0_1, .int .i64 a0_2, .bool a0_3, .slice A0_4 l0_4.length c0_4] 39 (0, 0)) (by (with_reducible repeat apply dX); exact BK187.out)) : gb187 ≠ gb189)); have n7_ := am ((by rw [hg]; exact nG (bL (g := gb187) (o := .cells #[.int .i64 a0_0, .int .i64 a0_1, .int .i64 a0_2, .bool a0_3, .slice A0_4 l0_4.length c0_4] 39 (0, 0)) (by (with_reducible repeat apply dX); exact BK187.out)) : gb189 ≠ gb187)); have n8_ := am ((by rw [hg]; exact nL (bL (g := gb188) (o := .cells #[.int .i64 a2_0, .int .i64 a2_1, .int .i64 a2_2, .int .i64 a2_3] 52 (0, 0)) (by (with_reducible repeat apply dX); exact BK188.out)) : gb188 ≠ gb189)); have n9_ := am ((by rw [hg]; exact nG (bL (g := gb188) (o := .cells #[.int .i64 a2_0, .int .i64 a2_1, .int .i64 a2_2, .int .i64 a2_3] 52 (0, 0)) (by (with_reducible repeat apply dX); exact BK188.out)) : gb189 ≠ gb188)); clear BK187; clear BK188; clear HB; have BK187 := n0_; have BK188 := n1_; have HB := n2_; have BK189 := n3_; have GW189 := n4_; have GE189 := n5_; have NB187_189 := n6_; have NB189_187 := n7_; have NB188_189 := n8_; have NB189_188 := n9_; clear n0_ n1_ n2_ n3_ n4_ n5_ n6_ n7_ n8_ n9_; clear hb hbox hg; have hnb85 := NB187_188.out; have hnc85 := NB188_187.out; have hnb86 := NB187_189.out; have hnc86 := NB189_187.out; have hcz87_0 : w84.cell? ⟨gb187, 0, none⟩ = some (.int .i64 a0_0) := (bC BK187.out 0).trans rfl; have hcz87_1 : w84.cell? ⟨gb187, 1, none⟩ = some (.int .i64 a0_1) := (bC BK187.out 1).trans rfl; have hcz87_2 : w84.cell? ⟨gb187, 2, none⟩ = some (.int .i64 a0_2) := (bC BK187.out 2).trans rfl; have hcz87_3 : w84.cell? ⟨gb187, 3, none⟩ = some (.bool a0_3) := (bC BK187.out 3).trans rfl; have hcz87_4 : w84.cell? ⟨gb187, 4, none⟩ = some (.slice A0_4 l0_4.length c0_4) := (bC BK187.out 4).trans rfl; have hfz87_0 := bZ BK187.out 0; have hfz87_1 := bZ BK187.out 1; have hfz87_2 := bZ BK187.out 2; have hfz87_3 := bZ BK187.out 3; have hfz87_4 := bZ BK187.out 4) | ((with_reducible refine gate_callee (f := 31) rfl ?_); refine goesL_ (some 16) rfl rfl Try.func31 (by kernel_rfl) rfl #[.agg #[.int .i64 a0_0, .int .i64 a0_1, .int .i64 a0_2, .bool a0_3, .slice A0_4 l0_4.length c0_4]] rfl (by (try simp only [List.map_toArray, List.map_cons, List.map_nil]); first | done | rfl | (simp only [List.length_drop, List.length_take]; rfl)) ?_; (with_reducible refine (dailiesref06_Valid.calls k a0_0 a0_1 a0_2 a0_3 _ _ l0_4 t190 _ ?side1 ?side2 A4.out).mono ?_); (case side1 => repeat (first | exact (Kd.C_below HR0_4.out HB.out) | (with_reducible refine Kd.C_alloc ?_ _) | (with_reducible refine Kd.C_drewN ?_ _) | (with_reducible refine Kd.C_drew ?_))); (case side2 => exact HC0_4.out); rintro e w88 ⟨rfl, hb⟩; refine ⟨_, rfl, ?_⟩; have n0_ := am (bB (g := gb187) (o := .cells #[.int .i64 a0_0, .int .i64 a0_1, .int .i64 a0_2, .bool a0_3, .slice A0_4 l0_4.length c0_4] 39 (0, 0)) (by (with_reducible repeat apply dX); exact BK187.out) hb); have n1_ := am (bB (g := gb188) (o := .cells #[.int .i64 a2_0, .int .i64 a2_1, .int .i64 a2_2, .int .i64 a2_3] 52 (0, 0)) (by (with_reducible repeat apply dX); exact BK188.out) hb); have n2_ := am (bB (g := gb189) (o := .cells #[.int .i64 0, .int .i64 0, .slice none 0 0] 55 (0, 0)) (by (with_reducible repeat apply dX); exact BK189.out) hb); have n3_ := am (bT (by repeat (first | (with_reducible first | exact HB.out | apply bA | apply bN | apply bD | refine bS ?_ GE187.out | refine bS ?_ GE188.out | refine bS ?_ GE189.out) | exact HB.out)) hb); clear BK187; clear BK188; clear BK189; clear HB; have BK187 := n0_; have BK188 := n1_; have BK189 := n2_; have HB := n3_; clear n0_ n1_ n2_ n3_; (try clear hb); (try clear hb2); (try clear hk); (try clear hi); have hcz89_0 : w88.cell? ⟨gb187, 0, none⟩ = some (.int .i64 a0_0) := (bC BK187.out 0).trans rfl; have hcz89_1 : w88.cell? ⟨gb187, 1, none⟩ = some (.int .i64 a0_1) := (bC BK187.out 1).trans rfl; have hcz89_2 : w88.cell? ⟨gb187, 2, none⟩ = some (.int .i64 a0_2) := (bC BK187.out 2).trans rfl; have hcz89_3 : w88.cell? ⟨gb187, 3, none⟩ = some (.bool a0_3) := (bC BK187.out 3).trans rfl; have hcz89_4 : w88.cell? ⟨gb187, 4, none⟩ = some (.slice A0_4 l0_4.length c0_4) := (bC BK187.out 4).trans rfl; have hfz89_0 := bZ BK187.out 0; have hfz89_1 := bZ BK187.out 1; have hfz89_2 := bZ BK187.out 2; have hfz89_3 := bZ BK187.out 3; have hfz89_4 := bZ BK187.out 4) | ((with_reducible refine gate_callee (f := 56) rfl ?_); refine goesL_ (some 24) rfl rfl Try.func56 (by kernel_rfl) rfl #[.agg #[.int .i64 a0_0, .int .i64 a0_1, .int .i64 a0_2, .bool a0_3], .int .i64 a1] rfl (by (try simp only [List.map_toArray, List.map_cons, List.map_nil]); first | done | rfl | (simp only [List.length_drop, List.length_take]; rfl)) ?_; (with_reducible refine (dailiesref06_there.calls a0_0 a0_1 a0_2 a0_3 a1 false _ A6.out).mono ?_); rintro e w90 ⟨rfl, hb⟩; refine ⟨_, rfl, ?_⟩; have n0_ := am (bB (g := gb187) (o := .cells #[.int .i64 a0_0, .int .i64 a0_1, .int .i64 a0_2, .bool a0_3, .slice A0_4 l0_4.length c0_4] 39 (0, 0)) (by (with_reducible repeat apply dX); exact BK187.out) hb); have n1_ := am (bB (g := gb188) (o := .cells #[.int .i64 a2_0, .int .i64 a2_1, .int .i64 a2_2, .int .i64 a2_3] 52 (0, 0)) (by (with_reducible repeat apply dX); exact BK188.out) hb); have n2_ := am (bB (g := gb189) (o := .cells #[.int .i64 0, .int .i64 0, .slice none 0 0] 55 (0, 0)) (by (with_reducible repeat apply dX); exact BK189.out) hb); have n3_ := am (bT (by repeat (first | (with_reducible first | exact HB.out | apply bA | apply bN | apply bD | refine bS ?_ GE187.out | refine bS ?_ GE188.out | refine bS ?_ GE189.out) | exact HB.out)) hb); clear BK187; clear BK188; clear BK189; clear HB; have BK187 := n0_; have BK188 := n1_; have BK189 := n2_; have HB := n3_; clear n0_ n1_ n2_ n3_; (try clear hb); (try clear hb2); (try clear hk); (try clear hi); have hnb91 := NB189_188.out; have hnc91 := NB188_189.out; have hcz92_0 : w90.cell? ⟨gb189, 0, none⟩ = some (.int .i64 0) := (bC BK189.out 0).trans rfl; have hcz92_1 : w90.cell? ⟨gb189, 1, none⟩ = some (.int .i64 0) := (bC BK189.out 1).trans rfl; have hcz92_2 : w90.cell? ⟨gb189, 2, none⟩ = some (.slice none 0 0) := (bC BK189.out 2).trans rfl; have hfz92_0 := bZ BK189.out 0; have hfz92_1 := bZ BK189.out 1; have hfz92_2 := bZ BK189.out 2))
   refine bodyPost_ret (results_ct rfl _ _ gb189 55 #[.int .i64 0, .int .i64 0, .slice none 0 0] (0, 0) _ rfl (by (with_reducible repeat apply dX); refine bP (cs := #[.int .i64 0, .int .i64 0, .slice none 0 0]) ?_ 2 _ rfl; (with_reducible repeat apply dX); refine bP (cs := #[.int .i64 0, .int .i64 0, .slice none 0 0]) ?_ 1 _ rfl; (with_reducible repeat apply dX); refine bP (cs := #[.int .i64 0, .int .i64 0, .slice none 0 0]) ?_ 0 _ rfl; (with_reducible repeat apply dX); exact BK189.out) Try.underlying55 rfl (by kernel_rfl)) rfl ?_
   exact ⟨_, by first | rfl | (simp [errW_none, errW_some] <;> rfl) | (simp [*, errW_none, errW_some] <;> rfl), by first | exact Kd.R_nil _ _ _ _ _ | exact Kd.N_nil _ _ _ _ _ | exact Kd.V_nil _ _ _ _ _ | exact Kd.Q_nil _ _ _ _ _ | exact Kd.S_nil _ _ _ _ _, by repeat (first | (with_reducible first | exact HB.out | apply bA | apply bN | apply bD | refine bS ?_ GE187.out | refine bS ?_ GE188.out | refine bS ?_ GE189.out) | exact HB.out)⟩
 ·rw [if_neg c5] at H
  have c5b0 : (t190 == 0) = false := beq_eq_false_iff_ne.mpr c5
  have c5b1 : (t190 != 0) = true := bne_iff_ne.mpr c5
  simp only [Option.some.injEq, Prod.mk.injEq] at H
  obtain ⟨rfl, rfl, rfl, rfl⟩ := H
  go_enter Try.func35, Try.ntmps35
  go_wp2_with (first | ((with_reducible refine gD (N := 3) rfl ?_); refine bE ?hg (N := 3) ?hd (cs := #[.int .i64 a0_0, .int .i64 a0_1, .int .i64 a0_2, .bool a0_3, .slice A0_4 l0_4.length c0_4]) (t := 39) ?hr ?_; (case hd => rfl); (case hg => rfl); (case hr => first | (go_simp; done) | (go_simp; rfl)); intro gb187 hg w93 hbox hb; have n0_ := am (bT (by repeat (first | (with_reducible first | exact HB.out | apply bA | apply bN | apply bD) | exact HB.out)) hb); have n1_ := am (hbox); have n2_ := am ((by rw [hg]; exact (bU (by repeat (first | (with_reducible first | exact HB.out | apply bA | apply bN | apply bD) | exact HB.out))) : w.heap.size ≤ gb187)); have n3_ := am ((by rw [hg]; exact (bU (by repeat (first | (with_reducible first | exact HB.out | apply bA | apply bN | apply bD) | exact HB.out))) : w.heap.size ≤ gb187)); clear HB; have HB := n0_; have BK187 := n1_; have GW187 := n2_; have GE187 := n3_; clear n0_ n1_ n2_ n3_; clear hb hbox hg) | ((with_reducible refine gD (N := 5) rfl ?_); refine bE ?hg (N := 5) ?hd (cs := #[.int .i64 a2_0, .int .i64 a2_1, .int .i64 a2_2, .int .i64 a2_3]) (t := 52) ?hr ?_; (case hd => rfl); (case hg => rfl); (case hr => first | (go_simp; done) | (go_simp; rfl)); intro gb188 hg w94 hbox hb; have n0_ := am (bB (g := gb187) (o := .cells #[.int .i64 a0_0, .int .i64 a0_1, .int .i64 a0_2, .bool a0_3, .slice A0_4 l0_4.length c0_4] 39 (0, 0)) (by (with_reducible repeat apply dX); exact BK187.out) hb); have n1_ := am (bT (by repeat (first | (with_reducible first | exact HB.out | apply bA | apply bN | apply bD | refine bS ?_ GE187.out) | exact HB.out)) hb); have n2_ := am (hbox); have n3_ := am ((by rw [hg]; exact (bU (by repeat (first | (with_reducible first | exact HB.out | apply bA | apply bN | apply bD | refine bS ?_ GE187.out) | exact HB.out))) : w.heap.size ≤ gb188)); have n4_ := am ((by rw [hg]; exact (bU (by repeat (first | (with_reducible first | exact HB.out | apply bA | apply bN | apply bD | refine bS ?_ GE187.out) | exact HB.out))) : w.heap.size ≤ gb188)); have n5_ := am ((by rw [hg]; exact nL (bL (g := gb187) (o := .cells #[.int .i64 a0_0, .int .i64 a0_1, .int .i64 a0_2, .bool a0_3, .slice A0_4 l0_4.length c0_4] 39 (0, 0)) (by (with_reducible repeat apply dX); exact BK187.out)) : gb187 ≠ gb188)); have n6_ := am ((by rw [hg]; exact nG (bL (g := gb187) (o := .cells #[.int .i64 a0_0, .int .i64 a0_1, .int .i64 a0_2, .bool a0_3, .slice A0_4 l0_4.length c0_4] 39 (0, 0)) (by (with_reducible repeat apply dX); exact BK187.out)) : gb188 ≠ gb187)); clear BK187; clear HB; have BK187 := n0_; have HB := n1_; have BK188 := n2_; have GW188 := n3_; have GE188 := n4_; have NB187_188 := n5_; have NB188_187 := n6_; clear n0_ n1_ n2_ n3_ n4_ n5_ n6_; clear hb hbox hg) | ((with_reducible refine gD (N := 6) rfl ?_); refine bE ?hg (N := 6) ?hd (cs := #[.int .i64 0, .int .i64 0, .slice none 0 0]) (t := 55) ?hr ?_; (case hd => rfl); (case hg => rfl); (case hr => first | (go_simp; done) | (go_simp; rfl)); intro gb189 hg w95 hbox hb; have n0_ := am (bB (g := gb187) (o := .cells #[.int .i64 a0_0, .int .i64 a0_1, .int .i64 a0_2, .bool a0_3, .slice A0_4 l0_4.length c0_4] 39 (0, 0)) (by (with_reducible repeat apply dX); exact BK187.out) hb); have n1_ := am (bB (g := gb188) (o := .cells #[.int .i64 a2_0, .int .i64 a2_1, .int .i64 a2_2, .int .i64 a2_3] 52 (0, 0)) (by (with_reducible repeat apply dX); exact BK188.out) hb); have n2_ := am (bT (by repeat (first | (with_reducible first | exact HB.out | apply bA | apply bN | apply bD | refine bS ?_ GE187.out | refine bS ?_ GE188.out) | exact HB.out)) hb); have n3_ := am (hbox); have n4_ := am ((by rw [hg]; exact (bU (by repeat (first | (with_reducible first | exact HB.out | apply bA | apply bN | apply bD | refine bS ?_ GE187.out | refine bS ?_ GE188.out) | exact HB.out))) : w.heap.size ≤ gb189)); have n5_ := am ((by rw [hg]; exact (bU (by repeat (first | (with_reducible first | exact HB.out | apply bA | apply bN | apply bD | refine bS ?_ GE187.out | refine bS ?_ GE188.out) | exact HB.out))) : w.heap.size ≤ gb189)); have n6_ := am ((by rw [hg]; exact nL (bL (g := gb187) (o := .cells #[.int .i64 a0_0, .int .i64 a0_1, .int .i64 a0_2, .bool a0_3, .slice A0_4 l0_4.length c0_4] 39 (0, 0)) (by (with_reducible repeat apply dX); exact BK187.out)) : gb187 ≠ gb189)); have n7_ := am ((by rw [hg]; exact nG (bL (g := gb187) (o := .cells #[.int .i64 a0_0, .int .i64 a0_1, .int .i64 a0_2, .bool a0_3, .slice A0_4 l0_4.length c0_4] 39 (0, 0)) (by (with_reducible repeat apply dX); exact BK187.out)) : gb189 ≠ gb187)); have n8_ := am ((by rw [hg]; exact nL (bL (g := gb188) (o := .cells #[.int .i64 a2_0, .int .i64 a2_1, .int .i64 a2_2, .int .i64 a2_3] 52 (0, 0)) (by (with_reducible repeat apply dX); exact BK188.out)) : gb188 ≠ gb189)); have n9_ := am ((by rw [hg]; exact nG (bL (g := gb188) (o := .cells #[.int .i64 a2_0, .int .i64 a2_1, .int .i64 a2_2, .int .i64 a2_3] 52 (0, 0)) (by (with_reducible repeat apply dX); exact BK188.out)) : gb189 ≠ gb188)); clear BK187; clear BK188; clear HB; have BK187 := n0_; have BK188 := n1_; have HB := n2_; have BK189 := n3_; have GW189 := n4_; have GE189 := n5_; have NB187_189 := n6_; have NB189_187 := n7_; have NB188_189 := n8_; have NB189_188 := n9_; clear n0_ n1_ n2_ n3_ n4_ n5_ n6_ n7_ n8_ n9_; clear hb hbox hg; have hnb96 := NB187_188.out; have hnc96 := NB188_187.out; have hnb97 := NB187_189.out; have hnc97 := NB189_187.out; have hcz98_0 : w95.cell? ⟨gb187, 0, none⟩ = some (.int .i64 a0_0) := (bC BK187.out 0).trans rfl; have hcz98_1 : w95.cell? ⟨gb187, 1, none⟩ = some (.int .i64 a0_1) := (bC BK187.out 1).trans rfl; have hcz98_2 : w95.cell? ⟨gb187, 2, none⟩ = some (.int .i64 a0_2) := (bC BK187.out 2).trans rfl; have hcz98_3 : w95.cell? ⟨gb187, 3, none⟩ = some (.bool a0_3) := (bC BK187.out 3).trans rfl; have hcz98_4 : w95.cell? ⟨gb187, 4, none⟩ = some (.slice A0_4 l0_4.length c0_4) := (bC BK187.out 4).trans rfl; have hfz98_0 := bZ BK187.out 0; have hfz98_1 := bZ BK187.out 1; have hfz98_2 := bZ BK187.out 2; have hfz98_3 := bZ BK187.out 3; have hfz98_4 := bZ BK187.out 4) | ((with_reducible refine gate_callee (f := 31) rfl ?_); refine goesL_ (some 16) rfl rfl Try.func31 (by kernel_rfl) rfl #[.agg #[.int .i64 a0_0, .int .i64 a0_1, .int .i64 a0_2, .bool a0_3, .slice A0_4 l0_4.length c0_4]] rfl (by (try simp only [List.map_toArray, List.map_cons, List.map_nil]); first | done | rfl | (simp only [List.length_drop, List.length_take]; rfl)) ?_; (with_reducible refine (dailiesref06_Valid.calls k a0_0 a0_1 a0_2 a0_3 _ _ l0_4 t190 _ ?side1 ?side2 A4.out).mono ?_); (case side1 => repeat (first | exact (Kd.C_below HR0_4.out HB.out) | (with_reducible refine Kd.C_alloc ?_ _) | (with_reducible refine Kd.C_drewN ?_ _) | (with_reducible refine Kd.C_drew ?_))); (case side2 => exact HC0_4.out); rintro e w99 ⟨rfl, hb⟩; refine ⟨_, rfl, ?_⟩; have n0_ := am (bB (g := gb187) (o := .cells #[.int .i64 a0_0, .int .i64 a0_1, .int .i64 a0_2, .bool a0_3, .slice A0_4 l0_4.length c0_4] 39 (0, 0)) (by (with_reducible repeat apply dX); exact BK187.out) hb); have n1_ := am (bB (g := gb188) (o := .cells #[.int .i64 a2_0, .int .i64 a2_1, .int .i64 a2_2, .int .i64 a2_3] 52 (0, 0)) (by (with_reducible repeat apply dX); exact BK188.out) hb); have n2_ := am (bB (g := gb189) (o := .cells #[.int .i64 0, .int .i64 0, .slice none 0 0] 55 (0, 0)) (by (with_reducible repeat apply dX); exact BK189.out) hb); have n3_ := am (bT (by repeat (first | (with_reducible first | exact HB.out | apply bA | apply bN | apply bD | refine bS ?_ GE187.out | refine bS ?_ GE188.out | refine bS ?_ GE189.out) | exact HB.out)) hb); clear BK187; clear BK188; clear BK189; clear HB; have BK187 := n0_; have BK188 := n1_; have BK189 := n2_; have HB := n3_; clear n0_ n1_ n2_ n3_; (try clear hb); (try clear hb2); (try clear hk); (try clear hi); have hnb100 := NB189_188.out; have hnc100 := NB188_189.out; have hcz101_0 : w99.cell? ⟨gb189, 0, none⟩ = some (.int .i64 0) := (bC BK189.out 0).trans rfl; have hcz101_1 : w99.cell? ⟨gb189, 1, none⟩ = some (.int .i64 0) := (bC BK189.out 1).trans rfl; have hcz101_2 : w99.cell? ⟨gb189, 2, none⟩ = some (.slice none 0 0) := (bC BK189.out 2).trans rfl; have hfz101_0 := bZ BK189.out 0; have hfz101_1 := bZ BK189.out 1; have hfz101_2 := bZ BK189.out 2))
  refine bodyPost_ret (results_ct rfl _ _ gb189 55 #[.int .i64 0, .int .i64 0, .slice none 0 0] (0, 0) _ rfl (by (with_reducible repeat apply dX); refine bP (cs := #[.int .i64 0, .int .i64 0, .slice none 0 0]) ?_ 2 _ rfl; (with_reducible repeat apply dX); refine bP (cs := #[.int .i64 0, .int .i64 0, .slice none 0 0]) ?_ 1 _ rfl; (with_reducible repeat apply dX); refine bP (cs := #[.int .i64 0, .int .i64 0, .slice none 0 0]) ?_ 0 _ rfl; (with_reducible repeat apply dX); exact BK189.out) Try.underlying55 rfl (by kernel_rfl)) rfl ?_
  exact ⟨_, by first | rfl | (simp [errW_none, errW_some] <;> rfl) | (simp [*, errW_none, errW_some] <;> rfl), by first | exact Kd.R_nil _ _ _ _ _ | exact Kd.N_nil _ _ _ _ _ | exact Kd.V_nil _ _ _ _ _ | exact Kd.Q_nil _ _ _ _ _ | exact Kd.S_nil _ _ _ _ _, by repeat (first | (with_reducible first | exact HB.out | apply bA | apply bN | apply bD | refine bS ?_ GE187.out | refine bS ?_ GE188.out | refine bS ?_ GE189.out) | exact HB.out)⟩

end Go.Proofs.Ytdoikehkibefpaa.PPb
