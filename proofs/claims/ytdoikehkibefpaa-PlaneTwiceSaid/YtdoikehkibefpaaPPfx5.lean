-- Laid by a program of this session (wip/tools/prx.py), over the kit's printer of walks; Lean checks it.
import Derived.Test.YtdoikehkibefpaaPPfx0
import Derived.Test.YtdoikehkibefpaaPPfx2
import Derived.Test.YtdoikehkibefpaaPPfx3
import Derived.Test.YtdoikehkibefpaaPPfx4
namespace Go.Proofs.Ytdoikehkibefpaa.PPf
open Go.RowKit Go.Proofs.YtdoikehkibefpaaW.PrintWords Go.Proofs.YtdoikehkibefpaaW.PrintLast Go.Proofs.YtdoikehkibefpaaW.PrintMore
open Go.Proofs.YtdoikehkibefpaaW.PrintWords renaming blk_far → bF, below_set → bS, blk_frozen → bZ, below_alloc → bA, pw_below_drewN → bN, below_drew1 → bD, blk_below → bB, blk_cell → bC, blk_set → bs, blk_lt → bL, blk_put → bP, below_step → bT, below_size → bU, box_event → bE, gate_dst → gD
open Go.Proofs.YtdoikehkibefpaaW.PrintWords.Kd renaming S_far → kF, S_types → kT, S_alloc → kA, S_drewN → kN, S_drew → kD
attribute [local go_sem] max2_int min2_int max_two min_two max_three min_three max_four min_four   -- for this text's walks alone
set_option linter.unusedVariables false
set_option linter.unusedSimpArgs false

/-! ### plane_Cut: function 44 -/
def plane_Cut.l0 : Nat → List (List Int) → Int → Int → Int → Int → Int → Bool → List (List Int) → Int → Int → Int → Int → Int → Int → Int → Bool → List (List Int) → Option (Int × Int × Int × Bool × (List (List Int)) × Int)
  | 0, _, _, _, _, _, _, _, _, _, _, _, _, _, _, _, _, _ => none
  | k + 1, x35, x36, x37, x137000, x137001, x137002, x137003, x137004, x138000, x138001, x138002, x138003, x142000, x142001, x142002, x142003, x142004 => if x37 < x36 then (if 0 ≤ x37 then (if x37 < (x35.length : Int) then ((plane_width.f x137000 x137001 x137002 x137003 x37).bind fun t143 => ((plane_part.f x37 x138000 x138001 x138002 x138003).bind fun bt144 => ((plane_taken.f k (rd_L1 x35 x37) t143 bt144.1 bt144.2.1 bt144.2.2.1 bt144.2.2.2).bind fun t148 => (if x142004.length < 5864062014805 then (plane_Cut.l0 k x35 x36 (wrap64 (x37 + 1)) x137000 x137001 x137002 x137003 x137004 x138000 x138001 x138002 x138003 x142000 x142001 x142002 x142003 (x142004 ++ [t148])) else (none))))) else (none)) else (none)) else (some (x142000, x142001, x142002, x142003, x142004, 0))
def plane_Cut.f (k : Nat) (a0_0 : Int) (a0_1 : Int) (a0_2 : Int) (a0_3 : Bool) (l0_4 : List (List Int)) (a1_0 : Int) (a1_1 : Int) (a1_2 : Int) (a1_3 : Int) : Option (Int × Int × Int × Bool × (List (List Int)) × Int) := (plane_Valid.f k a0_0 a0_1 a0_2 a0_3 l0_4).bind fun t139 => (if t139 = 0 then ((plane_whole.f a0_0 a0_1 a0_2 a0_3 a1_0 a1_1 a1_2 a1_3).bind fun t140 => (if t140 = true then (plane_Cut.l0 k l0_4 (l0_4.length : Int) 0 a0_0 a0_1 a0_2 a0_3 l0_4 a1_0 a1_1 a1_2 a1_3 a1_2 a1_3 a0_2 a0_3 ([] : List (List Int))) else (some (0, 0, 0, false, ([] : List (List Int)), 65)))) else (some (0, 0, 0, false, ([] : List (List Int)), t139)))
theorem plane_Cut.mono_l : ∀ k, (∀ y0 y1 y2 y3 y4 y5 y6 y7 y8 y9 y10 y11 y12 y13 y14 y15 y16, LeO (plane_Cut.l0 k y0 y1 y2 y3 y4 y5 y6 y7 y8 y9 y10 y11 y12 y13 y14 y15 y16) (plane_Cut.l0 (k + 1) y0 y1 y2 y3 y4 y5 y6 y7 y8 y9 y10 y11 y12 y13 y14 y15 y16))
  | 0 => fun _ _ _ _ _ _ _ _ _ _ _ _ _ _ _ _ _ r h => by simp [plane_Cut.l0] at h
  | k + 1 => by
    have ih0 := plane_Cut.mono_l k
    · intro y0 y1 y2 y3 y4 y5 y6 y7 y8 y9 y10 y11 y12 y13 y14 y15 y16
      unfold plane_Cut.l0
      repeat' first
      | (with_reducible exact ih0 _ _ _ _ _ _ _ _ _ _ _ _ _ _ _ _ _)
      | (with_reducible exact plane_Valid.mono _ _ _ _ _ _)
      | (with_reducible exact plane_taken.mono _ _ _ _ _ _ _)
      | (with_reducible exact LeO.refl _)
      | (with_reducible exact LeO.none _)
      | (with_reducible refine LeO.ite ?_ ?_)
      | (with_reducible refine LeO.bind ?_ (fun _ => ?_))
      | exact ih0 _ _ _ _ _ _ _ _ _ _ _ _ _ _ _ _ _
      | exact plane_Valid.mono _ _ _ _ _ _
      | exact plane_taken.mono _ _ _ _ _ _ _
      | exact LeO.none _
      | refine LeO.ite ?_ ?_
      | refine LeO.bind ?_ (fun _ => ?_)
theorem plane_Cut.mono : ∀ a0 a1 a2 a3 a4 a5 a6 a7 a8 k, LeO (plane_Cut.f k a0 a1 a2 a3 a4 a5 a6 a7 a8) (plane_Cut.f (k + 1) a0 a1 a2 a3 a4 a5 a6 a7 a8) := by
  intro a0 a1 a2 a3 a4 a5 a6 a7 a8 k
  have ih0 := plane_Cut.mono_l k
  unfold plane_Cut.f
  repeat' first
      | (with_reducible exact ih0 _ _ _ _ _ _ _ _ _ _ _ _ _ _ _ _ _)
      | (with_reducible exact plane_Valid.mono _ _ _ _ _ _)
      | (with_reducible exact plane_taken.mono _ _ _ _ _ _ _)
      | (with_reducible exact LeO.refl _)
      | (with_reducible exact LeO.none _)
      | (with_reducible refine LeO.ite ?_ ?_)
      | (with_reducible refine LeO.bind ?_ (fun _ => ?_))
      | exact ih0 _ _ _ _ _ _ _ _ _ _ _ _ _ _ _ _ _
      | exact plane_Valid.mono _ _ _ _ _ _
      | exact plane_taken.mono _ _ _ _ _ _ _
      | exact LeO.none _
      | refine LeO.ite ?_ ?_
      | refine LeO.bind ?_ (fun _ => ?_)
def plane_Cut.T10 : Bool × List (List Nat × List Nat) := (true, [([], []), ([0], [0]), ([], []), ([], []), ([3], [3]), ([], []), ([4, 5], [4, 5]), ([], []), ([], []), ([7, 8, 6], [7, 8]), ([2, 6, 9, 9], [2, 6, 9]), ([10], [10]), ([1, 11, 10], [1, 11]), ([0, 1, 2, 3, 4, 5, 6, 7, 8, 9, 10, 11, 12], []), ([13, 12, 12, 0, 1, 2, 3, 4, 5, 6, 7, 8, 9, 10, 11, 12], [12, 13])])
def plane_Cut.B10 : List Nat := [0, 1, 0, 0, 8, 0, 56, 0, 0, 504, 1020, 2044, 4095, 8191, 16383]
theorem plane_Cut.tab10 : rtab .any (opsOf Try.f44 10) = plane_Cut.T10 := by kernel_rfl
theorem plane_Cut.bits10 : waitsOk plane_Cut.T10.2 plane_Cut.B10 = true := by kernel_rfl
set_option maxHeartbeats 8000000 in
set_option maxRecDepth 100000 in
theorem plane_Cut.calls (k : Nat) (a0_0 : Int) (a0_1 : Int) (a0_2 : Int) (a0_3 : Bool) (A0_4 : Option Addr) (c0_4 : Nat) (l0_4 : List (List Int)) (a1_0 : Int) (a1_1 : Int) (a1_2 : Int) (a1_3 : Int) (r1 : Int) (r2 : Int) (r3 : Int) (r4 : Bool) (r5 : List (List Int)) (r6 : Int) (w : World) (hr0_4 : Kd.C (Kd.slice 72 (Kd.int .u16)) w A0_4 l0_4.length l0_4) (hc0_4 : l0_4.length ≤ c0_4) (h : plane_Cut.f k a0_0 a0_1 a0_2 a0_3 l0_4 a1_0 a1_1 a1_2 a1_3 = some (r1, r2, r3, r4, r5, r6)) :
    Calls Try.prog 44 #[.agg #[.int .i64 a0_0, .int .i64 a0_1, .int .i64 a0_2, .bool a0_3, .slice A0_4 l0_4.length c0_4], .agg #[.int .i64 a1_0, .int .i64 a1_1, .int .i64 a1_2, .int .i64 a1_3]] w fun e w' => ∃ v4_ : Value, e = .returned (.tuple #[.agg #[.int .i64 r1, .int .i64 r2, .int .i64 r3, .bool r4, v4_], .int .i64 r6]) ∧ Kd.S (Kd.slice 72 (Kd.int .u16)) 53 w' w.heap.size (fun _ => True) v4_ r5 ∧ Below w.heap.size w w' := by
  have hu39 := Try.underlying39
  have hu52 := Try.underlying52
  have hu26 := Try.underlying26
  have HR0_4 := am hr0_4
  have HC0_4 := am hc0_4
  clear hr0_4 hc0_4
  have HB := am (Below.refl w.heap.size w)
  have H : ((plane_Valid.f k a0_0 a0_1 a0_2 a0_3 l0_4).bind fun t139 => (if t139 = 0 then ((plane_whole.f a0_0 a0_1 a0_2 a0_3 a1_0 a1_1 a1_2 a1_3).bind fun t140 => (if t140 = true then (plane_Cut.l0 k l0_4 (l0_4.length : Int) 0 a0_0 a0_1 a0_2 a0_3 l0_4 a1_0 a1_1 a1_2 a1_3 a1_2 a1_3 a0_2 a0_3 ([] : List (List Int))) else (some (0, 0, 0, false, ([] : List (List Int)), 65)))) else (some (0, 0, 0, false, ([] : List (List Int)), t139)))) = some (r1, r2, r3, r4, r5, r6) := h
  clear h
  replace H := Option.bind_eq_some_iff.mp H
  obtain ⟨t139, A30, H⟩ := H
  replace H : (if t139 = 0 then ((plane_whole.f a0_0 a0_1 a0_2 a0_3 a1_0 a1_1 a1_2 a1_3).bind fun t140 => (if t140 = true then (plane_Cut.l0 k l0_4 (l0_4.length : Int) 0 a0_0 a0_1 a0_2 a0_3 l0_4 a1_0 a1_1 a1_2 a1_3 a1_2 a1_3 a0_2 a0_3 ([] : List (List Int))) else (some (0, 0, 0, false, ([] : List (List Int)), 65)))) else (some (0, 0, 0, false, ([] : List (List Int)), t139))) = some (r1, r2, r3, r4, r5, r6) := H
  have A3 := am A30
  clear A30
  by_cases c4 : t139 = 0
  · rw [if_pos c4] at H
    have c4b0 : (t139 == 0) = true := beq_iff_eq.mpr c4
    have c4b1 : (t139 != 0) = false := bne_eq_false_iff_eq.mpr c4
    clear c4
    replace H := Option.bind_eq_some_iff.mp H
    obtain ⟨t140, A50, H⟩ := H
    replace H : (if t140 = true then (plane_Cut.l0 k l0_4 (l0_4.length : Int) 0 a0_0 a0_1 a0_2 a0_3 l0_4 a1_0 a1_1 a1_2 a1_3 a1_2 a1_3 a0_2 a0_3 ([] : List (List Int))) else (some (0, 0, 0, false, ([] : List (List Int)), 65))) = some (r1, r2, r3, r4, r5, r6) := H
    have A5 := am A50
    clear A50
    by_cases c6 : t140 = true
    · subst c6
      have H1 : (plane_Cut.l0 k l0_4 (l0_4.length : Int) 0 a0_0 a0_1 a0_2 a0_3 l0_4 a1_0 a1_1 a1_2 a1_3 a1_2 a1_3 a0_2 a0_3 ([] : List (List Int))) = some (r1, r2, r3, r4, r5, r6) := by rw [if_pos rfl] at H; exact H
      clear H
      have H := H1
      clear H1
      have H' := am H
      clear H
      go_enter Try.func44, Try.ntmps44
      go_wp2_with (first | ((with_reducible refine gD (N := 2) rfl ?_); refine bE ?hg (N := 2) ?hd (cs := #[.int .i64 a0_0, .int .i64 a0_1, .int .i64 a0_2, .bool a0_3, .slice A0_4 l0_4.length c0_4]) (t := 39) ?hr ?_; (case hd => rfl); (case hg => rfl); (case hr => first | (go_simp; done) | (go_simp; rfl)); intro gb136 hg w7 hbox hb; have n0_ := am (bT (by repeat (first | (with_reducible first | exact HB.out | apply bA | apply bN | apply bD) | exact HB.out)) hb); have n1_ := am (hbox); have n2_ := am ((by rw [hg]; exact (bU (by repeat (first | (with_reducible first | exact HB.out | apply bA | apply bN | apply bD) | exact HB.out))) : w.heap.size ≤ gb136)); have n3_ := am ((by rw [hg]; exact (bU (by repeat (first | (with_reducible first | exact HB.out | apply bA | apply bN | apply bD) | exact HB.out))) : w.heap.size ≤ gb136)); clear HB; have HB := n0_; have BK136 := n1_; have GW136 := n2_; have GE136 := n3_; clear n0_ n1_ n2_ n3_; clear hb hbox hg) | ((with_reducible refine gD (N := 3) rfl ?_); refine bE ?hg (N := 3) ?hd (cs := #[.int .i64 a1_0, .int .i64 a1_1, .int .i64 a1_2, .int .i64 a1_3]) (t := 52) ?hr ?_; (case hd => rfl); (case hg => rfl); (case hr => first | (go_simp; done) | (go_simp; rfl)); intro gb137 hg w8 hbox hb; have n0_ := am (bB (g := gb136) (o := .cells #[.int .i64 a0_0, .int .i64 a0_1, .int .i64 a0_2, .bool a0_3, .slice A0_4 l0_4.length c0_4] 39 (0, 0)) (by (with_reducible repeat apply dX); exact BK136.out) hb); have n1_ := am (bT (by repeat (first | (with_reducible first | exact HB.out | apply bA | apply bN | apply bD | refine bS ?_ GE136.out) | exact HB.out)) hb); have n2_ := am (hbox); have n3_ := am ((by rw [hg]; exact (bU (by repeat (first | (with_reducible first | exact HB.out | apply bA | apply bN | apply bD | refine bS ?_ GE136.out) | exact HB.out))) : w.heap.size ≤ gb137)); have n4_ := am ((by rw [hg]; exact (bU (by repeat (first | (with_reducible first | exact HB.out | apply bA | apply bN | apply bD | refine bS ?_ GE136.out) | exact HB.out))) : w.heap.size ≤ gb137)); have n5_ := am ((by rw [hg]; exact nL (bL (g := gb136) (o := .cells #[.int .i64 a0_0, .int .i64 a0_1, .int .i64 a0_2, .bool a0_3, .slice A0_4 l0_4.length c0_4] 39 (0, 0)) (by (with_reducible repeat apply dX); exact BK136.out)) : gb136 ≠ gb137)); have n6_ := am ((by rw [hg]; exact nG (bL (g := gb136) (o := .cells #[.int .i64 a0_0, .int .i64 a0_1, .int .i64 a0_2, .bool a0_3, .slice A0_4 l0_4.length c0_4] 39 (0, 0)) (by (with_reducible repeat apply dX); exact BK136.out)) : gb137 ≠ gb136)); clear BK136; clear HB; have BK136 := n0_; have HB := n1_; have BK137 := n2_; have GW137 := n3_; have GE137 := n4_; have NB136_137 := n5_; have NB137_136 := n6_; clear n0_ n1_ n2_ n3_ n4_ n5_ n6_; clear hb hbox hg) | ((with_reducible refine gD (N := 4) rfl ?_); refine bE ?hg (N := 4) ?hd (cs := #[.int .i64 0, .int .i64 0, .int .i64 0, .bool false, .slice none 0 0]) (t := 39) ?hr ?_; (case hd => rfl); (case hg => rfl); (case hr => first | (go_simp; done) | (go_simp; rfl)); intro gb138 hg w9 hbox hb; have n0_ := am (bB (g := gb136) (o := .cells #[.int .i64 a0_0, .int .i64 a0_1, .int .i64 a0_2, .bool a0_3, .slice A0_4 l0_4.length c0_4] 39 (0, 0)) (by (with_reducible repeat apply dX); exact BK136.out) hb); have n1_ := am (bB (g := gb137) (o := .cells #[.int .i64 a1_0, .int .i64 a1_1, .int .i64 a1_2, .int .i64 a1_3] 52 (0, 0)) (by (with_reducible repeat apply dX); exact BK137.out) hb); have n2_ := am (bT (by repeat (first | (with_reducible first | exact HB.out | apply bA | apply bN | apply bD | refine bS ?_ GE136.out | refine bS ?_ GE137.out) | exact HB.out)) hb); have n3_ := am (hbox); have n4_ := am ((by rw [hg]; exact (bU (by repeat (first | (with_reducible first | exact HB.out | apply bA | apply bN | apply bD | refine bS ?_ GE136.out | refine bS ?_ GE137.out) | exact HB.out))) : w.heap.size ≤ gb138)); have n5_ := am ((by rw [hg]; exact (bU (by repeat (first | (with_reducible first | exact HB.out | apply bA | apply bN | apply bD | refine bS ?_ GE136.out | refine bS ?_ GE137.out) | exact HB.out))) : w.heap.size ≤ gb138)); have n6_ := am ((by rw [hg]; exact nL (bL (g := gb136) (o := .cells #[.int .i64 a0_0, .int .i64 a0_1, .int .i64 a0_2, .bool a0_3, .slice A0_4 l0_4.length c0_4] 39 (0, 0)) (by (with_reducible repeat apply dX); exact BK136.out)) : gb136 ≠ gb138)); have n7_ := am ((by rw [hg]; exact nG (bL (g := gb136) (o := .cells #[.int .i64 a0_0, .int .i64 a0_1, .int .i64 a0_2, .bool a0_3, .slice A0_4 l0_4.length c0_4] 39 (0, 0)) (by (with_reducible repeat apply dX); exact BK136.out)) : gb138 ≠ gb136)); have n8_ := am ((by rw [hg]; exact nL (bL (g := gb137) (o := .cells #[.int .i64 a1_0, .int .i64 a1_1, .int .i64 a1_2, .int .i64 a1_3] 52 (0, 0)) (by (with_reducible repeat apply dX); exact BK137.out)) : gb137 ≠ gb138)); have n9_ := am ((by rw [hg]; exact nG (bL (g := gb137) (o := .cells #[.int .i64 a1_0, .int .i64 a1_1, .int .i64 a1_2, .int .i64 a1_3] 52 (0, 0)) (by (with_reducible repeat apply dX); exact BK137.out)) : gb138 ≠ gb137)); clear BK136; clear BK137; clear HB; have BK136 := n0_; have BK137 := n1_; have HB := n2_; have BK138 := n3_; have GW138 := n4_; have GE138 := n5_; have NB136_138 := n6_; have NB138_136 := n7_; have NB137_138 := n8_; have NB138_137 := n9_; clear n0_ n1_ n2_ n3_ n4_ n5_ n6_ n7_ n8_ n9_; clear hb hbox hg; have hnb10 := NB136_137.out; have hnc10 := NB137_136.out; have hnb11 := NB136_138.out; have hnc11 := NB138_136.out; have hcz12_0 : w9.cell? ⟨gb136, 0, none⟩ = some (.int .i64 a0_0) := (bC BK136.out 0).trans rfl; have hcz12_1 : w9.cell? ⟨gb136, 1, none⟩ = some (.int .i64 a0_1) := (bC BK136.out 1).trans rfl; have hcz12_2 : w9.cell? ⟨gb136, 2, none⟩ = some (.int .i64 a0_2) := (bC BK136.out 2).trans rfl; have hcz12_3 : w9.cell? ⟨gb136, 3, none⟩ = some (.bool a0_3) := (bC BK136.out 3).trans rfl; have hcz12_4 : w9.cell? ⟨gb136, 4, none⟩ = some (.slice A0_4 l0_4.length c0_4) := (bC BK136.out 4).trans rfl; have hfz12_0 := bZ BK136.out 0; have hfz12_1 := bZ BK136.out 1; have hfz12_2 := bZ BK136.out 2; have hfz12_3 := bZ BK136.out 3; have hfz12_4 := bZ BK136.out 4) | ((with_reducible refine gate_callee (f := 29) rfl ?_); refine goesL_ (some 11) rfl rfl Try.func29 (by kernel_rfl) rfl #[.agg #[.int .i64 a0_0, .int .i64 a0_1, .int .i64 a0_2, .bool a0_3, .slice A0_4 l0_4.length c0_4]] rfl (by (try simp only [List.map_toArray, List.map_cons, List.map_nil]); first | done | rfl | (simp only [List.length_drop, List.length_take]; rfl)) ?_; (with_reducible refine (plane_Valid.calls k a0_0 a0_1 a0_2 a0_3 _ _ l0_4 t139 _ ?side1 ?side2 A3.out).mono ?_); (case side1 => repeat (first | exact (Kd.C_below HR0_4.out HB.out) | (with_reducible refine Kd.C_alloc ?_ _) | (with_reducible refine Kd.C_drewN ?_ _) | (with_reducible refine Kd.C_drew ?_))); (case side2 => exact HC0_4.out); rintro e w13 ⟨rfl, hb⟩; refine ⟨_, rfl, ?_⟩; have n0_ := am (bB (g := gb136) (o := .cells #[.int .i64 a0_0, .int .i64 a0_1, .int .i64 a0_2, .bool a0_3, .slice A0_4 l0_4.length c0_4] 39 (0, 0)) (by (with_reducible repeat apply dX); exact BK136.out) hb); have n1_ := am (bB (g := gb137) (o := .cells #[.int .i64 a1_0, .int .i64 a1_1, .int .i64 a1_2, .int .i64 a1_3] 52 (0, 0)) (by (with_reducible repeat apply dX); exact BK137.out) hb); have n2_ := am (bB (g := gb138) (o := .cells #[.int .i64 0, .int .i64 0, .int .i64 0, .bool false, .slice none 0 0] 39 (0, 0)) (by (with_reducible repeat apply dX); exact BK138.out) hb); have n3_ := am (bT (by repeat (first | (with_reducible first | exact HB.out | apply bA | apply bN | apply bD | refine bS ?_ GE136.out | refine bS ?_ GE137.out | refine bS ?_ GE138.out) | exact HB.out)) hb); clear BK136; clear BK137; clear BK138; clear HB; have BK136 := n0_; have BK137 := n1_; have BK138 := n2_; have HB := n3_; clear n0_ n1_ n2_ n3_; (try clear hb); (try clear hb2); (try clear hk); (try clear hi); have hcz14_0 : w13.cell? ⟨gb136, 0, none⟩ = some (.int .i64 a0_0) := (bC BK136.out 0).trans rfl; have hcz14_1 : w13.cell? ⟨gb136, 1, none⟩ = some (.int .i64 a0_1) := (bC BK136.out 1).trans rfl; have hcz14_2 : w13.cell? ⟨gb136, 2, none⟩ = some (.int .i64 a0_2) := (bC BK136.out 2).trans rfl; have hcz14_3 : w13.cell? ⟨gb136, 3, none⟩ = some (.bool a0_3) := (bC BK136.out 3).trans rfl; have hcz14_4 : w13.cell? ⟨gb136, 4, none⟩ = some (.slice A0_4 l0_4.length c0_4) := (bC BK136.out 4).trans rfl; have hfz14_0 := bZ BK136.out 0; have hfz14_1 := bZ BK136.out 1; have hfz14_2 := bZ BK136.out 2; have hfz14_3 := bZ BK136.out 3; have hfz14_4 := bZ BK136.out 4; have hnb15 := NB137_138.out; have hnc15 := NB138_137.out; have hcz16_0 : w13.cell? ⟨gb137, 0, none⟩ = some (.int .i64 a1_0) := (bC BK137.out 0).trans rfl; have hcz16_1 : w13.cell? ⟨gb137, 1, none⟩ = some (.int .i64 a1_1) := (bC BK137.out 1).trans rfl; have hcz16_2 : w13.cell? ⟨gb137, 2, none⟩ = some (.int .i64 a1_2) := (bC BK137.out 2).trans rfl; have hcz16_3 : w13.cell? ⟨gb137, 3, none⟩ = some (.int .i64 a1_3) := (bC BK137.out 3).trans rfl; have hfz16_0 := bZ BK137.out 0; have hfz16_1 := bZ BK137.out 1; have hfz16_2 := bZ BK137.out 2; have hfz16_3 := bZ BK137.out 3) | ((with_reducible refine gate_callee (f := 68) rfl ?_); refine goesL_ (some 19) rfl rfl Try.func68 (by kernel_rfl) rfl #[.agg #[.int .i64 a0_0, .int .i64 a0_1, .int .i64 a0_2, .bool a0_3], .agg #[.int .i64 a1_0, .int .i64 a1_1, .int .i64 a1_2, .int .i64 a1_3]] rfl (by (try simp only [List.map_toArray, List.map_cons, List.map_nil]); first | done | rfl | (simp only [List.length_drop, List.length_take]; rfl)) ?_; (with_reducible refine (plane_whole.calls a0_0 a0_1 a0_2 a0_3 a1_0 a1_1 a1_2 a1_3 true _ A5.out).mono ?_); rintro e w17 ⟨rfl, hb⟩; refine ⟨_, rfl, ?_⟩; have n0_ := am (bB (g := gb136) (o := .cells #[.int .i64 a0_0, .int .i64 a0_1, .int .i64 a0_2, .bool a0_3, .slice A0_4 l0_4.length c0_4] 39 (0, 0)) (by (with_reducible repeat apply dX); exact BK136.out) hb); have n1_ := am (bB (g := gb137) (o := .cells #[.int .i64 a1_0, .int .i64 a1_1, .int .i64 a1_2, .int .i64 a1_3] 52 (0, 0)) (by (with_reducible repeat apply dX); exact BK137.out) hb); have n2_ := am (bB (g := gb138) (o := .cells #[.int .i64 0, .int .i64 0, .int .i64 0, .bool false, .slice none 0 0] 39 (0, 0)) (by (with_reducible repeat apply dX); exact BK138.out) hb); have n3_ := am (bT (by repeat (first | (with_reducible first | exact HB.out | apply bA | apply bN | apply bD | refine bS ?_ GE136.out | refine bS ?_ GE137.out | refine bS ?_ GE138.out) | exact HB.out)) hb); clear BK136; clear BK137; clear BK138; clear HB; have BK136 := n0_; have BK137 := n1_; have BK138 := n2_; have HB := n3_; clear n0_ n1_ n2_ n3_; (try clear hb); (try clear hb2); (try clear hk); (try clear hi); have hcz18_0 : w17.cell? ⟨gb137, 0, none⟩ = some (.int .i64 a1_0) := (bC BK137.out 0).trans rfl; have hcz18_1 : w17.cell? ⟨gb137, 1, none⟩ = some (.int .i64 a1_1) := (bC BK137.out 1).trans rfl; have hcz18_2 : w17.cell? ⟨gb137, 2, none⟩ = some (.int .i64 a1_2) := (bC BK137.out 2).trans rfl; have hcz18_3 : w17.cell? ⟨gb137, 3, none⟩ = some (.int .i64 a1_3) := (bC BK137.out 3).trans rfl; have hfz18_0 := bZ BK137.out 0; have hfz18_1 := bZ BK137.out 1; have hfz18_2 := bZ BK137.out 2; have hfz18_3 := bZ BK137.out 3; have hcz19_0 : w17.cell? ⟨gb136, 0, none⟩ = some (.int .i64 a0_0) := (bC BK136.out 0).trans rfl; have hcz19_1 : w17.cell? ⟨gb136, 1, none⟩ = some (.int .i64 a0_1) := (bC BK136.out 1).trans rfl; have hcz19_2 : w17.cell? ⟨gb136, 2, none⟩ = some (.int .i64 a0_2) := (bC BK136.out 2).trans rfl; have hcz19_3 : w17.cell? ⟨gb136, 3, none⟩ = some (.bool a0_3) := (bC BK136.out 3).trans rfl; have hcz19_4 : w17.cell? ⟨gb136, 4, none⟩ = some (.slice A0_4 l0_4.length c0_4) := (bC BK136.out 4).trans rfl; have hfz19_0 := bZ BK136.out 0; have hfz19_1 := bZ BK136.out 1; have hfz19_2 := bZ BK136.out 2; have hfz19_3 := bZ BK136.out 3; have hfz19_4 := bZ BK136.out 4) | ((with_reducible refine gD (N := 7) rfl ?_); refine bE ?hg (N := 7) ?hd (cs := #[.int .i64 0, .int .i64 0, .int .i64 0, .bool false, .slice none 0 0]) (t := 39) ?hr ?_; (case hd => rfl); (case hg => rfl); (case hr => first | (go_simp; done) | (go_simp; rfl)); intro gb141 hg w20 hbox hb; have n0_ := am (bB (g := gb136) (o := .cells #[.int .i64 a0_0, .int .i64 a0_1, .int .i64 a0_2, .bool a0_3, .slice A0_4 l0_4.length c0_4] 39 (0, 0)) (by (with_reducible repeat apply dX); exact BK136.out) hb); have n1_ := am (bB (g := gb137) (o := .cells #[.int .i64 a1_0, .int .i64 a1_1, .int .i64 a1_2, .int .i64 a1_3] 52 (0, 0)) (by (with_reducible repeat apply dX); exact BK137.out) hb); have n2_ := am (bB (g := gb138) (o := .cells #[.int .i64 0, .int .i64 0, .int .i64 0, .bool false, .slice none 0 0] 39 (0, 0)) (by (with_reducible repeat apply dX); exact BK138.out) hb); have n3_ := am (bT (by repeat (first | (with_reducible first | exact HB.out | apply bA | apply bN | apply bD | refine bS ?_ GE136.out | refine bS ?_ GE137.out | refine bS ?_ GE138.out) | exact HB.out)) hb); have n4_ := am (hbox); have n5_ := am ((by rw [hg]; exact (bU (by repeat (first | (with_reducible first | exact HB.out | apply bA | apply bN | apply bD | refine bS ?_ GE136.out | refine bS ?_ GE137.out | refine bS ?_ GE138.out) | exact HB.out))) : w.heap.size ≤ gb141)); have n6_ := am ((by rw [hg]; exact (bU (by repeat (first | (with_reducible first | exact HB.out | apply bA | apply bN | apply bD | refine bS ?_ GE136.out | refine bS ?_ GE137.out | refine bS ?_ GE138.out) | exact HB.out))) : w.heap.size ≤ gb141)); have n7_ := am ((by rw [hg]; exact nL (bL (g := gb136) (o := .cells #[.int .i64 a0_0, .int .i64 a0_1, .int .i64 a0_2, .bool a0_3, .slice A0_4 l0_4.length c0_4] 39 (0, 0)) (by (with_reducible repeat apply dX); exact BK136.out)) : gb136 ≠ gb141)); have n8_ := am ((by rw [hg]; exact nG (bL (g := gb136) (o := .cells #[.int .i64 a0_0, .int .i64 a0_1, .int .i64 a0_2, .bool a0_3, .slice A0_4 l0_4.length c0_4] 39 (0, 0)) (by (with_reducible repeat apply dX); exact BK136.out)) : gb141 ≠ gb136)); have n9_ := am ((by rw [hg]; exact nL (bL (g := gb137) (o := .cells #[.int .i64 a1_0, .int .i64 a1_1, .int .i64 a1_2, .int .i64 a1_3] 52 (0, 0)) (by (with_reducible repeat apply dX); exact BK137.out)) : gb137 ≠ gb141)); have n10_ := am ((by rw [hg]; exact nG (bL (g := gb137) (o := .cells #[.int .i64 a1_0, .int .i64 a1_1, .int .i64 a1_2, .int .i64 a1_3] 52 (0, 0)) (by (with_reducible repeat apply dX); exact BK137.out)) : gb141 ≠ gb137)); have n11_ := am ((by rw [hg]; exact nL (bL (g := gb138) (o := .cells #[.int .i64 0, .int .i64 0, .int .i64 0, .bool false, .slice none 0 0] 39 (0, 0)) (by (with_reducible repeat apply dX); exact BK138.out)) : gb138 ≠ gb141)); have n12_ := am ((by rw [hg]; exact nG (bL (g := gb138) (o := .cells #[.int .i64 0, .int .i64 0, .int .i64 0, .bool false, .slice none 0 0] 39 (0, 0)) (by (with_reducible repeat apply dX); exact BK138.out)) : gb141 ≠ gb138)); clear BK136; clear BK137; clear BK138; clear HB; have BK136 := n0_; have BK137 := n1_; have BK138 := n2_; have HB := n3_; have BK141 := n4_; have GW141 := n5_; have GE141 := n6_; have NB136_141 := n7_; have NB141_136 := n8_; have NB137_141 := n9_; have NB141_137 := n10_; have NB138_141 := n11_; have NB141_138 := n12_; clear n0_ n1_ n2_ n3_ n4_ n5_ n6_ n7_ n8_ n9_ n10_ n11_ n12_; clear hb hbox hg; have hnb21 := NB141_136.out; have hnc21 := NB136_141.out; have hnb22 := NB141_137.out; have hnc22 := NB137_141.out; have hnb23 := NB141_138.out; have hnc23 := NB138_141.out; have hcz24_0 : w20.cell? ⟨gb141, 0, none⟩ = some (.int .i64 0) := (bC BK141.out 0).trans rfl; have hcz24_1 : w20.cell? ⟨gb141, 1, none⟩ = some (.int .i64 0) := (bC BK141.out 1).trans rfl; have hcz24_2 : w20.cell? ⟨gb141, 2, none⟩ = some (.int .i64 0) := (bC BK141.out 2).trans rfl; have hcz24_3 : w20.cell? ⟨gb141, 3, none⟩ = some (.bool false) := (bC BK141.out 3).trans rfl; have hcz24_4 : w20.cell? ⟨gb141, 4, none⟩ = some (.slice none 0 0) := (bC BK141.out 4).trans rfl; have hfz24_0 := bZ BK141.out 0; have hfz24_1 := bZ BK141.out 1; have hfz24_2 := bZ BK141.out 2; have hfz24_3 := bZ BK141.out 3; have hfz24_4 := bZ BK141.out 4; have hcz25_0 : w20.cell? ⟨gb136, 0, none⟩ = some (.int .i64 a0_0) := (bC BK136.out 0).trans rfl; have hcz25_1 : w20.cell? ⟨gb136, 1, none⟩ = some (.int .i64 a0_1) := (bC BK136.out 1).trans rfl; have hcz25_2 : w20.cell? ⟨gb136, 2, none⟩ = some (.int .i64 a0_2) := (bC BK136.out 2).trans rfl; have hcz25_3 : w20.cell? ⟨gb136, 3, none⟩ = some (.bool a0_3) := (bC BK136.out 3).trans rfl; have hcz25_4 : w20.cell? ⟨gb136, 4, none⟩ = some (.slice A0_4 l0_4.length c0_4) := (bC BK136.out 4).trans rfl; have hfz25_0 := bZ BK136.out 0; have hfz25_1 := bZ BK136.out 1; have hfz25_2 := bZ BK136.out 2; have hfz25_3 := bZ BK136.out 3; have hfz25_4 := bZ BK136.out 4))
      go_loopg [37] k (fun kq v37 w' => ∃ (x37_1 : Int) (x142004_1 : List (List Int)) (u142004 : Value), v37 = .int .i64 x37_1 ∧ Aside0 (plane_Cut.l0 kq l0_4 (l0_4.length : Int) x37_1 a0_0 a0_1 a0_2 a0_3 l0_4 a1_0 a1_1 a1_2 a1_3 a1_2 a1_3 a0_2 a0_3 x142004_1 = some (r1, r2, r3, r4, r5, r6)) ∧ Aside0 (kq ≤ k) ∧ Aside0 (Kd.S (Kd.slice 72 (Kd.int .u16)) 53 w' w.heap.size (fun _ => True) u142004 x142004_1) ∧ Aside0 (w'.heap[gb136]? = some (.cells #[.int .i64 a0_0, .int .i64 a0_1, .int .i64 a0_2, .bool a0_3, (.slice A0_4 l0_4.length c0_4)] 39 (0, 0))) ∧ Aside0 (w'.heap[gb137]? = some (.cells #[.int .i64 a1_0, .int .i64 a1_1, .int .i64 a1_2, .int .i64 a1_3] 52 (0, 0))) ∧ Aside0 (w'.heap[gb138]? = some (.cells #[.int .i64 0, .int .i64 0, .int .i64 0, .bool false, (.slice none 0 0)] 39 (0, 0))) ∧ Aside0 (w'.heap[gb141]? = some (.cells #[.int .i64 a1_2, .int .i64 a1_3, .int .i64 a0_2, .bool a0_3, u142004] 39 (0, 0))) ∧ Aside0 (Below w.heap.size w w'))
      case atStart => exact ⟨(0), (([] : List (List Int))), (.slice none 0 0), (by first | rfl | (simp; done) | (simp [*]; done)), H', ⟨Nat.le_refl _⟩, ⟨by first | exact Kd.S_nil _ _ _ _ _ | exact Kd.N_nil _ _ _ _ _ | exact Kd.V_nil _ _ _ _ _ | exact Kd.Q_nil _ _ _ _ _ | exact Kd.R_nil _ _ _ _ _⟩, ⟨by (with_reducible repeat apply dX); refine bF ?_ NB136_141.out _; (with_reducible repeat apply dX); refine bF ?_ NB136_141.out _; (with_reducible repeat apply dX); refine bF ?_ NB136_141.out _; (with_reducible repeat apply dX); refine bF ?_ NB136_141.out _; (with_reducible repeat apply dX); refine bF ?_ NB136_141.out _; (with_reducible repeat apply dX); exact BK136.out⟩, ⟨by (with_reducible repeat apply dX); refine bF ?_ NB137_141.out _; (with_reducible repeat apply dX); refine bF ?_ NB137_141.out _; (with_reducible repeat apply dX); refine bF ?_ NB137_141.out _; (with_reducible repeat apply dX); refine bF ?_ NB137_141.out _; (with_reducible repeat apply dX); refine bF ?_ NB137_141.out _; (with_reducible repeat apply dX); exact BK137.out⟩, ⟨by (with_reducible repeat apply dX); refine bF ?_ NB138_141.out _; (with_reducible repeat apply dX); refine bF ?_ NB138_141.out _; (with_reducible repeat apply dX); refine bF ?_ NB138_141.out _; (with_reducible repeat apply dX); refine bF ?_ NB138_141.out _; (with_reducible repeat apply dX); refine bF ?_ NB138_141.out _; (with_reducible repeat apply dX); exact BK138.out⟩, ⟨by (with_reducible repeat apply dX); refine bP (cs := #[.int .i64 a1_2, .int .i64 a1_3, .int .i64 a0_2, .bool a0_3, .slice none 0 0]) ?_ 4 _ rfl; (with_reducible repeat apply dX); refine bP (cs := #[.int .i64 a1_2, .int .i64 a1_3, .int .i64 a0_2, .bool false, .slice none 0 0]) ?_ 3 _ rfl; (with_reducible repeat apply dX); refine bP (cs := #[.int .i64 a1_2, .int .i64 a1_3, .int .i64 0, .bool false, .slice none 0 0]) ?_ 2 _ rfl; (with_reducible repeat apply dX); refine bP (cs := #[.int .i64 a1_2, .int .i64 0, .int .i64 0, .bool false, .slice none 0 0]) ?_ 1 _ rfl; (with_reducible repeat apply dX); refine bP (cs := #[.int .i64 0, .int .i64 0, .int .i64 0, .bool false, .slice none 0 0]) ?_ 0 _ rfl; (with_reducible repeat apply dX); exact BK141.out⟩, ⟨by repeat (first | (with_reducible first | exact HB.out | apply bA | apply bN | apply bD | refine bS ?_ GE136.out | refine bS ?_ GE137.out | refine bS ?_ GE138.out | refine bS ?_ GE141.out) | exact HB.out)⟩⟩
      case round =>
        clear H'
        try clear c1
        try clear c2
        try clear p2
        try clear c4
        try clear c4b0
        try clear c4b1
        try clear c6
        try clear c10
        try clear c11
        try clear c15
        try clear c21
        try clear c22
        try clear c23
        try clear hcz12_0
        try clear hcz12_1
        try clear hcz12_2
        try clear hcz12_3
        try clear hcz12_4
        try clear hcz14_0
        try clear hcz14_1
        try clear hcz14_2
        try clear hcz14_3
        try clear hcz14_4
        try clear hcz16_0
        try clear hcz16_1
        try clear hcz16_2
        try clear hcz16_3
        try clear hcz18_0
        try clear hcz18_1
        try clear hcz18_2
        try clear hcz18_3
        try clear hcz19_0
        try clear hcz19_1
        try clear hcz19_2
        try clear hcz19_3
        try clear hcz19_4
        try clear hcz24_0
        try clear hcz24_1
        try clear hcz24_2
        try clear hcz24_3
        try clear hcz24_4
        try clear hcz25_0
        try clear hcz25_1
        try clear hcz25_2
        try clear hcz25_3
        try clear hcz25_4
        try clear hfz12_0
        try clear hfz12_1
        try clear hfz12_2
        try clear hfz12_3
        try clear hfz12_4
        try clear hfz14_0
        try clear hfz14_1
        try clear hfz14_2
        try clear hfz14_3
        try clear hfz14_4
        try clear hfz16_0
        try clear hfz16_1
        try clear hfz16_2
        try clear hfz16_3
        try clear hfz18_0
        try clear hfz18_1
        try clear hfz18_2
        try clear hfz18_3
        try clear hfz19_0
        try clear hfz19_1
        try clear hfz19_2
        try clear hfz19_3
        try clear hfz19_4
        try clear hfz24_0
        try clear hfz24_1
        try clear hfz24_2
        try clear hfz24_3
        try clear hfz24_4
        try clear hfz25_0
        try clear hfz25_1
        try clear hfz25_2
        try clear hfz25_3
        try clear hfz25_4
        obtain ⟨x37_1, x142004_1, u142004, rfl, HA, HK1, HO_142004, BK136, BK137, BK138, BK141, HB⟩ := hrel
        cases gk with
        | zero => exact absurd HA.out (by simp [plane_Cut.l0])
        | succ k1 =>
          have H := HA.out
          clear HA
          simp only [plane_Cut.l0] at H
          by_cases c26 : x37_1 < (l0_4.length : Int)
          · rw [if_pos c26] at H
            have c26b0 : decide (x37_1 < (l0_4.length : Int)) = true := decide_eq_true c26
            clear c26
            by_cases c27 : 0 ≤ x37_1
            · rw [if_pos c27] at H
              have c27b0 : decide (0 ≤ x37_1) = true := decide_eq_true c27
              clear c27
              by_cases c28 : x37_1 < (l0_4.length : Int)
              · rw [if_pos c28] at H
                have c28b0 : decide (x37_1 < (l0_4.length : Int)) = true := decide_eq_true c28
                clear c28
                replace H := Option.bind_eq_some_iff.mp H
                obtain ⟨t143, A290, H⟩ := H
                replace H : ((plane_part.f x37_1 a1_0 a1_1 a1_2 a1_3).bind fun bt144 => ((plane_taken.f k1 (rd_L1 l0_4 x37_1) t143 bt144.1 bt144.2.1 bt144.2.2.1 bt144.2.2.2).bind fun t148 => (if x142004_1.length < 5864062014805 then (plane_Cut.l0 k1 l0_4 (l0_4.length : Int) (wrap64 (x37_1 + 1)) a0_0 a0_1 a0_2 a0_3 l0_4 a1_0 a1_1 a1_2 a1_3 a1_2 a1_3 a0_2 a0_3 (x142004_1 ++ [t148])) else (none)))) = some (r1, r2, r3, r4, r5, r6) := H
                have A29 := am A290
                clear A290
                replace H := Option.bind_eq_some_iff.mp H
                obtain ⟨⟨t144, t145, t146, t147⟩, A300, H⟩ := H
                replace H : ((plane_taken.f k1 (rd_L1 l0_4 x37_1) t143 t144 t145 t146 t147).bind fun t148 => (if x142004_1.length < 5864062014805 then (plane_Cut.l0 k1 l0_4 (l0_4.length : Int) (wrap64 (x37_1 + 1)) a0_0 a0_1 a0_2 a0_3 l0_4 a1_0 a1_1 a1_2 a1_3 a1_2 a1_3 a0_2 a0_3 (x142004_1 ++ [t148])) else (none))) = some (r1, r2, r3, r4, r5, r6) := H
                have A30 := am A300
                clear A300
                replace H := Option.bind_eq_some_iff.mp H
                obtain ⟨t148, A310, H⟩ := H
                replace H : (if x142004_1.length < 5864062014805 then (plane_Cut.l0 k1 l0_4 (l0_4.length : Int) (wrap64 (x37_1 + 1)) a0_0 a0_1 a0_2 a0_3 l0_4 a1_0 a1_1 a1_2 a1_3 a1_2 a1_3 a0_2 a0_3 (x142004_1 ++ [t148])) else (none)) = some (r1, r2, r3, r4, r5, r6) := H
                have A31 := am A310
                clear A310
                by_cases c32 : x142004_1.length < 5864062014805
                · rw [if_pos c32] at H
                  have LMc32 := am c32
                  clear c32
                  obtain ⟨y151, hy151⟩ : ∃ y_ : List (List Int), y_ = (x142004_1 ++ [t148]) := ⟨_, rfl⟩
                  replace H : (plane_Cut.l0 k1 l0_4 (l0_4.length : Int) (wrap64 (x37_1 + 1)) a0_0 a0_1 a0_2 a0_3 l0_4 a1_0 a1_1 a1_2 a1_3 a1_2 a1_3 a0_2 a0_3 y151) = some (r1, r2, r3, r4, r5, r6) := by first | (rw [hy151]; with_reducible exact H) | (have H2_ := (Option.bind_some _ _).symm.trans H; rw [hy151]; with_reducible exact H2_) | (have H2_ := (Option.bind_some _ _).symm.trans H; with_reducible exact H2_) | with_reducible exact H | (rw [hy151]; exact H) | exact H
                  have Ny151 := am hy151
                  clear hy151
                  have H' := am H
                  clear H
                  have p142 : 0 ≤ (x37_1 : Int) := of_decide_eq_true (by first | (with_reducible assumption) | assumption)
                  have q142 : x37_1 < (l0_4.length : Int) := of_decide_eq_true (by first | (with_reducible assumption) | assumption)
                  obtain ⟨ad142, A142_0, c142_0, e142, hx142_0, hl142_0, hi142_0⟩ := at_L1 HR0_4.out x37_1 p142 q142
                  cases e142
                  replace hx142_0 := (HB.out.cell (World.block_lt_of_cell? w _ hx142_0)).trans hx142_0
                  have HR142_0 := am hi142_0
                  have HC142_0 := am hl142_0
                  clear hi142_0 hl142_0
                  replace p142 := eq_true p142
                  replace q142 := eq_true q142
                  try go_wp2
                  have n0_ := am (kD HO_142004.out)
                  have n1_ := am (blk_drew BK136.out)
                  have n2_ := am (blk_drew BK137.out)
                  have n3_ := am (blk_drew BK138.out)
                  have n4_ := am (blk_drew BK141.out)
                  have n5_ := am (bD HB.out)
                  clear HO_142004
                  clear BK136
                  clear BK137
                  clear BK138
                  clear BK141
                  clear HB
                  have HO_142004 := n0_
                  have BK136 := n1_
                  have BK137 := n2_
                  have BK138 := n3_
                  have BK141 := n4_
                  have HB := n5_
                  clear n0_ n1_ n2_ n3_ n4_ n5_
                  refine start_ (n := 15) (S := fun w' => w'.cell? ⟨gb141, 0, none⟩ = some (.int .i64 a1_2) ∧ w'.cell? ⟨gb141, 1, none⟩ = some (.int .i64 a1_3) ∧ w'.cell? ⟨gb141, 2, none⟩ = some (.int .i64 a0_2) ∧ w'.cell? ⟨gb141, 3, none⟩ = some (.bool a0_3) ∧ w'.cell? ⟨gb141, 4, none⟩ = some (u142004) ∧ w'.cell? ⟨gb136, 0, none⟩ = some (.int .i64 a0_0) ∧ w'.cell? ⟨gb136, 1, none⟩ = some (.int .i64 a0_1) ∧ w'.cell? ⟨gb136, 2, none⟩ = some (.int .i64 a0_2) ∧ w'.cell? ⟨gb136, 3, none⟩ = some (.bool a0_3) ∧ w'.cell? ⟨gb136, 4, none⟩ = some (.slice (some ad142) l0_4.length c0_4) ∧ w'.cell? ⟨gb137, 0, none⟩ = some (.int .i64 a1_0) ∧ w'.cell? ⟨gb137, 1, none⟩ = some (.int .i64 a1_1) ∧ w'.cell? ⟨gb137, 2, none⟩ = some (.int .i64 a1_2) ∧ w'.cell? ⟨gb137, 3, none⟩ = some (.int .i64 a1_3)) (ds := [14]) #[false, false, false, false, false, false, false, false, false, false, false, false, false, false, false] (by kernel_rfl) rfl rfl ⟨(bC BK141.out 0).trans rfl, (bC BK141.out 1).trans rfl, (bC BK141.out 2).trans rfl, (bC BK141.out 3).trans rfl, (bC BK141.out 4).trans rfl, (bC BK136.out 0).trans rfl, (bC BK136.out 1).trans rfl, (bC BK136.out 2).trans rfl, (bC BK136.out 3).trans rfl, (bC BK136.out 4).trans rfl, (bC BK137.out 0).trans rfl, (bC BK137.out 1).trans rfl, (bC BK137.out 2).trans rfl, (bC BK137.out 3).trans rfl⟩ (fun hHeld => ?_); refine with_tabW plane_Cut.tab10 plane_Cut.bits10 (fun HT_ HW_ => ?_)
                  generalize wr.drew = w33 at HO_142004 BK136 BK137 BK138 BK141 HB hHeld ⊢
                  refine pure_ (i := 0) (N := some 42) (v := ?_) (a' := ?_) #[true, false, false, false, false, false, false, false, false, false, false, false, false, false, false] rfl rfl (any_of HT_.out (by kernel_rfl)) (fun _ _ _ h => h) (Or.inl ⟨by rfl, ?_⟩) ?_ ?_
                  rotate_left
                  · intro w'
                    go_simp
                    with_reducible rfl
                  rotate_left
                  · simp only [Act.put, List.setIfInBounds_toArray, List.set_cons_zero, List.set_cons_succ, i64_w, i32_w]
                    rfl
                  refine pure_ (i := 2) (N := some 44) (v := ?_) (a' := ?_) #[true, false, true, false, false, false, false, false, false, false, false, false, false, false, false] rfl rfl (any_of HT_.out (by kernel_rfl)) (fun _ _ _ h => h) (Or.inl ⟨by rfl, ?_⟩) ?_ ?_
                  rotate_left
                  · intro w'
                    go_simp
                    with_reducible rfl
                  rotate_left
                  · simp only [Act.put, List.setIfInBounds_toArray, List.set_cons_zero, List.set_cons_succ, i64_w, i32_w]
                    rfl
                  refine pure_ (i := 3) (N := some 45) (v := ?_) (a' := ?_) #[true, false, true, true, false, false, false, false, false, false, false, false, false, false, false] rfl rfl (any_of HT_.out (by kernel_rfl)) (fun _ _ _ h => h) (Or.inl ⟨by rfl, ?_⟩) ?_ ?_
                  rotate_left
                  · intro w'
                    go_simp
                    with_reducible rfl
                  rotate_left
                  · simp only [Act.put, List.setIfInBounds_toArray, List.set_cons_zero, List.set_cons_succ, i64_w, i32_w]
                    rfl
                  refine pure_ (i := 5) (N := some 47) (v := ?_) (a' := ?_) #[true, false, true, true, false, true, false, false, false, false, false, false, false, false, false] rfl rfl (any_of HT_.out (by kernel_rfl)) (fun _ _ _ h => h) (Or.inl ⟨by rfl, ?_⟩) ?_ ?_
                  rotate_left
                  · intro w'
                    go_simp
                    with_reducible rfl
                  rotate_left
                  · simp only [Act.put, List.setIfInBounds_toArray, List.set_cons_zero, List.set_cons_succ, i64_w, i32_w]
                    rfl
                  refine pure_ (i := 7) (N := some 49) (v := ?_) (a' := ?_) #[true, false, true, true, false, true, false, true, false, false, false, false, false, false, false] rfl rfl (any_of HT_.out (by kernel_rfl)) (fun _ _ _ h => h) (Or.inl ⟨by rfl, ?_⟩) ?_ ?_
                  rotate_left
                  · intro w'
                    go_simp
                    with_reducible rfl
                  rotate_left
                  · simp only [Act.put, List.setIfInBounds_toArray, List.set_cons_zero, List.set_cons_succ, i64_w, i32_w]
                    rfl
                  refine take_ (i := 1) (N := some 43) (v := ?_) (a' := ?_) #[true, true, true, true, false, true, false, true, false, false, false, false, false, false, false] rfl rfl (take_ofW HT_.out HW_.out (by kernel_rfl)) (fun _ _ _ h => h) (Or.inl ⟨by rfl, ?_⟩) hHeld ?_ ?_
                  rotate_left
                  · rintro w' ⟨s0, s1, s2, s3, s4, s5, s6, s7, s8, s9, s10, s11, s12, s13⟩
                    go_simp
                    with_reducible rfl
                  rotate_left
                  · simp only [Act.put, List.setIfInBounds_toArray, List.set_cons_zero, List.set_cons_succ, i64_w, i32_w]
                    rfl
                  refine take_ (i := 4) (N := some 46) (v := ?_) (a' := ?_) #[true, true, true, true, true, true, false, true, false, false, false, false, false, false, false] rfl rfl (take_ofW HT_.out HW_.out (by kernel_rfl)) (fun _ _ _ h => h) (Or.inl ⟨by rfl, ?_⟩) hHeld ?_ ?_
                  rotate_left
                  · rintro w' ⟨s0, s1, s2, s3, s4, s5, s6, s7, s8, s9, s10, s11, s12, s13⟩
                    go_simp
                    with_reducible rfl
                  rotate_left
                  · simp only [Act.put, List.setIfInBounds_toArray, List.set_cons_zero, List.set_cons_succ, i64_w, i32_w]
                    rfl
                  refine take_ (i := 8) (N := some 50) (v := ?_) (a' := ?_) #[true, true, true, true, true, true, false, true, true, false, false, false, false, false, false] rfl rfl (take_ofW HT_.out HW_.out (by kernel_rfl)) (fun _ _ _ h => h) (Or.inl ⟨by rfl, ?_⟩) hHeld ?_ ?_
                  rotate_left
                  · rintro w' ⟨s0, s1, s2, s3, s4, s5, s6, s7, s8, s9, s10, s11, s12, s13⟩
                    go_simp
                    with_reducible rfl
                  rotate_left
                  · simp only [Act.put, List.setIfInBounds_toArray, List.set_cons_zero, List.set_cons_succ, i64_w, i32_w]
                    rfl
                  refine one_ (i := 6) (N := some 48) #[true, true, true, true, true, true, true, true, true, false, false, false, false, false, false] rfl rfl (one_of HT_.out (by kernel_rfl)) (by decide) (fun K hK => ?_)
                  refine goes_ Try.func55 (by kernel_rfl) rfl #[.agg #[.int .i64 a0_0, .int .i64 a0_1, .int .i64 a0_2, .bool a0_3], .int .i64 x37_1] (by rfl) rfl rfl (by (try simp only [List.map_toArray, List.map_cons, List.map_nil]); first | done | rfl | (simp only [List.length_drop, List.length_take]; rfl)) ?_
                  with_reducible refine (plane_width.calls a0_0 a0_1 a0_2 a0_3 x37_1 t143 _ A29.out).mono ?_
                  rintro e w34 ⟨rfl, hb⟩
                  refine ⟨_, rfl, ?_⟩
                  have n0_ := am (Kd.S_below (by (with_reducible repeat (first | apply kA | apply kN | apply kD)); exact HO_142004.out) hb)
                  have n1_ := am (bB (g := gb136) (o := .cells #[.int .i64 a0_0, .int .i64 a0_1, .int .i64 a0_2, .bool a0_3, .slice (some ad142) l0_4.length c0_4] 39 (0, 0)) (by (with_reducible repeat apply dX); exact BK136.out) hb)
                  have n2_ := am (bB (g := gb137) (o := .cells #[.int .i64 a1_0, .int .i64 a1_1, .int .i64 a1_2, .int .i64 a1_3] 52 (0, 0)) (by (with_reducible repeat apply dX); exact BK137.out) hb)
                  have n3_ := am (bB (g := gb138) (o := .cells #[.int .i64 0, .int .i64 0, .int .i64 0, .bool false, .slice none 0 0] 39 (0, 0)) (by (with_reducible repeat apply dX); exact BK138.out) hb)
                  have n4_ := am (bB (g := gb141) (o := .cells #[.int .i64 a1_2, .int .i64 a1_3, .int .i64 a0_2, .bool a0_3, u142004] 39 (0, 0)) (by (with_reducible repeat apply dX); exact BK141.out) hb)
                  have n5_ := am (bT (by repeat (first | (with_reducible first | exact HB.out | apply bA | apply bN | apply bD | refine bS ?_ GE136.out | refine bS ?_ GE137.out | refine bS ?_ GE138.out | refine bS ?_ GE141.out) | exact HB.out)) hb)
                  clear HO_142004
                  clear BK136
                  clear BK137
                  clear BK138
                  clear BK141
                  clear HB
                  have HO_142004 := n0_
                  have BK136 := n1_
                  have BK137 := n2_
                  have BK138 := n3_
                  have BK141 := n4_
                  have HB := n5_
                  clear n0_ n1_ n2_ n3_ n4_ n5_
                  (try clear hb)
                  (try clear hb2)
                  (try clear hk)
                  (try clear hi)
                  refine hK.out _ _ ⟨(bC BK141.out 0).trans rfl, (bC BK141.out 1).trans rfl, (bC BK141.out 2).trans rfl, (bC BK141.out 3).trans rfl, (bC BK141.out 4).trans rfl, (bC BK136.out 0).trans rfl, (bC BK136.out 1).trans rfl, (bC BK136.out 2).trans rfl, (bC BK136.out 3).trans rfl, (bC BK136.out 4).trans rfl, (bC BK137.out 0).trans rfl, (bC BK137.out 1).trans rfl, (bC BK137.out 2).trans rfl, (bC BK137.out 3).trans rfl⟩ (fun hHeld => ?_)
                  clear hK K
                  refine norm_ (a' := ?_) ?_ ?_
                  rotate_left
                  · show Act.put _ (some 48) _ = _
                    simp only [Act.put, List.setIfInBounds_toArray, List.set_cons_zero, List.set_cons_succ, i64_w, i32_w]
                    rfl
                  refine one_ (i := 9) (N := some 51) #[true, true, true, true, true, true, true, true, true, true, false, false, false, false, false] rfl rfl (one_of HT_.out (by kernel_rfl)) (by decide) (fun K hK => ?_)
                  refine goes_ Try.func69 (by kernel_rfl) rfl #[.int .i64 x37_1, .agg #[.int .i64 a1_0, .int .i64 a1_1, .int .i64 a1_2, .int .i64 a1_3]] (by rfl) rfl rfl (by (try simp only [List.map_toArray, List.map_cons, List.map_nil]); first | done | rfl | (simp only [List.length_drop, List.length_take]; rfl)) ?_
                  with_reducible refine (plane_part.calls x37_1 a1_0 a1_1 a1_2 a1_3 t144 t145 t146 t147 _ A30.out).mono ?_
                  rintro e w35 ⟨rfl, hb⟩
                  refine ⟨_, rfl, ?_⟩
                  have n0_ := am (Kd.S_below (by (with_reducible repeat (first | apply kA | apply kN | apply kD)); exact HO_142004.out) hb)
                  have n1_ := am (bB (g := gb136) (o := .cells #[.int .i64 a0_0, .int .i64 a0_1, .int .i64 a0_2, .bool a0_3, .slice (some ad142) l0_4.length c0_4] 39 (0, 0)) (by (with_reducible repeat apply dX); exact BK136.out) hb)
                  have n2_ := am (bB (g := gb137) (o := .cells #[.int .i64 a1_0, .int .i64 a1_1, .int .i64 a1_2, .int .i64 a1_3] 52 (0, 0)) (by (with_reducible repeat apply dX); exact BK137.out) hb)
                  have n3_ := am (bB (g := gb138) (o := .cells #[.int .i64 0, .int .i64 0, .int .i64 0, .bool false, .slice none 0 0] 39 (0, 0)) (by (with_reducible repeat apply dX); exact BK138.out) hb)
                  have n4_ := am (bB (g := gb141) (o := .cells #[.int .i64 a1_2, .int .i64 a1_3, .int .i64 a0_2, .bool a0_3, u142004] 39 (0, 0)) (by (with_reducible repeat apply dX); exact BK141.out) hb)
                  have n5_ := am (bT (by repeat (first | (with_reducible first | exact HB.out | apply bA | apply bN | apply bD | refine bS ?_ GE136.out | refine bS ?_ GE137.out | refine bS ?_ GE138.out | refine bS ?_ GE141.out) | exact HB.out)) hb)
                  clear HO_142004
                  clear BK136
                  clear BK137
                  clear BK138
                  clear BK141
                  clear HB
                  have HO_142004 := n0_
                  have BK136 := n1_
                  have BK137 := n2_
                  have BK138 := n3_
                  have BK141 := n4_
                  have HB := n5_
                  clear n0_ n1_ n2_ n3_ n4_ n5_
                  (try clear hb)
                  (try clear hb2)
                  (try clear hk)
                  (try clear hi)
                  refine hK.out _ _ ⟨(bC BK141.out 0).trans rfl, (bC BK141.out 1).trans rfl, (bC BK141.out 2).trans rfl, (bC BK141.out 3).trans rfl, (bC BK141.out 4).trans rfl, (bC BK136.out 0).trans rfl, (bC BK136.out 1).trans rfl, (bC BK136.out 2).trans rfl, (bC BK136.out 3).trans rfl, (bC BK136.out 4).trans rfl, (bC BK137.out 0).trans rfl, (bC BK137.out 1).trans rfl, (bC BK137.out 2).trans rfl, (bC BK137.out 3).trans rfl⟩ (fun hHeld => ?_)
                  clear hK K
                  refine norm_ (a' := ?_) ?_ ?_
                  rotate_left
                  · show Act.put _ (some 51) _ = _
                    simp only [Act.put, List.setIfInBounds_toArray, List.set_cons_zero, List.set_cons_succ, i64_w, i32_w]
                    rfl
                  refine one_ (i := 10) (N := some 52) #[true, true, true, true, true, true, true, true, true, true, true, false, false, false, false] rfl rfl (one_of HT_.out (by kernel_rfl)) (by decide) (fun K hK => ?_)
                  refine goes_ Try.func66 (by kernel_rfl) rfl #[.slice A142_0 (rd_L1 l0_4 x37_1).length c142_0, .int .i64 t143, .agg #[.int .i64 t144, .int .i64 t145, .int .i64 t146, .int .i64 t147]] (by rfl) rfl rfl (by (try simp only [List.map_toArray, List.map_cons, List.map_nil]); first | done | rfl | (simp only [List.length_drop, List.length_take]; rfl)) ?_
                  with_reducible refine (plane_taken.calls k1 _ _ (rd_L1 l0_4 x37_1) t143 t144 t145 t146 t147 t148 _ ?side1 ?side2 A31.out).mono ?_
                  (case side1 => repeat (first | exact (Kd.C_below HR142_0.out HB.out) | (with_reducible refine Kd.C_alloc ?_ _) | (with_reducible refine Kd.C_drewN ?_ _) | (with_reducible refine Kd.C_drew ?_)))
                  (case side2 => exact HC142_0.out)
                  rintro e w36 ⟨v149, rfl, ho0, hb⟩
                  refine ⟨_, rfl, ?_⟩
                  have n0_ := am (Kd.S_elder' (by (with_reducible repeat (first | apply kA | apply kN | apply kD)); exact HO_142004.out) (Kd.R_base ho0) hb)
                  have n1_ := am (Kd.R_lower ho0 (bU (by repeat (first | (with_reducible first | exact HB.out | apply bA | apply bN | apply bD | refine bS ?_ GE136.out | refine bS ?_ GE137.out | refine bS ?_ GE138.out | refine bS ?_ GE141.out) | exact HB.out))))
                  have n2_ := am (bB (g := gb136) (o := .cells #[.int .i64 a0_0, .int .i64 a0_1, .int .i64 a0_2, .bool a0_3, .slice (some ad142) l0_4.length c0_4] 39 (0, 0)) (by (with_reducible repeat apply dX); exact BK136.out) hb)
                  have n3_ := am (bB (g := gb137) (o := .cells #[.int .i64 a1_0, .int .i64 a1_1, .int .i64 a1_2, .int .i64 a1_3] 52 (0, 0)) (by (with_reducible repeat apply dX); exact BK137.out) hb)
                  have n4_ := am (bB (g := gb138) (o := .cells #[.int .i64 0, .int .i64 0, .int .i64 0, .bool false, .slice none 0 0] 39 (0, 0)) (by (with_reducible repeat apply dX); exact BK138.out) hb)
                  have n5_ := am (bB (g := gb141) (o := .cells #[.int .i64 a1_2, .int .i64 a1_3, .int .i64 a0_2, .bool a0_3, u142004] 39 (0, 0)) (by (with_reducible repeat apply dX); exact BK141.out) hb)
                  have n6_ := am (bT (by repeat (first | (with_reducible first | exact HB.out | apply bA | apply bN | apply bD | refine bS ?_ GE136.out | refine bS ?_ GE137.out | refine bS ?_ GE138.out | refine bS ?_ GE141.out) | exact HB.out)) hb)
                  clear HO_142004
                  clear BK136
                  clear BK137
                  clear BK138
                  clear BK141
                  clear HB
                  have HO_142004 := n0_
                  have HO150 := n1_
                  have BK136 := n2_
                  have BK137 := n3_
                  have BK138 := n4_
                  have BK141 := n5_
                  have HB := n6_
                  clear n0_ n1_ n2_ n3_ n4_ n5_ n6_
                  (try clear hb)
                  (try clear hb2)
                  (try clear hk)
                  (try clear hi)
                  (try clear ho0)
                  obtain ⟨Ao38, co38, eo38⟩ := Kd.R_slice HO150.out
                  (first | subst eo38 | (injection eo38 with f1_ f2_ f3_; have f4_ := f1_.symm; have f5_ := f3_.symm; clear f1_ f2_ f3_; subst f4_; subst f5_))
                  refine hK.out _ _ ⟨(bC BK141.out 0).trans rfl, (bC BK141.out 1).trans rfl, (bC BK141.out 2).trans rfl, (bC BK141.out 3).trans rfl, (bC BK141.out 4).trans rfl, (bC BK136.out 0).trans rfl, (bC BK136.out 1).trans rfl, (bC BK136.out 2).trans rfl, (bC BK136.out 3).trans rfl, (bC BK136.out 4).trans rfl, (bC BK137.out 0).trans rfl, (bC BK137.out 1).trans rfl, (bC BK137.out 2).trans rfl, (bC BK137.out 3).trans rfl⟩ (fun hHeld => ?_)
                  clear hK K
                  refine norm_ (a' := ?_) ?_ ?_
                  rotate_left
                  · show Act.put _ (some 52) _ = _
                    simp only [Act.put, List.setIfInBounds_toArray, List.set_cons_zero, List.set_cons_succ, i64_w, i32_w]
                    rfl
                  refine one_ (i := 11) (N := some 53) #[true, true, true, true, true, true, true, true, true, true, true, true, false, false, false] rfl rfl (one_of HT_.out (by kernel_rfl)) (by decide) (fun K hK => ?_)
                  refine value_ (w1 := ?_) (v := ?_) (by rfl) rfl ?_ ?_
                  rotate_left 2
                  · go_simp
                    constructor
                    · rfl
                    · rfl
                  refine hK.out _ _ ⟨(bC (blk_alloc BK141.out _) 0).trans rfl, (bC (blk_alloc BK141.out _) 1).trans rfl, (bC (blk_alloc BK141.out _) 2).trans rfl, (bC (blk_alloc BK141.out _) 3).trans rfl, (bC (blk_alloc BK141.out _) 4).trans rfl, (bC (blk_alloc BK136.out _) 0).trans rfl, (bC (blk_alloc BK136.out _) 1).trans rfl, (bC (blk_alloc BK136.out _) 2).trans rfl, (bC (blk_alloc BK136.out _) 3).trans rfl, (bC (blk_alloc BK136.out _) 4).trans rfl, (bC (blk_alloc BK137.out _) 0).trans rfl, (bC (blk_alloc BK137.out _) 1).trans rfl, (bC (blk_alloc BK137.out _) 2).trans rfl, (bC (blk_alloc BK137.out _) 3).trans rfl⟩ (fun hHeld => ?_)
                  clear hK K
                  refine norm_ (a' := ?_) ?_ ?_
                  rotate_left
                  · show Act.put _ (some 53) _ = _
                    simp only [Act.put, List.setIfInBounds_toArray, List.set_cons_zero, List.set_cons_succ, i64_w, i32_w]
                    rfl
                  refine one_ (i := 12) (N := some 54) #[true, true, true, true, true, true, true, true, true, true, true, true, true, false, false] rfl rfl (one_of HT_.out (by kernel_rfl)) (by decide) (fun K hK => ?_)
                  refine Kd.S_append_step (Kd.slice 72 (Kd.int .u16)) (w0 := w) w.heap.size (by rfl) (.tmp 43) (.tmp 53) 37 53 (.slice none 0 0) 24 rfl Try.underlying37 info53 rfl (by decide) (by omega) u142004 x142004_1 t148 [.slice Ao38 t148.length co38] (fun _ => True) (fun k_ => some k_ = (.slice Ao38 t148.length co38 : Value).ownBlock) rfl rfl ?aP (fun k_ hk_ => ((Kd.R_mono (ok' := fun k_ => ((fun _ => True)) k_ ∧ some k_ ≠ (u142004 : Value).ownBlock) (Kd.R_apart' (HO150.out) (Kd.S_typed HO_142004.out) (by decide)) (fun k_ hk => ⟨trivial, hk.2⟩))).1 k_ hk_.symm) ?aF ?aO ?aB ?aS ?aL ?_
                  (case aP => exact Kd.M_row (Kd.R_mono (Kd.R_tight rfl (Kd.R_mono (ok' := fun k_ => ((fun _ => True)) k_ ∧ some k_ ≠ (u142004 : Value).ownBlock) (Kd.R_apart' (HO150.out) (Kd.S_typed HO_142004.out) (by decide)) (fun k_ hk => ⟨trivial, hk.2⟩))) (fun _ h_ => h_)))
                  (case aB => exact (by repeat (first | (with_reducible first | exact HB.out | apply bA | apply bN | apply bD | refine bS ?_ GE136.out | refine bS ?_ GE137.out | refine bS ?_ GE138.out | refine bS ?_ GE141.out) | exact HB.out)))
                  (case aF => exact (fun _ _ => trivial))
                  (case aO => exact (by (with_reducible repeat (first | apply kA | apply kN | apply kD)); exact Kd.S_mono HO_142004.out (fun k_ hk => ⟨trivial, fun e_ => hk.2 e_⟩)))
                  (case aS => exact (bU (by repeat (first | (with_reducible first | exact HB.out | apply bA | apply bN | apply bD | refine bS ?_ GE136.out | refine bS ?_ GE137.out | refine bS ?_ GE138.out | refine bS ?_ GE141.out) | exact HB.out))))
                  (case aL => have := LMc32.out; omega)
                  intro v152 w37 ho hb hg hat
                  rw [← Ny151.out] at ho
                  have n0_ := am (blk_grown (g := gb136) (o := .cells #[.int .i64 a0_0, .int .i64 a0_1, .int .i64 a0_2, .bool a0_3, .slice (some ad142) l0_4.length c0_4] 39 (0, 0)) (by (with_reducible repeat apply dX); exact BK136.out) hg (Kd.S_ne HO_142004.out BK136.out (by decide)))
                  have n1_ := am (blk_grown (g := gb137) (o := .cells #[.int .i64 a1_0, .int .i64 a1_1, .int .i64 a1_2, .int .i64 a1_3] 52 (0, 0)) (by (with_reducible repeat apply dX); exact BK137.out) hg (Kd.S_ne HO_142004.out BK137.out (by decide)))
                  have n2_ := am (blk_grown (g := gb138) (o := .cells #[.int .i64 0, .int .i64 0, .int .i64 0, .bool false, .slice none 0 0] 39 (0, 0)) (by (with_reducible repeat apply dX); exact BK138.out) hg (Kd.S_ne HO_142004.out BK138.out (by decide)))
                  have n3_ := am (blk_grown (g := gb141) (o := .cells #[.int .i64 a1_2, .int .i64 a1_3, .int .i64 a0_2, .bool a0_3, u142004] 39 (0, 0)) (by (with_reducible repeat apply dX); exact BK141.out) hg (Kd.S_ne HO_142004.out BK141.out (by decide)))
                  have n4_ := am (hb)
                  have n5_ := am (ho)
                  clear BK136
                  clear BK137
                  clear BK138
                  clear BK141
                  clear HB
                  clear HO_142004
                  clear HO150
                  have BK136 := n0_
                  have BK137 := n1_
                  have BK138 := n2_
                  have BK141 := n3_
                  have HB := n4_
                  have HO153 := n5_
                  clear n0_ n1_ n2_ n3_ n4_ n5_
                  clear ho hb hg hat
                  obtain ⟨Ao39, co39, eo39⟩ := Kd.S_slice HO153.out
                  (first | subst eo39 | (injection eo39 with f1_ f2_ f3_; have f4_ := f1_.symm; have f5_ := f3_.symm; clear f1_ f2_ f3_; subst f4_; subst f5_))
                  refine hK.out _ _ ⟨(bC BK141.out 0).trans rfl, (bC BK141.out 1).trans rfl, (bC BK141.out 2).trans rfl, (bC BK141.out 3).trans rfl, (bC BK141.out 4).trans rfl, (bC BK136.out 0).trans rfl, (bC BK136.out 1).trans rfl, (bC BK136.out 2).trans rfl, (bC BK136.out 3).trans rfl, (bC BK136.out 4).trans rfl, (bC BK137.out 0).trans rfl, (bC BK137.out 1).trans rfl, (bC BK137.out 2).trans rfl, (bC BK137.out 3).trans rfl⟩ (fun hHeld => ?_)
                  clear hK K
                  refine norm_ (a' := ?_) ?_ ?_
                  rotate_left
                  · show Act.put _ (some 54) _ = _
                    simp only [Act.put, List.setIfInBounds_toArray, List.set_cons_zero, List.set_cons_succ, i64_w, i32_w]
                    rfl
                  refine pure_ (i := 13) (N := some 55) (v := ?_) (a' := ?_) #[true, true, true, true, true, true, true, true, true, true, true, true, true, true, false] rfl rfl (any_of HT_.out (by kernel_rfl)) (fun _ _ _ h => h) (Or.inl ⟨by rfl, ?_⟩) ?_ ?_
                  rotate_left
                  · intro w'
                    go_simp
                    with_reducible rfl
                  rotate_left
                  · simp only [Act.put, List.setIfInBounds_toArray, List.set_cons_zero, List.set_cons_succ, i64_w, i32_w]
                    rfl
                  refine last_ (i := 14) (N := none) #[true, true, true, true, true, true, true, true, true, true, true, true, true, true, true] rfl rfl (one_of HT_.out (by kernel_rfl)) (by decide) (fun K hK => ?_)
                  have hs40 : w37.cell? ⟨gb141, 4, none⟩ = some (u142004) := (bC BK141.out 4).trans rfl
                  have hfs40 := bZ BK141.out 4
                  have hns40_0 := NB136_141.out
                  have hns40_1 := NB137_141.out
                  have hns40_2 := NB138_141.out
                  have hms40_0 := NB141_136.out
                  have hms40_1 := NB141_137.out
                  have hms40_2 := NB141_138.out
                  refine skip_ (w1 := ?_) (by rfl) rfl ?_ ?_
                  rotate_left
                  · go_simp
                    rfl
                  refine hK.out _ _ ?_
                  clear hK K
                  refine done_ (done_of HT_.out (by kernel_rfl)) ?_
                  try go_wp2
                  go_roundg k1
                  case measure => have := HK1.out; omega
                  case rel => exact ⟨(wrap64 (x37_1 + 1)), (y151), (.slice Ao39 y151.length co39), (by first | rfl | (simp; done) | (simp [*]; done)), H', ⟨by have := HK1.out; omega⟩, ⟨by (with_reducible repeat (first | apply kA | apply kN | apply kD)); exact Kd.S_mono (kF (p := ⟨gb141, 4, none⟩) (kT HO153.out BK141.out (by decide)) (fun _ hk => hk.2) (.slice Ao39 y151.length co39)) (fun _ hk => trivial)⟩, ⟨by (with_reducible repeat apply dX); refine bF ?_ NB136_141.out _; (with_reducible repeat apply dX); exact BK136.out⟩, ⟨by (with_reducible repeat apply dX); refine bF ?_ NB137_141.out _; (with_reducible repeat apply dX); exact BK137.out⟩, ⟨by (with_reducible repeat apply dX); refine bF ?_ NB138_141.out _; (with_reducible repeat apply dX); exact BK138.out⟩, ⟨by (with_reducible repeat apply dX); refine bP (cs := #[.int .i64 a1_2, .int .i64 a1_3, .int .i64 a0_2, .bool a0_3, u142004]) ?_ 4 _ rfl; (with_reducible repeat apply dX); exact BK141.out⟩, ⟨by repeat (first | (with_reducible first | exact HB.out | apply bA | apply bN | apply bD | refine bS ?_ GE136.out | refine bS ?_ GE137.out | refine bS ?_ GE138.out | refine bS ?_ GE141.out) | exact HB.out)⟩⟩
                · rw [if_neg c32] at H
                  exact absurd H (by simp)
              · rw [if_neg c28] at H
                exact absurd H (by simp)
            · rw [if_neg c27] at H
              exact absurd H (by simp)
          · rw [if_neg c26] at H
            have c26b0 : decide (x37_1 < (l0_4.length : Int)) = false := decide_eq_false c26
            clear c26
            simp only [Option.some.injEq, Prod.mk.injEq] at H
            obtain ⟨rfl, rfl, rfl, rfl, rfl, rfl⟩ := H
            have hnb41 := NB141_136.out
            have hnc41 := NB136_141.out
            have hnb42 := NB141_137.out
            have hnc42 := NB137_141.out
            have hnb43 := NB141_138.out
            have hnc43 := NB138_141.out
            have hcz44_0 : wr.cell? ⟨gb141, 0, none⟩ = some (.int .i64 a1_2) := (bC BK141.out 0).trans rfl
            have hcz44_1 : wr.cell? ⟨gb141, 1, none⟩ = some (.int .i64 a1_3) := (bC BK141.out 1).trans rfl
            have hcz44_2 : wr.cell? ⟨gb141, 2, none⟩ = some (.int .i64 a0_2) := (bC BK141.out 2).trans rfl
            have hcz44_3 : wr.cell? ⟨gb141, 3, none⟩ = some (.bool a0_3) := (bC BK141.out 3).trans rfl
            have hcz44_4 : wr.cell? ⟨gb141, 4, none⟩ = some (u142004) := (bC BK141.out 4).trans rfl
            have hfz44_0 := bZ BK141.out 0
            have hfz44_1 := bZ BK141.out 1
            have hfz44_2 := bZ BK141.out 2
            have hfz44_3 := bZ BK141.out 3
            have hfz44_4 := bZ BK141.out 4
            have hnb45 := NB138_136.out
            have hnc45 := NB136_138.out
            have hnb46 := NB138_137.out
            have hnc46 := NB137_138.out
            have hcz47_0 : wr.cell? ⟨gb138, 0, none⟩ = some (.int .i64 0) := (bC BK138.out 0).trans rfl
            have hcz47_1 : wr.cell? ⟨gb138, 1, none⟩ = some (.int .i64 0) := (bC BK138.out 1).trans rfl
            have hcz47_2 : wr.cell? ⟨gb138, 2, none⟩ = some (.int .i64 0) := (bC BK138.out 2).trans rfl
            have hcz47_3 : wr.cell? ⟨gb138, 3, none⟩ = some (.bool false) := (bC BK138.out 3).trans rfl
            have hcz47_4 : wr.cell? ⟨gb138, 4, none⟩ = some (.slice none 0 0) := (bC BK138.out 4).trans rfl
            have hfz47_0 := bZ BK138.out 0
            have hfz47_1 := bZ BK138.out 1
            have hfz47_2 := bZ BK138.out 2
            have hfz47_3 := bZ BK138.out 3
            have hfz47_4 := bZ BK138.out 4
            obtain ⟨Ao48, co48, eo48⟩ := Kd.S_slice HO_142004.out
            subst eo48
            go_wp2
            refine bodyPost_ret (results_ct rfl _ _ gb138 39 #[.int .i64 a1_2, .int .i64 a1_3, .int .i64 a0_2, .bool a0_3, .slice Ao48 x142004_1.length co48] (0, 0) _ rfl (by (with_reducible repeat apply dX); refine bP (cs := #[.int .i64 a1_2, .int .i64 a1_3, .int .i64 a0_2, .bool a0_3, .slice none 0 0]) ?_ 4 _ rfl; (with_reducible repeat apply dX); refine bP (cs := #[.int .i64 a1_2, .int .i64 a1_3, .int .i64 a0_2, .bool false, .slice none 0 0]) ?_ 3 _ rfl; (with_reducible repeat apply dX); refine bP (cs := #[.int .i64 a1_2, .int .i64 a1_3, .int .i64 0, .bool false, .slice none 0 0]) ?_ 2 _ rfl; (with_reducible repeat apply dX); refine bP (cs := #[.int .i64 a1_2, .int .i64 0, .int .i64 0, .bool false, .slice none 0 0]) ?_ 1 _ rfl; (with_reducible repeat apply dX); refine bP (cs := #[.int .i64 0, .int .i64 0, .int .i64 0, .bool false, .slice none 0 0]) ?_ 0 _ rfl; (with_reducible repeat apply dX); exact BK138.out) Try.underlying39 rfl (by kernel_rfl)) rfl ?_
            exact ⟨_, by first | rfl | (simp [errW_none, errW_some] <;> rfl) | (simp [*, errW_none, errW_some] <;> rfl), by (with_reducible repeat (first | apply kA | apply kN | apply kD)); exact Kd.S_mono (kF (p := ⟨gb138, 4, none⟩) (kF (p := ⟨gb138, 3, none⟩) (kF (p := ⟨gb138, 2, none⟩) (kF (p := ⟨gb138, 1, none⟩) (kF (p := ⟨gb138, 0, none⟩) (kT HO_142004.out BK138.out (by decide)) (fun _ hk => hk.2) (.int .i64 a1_2)) (fun _ hk => hk.2) (.int .i64 a1_3)) (fun _ hk => hk.2) (.int .i64 a0_2)) (fun _ hk => hk.2) (.bool a0_3)) (fun _ hk => hk.2) (.slice Ao48 x142004_1.length co48)) (fun _ hk => trivial), by repeat (first | (with_reducible first | exact HB.out | apply bA | apply bN | apply bD | refine bS ?_ GE136.out | refine bS ?_ GE137.out | refine bS ?_ GE138.out | refine bS ?_ GE141.out) | exact HB.out)⟩
    · replace c6 := Bool.eq_false_iff.mpr c6
      subst c6
      have H1 : (some (0, 0, 0, false, ([] : List (List Int)), 65)) = some (r1, r2, r3, r4, r5, r6) := by rw [if_neg (show ¬ (false = true) by decide)] at H; exact H
      clear H
      have H := H1
      clear H1
      simp only [Option.some.injEq, Prod.mk.injEq] at H
      obtain ⟨rfl, rfl, rfl, rfl, rfl, rfl⟩ := H
      go_enter Try.func44, Try.ntmps44
      go_wp2_with (first | ((with_reducible refine gD (N := 2) rfl ?_); refine bE ?hg (N := 2) ?hd (cs := #[.int .i64 a0_0, .int .i64 a0_1, .int .i64 a0_2, .bool a0_3, .slice A0_4 l0_4.length c0_4]) (t := 39) ?hr ?_; (case hd => rfl); (case hg => rfl); (case hr => first | (go_simp; done) | (go_simp; rfl)); intro gb136 hg w49 hbox hb; have n0_ := am (bT (by repeat (first | (with_reducible first | exact HB.out | apply bA | apply bN | apply bD) | exact HB.out)) hb); have n1_ := am (hbox); have n2_ := am ((by rw [hg]; exact (bU (by repeat (first | (with_reducible first | exact HB.out | apply bA | apply bN | apply bD) | exact HB.out))) : w.heap.size ≤ gb136)); have n3_ := am ((by rw [hg]; exact (bU (by repeat (first | (with_reducible first | exact HB.out | apply bA | apply bN | apply bD) | exact HB.out))) : w.heap.size ≤ gb136)); clear HB; have HB := n0_; have BK136 := n1_; have GW136 := n2_; have GE136 := n3_; clear n0_ n1_ n2_ n3_; clear hb hbox hg) | ((with_reducible refine gD (N := 3) rfl ?_); refine bE ?hg (N := 3) ?hd (cs := #[.int .i64 a1_0, .int .i64 a1_1, .int .i64 a1_2, .int .i64 a1_3]) (t := 52) ?hr ?_; (case hd => rfl); (case hg => rfl); (case hr => first | (go_simp; done) | (go_simp; rfl)); intro gb137 hg w50 hbox hb; have n0_ := am (bB (g := gb136) (o := .cells #[.int .i64 a0_0, .int .i64 a0_1, .int .i64 a0_2, .bool a0_3, .slice A0_4 l0_4.length c0_4] 39 (0, 0)) (by (with_reducible repeat apply dX); exact BK136.out) hb); have n1_ := am (bT (by repeat (first | (with_reducible first | exact HB.out | apply bA | apply bN | apply bD | refine bS ?_ GE136.out) | exact HB.out)) hb); have n2_ := am (hbox); have n3_ := am ((by rw [hg]; exact (bU (by repeat (first | (with_reducible first | exact HB.out | apply bA | apply bN | apply bD | refine bS ?_ GE136.out) | exact HB.out))) : w.heap.size ≤ gb137)); have n4_ := am ((by rw [hg]; exact (bU (by repeat (first | (with_reducible first | exact HB.out | apply bA | apply bN | apply bD | refine bS ?_ GE136.out) | exact HB.out))) : w.heap.size ≤ gb137)); have n5_ := am ((by rw [hg]; exact nL (bL (g := gb136) (o := .cells #[.int .i64 a0_0, .int .i64 a0_1, .int .i64 a0_2, .bool a0_3, .slice A0_4 l0_4.length c0_4] 39 (0, 0)) (by (with_reducible repeat apply dX); exact BK136.out)) : gb136 ≠ gb137)); have n6_ := am ((by rw [hg]; exact nG (bL (g := gb136) (o := .cells #[.int .i64 a0_0, .int .i64 a0_1, .int .i64 a0_2, .bool a0_3, .slice A0_4 l0_4.length c0_4] 39 (0, 0)) (by (with_reducible repeat apply dX); exact BK136.out)) : gb137 ≠ gb136)); clear BK136; clear HB; have BK136 := n0_; have HB := n1_; have BK137 := n2_; have GW137 := n3_; have GE137 := n4_; have NB136_137 := n5_; have NB137_136 := n6_; clear n0_ n1_ n2_ n3_ n4_ n5_ n6_; clear hb hbox hg) | ((with_reducible refine gD (N := 4) rfl ?_); refine bE ?hg (N := 4) ?hd (cs := #[.int .i64 0, .int .i64 0, .int .i64 0, .bool false, .slice none 0 0]) (t := 39) ?hr ?_; (case hd => rfl); (case hg => rfl); (case hr => first | (go_simp; done) | (go_simp; rfl)); intro gb138 hg w51 hbox hb; have n0_ := am (bB (g := gb136) (o := .cells #[.int .i64 a0_0, .int .i64 a0_1, .int .i64 a0_2, .bool a0_3, .slice A0_4 l0_4.length c0_4] 39 (0, 0)) (by (with_reducible repeat apply dX); exact BK136.out) hb); have n1_ := am (bB (g := gb137) (o := .cells #[.int .i64 a1_0, .int .i64 a1_1, .int .i64 a1_2, .int .i64 a1_3] 52 (0, 0)) (by (with_reducible repeat apply dX); exact BK137.out) hb); have n2_ := am (bT (by repeat (first | (with_reducible first | exact HB.out | apply bA | apply bN | apply bD | refine bS ?_ GE136.out | refine bS ?_ GE137.out) | exact HB.out)) hb); have n3_ := am (hbox); have n4_ := am ((by rw [hg]; exact (bU (by repeat (first | (with_reducible first | exact HB.out | apply bA | apply bN | apply bD | refine bS ?_ GE136.out | refine bS ?_ GE137.out) | exact HB.out))) : w.heap.size ≤ gb138)); have n5_ := am ((by rw [hg]; exact (bU (by repeat (first | (with_reducible first | exact HB.out | apply bA | apply bN | apply bD | refine bS ?_ GE136.out | refine bS ?_ GE137.out) | exact HB.out))) : w.heap.size ≤ gb138)); have n6_ := am ((by rw [hg]; exact nL (bL (g := gb136) (o := .cells #[.int .i64 a0_0, .int .i64 a0_1, .int .i64 a0_2, .bool a0_3, .slice A0_4 l0_4.length c0_4] 39 (0, 0)) (by (with_reducible repeat apply dX); exact BK136.out)) : gb136 ≠ gb138)); have n7_ := am ((by rw [hg]; exact nG (bL (g := gb136) (o := .cells #[.int .i64 a0_0, .int .i64 a0_1, .int .i64 a0_2, .bool a0_3, .slice A0_4 l0_4.length c0_4] 39 (0, 0)) (by (with_reducible repeat apply dX); exact BK136.out)) : gb138 ≠ gb136)); have n8_ := am ((by rw [hg]; exact nL (bL (g := gb137) (o := .cells #[.int .i64 a1_0, .int .i64 a1_1, .int .i64 a1_2, .int .i64 a1_3] 52 (0, 0)) (by (with_reducible repeat apply dX); exact BK137.out)) : gb137 ≠ gb138)); have n9_ := am ((by rw [hg]; exact nG (bL (g := gb137) (o := .cells #[.int .i64 a1_0, .int .i64 a1_1, .int .i64 a1_2, .int .i64 a1_3] 52 (0, 0)) (by (with_reducible repeat apply dX); exact BK137.out)) : gb138 ≠ gb137)); clear BK136; clear BK137; clear HB; have BK136 := n0_; have BK137 := n1_; have HB := n2_; have BK138 := n3_; have GW138 := n4_; have GE138 := n5_; have NB136_138 := n6_; have NB138_136 := n7_; have NB137_138 := n8_; have NB138_137 := n9_; clear n0_ n1_ n2_ n3_ n4_ n5_ n6_ n7_ n8_ n9_; clear hb hbox hg; have hnb52 := NB136_137.out; have hnc52 := NB137_136.out; have hnb53 := NB136_138.out; have hnc53 := NB138_136.out; have hcz54_0 : w51.cell? ⟨gb136, 0, none⟩ = some (.int .i64 a0_0) := (bC BK136.out 0).trans rfl; have hcz54_1 : w51.cell? ⟨gb136, 1, none⟩ = some (.int .i64 a0_1) := (bC BK136.out 1).trans rfl; have hcz54_2 : w51.cell? ⟨gb136, 2, none⟩ = some (.int .i64 a0_2) := (bC BK136.out 2).trans rfl; have hcz54_3 : w51.cell? ⟨gb136, 3, none⟩ = some (.bool a0_3) := (bC BK136.out 3).trans rfl; have hcz54_4 : w51.cell? ⟨gb136, 4, none⟩ = some (.slice A0_4 l0_4.length c0_4) := (bC BK136.out 4).trans rfl; have hfz54_0 := bZ BK136.out 0; have hfz54_1 := bZ BK136.out 1; have hfz54_2 := bZ BK136.out 2; have hfz54_3 := bZ BK136.out 3; have hfz54_4 := bZ BK136.out 4) | ((with_reducible refine gate_callee (f := 29) rfl ?_); refine goesL_ (some 11) rfl rfl Try.func29 (by kernel_rfl) rfl #[.agg #[.int .i64 a0_0, .int .i64 a0_1, .int .i64 a0_2, .bool a0_3, .slice A0_4 l0_4.length c0_4]] rfl (by (try simp only [List.map_toArray, List.map_cons, List.map_nil]); first | done | rfl | (simp only [List.length_drop, List.length_take]; rfl)) ?_; (with_reducible refine (plane_Valid.calls k a0_0 a0_1 a0_2 a0_3 _ _ l0_4 t139 _ ?side1 ?side2 A3.out).mono ?_); (case side1 => repeat (first | exact (Kd.C_below HR0_4.out HB.out) | (with_reducible refine Kd.C_alloc ?_ _) | (with_reducible refine Kd.C_drewN ?_ _) | (with_reducible refine Kd.C_drew ?_))); (case side2 => exact HC0_4.out); rintro e w55 ⟨rfl, hb⟩; refine ⟨_, rfl, ?_⟩; have n0_ := am (bB (g := gb136) (o := .cells #[.int .i64 a0_0, .int .i64 a0_1, .int .i64 a0_2, .bool a0_3, .slice A0_4 l0_4.length c0_4] 39 (0, 0)) (by (with_reducible repeat apply dX); exact BK136.out) hb); have n1_ := am (bB (g := gb137) (o := .cells #[.int .i64 a1_0, .int .i64 a1_1, .int .i64 a1_2, .int .i64 a1_3] 52 (0, 0)) (by (with_reducible repeat apply dX); exact BK137.out) hb); have n2_ := am (bB (g := gb138) (o := .cells #[.int .i64 0, .int .i64 0, .int .i64 0, .bool false, .slice none 0 0] 39 (0, 0)) (by (with_reducible repeat apply dX); exact BK138.out) hb); have n3_ := am (bT (by repeat (first | (with_reducible first | exact HB.out | apply bA | apply bN | apply bD | refine bS ?_ GE136.out | refine bS ?_ GE137.out | refine bS ?_ GE138.out) | exact HB.out)) hb); clear BK136; clear BK137; clear BK138; clear HB; have BK136 := n0_; have BK137 := n1_; have BK138 := n2_; have HB := n3_; clear n0_ n1_ n2_ n3_; (try clear hb); (try clear hb2); (try clear hk); (try clear hi); have hcz56_0 : w55.cell? ⟨gb136, 0, none⟩ = some (.int .i64 a0_0) := (bC BK136.out 0).trans rfl; have hcz56_1 : w55.cell? ⟨gb136, 1, none⟩ = some (.int .i64 a0_1) := (bC BK136.out 1).trans rfl; have hcz56_2 : w55.cell? ⟨gb136, 2, none⟩ = some (.int .i64 a0_2) := (bC BK136.out 2).trans rfl; have hcz56_3 : w55.cell? ⟨gb136, 3, none⟩ = some (.bool a0_3) := (bC BK136.out 3).trans rfl; have hcz56_4 : w55.cell? ⟨gb136, 4, none⟩ = some (.slice A0_4 l0_4.length c0_4) := (bC BK136.out 4).trans rfl; have hfz56_0 := bZ BK136.out 0; have hfz56_1 := bZ BK136.out 1; have hfz56_2 := bZ BK136.out 2; have hfz56_3 := bZ BK136.out 3; have hfz56_4 := bZ BK136.out 4; have hnb57 := NB137_138.out; have hnc57 := NB138_137.out; have hcz58_0 : w55.cell? ⟨gb137, 0, none⟩ = some (.int .i64 a1_0) := (bC BK137.out 0).trans rfl; have hcz58_1 : w55.cell? ⟨gb137, 1, none⟩ = some (.int .i64 a1_1) := (bC BK137.out 1).trans rfl; have hcz58_2 : w55.cell? ⟨gb137, 2, none⟩ = some (.int .i64 a1_2) := (bC BK137.out 2).trans rfl; have hcz58_3 : w55.cell? ⟨gb137, 3, none⟩ = some (.int .i64 a1_3) := (bC BK137.out 3).trans rfl; have hfz58_0 := bZ BK137.out 0; have hfz58_1 := bZ BK137.out 1; have hfz58_2 := bZ BK137.out 2; have hfz58_3 := bZ BK137.out 3) | ((with_reducible refine gate_callee (f := 68) rfl ?_); refine goesL_ (some 19) rfl rfl Try.func68 (by kernel_rfl) rfl #[.agg #[.int .i64 a0_0, .int .i64 a0_1, .int .i64 a0_2, .bool a0_3], .agg #[.int .i64 a1_0, .int .i64 a1_1, .int .i64 a1_2, .int .i64 a1_3]] rfl (by (try simp only [List.map_toArray, List.map_cons, List.map_nil]); first | done | rfl | (simp only [List.length_drop, List.length_take]; rfl)) ?_; (with_reducible refine (plane_whole.calls a0_0 a0_1 a0_2 a0_3 a1_0 a1_1 a1_2 a1_3 false _ A5.out).mono ?_); rintro e w59 ⟨rfl, hb⟩; refine ⟨_, rfl, ?_⟩; have n0_ := am (bB (g := gb136) (o := .cells #[.int .i64 a0_0, .int .i64 a0_1, .int .i64 a0_2, .bool a0_3, .slice A0_4 l0_4.length c0_4] 39 (0, 0)) (by (with_reducible repeat apply dX); exact BK136.out) hb); have n1_ := am (bB (g := gb137) (o := .cells #[.int .i64 a1_0, .int .i64 a1_1, .int .i64 a1_2, .int .i64 a1_3] 52 (0, 0)) (by (with_reducible repeat apply dX); exact BK137.out) hb); have n2_ := am (bB (g := gb138) (o := .cells #[.int .i64 0, .int .i64 0, .int .i64 0, .bool false, .slice none 0 0] 39 (0, 0)) (by (with_reducible repeat apply dX); exact BK138.out) hb); have n3_ := am (bT (by repeat (first | (with_reducible first | exact HB.out | apply bA | apply bN | apply bD | refine bS ?_ GE136.out | refine bS ?_ GE137.out | refine bS ?_ GE138.out) | exact HB.out)) hb); clear BK136; clear BK137; clear BK138; clear HB; have BK136 := n0_; have BK137 := n1_; have BK138 := n2_; have HB := n3_; clear n0_ n1_ n2_ n3_; (try clear hb); (try clear hb2); (try clear hk); (try clear hi); have hcz60_0 : w59.cell? ⟨gb138, 0, none⟩ = some (.int .i64 0) := (bC BK138.out 0).trans rfl; have hcz60_1 : w59.cell? ⟨gb138, 1, none⟩ = some (.int .i64 0) := (bC BK138.out 1).trans rfl; have hcz60_2 : w59.cell? ⟨gb138, 2, none⟩ = some (.int .i64 0) := (bC BK138.out 2).trans rfl; have hcz60_3 : w59.cell? ⟨gb138, 3, none⟩ = some (.bool false) := (bC BK138.out 3).trans rfl; have hcz60_4 : w59.cell? ⟨gb138, 4, none⟩ = some (.slice none 0 0) := (bC BK138.out 4).trans rfl; have hfz60_0 := bZ BK138.out 0; have hfz60_1 := bZ BK138.out 1; have hfz60_2 := bZ BK138.out 2; have hfz60_3 := bZ BK138.out 3; have hfz60_4 := bZ BK138.out 4))
      refine bodyPost_ret (results_ct rfl _ _ gb138 39 #[.int .i64 0, .int .i64 0, .int .i64 0, .bool false, .slice none 0 0] (0, 0) _ rfl (by (with_reducible repeat apply dX); refine bP (cs := #[.int .i64 0, .int .i64 0, .int .i64 0, .bool false, .slice none 0 0]) ?_ 4 _ rfl; (with_reducible repeat apply dX); refine bP (cs := #[.int .i64 0, .int .i64 0, .int .i64 0, .bool false, .slice none 0 0]) ?_ 3 _ rfl; (with_reducible repeat apply dX); refine bP (cs := #[.int .i64 0, .int .i64 0, .int .i64 0, .bool false, .slice none 0 0]) ?_ 2 _ rfl; (with_reducible repeat apply dX); refine bP (cs := #[.int .i64 0, .int .i64 0, .int .i64 0, .bool false, .slice none 0 0]) ?_ 1 _ rfl; (with_reducible repeat apply dX); refine bP (cs := #[.int .i64 0, .int .i64 0, .int .i64 0, .bool false, .slice none 0 0]) ?_ 0 _ rfl; (with_reducible repeat apply dX); exact BK138.out) Try.underlying39 rfl (by kernel_rfl)) rfl ?_
      exact ⟨_, by first | rfl | (simp [errW_none, errW_some] <;> rfl) | (simp [*, errW_none, errW_some] <;> rfl), by first | exact Kd.S_nil _ _ _ _ _ | exact Kd.N_nil _ _ _ _ _ | exact Kd.V_nil _ _ _ _ _ | exact Kd.Q_nil _ _ _ _ _ | exact Kd.R_nil _ _ _ _ _, by repeat (first | (with_reducible first | exact HB.out | apply bA | apply bN | apply bD | refine bS ?_ GE136.out | refine bS ?_ GE137.out | refine bS ?_ GE138.out) | exact HB.out)⟩
  · rw [if_neg c4] at H
    have c4b0 : (t139 == 0) = false := beq_eq_false_iff_ne.mpr c4
    have c4b1 : (t139 != 0) = true := bne_iff_ne.mpr c4
    simp only [Option.some.injEq, Prod.mk.injEq] at H
    obtain ⟨rfl, rfl, rfl, rfl, rfl, rfl⟩ := H
    go_enter Try.func44, Try.ntmps44
    go_wp2_with (first | ((with_reducible refine gD (N := 2) rfl ?_); refine bE ?hg (N := 2) ?hd (cs := #[.int .i64 a0_0, .int .i64 a0_1, .int .i64 a0_2, .bool a0_3, .slice A0_4 l0_4.length c0_4]) (t := 39) ?hr ?_; (case hd => rfl); (case hg => rfl); (case hr => first | (go_simp; done) | (go_simp; rfl)); intro gb136 hg w61 hbox hb; have n0_ := am (bT (by repeat (first | (with_reducible first | exact HB.out | apply bA | apply bN | apply bD) | exact HB.out)) hb); have n1_ := am (hbox); have n2_ := am ((by rw [hg]; exact (bU (by repeat (first | (with_reducible first | exact HB.out | apply bA | apply bN | apply bD) | exact HB.out))) : w.heap.size ≤ gb136)); have n3_ := am ((by rw [hg]; exact (bU (by repeat (first | (with_reducible first | exact HB.out | apply bA | apply bN | apply bD) | exact HB.out))) : w.heap.size ≤ gb136)); clear HB; have HB := n0_; have BK136 := n1_; have GW136 := n2_; have GE136 := n3_; clear n0_ n1_ n2_ n3_; clear hb hbox hg) | ((with_reducible refine gD (N := 3) rfl ?_); refine bE ?hg (N := 3) ?hd (cs := #[.int .i64 a1_0, .int .i64 a1_1, .int .i64 a1_2, .int .i64 a1_3]) (t := 52) ?hr ?_; (case hd => rfl); (case hg => rfl); (case hr => first | (go_simp; done) | (go_simp; rfl)); intro gb137 hg w62 hbox hb; have n0_ := am (bB (g := gb136) (o := .cells #[.int .i64 a0_0, .int .i64 a0_1, .int .i64 a0_2, .bool a0_3, .slice A0_4 l0_4.length c0_4] 39 (0, 0)) (by (with_reducible repeat apply dX); exact BK136.out) hb); have n1_ := am (bT (by repeat (first | (with_reducible first | exact HB.out | apply bA | apply bN | apply bD | refine bS ?_ GE136.out) | exact HB.out)) hb); have n2_ := am (hbox); have n3_ := am ((by rw [hg]; exact (bU (by repeat (first | (with_reducible first | exact HB.out | apply bA | apply bN | apply bD | refine bS ?_ GE136.out) | exact HB.out))) : w.heap.size ≤ gb137)); have n4_ := am ((by rw [hg]; exact (bU (by repeat (first | (with_reducible first | exact HB.out | apply bA | apply bN | apply bD | refine bS ?_ GE136.out) | exact HB.out))) : w.heap.size ≤ gb137)); have n5_ := am ((by rw [hg]; exact nL (bL (g := gb136) (o := .cells #[.int .i64 a0_0, .int .i64 a0_1, .int .i64 a0_2, .bool a0_3, .slice A0_4 l0_4.length c0_4] 39 (0, 0)) (by (with_reducible repeat apply dX); exact BK136.out)) : gb136 ≠ gb137)); have n6_ := am ((by rw [hg]; exact nG (bL (g := gb136) (o := .cells #[.int .i64 a0_0, .int .i64 a0_1, .int .i64 a0_2, .bool a0_3, .slice A0_4 l0_4.length c0_4] 39 (0, 0)) (by (with_reducible repeat apply dX); exact BK136.out)) : gb137 ≠ gb136)); clear BK136; clear HB; have BK136 := n0_; have HB := n1_; have BK137 := n2_; have GW137 := n3_; have GE137 := n4_; have NB136_137 := n5_; have NB137_136 := n6_; clear n0_ n1_ n2_ n3_ n4_ n5_ n6_; clear hb hbox hg) | ((with_reducible refine gD (N := 4) rfl ?_); refine bE ?hg (N := 4) ?hd (cs := #[.int .i64 0, .int .i64 0, .int .i64 0, .bool false, .slice none 0 0]) (t := 39) ?hr ?_; (case hd => rfl); (case hg => rfl); (case hr => first | (go_simp; done) | (go_simp; rfl)); intro gb138 hg w63 hbox hb; have n0_ := am (bB (g := gb136) (o := .cells #[.int .i64 a0_0, .int .i64 a0_1, .int .i64 a0_2, .bool a0_3, .slice A0_4 l0_4.length c0_4] 39 (0, 0)) (by (with_reducible repeat apply dX); exact BK136.out) hb); have n1_ := am (bB (g := gb137) (o := .cells #[.int .i64 a1_0, .int .i64 a1_1, .int .i64 a1_2, .int .i64 a1_3] 52 (0, 0)) (by (with_reducible repeat apply dX); exact BK137.out) hb); have n2_ := am (bT (by repeat (first | (with_reducible first | exact HB.out | apply bA | apply bN | apply bD | refine bS ?_ GE136.out | refine bS ?_ GE137.out) | exact HB.out)) hb); have n3_ := am (hbox); have n4_ := am ((by rw [hg]; exact (bU (by repeat (first | (with_reducible first | exact HB.out | apply bA | apply bN | apply bD | refine bS ?_ GE136.out | refine bS ?_ GE137.out) | exact HB.out))) : w.heap.size ≤ gb138)); have n5_ := am ((by rw [hg]; exact (bU (by repeat (first | (with_reducible first | exact HB.out | apply bA | apply bN | apply bD | refine bS ?_ GE136.out | refine bS ?_ GE137.out) | exact HB.out))) : w.heap.size ≤ gb138)); have n6_ := am ((by rw [hg]; exact nL (bL (g := gb136) (o := .cells #[.int .i64 a0_0, .int .i64 a0_1, .int .i64 a0_2, .bool a0_3, .slice A0_4 l0_4.length c0_4] 39 (0, 0)) (by (with_reducible repeat apply dX); exact BK136.out)) : gb136 ≠ gb138)); have n7_ := am ((by rw [hg]; exact nG (bL (g := gb136) (o := .cells #[.int .i64 a0_0, .int .i64 a0_1, .int .i64 a0_2, .bool a0_3, .slice A0_4 l0_4.length c0_4] 39 (0, 0)) (by (with_reducible repeat apply dX); exact BK136.out)) : gb138 ≠ gb136)); have n8_ := am ((by rw [hg]; exact nL (bL (g := gb137) (o := .cells #[.int .i64 a1_0, .int .i64 a1_1, .int .i64 a1_2, .int .i64 a1_3] 52 (0, 0)) (by (with_reducible repeat apply dX); exact BK137.out)) : gb137 ≠ gb138)); have n9_ := am ((by rw [hg]; exact nG (bL (g := gb137) (o := .cells #[.int .i64 a1_0, .int .i64 a1_1, .int .i64 a1_2, .int .i64 a1_3] 52 (0, 0)) (by (with_reducible repeat apply dX); exact BK137.out)) : gb138 ≠ gb137)); clear BK136; clear BK137; clear HB; have BK136 := n0_; have BK137 := n1_; have HB := n2_; have BK138 := n3_; have GW138 := n4_; have GE138 := n5_; have NB136_138 := n6_; have NB138_136 := n7_; have NB137_138 := n8_; have NB138_137 := n9_; clear n0_ n1_ n2_ n3_ n4_ n5_ n6_ n7_ n8_ n9_; clear hb hbox hg; have hnb64 := NB136_137.out; have hnc64 := NB137_136.out; have hnb65 := NB136_138.out; have hnc65 := NB138_136.out; have hcz66_0 : w63.cell? ⟨gb136, 0, none⟩ = some (.int .i64 a0_0) := (bC BK136.out 0).trans rfl; have hcz66_1 : w63.cell? ⟨gb136, 1, none⟩ = some (.int .i64 a0_1) := (bC BK136.out 1).trans rfl; have hcz66_2 : w63.cell? ⟨gb136, 2, none⟩ = some (.int .i64 a0_2) := (bC BK136.out 2).trans rfl; have hcz66_3 : w63.cell? ⟨gb136, 3, none⟩ = some (.bool a0_3) := (bC BK136.out 3).trans rfl; have hcz66_4 : w63.cell? ⟨gb136, 4, none⟩ = some (.slice A0_4 l0_4.length c0_4) := (bC BK136.out 4).trans rfl; have hfz66_0 := bZ BK136.out 0; have hfz66_1 := bZ BK136.out 1; have hfz66_2 := bZ BK136.out 2; have hfz66_3 := bZ BK136.out 3; have hfz66_4 := bZ BK136.out 4) | ((with_reducible refine gate_callee (f := 29) rfl ?_); refine goesL_ (some 11) rfl rfl Try.func29 (by kernel_rfl) rfl #[.agg #[.int .i64 a0_0, .int .i64 a0_1, .int .i64 a0_2, .bool a0_3, .slice A0_4 l0_4.length c0_4]] rfl (by (try simp only [List.map_toArray, List.map_cons, List.map_nil]); first | done | rfl | (simp only [List.length_drop, List.length_take]; rfl)) ?_; (with_reducible refine (plane_Valid.calls k a0_0 a0_1 a0_2 a0_3 _ _ l0_4 t139 _ ?side1 ?side2 A3.out).mono ?_); (case side1 => repeat (first | exact (Kd.C_below HR0_4.out HB.out) | (with_reducible refine Kd.C_alloc ?_ _) | (with_reducible refine Kd.C_drewN ?_ _) | (with_reducible refine Kd.C_drew ?_))); (case side2 => exact HC0_4.out); rintro e w67 ⟨rfl, hb⟩; refine ⟨_, rfl, ?_⟩; have n0_ := am (bB (g := gb136) (o := .cells #[.int .i64 a0_0, .int .i64 a0_1, .int .i64 a0_2, .bool a0_3, .slice A0_4 l0_4.length c0_4] 39 (0, 0)) (by (with_reducible repeat apply dX); exact BK136.out) hb); have n1_ := am (bB (g := gb137) (o := .cells #[.int .i64 a1_0, .int .i64 a1_1, .int .i64 a1_2, .int .i64 a1_3] 52 (0, 0)) (by (with_reducible repeat apply dX); exact BK137.out) hb); have n2_ := am (bB (g := gb138) (o := .cells #[.int .i64 0, .int .i64 0, .int .i64 0, .bool false, .slice none 0 0] 39 (0, 0)) (by (with_reducible repeat apply dX); exact BK138.out) hb); have n3_ := am (bT (by repeat (first | (with_reducible first | exact HB.out | apply bA | apply bN | apply bD | refine bS ?_ GE136.out | refine bS ?_ GE137.out | refine bS ?_ GE138.out) | exact HB.out)) hb); clear BK136; clear BK137; clear BK138; clear HB; have BK136 := n0_; have BK137 := n1_; have BK138 := n2_; have HB := n3_; clear n0_ n1_ n2_ n3_; (try clear hb); (try clear hb2); (try clear hk); (try clear hi); have hnb68 := NB138_137.out; have hnc68 := NB137_138.out; have hcz69_0 : w67.cell? ⟨gb138, 0, none⟩ = some (.int .i64 0) := (bC BK138.out 0).trans rfl; have hcz69_1 : w67.cell? ⟨gb138, 1, none⟩ = some (.int .i64 0) := (bC BK138.out 1).trans rfl; have hcz69_2 : w67.cell? ⟨gb138, 2, none⟩ = some (.int .i64 0) := (bC BK138.out 2).trans rfl; have hcz69_3 : w67.cell? ⟨gb138, 3, none⟩ = some (.bool false) := (bC BK138.out 3).trans rfl; have hcz69_4 : w67.cell? ⟨gb138, 4, none⟩ = some (.slice none 0 0) := (bC BK138.out 4).trans rfl; have hfz69_0 := bZ BK138.out 0; have hfz69_1 := bZ BK138.out 1; have hfz69_2 := bZ BK138.out 2; have hfz69_3 := bZ BK138.out 3; have hfz69_4 := bZ BK138.out 4))
    refine bodyPost_ret (results_ct rfl _ _ gb138 39 #[.int .i64 0, .int .i64 0, .int .i64 0, .bool false, .slice none 0 0] (0, 0) _ rfl (by (with_reducible repeat apply dX); refine bP (cs := #[.int .i64 0, .int .i64 0, .int .i64 0, .bool false, .slice none 0 0]) ?_ 4 _ rfl; (with_reducible repeat apply dX); refine bP (cs := #[.int .i64 0, .int .i64 0, .int .i64 0, .bool false, .slice none 0 0]) ?_ 3 _ rfl; (with_reducible repeat apply dX); refine bP (cs := #[.int .i64 0, .int .i64 0, .int .i64 0, .bool false, .slice none 0 0]) ?_ 2 _ rfl; (with_reducible repeat apply dX); refine bP (cs := #[.int .i64 0, .int .i64 0, .int .i64 0, .bool false, .slice none 0 0]) ?_ 1 _ rfl; (with_reducible repeat apply dX); refine bP (cs := #[.int .i64 0, .int .i64 0, .int .i64 0, .bool false, .slice none 0 0]) ?_ 0 _ rfl; (with_reducible repeat apply dX); exact BK138.out) Try.underlying39 rfl (by kernel_rfl)) rfl ?_
    exact ⟨_, by first | rfl | (simp [errW_none, errW_some] <;> rfl) | (simp [*, errW_none, errW_some] <;> rfl), by first | exact Kd.S_nil _ _ _ _ _ | exact Kd.N_nil _ _ _ _ _ | exact Kd.V_nil _ _ _ _ _ | exact Kd.Q_nil _ _ _ _ _ | exact Kd.R_nil _ _ _ _ _, by repeat (first | (with_reducible first | exact HB.out | apply bA | apply bN | apply bD | refine bS ?_ GE136.out | refine bS ?_ GE137.out | refine bS ?_ GE138.out) | exact HB.out)⟩

/-! ### dailiesref06_half: function 71 -/
def dailiesref06_half.f (a0 : Int) : Option (Int) := some (wrap64 ((wrap64 (Int.tdiv a0 2)) + (Int.tmod a0 2)))
set_option maxHeartbeats 8000000 in
set_option maxRecDepth 100000 in
theorem dailiesref06_half.calls (a0 : Int) (r : Int) (w : World) (h : dailiesref06_half.f a0 = some r) :
    Calls Try.prog 71 #[.int .i64 a0] w fun e w' => e = .returned (.int .i64 r) ∧ Drawn0 w w' := by
  have H : (some (wrap64 ((wrap64 (Int.tdiv a0 2)) + (Int.tmod a0 2)))) = some r := h
  clear h
  obtain rfl := Option.some.inj H
  go_enter Try.func71, Try.ntmps71
  go_wp2
  go_ret
  exact ⟨by first | rfl | (simp; done) | (simp [*]; done), by repeat (first | exact Drawn0.refl _ | apply Drawn0.step)⟩

/-! ### dailiesref06_wide: function 57 -/
def dailiesref06_wide.f (a0_0 : Int) (a0_1 : Int) (a0_2 : Int) (a0_3 : Bool) (a1 : Int) : Option (Int) := if a1 = 1 then ((dailiesref06_half.f a0_0).bind fun t155 => (some t155)) else (if a1 = 2 then ((dailiesref06_half.f a0_0).bind fun t156 => (some t156)) else (some a0_0))
set_option maxHeartbeats 8000000 in
set_option maxRecDepth 100000 in
theorem dailiesref06_wide.calls (a0_0 : Int) (a0_1 : Int) (a0_2 : Int) (a0_3 : Bool) (a1 : Int) (r : Int) (w : World) (h : dailiesref06_wide.f a0_0 a0_1 a0_2 a0_3 a1 = some r) :
    Calls Try.prog 57 #[.agg #[.int .i64 a0_0, .int .i64 a0_1, .int .i64 a0_2, .bool a0_3], .int .i64 a1] w fun e w' => e = .returned (.int .i64 r) ∧ Below w.heap.size w w' := by
  have hu26 := Try.underlying26
  have HB := am (Below.refl w.heap.size w)
  have H : (if a1 = 1 then ((dailiesref06_half.f a0_0).bind fun t155 => (some t155)) else (if a1 = 2 then ((dailiesref06_half.f a0_0).bind fun t156 => (some t156)) else (some a0_0))) = some r := h
  clear h
  by_cases c3 : a1 = 1
  · rw [if_pos c3] at H
    have c3b0 : (a1 == 1) = true := beq_iff_eq.mpr c3
    have c3b1 : (a1 != 1) = false := bne_eq_false_iff_eq.mpr c3
    clear c3
    replace H := Option.bind_eq_some_iff.mp H
    obtain ⟨t155, A40, H⟩ := H
    replace H : (some t155) = some r := H
    have A4 := am A40
    clear A40
    obtain rfl := Option.some.inj H
    go_enter Try.func57, Try.ntmps57
    go_wp2_with (first | ((with_reducible refine gD (N := 2) rfl ?_); refine bE ?hg (N := 2) ?hd (cs := #[.int .i64 a0_0, .int .i64 a0_1, .int .i64 a0_2, .bool a0_3]) (t := 26) ?hr ?_; (case hd => rfl); (case hg => rfl); (case hr => first | (go_simp; done) | (go_simp; rfl)); intro gb154 hg w5 hbox hb; have n0_ := am (bT (by repeat (first | (with_reducible first | exact HB.out | apply bA | apply bN | apply bD) | exact HB.out)) hb); have n1_ := am (hbox); have n2_ := am ((by rw [hg]; exact (bU (by repeat (first | (with_reducible first | exact HB.out | apply bA | apply bN | apply bD) | exact HB.out))) : w.heap.size ≤ gb154)); have n3_ := am ((by rw [hg]; exact (bU (by repeat (first | (with_reducible first | exact HB.out | apply bA | apply bN | apply bD) | exact HB.out))) : w.heap.size ≤ gb154)); clear HB; have HB := n0_; have BK154 := n1_; have GW154 := n2_; have GE154 := n3_; clear n0_ n1_ n2_ n3_; clear hb hbox hg; have hcz6_0 : w5.cell? ⟨gb154, 0, none⟩ = some (.int .i64 a0_0) := (bC BK154.out 0).trans rfl; have hcz6_1 : w5.cell? ⟨gb154, 1, none⟩ = some (.int .i64 a0_1) := (bC BK154.out 1).trans rfl; have hcz6_2 : w5.cell? ⟨gb154, 2, none⟩ = some (.int .i64 a0_2) := (bC BK154.out 2).trans rfl; have hcz6_3 : w5.cell? ⟨gb154, 3, none⟩ = some (.bool a0_3) := (bC BK154.out 3).trans rfl; have hfz6_0 := bZ BK154.out 0; have hfz6_1 := bZ BK154.out 1; have hfz6_2 := bZ BK154.out 2; have hfz6_3 := bZ BK154.out 3) | ((with_reducible refine gate_callee (f := 71) rfl ?_); refine goesL_ (some 13) rfl rfl Try.func71 (by kernel_rfl) rfl #[.int .i64 a0_0] rfl (by (try simp only [List.map_toArray, List.map_cons, List.map_nil]); first | done | rfl | (simp only [List.length_drop, List.length_take]; rfl)) ?_; (with_reducible refine (dailiesref06_half.calls a0_0 t155 _ A4.out).mono ?_); rintro e w' ⟨rfl, ⟨nd, rfl⟩⟩; refine ⟨_, rfl, ?_⟩))
    go_ret
    exact ⟨by first | rfl | (simp [errW_none, errW_some] <;> rfl) | (simp [*, errW_none, errW_some] <;> rfl), by repeat (first | (with_reducible first | exact HB.out | apply bA | apply bN | apply bD | refine bS ?_ GE154.out) | exact HB.out)⟩
  · rw [if_neg c3] at H
    have c3b0 : (a1 == 1) = false := beq_eq_false_iff_ne.mpr c3
    have c3b1 : (a1 != 1) = true := bne_iff_ne.mpr c3
    by_cases c7 : a1 = 2
    · rw [if_pos c7] at H
      have c7b0 : (a1 == 2) = true := beq_iff_eq.mpr c7
      have c7b1 : (a1 != 2) = false := bne_eq_false_iff_eq.mpr c7
      clear c7
      replace H := Option.bind_eq_some_iff.mp H
      obtain ⟨t156, A80, H⟩ := H
      replace H : (some t156) = some r := H
      have A8 := am A80
      clear A80
      obtain rfl := Option.some.inj H
      go_enter Try.func57, Try.ntmps57
      go_wp2_with (first | ((with_reducible refine gD (N := 2) rfl ?_); refine bE ?hg (N := 2) ?hd (cs := #[.int .i64 a0_0, .int .i64 a0_1, .int .i64 a0_2, .bool a0_3]) (t := 26) ?hr ?_; (case hd => rfl); (case hg => rfl); (case hr => first | (go_simp; done) | (go_simp; rfl)); intro gb154 hg w9 hbox hb; have n0_ := am (bT (by repeat (first | (with_reducible first | exact HB.out | apply bA | apply bN | apply bD) | exact HB.out)) hb); have n1_ := am (hbox); have n2_ := am ((by rw [hg]; exact (bU (by repeat (first | (with_reducible first | exact HB.out | apply bA | apply bN | apply bD) | exact HB.out))) : w.heap.size ≤ gb154)); have n3_ := am ((by rw [hg]; exact (bU (by repeat (first | (with_reducible first | exact HB.out | apply bA | apply bN | apply bD) | exact HB.out))) : w.heap.size ≤ gb154)); clear HB; have HB := n0_; have BK154 := n1_; have GW154 := n2_; have GE154 := n3_; clear n0_ n1_ n2_ n3_; clear hb hbox hg; have hcz10_0 : w9.cell? ⟨gb154, 0, none⟩ = some (.int .i64 a0_0) := (bC BK154.out 0).trans rfl; have hcz10_1 : w9.cell? ⟨gb154, 1, none⟩ = some (.int .i64 a0_1) := (bC BK154.out 1).trans rfl; have hcz10_2 : w9.cell? ⟨gb154, 2, none⟩ = some (.int .i64 a0_2) := (bC BK154.out 2).trans rfl; have hcz10_3 : w9.cell? ⟨gb154, 3, none⟩ = some (.bool a0_3) := (bC BK154.out 3).trans rfl; have hfz10_0 := bZ BK154.out 0; have hfz10_1 := bZ BK154.out 1; have hfz10_2 := bZ BK154.out 2; have hfz10_3 := bZ BK154.out 3) | ((with_reducible refine gate_callee (f := 71) rfl ?_); refine goesL_ (some 13) rfl rfl Try.func71 (by kernel_rfl) rfl #[.int .i64 a0_0] rfl (by (try simp only [List.map_toArray, List.map_cons, List.map_nil]); first | done | rfl | (simp only [List.length_drop, List.length_take]; rfl)) ?_; (with_reducible refine (dailiesref06_half.calls a0_0 t156 _ A8.out).mono ?_); rintro e w' ⟨rfl, ⟨nd, rfl⟩⟩; refine ⟨_, rfl, ?_⟩))
      go_ret
      exact ⟨by first | rfl | (simp [errW_none, errW_some] <;> rfl) | (simp [*, errW_none, errW_some] <;> rfl), by repeat (first | (with_reducible first | exact HB.out | apply bA | apply bN | apply bD | refine bS ?_ GE154.out) | exact HB.out)⟩
    · rw [if_neg c7] at H
      have c7b0 : (a1 == 2) = false := beq_eq_false_iff_ne.mpr c7
      have c7b1 : (a1 != 2) = true := bne_iff_ne.mpr c7
      obtain rfl := Option.some.inj H
      go_enter Try.func57, Try.ntmps57
      go_wp2_with (first | ((with_reducible refine gD (N := 2) rfl ?_); refine bE ?hg (N := 2) ?hd (cs := #[.int .i64 a0_0, .int .i64 a0_1, .int .i64 a0_2, .bool a0_3]) (t := 26) ?hr ?_; (case hd => rfl); (case hg => rfl); (case hr => first | (go_simp; done) | (go_simp; rfl)); intro gb154 hg w11 hbox hb; have n0_ := am (bT (by repeat (first | (with_reducible first | exact HB.out | apply bA | apply bN | apply bD) | exact HB.out)) hb); have n1_ := am (hbox); have n2_ := am ((by rw [hg]; exact (bU (by repeat (first | (with_reducible first | exact HB.out | apply bA | apply bN | apply bD) | exact HB.out))) : w.heap.size ≤ gb154)); have n3_ := am ((by rw [hg]; exact (bU (by repeat (first | (with_reducible first | exact HB.out | apply bA | apply bN | apply bD) | exact HB.out))) : w.heap.size ≤ gb154)); clear HB; have HB := n0_; have BK154 := n1_; have GW154 := n2_; have GE154 := n3_; clear n0_ n1_ n2_ n3_; clear hb hbox hg; have hcz12_0 : w11.cell? ⟨gb154, 0, none⟩ = some (.int .i64 a0_0) := (bC BK154.out 0).trans rfl; have hcz12_1 : w11.cell? ⟨gb154, 1, none⟩ = some (.int .i64 a0_1) := (bC BK154.out 1).trans rfl; have hcz12_2 : w11.cell? ⟨gb154, 2, none⟩ = some (.int .i64 a0_2) := (bC BK154.out 2).trans rfl; have hcz12_3 : w11.cell? ⟨gb154, 3, none⟩ = some (.bool a0_3) := (bC BK154.out 3).trans rfl; have hfz12_0 := bZ BK154.out 0; have hfz12_1 := bZ BK154.out 1; have hfz12_2 := bZ BK154.out 2; have hfz12_3 := bZ BK154.out 3))
      go_ret
      exact ⟨by first | rfl | (simp [errW_none, errW_some] <;> rfl) | (simp [*, errW_none, errW_some] <;> rfl), by repeat (first | (with_reducible first | exact HB.out | apply bA | apply bN | apply bD | refine bS ?_ GE154.out) | exact HB.out)⟩

/-! ### dailiesref06_count: function 60 -/
def dailiesref06_count.f (a0_0 : Int) (a0_1 : Int) (a0_2 : Int) (a0_3 : Bool) : Option (Int) := if a0_3 = true then (some 4) else (some 3)
set_option maxHeartbeats 8000000 in
set_option maxRecDepth 100000 in
theorem dailiesref06_count.calls (a0_0 : Int) (a0_1 : Int) (a0_2 : Int) (a0_3 : Bool) (r : Int) (w : World) (h : dailiesref06_count.f a0_0 a0_1 a0_2 a0_3 = some r) :
    Calls Try.prog 60 #[.agg #[.int .i64 a0_0, .int .i64 a0_1, .int .i64 a0_2, .bool a0_3]] w fun e w' => e = .returned (.int .i64 r) ∧ Below w.heap.size w w' := by
  have hu26 := Try.underlying26
  have HB := am (Below.refl w.heap.size w)
  have H : (if a0_3 = true then (some 4) else (some 3)) = some r := h
  clear h
  by_cases c2 : a0_3 = true
  · subst c2
    have H1 : (some 4) = some r := by rw [if_pos rfl] at H; exact H
    clear H
    have H := H1
    clear H1
    obtain rfl := Option.some.inj H
    go_enter Try.func60, Try.ntmps60
    go_wp2_with (first | ((with_reducible refine gD (N := 1) rfl ?_); refine bE ?hg (N := 1) ?hd (cs := #[.int .i64 a0_0, .int .i64 a0_1, .int .i64 a0_2, .bool true]) (t := 26) ?hr ?_; (case hd => rfl); (case hg => rfl); (case hr => first | (go_simp; done) | (go_simp; rfl)); intro gb157 hg w3 hbox hb; have n0_ := am (bT (by repeat (first | (with_reducible first | exact HB.out | apply bA | apply bN | apply bD) | exact HB.out)) hb); have n1_ := am (hbox); have n2_ := am ((by rw [hg]; exact (bU (by repeat (first | (with_reducible first | exact HB.out | apply bA | apply bN | apply bD) | exact HB.out))) : w.heap.size ≤ gb157)); have n3_ := am ((by rw [hg]; exact (bU (by repeat (first | (with_reducible first | exact HB.out | apply bA | apply bN | apply bD) | exact HB.out))) : w.heap.size ≤ gb157)); clear HB; have HB := n0_; have BK157 := n1_; have GW157 := n2_; have GE157 := n3_; clear n0_ n1_ n2_ n3_; clear hb hbox hg; have hcz4_0 : w3.cell? ⟨gb157, 0, none⟩ = some (.int .i64 a0_0) := (bC BK157.out 0).trans rfl; have hcz4_1 : w3.cell? ⟨gb157, 1, none⟩ = some (.int .i64 a0_1) := (bC BK157.out 1).trans rfl; have hcz4_2 : w3.cell? ⟨gb157, 2, none⟩ = some (.int .i64 a0_2) := (bC BK157.out 2).trans rfl; have hcz4_3 : w3.cell? ⟨gb157, 3, none⟩ = some (.bool true) := (bC BK157.out 3).trans rfl; have hfz4_0 := bZ BK157.out 0; have hfz4_1 := bZ BK157.out 1; have hfz4_2 := bZ BK157.out 2; have hfz4_3 := bZ BK157.out 3))
    go_ret
    exact ⟨by first | rfl | (simp [errW_none, errW_some] <;> rfl) | (simp [*, errW_none, errW_some] <;> rfl), by repeat (first | (with_reducible first | exact HB.out | apply bA | apply bN | apply bD | refine bS ?_ GE157.out) | exact HB.out)⟩
  · replace c2 := Bool.eq_false_iff.mpr c2
    subst c2
    have H1 : (some 3) = some r := by rw [if_neg (show ¬ (false = true) by decide)] at H; exact H
    clear H
    have H := H1
    clear H1
    obtain rfl := Option.some.inj H
    go_enter Try.func60, Try.ntmps60
    go_wp2_with (first | ((with_reducible refine gD (N := 1) rfl ?_); refine bE ?hg (N := 1) ?hd (cs := #[.int .i64 a0_0, .int .i64 a0_1, .int .i64 a0_2, .bool false]) (t := 26) ?hr ?_; (case hd => rfl); (case hg => rfl); (case hr => first | (go_simp; done) | (go_simp; rfl)); intro gb157 hg w5 hbox hb; have n0_ := am (bT (by repeat (first | (with_reducible first | exact HB.out | apply bA | apply bN | apply bD) | exact HB.out)) hb); have n1_ := am (hbox); have n2_ := am ((by rw [hg]; exact (bU (by repeat (first | (with_reducible first | exact HB.out | apply bA | apply bN | apply bD) | exact HB.out))) : w.heap.size ≤ gb157)); have n3_ := am ((by rw [hg]; exact (bU (by repeat (first | (with_reducible first | exact HB.out | apply bA | apply bN | apply bD) | exact HB.out))) : w.heap.size ≤ gb157)); clear HB; have HB := n0_; have BK157 := n1_; have GW157 := n2_; have GE157 := n3_; clear n0_ n1_ n2_ n3_; clear hb hbox hg; have hcz6_0 : w5.cell? ⟨gb157, 0, none⟩ = some (.int .i64 a0_0) := (bC BK157.out 0).trans rfl; have hcz6_1 : w5.cell? ⟨gb157, 1, none⟩ = some (.int .i64 a0_1) := (bC BK157.out 1).trans rfl; have hcz6_2 : w5.cell? ⟨gb157, 2, none⟩ = some (.int .i64 a0_2) := (bC BK157.out 2).trans rfl; have hcz6_3 : w5.cell? ⟨gb157, 3, none⟩ = some (.bool false) := (bC BK157.out 3).trans rfl; have hfz6_0 := bZ BK157.out 0; have hfz6_1 := bZ BK157.out 1; have hfz6_2 := bZ BK157.out 2; have hfz6_3 := bZ BK157.out 3))
    go_ret
    exact ⟨by first | rfl | (simp [errW_none, errW_some] <;> rfl) | (simp [*, errW_none, errW_some] <;> rfl), by repeat (first | (with_reducible first | exact HB.out | apply bA | apply bN | apply bD | refine bS ?_ GE157.out) | exact HB.out)⟩

/-! ### dailiesref06_total: function 58 -/
def dailiesref06_total.l0 : Nat → Int → Int → Int → Int → Int → Bool → Option (Int)
  | 0, _, _, _, _, _, _ => none
  | k + 1, x3, x4, x159000, x159001, x159002, x159003 => (dailiesref06_count.f x159000 x159001 x159002 x159003).bind fun t159 => (if x4 < t159 then ((dailiesref06_wide.f x159000 x159001 x159002 x159003 x4).bind fun t160 => (dailiesref06_total.l0 k (wrap64 (x3 + (wrap64 (t160 * x159001)))) (wrap64 (x4 + 1)) x159000 x159001 x159002 x159003)) else (some x3))
def dailiesref06_total.f (k : Nat) (a0_0 : Int) (a0_1 : Int) (a0_2 : Int) (a0_3 : Bool) : Option (Int) := dailiesref06_total.l0 k 0 0 a0_0 a0_1 a0_2 a0_3
theorem dailiesref06_total.mono_l : ∀ k, (∀ y0 y1 y2 y3 y4 y5, LeO (dailiesref06_total.l0 k y0 y1 y2 y3 y4 y5) (dailiesref06_total.l0 (k + 1) y0 y1 y2 y3 y4 y5))
  | 0 => fun _ _ _ _ _ _ r h => by simp [dailiesref06_total.l0] at h
  | k + 1 => by
    have ih0 := dailiesref06_total.mono_l k
    · intro y0 y1 y2 y3 y4 y5
      unfold dailiesref06_total.l0
      repeat' first
      | (with_reducible exact ih0 _ _ _ _ _ _)
      | (with_reducible exact LeO.refl _)
      | (with_reducible exact LeO.none _)
      | (with_reducible refine LeO.ite ?_ ?_)
      | (with_reducible refine LeO.bind ?_ (fun _ => ?_))
      | exact ih0 _ _ _ _ _ _
      | exact LeO.none _
      | refine LeO.ite ?_ ?_
      | refine LeO.bind ?_ (fun _ => ?_)
theorem dailiesref06_total.mono : ∀ a0 a1 a2 a3 k, LeO (dailiesref06_total.f k a0 a1 a2 a3) (dailiesref06_total.f (k + 1) a0 a1 a2 a3) := by
  intro a0 a1 a2 a3 k
  have ih0 := dailiesref06_total.mono_l k
  unfold dailiesref06_total.f
  repeat' first
      | (with_reducible exact ih0 _ _ _ _ _ _)
      | (with_reducible exact LeO.refl _)
      | (with_reducible exact LeO.none _)
      | (with_reducible refine LeO.ite ?_ ?_)
      | (with_reducible refine LeO.bind ?_ (fun _ => ?_))
      | exact ih0 _ _ _ _ _ _
      | exact LeO.none _
      | refine LeO.ite ?_ ?_
      | refine LeO.bind ?_ (fun _ => ?_)
def dailiesref06_total.T5 : Bool × List (List Nat × List Nat) := (true, [([], []), ([], []), ([], []), ([1, 2], [1, 2]), ([], []), ([4], [4]), ([3, 5], [3, 5]), ([0, 6], [0, 6]), ([7, 3, 0, 1, 2, 3, 4, 5, 6, 7], [0, 7])])
def dailiesref06_total.B5 : List Nat := [0, 0, 0, 6, 0, 16, 62, 127, 255]
theorem dailiesref06_total.tab5 : rtab .any (opsOf Try.f58 5) = dailiesref06_total.T5 := by kernel_rfl
theorem dailiesref06_total.bits5 : waitsOk dailiesref06_total.T5.2 dailiesref06_total.B5 = true := by kernel_rfl
set_option maxHeartbeats 8000000 in
set_option maxRecDepth 100000 in
theorem dailiesref06_total.calls (k : Nat) (a0_0 : Int) (a0_1 : Int) (a0_2 : Int) (a0_3 : Bool) (r : Int) (w : World) (h : dailiesref06_total.f k a0_0 a0_1 a0_2 a0_3 = some r) :
    Calls Try.prog 58 #[.agg #[.int .i64 a0_0, .int .i64 a0_1, .int .i64 a0_2, .bool a0_3]] w fun e w' => e = .returned (.int .i64 r) ∧ Below w.heap.size w w' := by
  have hu26 := Try.underlying26
  have HB := am (Below.refl w.heap.size w)
  have H : (dailiesref06_total.l0 k 0 0 a0_0 a0_1 a0_2 a0_3) = some r := h
  clear h
  have H' := am H
  clear H
  go_enter Try.func58, Try.ntmps58
  go_wp2_with (first | ((with_reducible refine gD (N := 1) rfl ?_); refine bE ?hg (N := 1) ?hd (cs := #[.int .i64 a0_0, .int .i64 a0_1, .int .i64 a0_2, .bool a0_3]) (t := 26) ?hr ?_; (case hd => rfl); (case hg => rfl); (case hr => first | (go_simp; done) | (go_simp; rfl)); intro gb158 hg w2 hbox hb; have n0_ := am (bT (by repeat (first | (with_reducible first | exact HB.out | apply bA | apply bN | apply bD) | exact HB.out)) hb); have n1_ := am (hbox); have n2_ := am ((by rw [hg]; exact (bU (by repeat (first | (with_reducible first | exact HB.out | apply bA | apply bN | apply bD) | exact HB.out))) : w.heap.size ≤ gb158)); have n3_ := am ((by rw [hg]; exact (bU (by repeat (first | (with_reducible first | exact HB.out | apply bA | apply bN | apply bD) | exact HB.out))) : w.heap.size ≤ gb158)); clear HB; have HB := n0_; have BK158 := n1_; have GW158 := n2_; have GE158 := n3_; clear n0_ n1_ n2_ n3_; clear hb hbox hg))
  go_loopg [3, 4] k (fun kq v3 v4 w' => ∃ (x3_1 : Int) (x4_1 : Int), v3 = .int .i64 x3_1 ∧ v4 = .int .i64 x4_1 ∧ Aside0 (dailiesref06_total.l0 kq x3_1 x4_1 a0_0 a0_1 a0_2 a0_3 = some r) ∧ Aside0 (kq ≤ k) ∧ Aside0 (w'.heap[gb158]? = some (.cells #[.int .i64 a0_0, .int .i64 a0_1, .int .i64 a0_2, .bool a0_3] 26 (0, 0))) ∧ Aside0 (Below w.heap.size w w'))
  case atStart => exact ⟨(0), (0), (by first | rfl | (simp; done) | (simp [*]; done)), (by first | rfl | (simp; done) | (simp [*]; done)), H', ⟨Nat.le_refl _⟩, ⟨by (with_reducible repeat apply dX); exact BK158.out⟩, ⟨by repeat (first | (with_reducible first | exact HB.out | apply bA | apply bN | apply bD | refine bS ?_ GE158.out) | exact HB.out)⟩⟩
  case round =>
    clear H'
    try clear p2
    obtain ⟨x3_1, x4_1, rfl, rfl, HA, HK1, BK158, HB⟩ := hrel
    cases gk with
    | zero => exact absurd HA.out (by simp [dailiesref06_total.l0])
    | succ k1 =>
      have H := HA.out
      clear HA
      simp only [dailiesref06_total.l0] at H
      replace H := Option.bind_eq_some_iff.mp H
      obtain ⟨t159, A30, H⟩ := H
      replace H : (if x4_1 < t159 then ((dailiesref06_wide.f a0_0 a0_1 a0_2 a0_3 x4_1).bind fun t160 => (dailiesref06_total.l0 k1 (wrap64 (x3_1 + (wrap64 (t160 * a0_1)))) (wrap64 (x4_1 + 1)) a0_0 a0_1 a0_2 a0_3)) else (some x3_1)) = some r := H
      have A3 := am A30
      clear A30
      by_cases c4 : x4_1 < t159
      · rw [if_pos c4] at H
        have c4b0 : decide (x4_1 < t159) = true := decide_eq_true c4
        clear c4
        replace H := Option.bind_eq_some_iff.mp H
        obtain ⟨t160, A50, H⟩ := H
        replace H : (dailiesref06_total.l0 k1 (wrap64 (x3_1 + (wrap64 (t160 * a0_1)))) (wrap64 (x4_1 + 1)) a0_0 a0_1 a0_2 a0_3) = some r := H
        have A5 := am A50
        clear A50
        have H' := am H
        clear H
        have hcz6_0 : wr.cell? ⟨gb158, 0, none⟩ = some (.int .i64 a0_0) := (bC BK158.out 0).trans rfl
        have hcz6_1 : wr.cell? ⟨gb158, 1, none⟩ = some (.int .i64 a0_1) := (bC BK158.out 1).trans rfl
        have hcz6_2 : wr.cell? ⟨gb158, 2, none⟩ = some (.int .i64 a0_2) := (bC BK158.out 2).trans rfl
        have hcz6_3 : wr.cell? ⟨gb158, 3, none⟩ = some (.bool a0_3) := (bC BK158.out 3).trans rfl
        have hfz6_0 := bZ BK158.out 0
        have hfz6_1 := bZ BK158.out 1
        have hfz6_2 := bZ BK158.out 2
        have hfz6_3 := bZ BK158.out 3
        try go_wp2_with (first | ((with_reducible refine gate_callee (f := 60) rfl ?_); refine goesL_ (some 7) rfl rfl Try.func60 (by kernel_rfl) rfl #[.agg #[.int .i64 a0_0, .int .i64 a0_1, .int .i64 a0_2, .bool a0_3]] rfl (by (try simp only [List.map_toArray, List.map_cons, List.map_nil]); first | done | rfl | (simp only [List.length_drop, List.length_take]; rfl)) ?_; (with_reducible refine (dailiesref06_count.calls a0_0 a0_1 a0_2 a0_3 t159 _ A3.out).mono ?_); rintro e w7 ⟨rfl, hb⟩; refine ⟨_, rfl, ?_⟩; have n0_ := am (bB (g := gb158) (o := .cells #[.int .i64 a0_0, .int .i64 a0_1, .int .i64 a0_2, .bool a0_3] 26 (0, 0)) (by (with_reducible repeat apply dX); exact BK158.out) hb); have n1_ := am (bT (by repeat (first | (with_reducible first | exact HB.out | apply bA | apply bN | apply bD | refine bS ?_ GE158.out) | exact HB.out)) hb); clear BK158; clear HB; have BK158 := n0_; have HB := n1_; clear n0_ n1_; (try clear hb); (try clear hb2); (try clear hk); (try clear hi)))
        have n0_ := am (blk_drew BK158.out)
        have n1_ := am (bD HB.out)
        clear BK158
        clear HB
        have BK158 := n0_
        have HB := n1_
        clear n0_ n1_
        refine start_ (n := 9) (S := fun w' => w'.cell? ⟨gb158, 0, none⟩ = some (.int .i64 a0_0) ∧ w'.cell? ⟨gb158, 1, none⟩ = some (.int .i64 a0_1) ∧ w'.cell? ⟨gb158, 2, none⟩ = some (.int .i64 a0_2) ∧ w'.cell? ⟨gb158, 3, none⟩ = some (.bool a0_3)) (ds := []) #[false, false, false, false, false, false, false, false, false] (by kernel_rfl) rfl rfl ⟨(bC BK158.out 0).trans rfl, (bC BK158.out 1).trans rfl, (bC BK158.out 2).trans rfl, (bC BK158.out 3).trans rfl⟩ (fun hHeld => ?_); refine with_tabW dailiesref06_total.tab5 dailiesref06_total.bits5 (fun HT_ HW_ => ?_)
        generalize w7.drew = w8 at BK158 HB hHeld ⊢
        refine pure_ (i := 0) (N := some 11) (v := ?_) (a' := ?_) #[true, false, false, false, false, false, false, false, false] rfl rfl (any_of HT_.out (by kernel_rfl)) (fun _ _ _ h => h) (Or.inl ⟨by rfl, ?_⟩) ?_ ?_
        rotate_left
        · intro w'
          go_simp
          with_reducible rfl
        rotate_left
        · simp only [Act.put, List.setIfInBounds_toArray, List.set_cons_zero, List.set_cons_succ, i64_w, i32_w]
          rfl
        refine pure_ (i := 2) (N := some 13) (v := ?_) (a' := ?_) #[true, false, true, false, false, false, false, false, false] rfl rfl (any_of HT_.out (by kernel_rfl)) (fun _ _ _ h => h) (Or.inl ⟨by rfl, ?_⟩) ?_ ?_
        rotate_left
        · intro w'
          go_simp
          with_reducible rfl
        rotate_left
        · simp only [Act.put, List.setIfInBounds_toArray, List.set_cons_zero, List.set_cons_succ, i64_w, i32_w]
          rfl
        refine pure_ (i := 4) (N := some 15) (v := ?_) (a' := ?_) #[true, false, true, false, true, false, false, false, false] rfl rfl (any_of HT_.out (by kernel_rfl)) (fun _ _ _ h => h) (Or.inl ⟨by rfl, ?_⟩) ?_ ?_
        rotate_left
        · intro w'
          go_simp
          with_reducible rfl
        rotate_left
        · simp only [Act.put, List.setIfInBounds_toArray, List.set_cons_zero, List.set_cons_succ, i64_w, i32_w]
          rfl
        refine take_ (i := 1) (N := some 12) (v := ?_) (a' := ?_) #[true, true, true, false, true, false, false, false, false] rfl rfl (take_ofW HT_.out HW_.out (by kernel_rfl)) (fun _ _ _ h => h) (Or.inl ⟨by rfl, ?_⟩) hHeld ?_ ?_
        rotate_left
        · rintro w' ⟨s0, s1, s2, s3⟩
          go_simp
          with_reducible rfl
        rotate_left
        · simp only [Act.put, List.setIfInBounds_toArray, List.set_cons_zero, List.set_cons_succ, i64_w, i32_w]
          rfl
        refine take_ (i := 5) (N := some 16) (v := ?_) (a' := ?_) #[true, true, true, false, true, true, false, false, false] rfl rfl (take_ofW HT_.out HW_.out (by kernel_rfl)) (fun _ _ _ h => h) (Or.inl ⟨by rfl, ?_⟩) hHeld ?_ ?_
        rotate_left
        · rintro w' ⟨s0, s1, s2, s3⟩
          go_simp
          with_reducible rfl
        rotate_left
        · simp only [Act.put, List.setIfInBounds_toArray, List.set_cons_zero, List.set_cons_succ, i64_w, i32_w]
          rfl
        refine one_ (i := 3) (N := some 14) #[true, true, true, true, true, true, false, false, false] rfl rfl (one_of HT_.out (by kernel_rfl)) (by decide) (fun K hK => ?_)
        refine goes_ Try.func57 (by kernel_rfl) rfl #[.agg #[.int .i64 a0_0, .int .i64 a0_1, .int .i64 a0_2, .bool a0_3], .int .i64 x4_1] (by rfl) rfl rfl (by (try simp only [List.map_toArray, List.map_cons, List.map_nil]); first | done | rfl | (simp only [List.length_drop, List.length_take]; rfl)) ?_
        with_reducible refine (dailiesref06_wide.calls a0_0 a0_1 a0_2 a0_3 x4_1 t160 _ A5.out).mono ?_
        rintro e w9 ⟨rfl, hb⟩
        refine ⟨_, rfl, ?_⟩
        have n0_ := am (bB (g := gb158) (o := .cells #[.int .i64 a0_0, .int .i64 a0_1, .int .i64 a0_2, .bool a0_3] 26 (0, 0)) (by (with_reducible repeat apply dX); exact BK158.out) hb)
        have n1_ := am (bT (by repeat (first | (with_reducible first | exact HB.out | apply bA | apply bN | apply bD | refine bS ?_ GE158.out) | exact HB.out)) hb)
        clear BK158
        clear HB
        have BK158 := n0_
        have HB := n1_
        clear n0_ n1_
        (try clear hb)
        (try clear hb2)
        (try clear hk)
        (try clear hi)
        refine hK.out _ _ ⟨(bC BK158.out 0).trans rfl, (bC BK158.out 1).trans rfl, (bC BK158.out 2).trans rfl, (bC BK158.out 3).trans rfl⟩ (fun hHeld => ?_)
        clear hK K
        refine norm_ (a' := ?_) ?_ ?_
        rotate_left
        · show Act.put _ (some 14) _ = _
          simp only [Act.put, List.setIfInBounds_toArray, List.set_cons_zero, List.set_cons_succ, i64_w, i32_w]
          rfl
        refine pure_ (i := 6) (N := some 17) (v := ?_) (a' := ?_) #[true, true, true, true, true, true, true, false, false] rfl rfl (any_of HT_.out (by kernel_rfl)) (fun _ _ _ h => h) (Or.inl ⟨by rfl, ?_⟩) ?_ ?_
        rotate_left
        · intro w'
          go_simp
          with_reducible rfl
        rotate_left
        · simp only [Act.put, List.setIfInBounds_toArray, List.set_cons_zero, List.set_cons_succ, i64_w, i32_w]
          rfl
        refine pure_ (i := 7) (N := some 18) (v := ?_) (a' := ?_) #[true, true, true, true, true, true, true, true, false] rfl rfl (any_of HT_.out (by kernel_rfl)) (fun _ _ _ h => h) (Or.inl ⟨by rfl, ?_⟩) ?_ ?_
        rotate_left
        · intro w'
          go_simp
          with_reducible rfl
        rotate_left
        · simp only [Act.put, List.setIfInBounds_toArray, List.set_cons_zero, List.set_cons_succ, i64_w, i32_w]
          rfl
        refine pure_ (i := 8) (N := some 3) (v := ?_) (a' := ?_) #[true, true, true, true, true, true, true, true, true] rfl rfl (any_of HT_.out (by kernel_rfl)) (fun _ _ _ h => h) (Or.inl ⟨by rfl, ?_⟩) ?_ ?_
        rotate_left
        · intro w'
          go_simp
          with_reducible rfl
        rotate_left
        · simp only [Act.put, List.setIfInBounds_toArray, List.set_cons_zero, List.set_cons_succ, i64_w, i32_w]
          rfl
        refine done_ (done_of HT_.out (by kernel_rfl)) ?_
        try go_wp2
        go_roundg k1
        case measure => have := HK1.out; omega
        case rel => exact ⟨(wrap64 (x3_1 + (wrap64 (t160 * a0_1)))), (wrap64 (x4_1 + 1)), (by first | rfl | (simp; done) | (simp [*]; done)), (by first | rfl | (simp; done) | (simp [*]; done)), H', ⟨by have := HK1.out; omega⟩, ⟨by (with_reducible repeat apply dX); exact BK158.out⟩, ⟨by repeat (first | (with_reducible first | exact HB.out | apply bA | apply bN | apply bD | refine bS ?_ GE158.out) | exact HB.out)⟩⟩
      · rw [if_neg c4] at H
        have c4b0 : decide (x4_1 < t159) = false := decide_eq_false c4
        clear c4
        obtain rfl := Option.some.inj H
        have hcz10_0 : wr.cell? ⟨gb158, 0, none⟩ = some (.int .i64 a0_0) := (bC BK158.out 0).trans rfl
        have hcz10_1 : wr.cell? ⟨gb158, 1, none⟩ = some (.int .i64 a0_1) := (bC BK158.out 1).trans rfl
        have hcz10_2 : wr.cell? ⟨gb158, 2, none⟩ = some (.int .i64 a0_2) := (bC BK158.out 2).trans rfl
        have hcz10_3 : wr.cell? ⟨gb158, 3, none⟩ = some (.bool a0_3) := (bC BK158.out 3).trans rfl
        have hfz10_0 := bZ BK158.out 0
        have hfz10_1 := bZ BK158.out 1
        have hfz10_2 := bZ BK158.out 2
        have hfz10_3 := bZ BK158.out 3
        go_wp2_with (first | ((with_reducible refine gate_callee (f := 60) rfl ?_); refine goesL_ (some 7) rfl rfl Try.func60 (by kernel_rfl) rfl #[.agg #[.int .i64 a0_0, .int .i64 a0_1, .int .i64 a0_2, .bool a0_3]] rfl (by (try simp only [List.map_toArray, List.map_cons, List.map_nil]); first | done | rfl | (simp only [List.length_drop, List.length_take]; rfl)) ?_; (with_reducible refine (dailiesref06_count.calls a0_0 a0_1 a0_2 a0_3 t159 _ A3.out).mono ?_); rintro e w11 ⟨rfl, hb⟩; refine ⟨_, rfl, ?_⟩; have n0_ := am (bB (g := gb158) (o := .cells #[.int .i64 a0_0, .int .i64 a0_1, .int .i64 a0_2, .bool a0_3] 26 (0, 0)) (by (with_reducible repeat apply dX); exact BK158.out) hb); have n1_ := am (bT (by repeat (first | (with_reducible first | exact HB.out | apply bA | apply bN | apply bD | refine bS ?_ GE158.out) | exact HB.out)) hb); clear BK158; clear HB; have BK158 := n0_; have HB := n1_; clear n0_ n1_; (try clear hb); (try clear hb2); (try clear hk); (try clear hi)))
        go_ret
        exact ⟨by first | rfl | (simp [errW_none, errW_some] <;> rfl) | (simp [*, errW_none, errW_some] <;> rfl), by repeat (first | (with_reducible first | exact HB.out | apply bA | apply bN | apply bD | refine bS ?_ GE158.out) | exact HB.out)⟩

end Go.Proofs.Ytdoikehkibefpaa.PPf
