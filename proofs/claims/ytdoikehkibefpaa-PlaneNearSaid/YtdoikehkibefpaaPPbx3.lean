-- Laid by a program of this session (wip/tools/prx.py), over the kit's printer of walks; Lean checks it.
import Derived.Test.YtdoikehkibefpaaPPbx0
import Derived.Test.YtdoikehkibefpaaPPbx2
namespace Go.Proofs.Ytdoikehkibefpaa.PPb
open Go.RowKit Go.Proofs.YtdoikehkibefpaaW.PrintWords Go.Proofs.YtdoikehkibefpaaW.PrintLast Go.Proofs.YtdoikehkibefpaaW.PrintMore
open Go.Proofs.YtdoikehkibefpaaW.PrintWords renaming blk_far → bF, below_set → bS, blk_frozen → bZ, below_alloc → bA, pw_below_drewN → bN, below_drew1 → bD, blk_below → bB, blk_cell → bC, blk_set → bs, blk_lt → bL, blk_put → bP, below_step → bT, below_size → bU, box_event → bE, gate_dst → gD
open Go.Proofs.YtdoikehkibefpaaW.PrintWords.Kd renaming S_far → kF, S_types → kT, S_alloc → kA, S_drewN → kN, S_drew → kD
set_option linter.unusedVariables false
set_option linter.unusedSimpArgs false

/-! ### plane_Valid: function 29 -/
mutual
def plane_Valid.l0 : Nat → List (List Int) → Int → Int → Int → Int → Int → Bool → List (List Int) → Option (Int)
 | 0, _, _, _, _, _, _, _, _ => none
 | k + 1, x22, x23, x24, x114000, x114001, x114002, x114003, x114004 => if x24 < x23 then (if 0 ≤ x24 then (if x24 < (x22.length : Int) then ((plane_width.f x114000 x114001 x114002 x114003 x24).bind fun t117 => (if ((rd_L1 x22 x24).length : Int) = (wrap64 (t117 * x114001)) then (plane_Valid.l0 k x22 x23 (wrap64 (x24 + 1)) x114000 x114001 x114002 x114003 x114004) else (some 63))) else (none)) else (none)) else (plane_Valid.l1 k x114004 (x114004.length : Int) 0 x114000 x114001 x114002 x114003 x114004)
def plane_Valid.l1 : Nat → List (List Int) → Int → Int → Int → Int → Int → Bool → List (List Int) → Option (Int)
 | 0, _, _, _, _, _, _, _, _ => none
 | k + 1, x42, x43, x44, x114000, x114001, x114002, x114003, x114004 => if x44 < x43 then (if 0 ≤ x44 then (if x44 < (x42.length : Int) then ((plane_within.f (rd_L1 x42 x44) x114002).bind fun t119 => (if t119 = true then (plane_Valid.l1 k x42 x43 (wrap64 (x44 + 1)) x114000 x114001 x114002 x114003 x114004) else (some 64))) else (none)) else (none)) else (some 0)
end
def plane_Valid.f (k : Nat) (a0_0 : Int) (a0_1 : Int) (a0_2 : Int) (a0_3 : Bool) (l0_4 : List (List Int)) : Option (Int) := (plane_Shaped.f k a0_0 a0_1 a0_2 a0_3).bind fun t114 => (if t114 = 0 then ((plane_planes.f a0_0 a0_1 a0_2 a0_3).bind fun t115 => (if (l0_4.length : Int) = t115 then (plane_Valid.l0 k l0_4 (l0_4.length : Int) 0 a0_0 a0_1 a0_2 a0_3 l0_4) else (some 62))) else (some t114))
theorem plane_Valid.mono_l : ∀ k, (∀ y0 y1 y2 y3 y4 y5 y6 y7, LeO (plane_Valid.l0 k y0 y1 y2 y3 y4 y5 y6 y7) (plane_Valid.l0 (k + 1) y0 y1 y2 y3 y4 y5 y6 y7)) ∧ (∀ y0 y1 y2 y3 y4 y5 y6 y7, LeO (plane_Valid.l1 k y0 y1 y2 y3 y4 y5 y6 y7) (plane_Valid.l1 (k + 1) y0 y1 y2 y3 y4 y5 y6 y7))
 | 0 => ⟨fun _ _ _ _ _ _ _ _ r h => by simp [plane_Valid.l0] at h, fun _ _ _ _ _ _ _ _ r h => by simp [plane_Valid.l1] at h⟩
 | k + 1 => by
  obtain ⟨ih0, ih1⟩ := plane_Valid.mono_l k
  refine ⟨?_, ?_⟩
  ·intro y0 y1 y2 y3 y4 y5 y6 y7
   unfold plane_Valid.l0
   repeat' first
   | (with_reducible exact ih0 _ _ _ _ _ _ _ _)
   | (with_reducible exact ih1 _ _ _ _ _ _ _ _)
   | (with_reducible exact plane_Shaped.mono _ _ _ _ _)
   | (with_reducible exact LeO.refl _)
   | (with_reducible exact LeO.none _)
   | (with_reducible refine LeO.ite ?_ ?_)
   | (with_reducible refine LeO.bind ?_ (fun _ => ?_))
   | exact ih0 _ _ _ _ _ _ _ _
   | exact ih1 _ _ _ _ _ _ _ _
   | exact plane_Shaped.mono _ _ _ _ _
   | exact LeO.none _
   | refine LeO.ite ?_ ?_
   | refine LeO.bind ?_ (fun _ => ?_)
  ·intro y0 y1 y2 y3 y4 y5 y6 y7
   unfold plane_Valid.l1
   repeat' first
   | (with_reducible exact ih0 _ _ _ _ _ _ _ _)
   | (with_reducible exact ih1 _ _ _ _ _ _ _ _)
   | (with_reducible exact plane_Shaped.mono _ _ _ _ _)
   | (with_reducible exact LeO.refl _)
   | (with_reducible exact LeO.none _)
   | (with_reducible refine LeO.ite ?_ ?_)
   | (with_reducible refine LeO.bind ?_ (fun _ => ?_))
   | exact ih0 _ _ _ _ _ _ _ _
   | exact ih1 _ _ _ _ _ _ _ _
   | exact plane_Shaped.mono _ _ _ _ _
   | exact LeO.none _
   | refine LeO.ite ?_ ?_
   | refine LeO.bind ?_ (fun _ => ?_)
theorem plane_Valid.mono : ∀ a0 a1 a2 a3 a4 k, LeO (plane_Valid.f k a0 a1 a2 a3 a4) (plane_Valid.f (k + 1) a0 a1 a2 a3 a4) := by
 intro a0 a1 a2 a3 a4 k
 obtain ⟨ih0, ih1⟩ := plane_Valid.mono_l k
 unfold plane_Valid.f
 repeat' first
   | (with_reducible exact ih0 _ _ _ _ _ _ _ _)
   | (with_reducible exact ih1 _ _ _ _ _ _ _ _)
   | (with_reducible exact plane_Shaped.mono _ _ _ _ _)
   | (with_reducible exact LeO.refl _)
   | (with_reducible exact LeO.none _)
   | (with_reducible refine LeO.ite ?_ ?_)
   | (with_reducible refine LeO.bind ?_ (fun _ => ?_))
   | exact ih0 _ _ _ _ _ _ _ _
   | exact ih1 _ _ _ _ _ _ _ _
   | exact plane_Shaped.mono _ _ _ _ _
   | exact LeO.none _
   | refine LeO.ite ?_ ?_
   | refine LeO.bind ?_ (fun _ => ?_)
def plane_Valid.T9 : Bool × List (List Nat × List Nat) := (true, [([], []), ([0], [0]), ([], []), ([2], [2]), ([], []), ([3, 4], [3, 4]), ([], []), ([6], [6]), ([7], [7]), ([5, 8], [5, 8]), ([1, 9], [1, 9])])
def plane_Valid.B9 : List Nat := [0, 1, 0, 4, 0, 28, 0, 64, 192, 508, 1023]
theorem plane_Valid.tab9 : rtab .any (opsOf Try.f29 9) = plane_Valid.T9 := by kernel_rfl
theorem plane_Valid.bits9 : waitsOk plane_Valid.T9.2 plane_Valid.B9 = true := by kernel_rfl
set_option maxHeartbeats 8000000 in
set_option maxRecDepth 100000 in
theorem plane_Valid.calls (k : Nat) (a0_0 : Int) (a0_1 : Int) (a0_2 : Int) (a0_3 : Bool) (A0_4 : Option Addr) (c0_4 : Nat) (l0_4 : List (List Int)) (r : Int) (w : World) (hr0_4 : Kd.C (Kd.slice 72 (Kd.int .u16)) w A0_4 l0_4.length l0_4) (hc0_4 : l0_4.length ≤ c0_4) (h : plane_Valid.f k a0_0 a0_1 a0_2 a0_3 l0_4 = some r) :
  Calls Try.prog 29 #[.agg #[.int .i64 a0_0, .int .i64 a0_1, .int .i64 a0_2, .bool a0_3, .slice A0_4 l0_4.length c0_4]] w fun e w' => e = .returned (.int .i64 r) ∧ Below w.heap.size w w' := by
 have hu39 := Try.underlying39
 have hu26 := Try.underlying26
 have HR0_4 := am hr0_4
 have HC0_4 := am hc0_4
 clear hr0_4 hc0_4
 have HB := am (Below.refl w.heap.size w)
 have H : ((plane_Shaped.f k a0_0 a0_1 a0_2 a0_3).bind fun t114 => (if t114 = 0 then ((plane_planes.f a0_0 a0_1 a0_2 a0_3).bind fun t115 => (if (l0_4.length : Int) = t115 then (plane_Valid.l0 k l0_4 (l0_4.length : Int) 0 a0_0 a0_1 a0_2 a0_3 l0_4) else (some 62))) else (some t114))) = some r := h
 clear h
 replace H := Option.bind_eq_some_iff.mp H
 obtain ⟨t114, A20, H⟩ := H
 replace H : (if t114 = 0 then ((plane_planes.f a0_0 a0_1 a0_2 a0_3).bind fun t115 => (if (l0_4.length : Int) = t115 then (plane_Valid.l0 k l0_4 (l0_4.length : Int) 0 a0_0 a0_1 a0_2 a0_3 l0_4) else (some 62))) else (some t114)) = some r := H
 have A2 := am A20
 clear A20
 by_cases c3 : t114 = 0
 ·rw [if_pos c3] at H
  have c3b0 : (t114 == 0) = true := beq_iff_eq.mpr c3
  have c3b1 : (t114 != 0) = false := bne_eq_false_iff_eq.mpr c3
  clear c3
  replace H := Option.bind_eq_some_iff.mp H
  obtain ⟨t115, A40, H⟩ := H
  replace H : (if (l0_4.length : Int) = t115 then (plane_Valid.l0 k l0_4 (l0_4.length : Int) 0 a0_0 a0_1 a0_2 a0_3 l0_4) else (some 62)) = some r := H
  have A4 := am A40
  clear A40
  by_cases c5 : (l0_4.length : Int) = t115
  ·rw [if_pos c5] at H
   have c5b0 : ((l0_4.length : Int) == t115) = true := beq_iff_eq.mpr c5
   have c5b1 : ((l0_4.length : Int) != t115) = false := bne_eq_false_iff_eq.mpr c5
   clear c5
   have H' := am H
   clear H
   go_enter Try.func29, Try.ntmps29
   try go_wp2_with (first | ((with_reducible refine gD (N := 1) rfl ?_); refine bE ?hg (N := 1) ?hd (cs := #[.int .i64 a0_0, .int .i64 a0_1, .int .i64 a0_2, .bool a0_3, .slice A0_4 l0_4.length c0_4]) (t := 39) ?hr ?_; (case hd => rfl); (case hg => rfl); (case hr => first | (go_simp; done) | (go_simp; rfl)); intro gb113 hg w6 hbox hb; have n0_ := am (bT (by repeat (first | (with_reducible first | exact HB.out | apply bA | apply bN | apply bD) | exact HB.out)) hb); have n1_ := am (hbox); have n2_ := am ((by rw [hg]; exact (bU (by repeat (first | (with_reducible first | exact HB.out | apply bA | apply bN | apply bD) | exact HB.out))) : w.heap.size ≤ gb113)); have n3_ := am ((by rw [hg]; exact (bU (by repeat (first | (with_reducible first | exact HB.out | apply bA | apply bN | apply bD) | exact HB.out))) : w.heap.size ≤ gb113)); clear HB; have HB := n0_; have BK113 := n1_; have GW113 := n2_; have GE113 := n3_; clear n0_ n1_ n2_ n3_; clear hb hbox hg; have hcz7_0 : w6.cell? ⟨gb113, 0, none⟩ = some (.int .i64 a0_0) := (bC BK113.out 0).trans rfl; have hcz7_1 : w6.cell? ⟨gb113, 1, none⟩ = some (.int .i64 a0_1) := (bC BK113.out 1).trans rfl; have hcz7_2 : w6.cell? ⟨gb113, 2, none⟩ = some (.int .i64 a0_2) := (bC BK113.out 2).trans rfl; have hcz7_3 : w6.cell? ⟨gb113, 3, none⟩ = some (.bool a0_3) := (bC BK113.out 3).trans rfl; have hcz7_4 : w6.cell? ⟨gb113, 4, none⟩ = some (.slice A0_4 l0_4.length c0_4) := (bC BK113.out 4).trans rfl; have hfz7_0 := bZ BK113.out 0; have hfz7_1 := bZ BK113.out 1; have hfz7_2 := bZ BK113.out 2; have hfz7_3 := bZ BK113.out 3; have hfz7_4 := bZ BK113.out 4) | ((with_reducible refine gate_callee (f := 17) rfl ?_); refine goesL_ (some 10) rfl rfl Try.func17 (by kernel_rfl) rfl #[.agg #[.int .i64 a0_0, .int .i64 a0_1, .int .i64 a0_2, .bool a0_3]] rfl (by (try simp only [List.map_toArray, List.map_cons, List.map_nil]); first | done | rfl | (simp only [List.length_drop, List.length_take]; rfl)) ?_; (with_reducible refine (plane_Shaped.calls k a0_0 a0_1 a0_2 a0_3 t114 _ A2.out).mono ?_); rintro e w8 ⟨rfl, hb⟩; refine ⟨_, rfl, ?_⟩; have n0_ := am (bB (g := gb113) (o := .cells #[.int .i64 a0_0, .int .i64 a0_1, .int .i64 a0_2, .bool a0_3, .slice A0_4 l0_4.length c0_4] 39 (0, 0)) (by (with_reducible repeat apply dX); exact BK113.out) hb); have n1_ := am (bT (by repeat (first | (with_reducible first | exact HB.out | apply bA | apply bN | apply bD | refine bS ?_ GE113.out) | exact HB.out)) hb); clear BK113; clear HB; have BK113 := n0_; have HB := n1_; clear n0_ n1_; (try clear hb); (try clear hb2); (try clear hk); (try clear hi)))
   have n0_ := am (blk_drew BK113.out)
   have n1_ := am (bD HB.out)
   clear BK113
   clear HB
   have BK113 := n0_
   have HB := n1_
   clear n0_ n1_
   refine start_ (n := 7) (S := fun w' => w'.cell? ⟨gb113, 0, none⟩ = some (.int .i64 a0_0) ∧ w'.cell? ⟨gb113, 1, none⟩ = some (.int .i64 a0_1) ∧ w'.cell? ⟨gb113, 2, none⟩ = some (.int .i64 a0_2) ∧ w'.cell? ⟨gb113, 3, none⟩ = some (.bool a0_3) ∧ w'.cell? ⟨gb113, 4, none⟩ = some (.slice A0_4 l0_4.length c0_4)) (ds := []) #[false, false, false, false, false, false, false] (by kernel_rfl) rfl rfl ⟨(bC BK113.out 0).trans rfl, (bC BK113.out 1).trans rfl, (bC BK113.out 2).trans rfl, (bC BK113.out 3).trans rfl, (bC BK113.out 4).trans rfl⟩ (fun hHeld => ?_)
   generalize w8.drew = w9 at BK113 HB hHeld ⊢
   refine pure_ (i := 0) (N := some 14) (v := ?_) (a' := ?_) #[true, false, false, false, false, false, false] rfl rfl (by kernel_rfl) (fun _ _ _ h => h) (Or.inl ⟨by rfl, ?_⟩) ?_ ?_
   rotate_left
   ·intro w'
    go_simp
    with_reducible rfl
   rotate_left
   ·simp only [Act.put, List.setIfInBounds_toArray, List.set_cons_zero, List.set_cons_succ, i64_w, i32_w]
    rfl
   refine pure_ (i := 3) (N := some 17) (v := ?_) (a' := ?_) #[true, false, false, true, false, false, false] rfl rfl (by kernel_rfl) (fun _ _ _ h => h) (Or.inl ⟨by rfl, ?_⟩) ?_ ?_
   rotate_left
   ·intro w'
    go_simp
    with_reducible rfl
   rotate_left
   ·simp only [Act.put, List.setIfInBounds_toArray, List.set_cons_zero, List.set_cons_succ, i64_w, i32_w]
    rfl
   refine take_ (i := 1) (N := some 15) (v := ?_) (a' := ?_) #[true, true, false, true, false, false, false] rfl rfl (by kernel_rfl) (fun _ _ _ h => h) (Or.inl ⟨by rfl, ?_⟩) hHeld ?_ ?_
   rotate_left
   ·rintro w' ⟨s0, s1, s2, s3, s4⟩
    go_simp
    with_reducible rfl
   rotate_left
   ·simp only [Act.put, List.setIfInBounds_toArray, List.set_cons_zero, List.set_cons_succ, i64_w, i32_w]
    rfl
   refine pure_ (i := 2) (N := some 16) (v := ?_) (a' := ?_) #[true, true, true, true, false, false, false] rfl rfl (by kernel_rfl) (fun _ _ _ h => h) (Or.inl ⟨by rfl, ?_⟩) ?_ ?_
   rotate_left
   ·intro w'
    go_simp
    with_reducible rfl
   rotate_left
   ·simp only [Act.put, List.setIfInBounds_toArray, List.set_cons_zero, List.set_cons_succ, i64_w, i32_w]
    rfl
   refine take_ (i := 4) (N := some 18) (v := ?_) (a' := ?_) #[true, true, true, true, true, false, false] rfl rfl (by kernel_rfl) (fun _ _ _ h => h) (Or.inl ⟨by rfl, ?_⟩) hHeld ?_ ?_
   rotate_left
   ·rintro w' ⟨s0, s1, s2, s3, s4⟩
    go_simp
    with_reducible rfl
   rotate_left
   ·simp only [Act.put, List.setIfInBounds_toArray, List.set_cons_zero, List.set_cons_succ, i64_w, i32_w]
    rfl
   refine one_ (i := 5) (N := some 19) #[true, true, true, true, true, true, false] rfl rfl (by kernel_rfl) (by decide) (fun K hK => ?_)
   refine goes_ Try.func62 (by kernel_rfl) rfl #[.agg #[.int .i64 a0_0, .int .i64 a0_1, .int .i64 a0_2, .bool a0_3]] (by rfl) rfl rfl (by (try simp only [List.map_toArray, List.map_cons, List.map_nil]); first | done | rfl | (simp only [List.length_drop, List.length_take]; rfl)) ?_
   with_reducible refine (plane_planes.calls a0_0 a0_1 a0_2 a0_3 t115 _ A4.out).mono ?_
   rintro e w10 ⟨rfl, hb⟩
   refine ⟨_, rfl, ?_⟩
   have n0_ := am (bB (g := gb113) (o := .cells #[.int .i64 a0_0, .int .i64 a0_1, .int .i64 a0_2, .bool a0_3, .slice A0_4 l0_4.length c0_4] 39 (0, 0)) (by (with_reducible repeat apply dX); exact BK113.out) hb)
   have n1_ := am (bT (by repeat (first | (with_reducible first | exact HB.out | apply bA | apply bN | apply bD | refine bS ?_ GE113.out) | exact HB.out)) hb)
   clear BK113
   clear HB
   have BK113 := n0_
   have HB := n1_
   clear n0_ n1_
   (try clear hb)
   (try clear hb2)
   (try clear hk)
   (try clear hi)
   refine hK.out _ _ ⟨(bC BK113.out 0).trans rfl, (bC BK113.out 1).trans rfl, (bC BK113.out 2).trans rfl, (bC BK113.out 3).trans rfl, (bC BK113.out 4).trans rfl⟩ (fun hHeld => ?_)
   clear hK K
   refine norm_ (a' := ?_) ?_ ?_
   rotate_left
   ·show Act.put _ (some 19) _ = _
    simp only [Act.put, List.setIfInBounds_toArray, List.set_cons_zero, List.set_cons_succ, i64_w, i32_w]
    rfl
   refine pure_ (i := 6) (N := some 20) (v := ?_) (a' := ?_) #[true, true, true, true, true, true, true] rfl rfl (by kernel_rfl) (fun _ _ _ h => h) (Or.inl ⟨by rfl, ?_⟩) ?_ ?_
   rotate_left
   ·intro w'
    go_simp
    with_reducible rfl
   rotate_left
   ·simp only [Act.put, List.setIfInBounds_toArray, List.set_cons_zero, List.set_cons_succ, i64_w, i32_w]
    rfl
   refine done_ (by kernel_rfl) ?_
   have hcz11_0 : w10.cell? ⟨gb113, 0, none⟩ = some (.int .i64 a0_0) := (bC BK113.out 0).trans rfl
   have hcz11_1 : w10.cell? ⟨gb113, 1, none⟩ = some (.int .i64 a0_1) := (bC BK113.out 1).trans rfl
   have hcz11_2 : w10.cell? ⟨gb113, 2, none⟩ = some (.int .i64 a0_2) := (bC BK113.out 2).trans rfl
   have hcz11_3 : w10.cell? ⟨gb113, 3, none⟩ = some (.bool a0_3) := (bC BK113.out 3).trans rfl
   have hcz11_4 : w10.cell? ⟨gb113, 4, none⟩ = some (.slice A0_4 l0_4.length c0_4) := (bC BK113.out 4).trans rfl
   have hfz11_0 := bZ BK113.out 0
   have hfz11_1 := bZ BK113.out 1
   have hfz11_2 := bZ BK113.out 2
   have hfz11_3 := bZ BK113.out 3
   have hfz11_4 := bZ BK113.out 4
   try go_wp2
   go_loopg [24] k (fun kq v24 w' => ∃ (x24_1 : Int), v24 = .int .i64 x24_1 ∧ Aside0 (plane_Valid.l0 kq l0_4 (l0_4.length : Int) x24_1 a0_0 a0_1 a0_2 a0_3 l0_4 = some r) ∧ Aside0 (kq ≤ k) ∧ Aside0 (w'.heap[gb113]? = some (.cells #[.int .i64 a0_0, .int .i64 a0_1, .int .i64 a0_2, .bool a0_3, (.slice A0_4 l0_4.length c0_4)] 39 (0, 0))) ∧ Aside0 (Below w.heap.size w w'))
   case atStart => exact ⟨(0), (by first | rfl | (simp; done) | (simp [*]; done)), H', ⟨Nat.le_refl _⟩, ⟨by (with_reducible repeat apply dX); exact BK113.out⟩, ⟨by repeat (first | (with_reducible first | exact HB.out | apply bA | apply bN | apply bD | refine bS ?_ GE113.out) | exact HB.out)⟩⟩
   case round =>
    clear H'
    try clear c1
    try clear c2
    try clear p2
    try clear c3
    try clear c3b0
    try clear c3b1
    try clear c5
    try clear c5b0
    try clear c5b1
    try clear c6
    try clear hcz11_0
    try clear hcz11_1
    try clear hcz11_2
    try clear hcz11_3
    try clear hcz11_4
    try clear hcz7_0
    try clear hcz7_1
    try clear hcz7_2
    try clear hcz7_3
    try clear hcz7_4
    try clear hfz11_0
    try clear hfz11_1
    try clear hfz11_2
    try clear hfz11_3
    try clear hfz11_4
    try clear hfz7_0
    try clear hfz7_1
    try clear hfz7_2
    try clear hfz7_3
    try clear hfz7_4
    obtain ⟨x24_1, rfl, HA, HK1, BK113, HB⟩ := hrel
    cases gk with
    | zero => exact absurd HA.out (by simp [plane_Valid.l0])
    | succ k1 =>
     have H := HA.out
     clear HA
     simp only [plane_Valid.l0] at H
     by_cases c12 : x24_1 < (l0_4.length : Int)
     ·rw [if_pos c12] at H
      have c12b0 : decide (x24_1 < (l0_4.length : Int)) = true := decide_eq_true c12
      clear c12
      by_cases c13 : 0 ≤ x24_1
      ·rw [if_pos c13] at H
       have c13b0 : decide (0 ≤ x24_1) = true := decide_eq_true c13
       clear c13
       by_cases c14 : x24_1 < (l0_4.length : Int)
       ·rw [if_pos c14] at H
        have c14b0 : decide (x24_1 < (l0_4.length : Int)) = true := decide_eq_true c14
        clear c14
        replace H := Option.bind_eq_some_iff.mp H
        obtain ⟨t117, A150, H⟩ := H
        replace H : (if ((rd_L1 l0_4 x24_1).length : Int) = (wrap64 (t117 * a0_1)) then (plane_Valid.l0 k1 l0_4 (l0_4.length : Int) (wrap64 (x24_1 + 1)) a0_0 a0_1 a0_2 a0_3 l0_4) else (some 63)) = some r := H
        have A15 := am A150
        clear A150
        by_cases c16 : ((rd_L1 l0_4 x24_1).length : Int) = (wrap64 (t117 * a0_1))
        ·rw [if_pos c16] at H
         have c16b0 : (((rd_L1 l0_4 x24_1).length : Int) == (wrap64 (t117 * a0_1))) = true := beq_iff_eq.mpr c16
         have c16b1 : (((rd_L1 l0_4 x24_1).length : Int) != (wrap64 (t117 * a0_1))) = false := bne_eq_false_iff_eq.mpr c16
         clear c16
         have H' := am H
         clear H
         have p116 : 0 ≤ (x24_1 : Int) := of_decide_eq_true (by first | (with_reducible assumption) | assumption)
         have q116 : x24_1 < (l0_4.length : Int) := of_decide_eq_true (by first | (with_reducible assumption) | assumption)
         obtain ⟨ad116, A116_0, c116_0, e116, hx116_0, hl116_0, hi116_0⟩ := at_L1 HR0_4.out x24_1 p116 q116
         cases e116
         replace hx116_0 := (HB.out.cell (World.block_lt_of_cell? w _ hx116_0)).trans hx116_0
         have HR116_0 := am hi116_0
         have HC116_0 := am hl116_0
         clear hi116_0 hl116_0
         replace p116 := eq_true p116
         replace q116 := eq_true q116
         try go_wp2
         have n0_ := am (blk_drew BK113.out)
         have n1_ := am (bD HB.out)
         clear BK113
         clear HB
         have BK113 := n0_
         have HB := n1_
         clear n0_ n1_
         refine start_ (n := 11) (S := fun w' => w'.cell? ⟨gb113, 0, none⟩ = some (.int .i64 a0_0) ∧ w'.cell? ⟨gb113, 1, none⟩ = some (.int .i64 a0_1) ∧ w'.cell? ⟨gb113, 2, none⟩ = some (.int .i64 a0_2) ∧ w'.cell? ⟨gb113, 3, none⟩ = some (.bool a0_3) ∧ w'.cell? ⟨gb113, 4, none⟩ = some (.slice (some ad116) l0_4.length c0_4)) (ds := []) #[false, false, false, false, false, false, false, false, false, false, false] (by kernel_rfl) rfl rfl ⟨(bC BK113.out 0).trans rfl, (bC BK113.out 1).trans rfl, (bC BK113.out 2).trans rfl, (bC BK113.out 3).trans rfl, (bC BK113.out 4).trans rfl⟩ (fun hHeld => ?_); refine with_tabW plane_Valid.tab9 plane_Valid.bits9 (fun HT_ HW_ => ?_)
         generalize wr.drew = w17 at BK113 HB hHeld ⊢
         refine pure_ (i := 0) (N := some 29) (v := ?_) (a' := ?_) #[true, false, false, false, false, false, false, false, false, false, false] rfl rfl (any_of HT_.out (by kernel_rfl)) (fun _ _ _ h => h) (Or.inl ⟨by rfl, ?_⟩) ?_ ?_
         rotate_left
         ·intro w'
          go_simp
          with_reducible rfl
         rotate_left
         ·simp only [Act.put, List.setIfInBounds_toArray, List.set_cons_zero, List.set_cons_succ, i64_w, i32_w]
          rfl
         refine pure_ (i := 1) (N := some 30) (v := ?_) (a' := ?_) #[true, true, false, false, false, false, false, false, false, false, false] rfl rfl (any_of HT_.out (by kernel_rfl)) (fun _ _ _ h => h) (Or.inl ⟨by rfl, ?_⟩) ?_ ?_
         rotate_left
         ·intro w'
          go_simp
          with_reducible rfl
         rotate_left
         ·simp only [Act.put, List.setIfInBounds_toArray, List.set_cons_zero, List.set_cons_succ, i64_w, i32_w]
          rfl
         refine pure_ (i := 2) (N := some 31) (v := ?_) (a' := ?_) #[true, true, true, false, false, false, false, false, false, false, false] rfl rfl (any_of HT_.out (by kernel_rfl)) (fun _ _ _ h => h) (Or.inl ⟨by rfl, ?_⟩) ?_ ?_
         rotate_left
         ·intro w'
          go_simp
          with_reducible rfl
         rotate_left
         ·simp only [Act.put, List.setIfInBounds_toArray, List.set_cons_zero, List.set_cons_succ, i64_w, i32_w]
          rfl
         refine pure_ (i := 4) (N := some 33) (v := ?_) (a' := ?_) #[true, true, true, false, true, false, false, false, false, false, false] rfl rfl (any_of HT_.out (by kernel_rfl)) (fun _ _ _ h => h) (Or.inl ⟨by rfl, ?_⟩) ?_ ?_
         rotate_left
         ·intro w'
          go_simp
          with_reducible rfl
         rotate_left
         ·simp only [Act.put, List.setIfInBounds_toArray, List.set_cons_zero, List.set_cons_succ, i64_w, i32_w]
          rfl
         refine pure_ (i := 6) (N := some 35) (v := ?_) (a' := ?_) #[true, true, true, false, true, false, true, false, false, false, false] rfl rfl (any_of HT_.out (by kernel_rfl)) (fun _ _ _ h => h) (Or.inl ⟨by rfl, ?_⟩) ?_ ?_
         rotate_left
         ·intro w'
          go_simp
          with_reducible rfl
         rotate_left
         ·simp only [Act.put, List.setIfInBounds_toArray, List.set_cons_zero, List.set_cons_succ, i64_w, i32_w]
          rfl
         refine pure_ (i := 7) (N := some 36) (v := ?_) (a' := ?_) #[true, true, true, false, true, false, true, true, false, false, false] rfl rfl (any_of HT_.out (by kernel_rfl)) (fun _ _ _ h => h) (Or.inl ⟨by rfl, ?_⟩) ?_ ?_
         rotate_left
         ·intro w'
          go_simp
          with_reducible rfl
         rotate_left
         ·simp only [Act.put, List.setIfInBounds_toArray, List.set_cons_zero, List.set_cons_succ, i64_w, i32_w]
          rfl
         refine take_ (i := 3) (N := some 32) (v := ?_) (a' := ?_) #[true, true, true, true, true, false, true, true, false, false, false] rfl rfl (take_ofW HT_.out HW_.out (by kernel_rfl)) (fun _ _ _ h => h) (Or.inl ⟨by rfl, ?_⟩) hHeld ?_ ?_
         rotate_left
         ·rintro w' ⟨s0, s1, s2, s3, s4⟩
          go_simp
          with_reducible rfl
         rotate_left
         ·simp only [Act.put, List.setIfInBounds_toArray, List.set_cons_zero, List.set_cons_succ, i64_w, i32_w]
          rfl
         refine take_ (i := 8) (N := some 37) (v := ?_) (a' := ?_) #[true, true, true, true, true, false, true, true, true, false, false] rfl rfl (take_ofW HT_.out HW_.out (by kernel_rfl)) (fun _ _ _ h => h) (Or.inl ⟨by rfl, ?_⟩) hHeld ?_ ?_
         rotate_left
         ·rintro w' ⟨s0, s1, s2, s3, s4⟩
          go_simp
          with_reducible rfl
         rotate_left
         ·simp only [Act.put, List.setIfInBounds_toArray, List.set_cons_zero, List.set_cons_succ, i64_w, i32_w]
          rfl
         refine one_ (i := 5) (N := some 34) #[true, true, true, true, true, true, true, true, true, false, false] rfl rfl (one_of HT_.out (by kernel_rfl)) (by decide) (fun K hK => ?_)
         refine goes_ Try.func55 (by kernel_rfl) rfl #[.agg #[.int .i64 a0_0, .int .i64 a0_1, .int .i64 a0_2, .bool a0_3], .int .i64 x24_1] (by rfl) rfl rfl (by (try simp only [List.map_toArray, List.map_cons, List.map_nil]); first | done | rfl | (simp only [List.length_drop, List.length_take]; rfl)) ?_
         with_reducible refine (plane_width.calls a0_0 a0_1 a0_2 a0_3 x24_1 t117 _ A15.out).mono ?_
         rintro e w18 ⟨rfl, hb⟩
         refine ⟨_, rfl, ?_⟩
         have n0_ := am (bB (g := gb113) (o := .cells #[.int .i64 a0_0, .int .i64 a0_1, .int .i64 a0_2, .bool a0_3, .slice (some ad116) l0_4.length c0_4] 39 (0, 0)) (by (with_reducible repeat apply dX); exact BK113.out) hb)
         have n1_ := am (bT (by repeat (first | (with_reducible first | exact HB.out | apply bA | apply bN | apply bD | refine bS ?_ GE113.out) | exact HB.out)) hb)
         clear BK113
         clear HB
         have BK113 := n0_
         have HB := n1_
         clear n0_ n1_
         (try clear hb)
         (try clear hb2)
         (try clear hk)
         (try clear hi)
         refine hK.out _ _ ⟨(bC BK113.out 0).trans rfl, (bC BK113.out 1).trans rfl, (bC BK113.out 2).trans rfl, (bC BK113.out 3).trans rfl, (bC BK113.out 4).trans rfl⟩ (fun hHeld => ?_)
         clear hK K
         refine norm_ (a' := ?_) ?_ ?_
         rotate_left
         ·show Act.put _ (some 34) _ = _
          simp only [Act.put, List.setIfInBounds_toArray, List.set_cons_zero, List.set_cons_succ, i64_w, i32_w]
          rfl
         refine pure_ (i := 9) (N := some 38) (v := ?_) (a' := ?_) #[true, true, true, true, true, true, true, true, true, true, false] rfl rfl (any_of HT_.out (by kernel_rfl)) (fun _ _ _ h => h) (Or.inl ⟨by rfl, ?_⟩) ?_ ?_
         rotate_left
         ·intro w'
          go_simp
          with_reducible rfl
         rotate_left
         ·simp only [Act.put, List.setIfInBounds_toArray, List.set_cons_zero, List.set_cons_succ, i64_w, i32_w]
          rfl
         refine pure_ (i := 10) (N := some 39) (v := ?_) (a' := ?_) #[true, true, true, true, true, true, true, true, true, true, true] rfl rfl (any_of HT_.out (by kernel_rfl)) (fun _ _ _ h => h) (Or.inl ⟨by rfl, ?_⟩) ?_ ?_
         rotate_left
         ·intro w'
          go_simp
          with_reducible rfl
         rotate_left
         ·simp only [Act.put, List.setIfInBounds_toArray, List.set_cons_zero, List.set_cons_succ, i64_w, i32_w]
          rfl
         refine done_ (done_of HT_.out (by kernel_rfl)) ?_
         try go_wp2
         go_roundg k1
         case measure => have := HK1.out; omega
         case rel => exact ⟨(wrap64 (x24_1 + 1)), (by first | rfl | (simp; done) | (simp [*]; done)), H', ⟨by have := HK1.out; omega⟩, ⟨by (with_reducible repeat apply dX); exact BK113.out⟩, ⟨by repeat (first | (with_reducible first | exact HB.out | apply bA | apply bN | apply bD | refine bS ?_ GE113.out) | exact HB.out)⟩⟩
        ·rw [if_neg c16] at H
         have c16b0 : (((rd_L1 l0_4 x24_1).length : Int) == (wrap64 (t117 * a0_1))) = false := beq_eq_false_iff_ne.mpr c16
         have c16b1 : (((rd_L1 l0_4 x24_1).length : Int) != (wrap64 (t117 * a0_1))) = true := bne_iff_ne.mpr c16
         obtain rfl := Option.some.inj H
         have p116 : 0 ≤ (x24_1 : Int) := of_decide_eq_true (by first | (with_reducible assumption) | assumption)
         have q116 : x24_1 < (l0_4.length : Int) := of_decide_eq_true (by first | (with_reducible assumption) | assumption)
         obtain ⟨ad116, A116_0, c116_0, e116, hx116_0, hl116_0, hi116_0⟩ := at_L1 HR0_4.out x24_1 p116 q116
         cases e116
         replace hx116_0 := (HB.out.cell (World.block_lt_of_cell? w _ hx116_0)).trans hx116_0
         have HR116_0 := am hi116_0
         have HC116_0 := am hl116_0
         clear hi116_0 hl116_0
         replace p116 := eq_true p116
         replace q116 := eq_true q116
         try go_wp2
         have n0_ := am (blk_drew BK113.out)
         have n1_ := am (bD HB.out)
         clear BK113
         clear HB
         have BK113 := n0_
         have HB := n1_
         clear n0_ n1_
         refine start_ (n := 11) (S := fun w' => w'.cell? ⟨gb113, 0, none⟩ = some (.int .i64 a0_0) ∧ w'.cell? ⟨gb113, 1, none⟩ = some (.int .i64 a0_1) ∧ w'.cell? ⟨gb113, 2, none⟩ = some (.int .i64 a0_2) ∧ w'.cell? ⟨gb113, 3, none⟩ = some (.bool a0_3) ∧ w'.cell? ⟨gb113, 4, none⟩ = some (.slice (some ad116) l0_4.length c0_4)) (ds := []) #[false, false, false, false, false, false, false, false, false, false, false] (by kernel_rfl) rfl rfl ⟨(bC BK113.out 0).trans rfl, (bC BK113.out 1).trans rfl, (bC BK113.out 2).trans rfl, (bC BK113.out 3).trans rfl, (bC BK113.out 4).trans rfl⟩ (fun hHeld => ?_); refine with_tabW plane_Valid.tab9 plane_Valid.bits9 (fun HT_ HW_ => ?_)
         generalize wr.drew = w19 at BK113 HB hHeld ⊢
         refine pure_ (i := 0) (N := some 29) (v := ?_) (a' := ?_) #[true, false, false, false, false, false, false, false, false, false, false] rfl rfl (any_of HT_.out (by kernel_rfl)) (fun _ _ _ h => h) (Or.inl ⟨by rfl, ?_⟩) ?_ ?_
         rotate_left
         ·intro w'
          go_simp
          with_reducible rfl
         rotate_left
         ·simp only [Act.put, List.setIfInBounds_toArray, List.set_cons_zero, List.set_cons_succ, i64_w, i32_w]
          rfl
         refine pure_ (i := 1) (N := some 30) (v := ?_) (a' := ?_) #[true, true, false, false, false, false, false, false, false, false, false] rfl rfl (any_of HT_.out (by kernel_rfl)) (fun _ _ _ h => h) (Or.inl ⟨by rfl, ?_⟩) ?_ ?_
         rotate_left
         ·intro w'
          go_simp
          with_reducible rfl
         rotate_left
         ·simp only [Act.put, List.setIfInBounds_toArray, List.set_cons_zero, List.set_cons_succ, i64_w, i32_w]
          rfl
         refine pure_ (i := 2) (N := some 31) (v := ?_) (a' := ?_) #[true, true, true, false, false, false, false, false, false, false, false] rfl rfl (any_of HT_.out (by kernel_rfl)) (fun _ _ _ h => h) (Or.inl ⟨by rfl, ?_⟩) ?_ ?_
         rotate_left
         ·intro w'
          go_simp
          with_reducible rfl
         rotate_left
         ·simp only [Act.put, List.setIfInBounds_toArray, List.set_cons_zero, List.set_cons_succ, i64_w, i32_w]
          rfl
         refine pure_ (i := 4) (N := some 33) (v := ?_) (a' := ?_) #[true, true, true, false, true, false, false, false, false, false, false] rfl rfl (any_of HT_.out (by kernel_rfl)) (fun _ _ _ h => h) (Or.inl ⟨by rfl, ?_⟩) ?_ ?_
         rotate_left
         ·intro w'
          go_simp
          with_reducible rfl
         rotate_left
         ·simp only [Act.put, List.setIfInBounds_toArray, List.set_cons_zero, List.set_cons_succ, i64_w, i32_w]
          rfl
         refine pure_ (i := 6) (N := some 35) (v := ?_) (a' := ?_) #[true, true, true, false, true, false, true, false, false, false, false] rfl rfl (any_of HT_.out (by kernel_rfl)) (fun _ _ _ h => h) (Or.inl ⟨by rfl, ?_⟩) ?_ ?_
         rotate_left
         ·intro w'
          go_simp
          with_reducible rfl
         rotate_left
         ·simp only [Act.put, List.setIfInBounds_toArray, List.set_cons_zero, List.set_cons_succ, i64_w, i32_w]
          rfl
         refine pure_ (i := 7) (N := some 36) (v := ?_) (a' := ?_) #[true, true, true, false, true, false, true, true, false, false, false] rfl rfl (any_of HT_.out (by kernel_rfl)) (fun _ _ _ h => h) (Or.inl ⟨by rfl, ?_⟩) ?_ ?_
         rotate_left
         ·intro w'
          go_simp
          with_reducible rfl
         rotate_left
         ·simp only [Act.put, List.setIfInBounds_toArray, List.set_cons_zero, List.set_cons_succ, i64_w, i32_w]
          rfl
         refine take_ (i := 3) (N := some 32) (v := ?_) (a' := ?_) #[true, true, true, true, true, false, true, true, false, false, false] rfl rfl (take_ofW HT_.out HW_.out (by kernel_rfl)) (fun _ _ _ h => h) (Or.inl ⟨by rfl, ?_⟩) hHeld ?_ ?_
         rotate_left
         ·rintro w' ⟨s0, s1, s2, s3, s4⟩
          go_simp
          with_reducible rfl
         rotate_left
         ·simp only [Act.put, List.setIfInBounds_toArray, List.set_cons_zero, List.set_cons_succ, i64_w, i32_w]
          rfl
         refine take_ (i := 8) (N := some 37) (v := ?_) (a' := ?_) #[true, true, true, true, true, false, true, true, true, false, false] rfl rfl (take_ofW HT_.out HW_.out (by kernel_rfl)) (fun _ _ _ h => h) (Or.inl ⟨by rfl, ?_⟩) hHeld ?_ ?_
         rotate_left
         ·rintro w' ⟨s0, s1, s2, s3, s4⟩
          go_simp
          with_reducible rfl
         rotate_left
         ·simp only [Act.put, List.setIfInBounds_toArray, List.set_cons_zero, List.set_cons_succ, i64_w, i32_w]
          rfl
         refine one_ (i := 5) (N := some 34) #[true, true, true, true, true, true, true, true, true, false, false] rfl rfl (one_of HT_.out (by kernel_rfl)) (by decide) (fun K hK => ?_)
         refine goes_ Try.func55 (by kernel_rfl) rfl #[.agg #[.int .i64 a0_0, .int .i64 a0_1, .int .i64 a0_2, .bool a0_3], .int .i64 x24_1] (by rfl) rfl rfl (by (try simp only [List.map_toArray, List.map_cons, List.map_nil]); first | done | rfl | (simp only [List.length_drop, List.length_take]; rfl)) ?_
         with_reducible refine (plane_width.calls a0_0 a0_1 a0_2 a0_3 x24_1 t117 _ A15.out).mono ?_
         rintro e w20 ⟨rfl, hb⟩
         refine ⟨_, rfl, ?_⟩
         have n0_ := am (bB (g := gb113) (o := .cells #[.int .i64 a0_0, .int .i64 a0_1, .int .i64 a0_2, .bool a0_3, .slice (some ad116) l0_4.length c0_4] 39 (0, 0)) (by (with_reducible repeat apply dX); exact BK113.out) hb)
         have n1_ := am (bT (by repeat (first | (with_reducible first | exact HB.out | apply bA | apply bN | apply bD | refine bS ?_ GE113.out) | exact HB.out)) hb)
         clear BK113
         clear HB
         have BK113 := n0_
         have HB := n1_
         clear n0_ n1_
         (try clear hb)
         (try clear hb2)
         (try clear hk)
         (try clear hi)
         refine hK.out _ _ ⟨(bC BK113.out 0).trans rfl, (bC BK113.out 1).trans rfl, (bC BK113.out 2).trans rfl, (bC BK113.out 3).trans rfl, (bC BK113.out 4).trans rfl⟩ (fun hHeld => ?_)
         clear hK K
         refine norm_ (a' := ?_) ?_ ?_
         rotate_left
         ·show Act.put _ (some 34) _ = _
          simp only [Act.put, List.setIfInBounds_toArray, List.set_cons_zero, List.set_cons_succ, i64_w, i32_w]
          rfl
         refine pure_ (i := 9) (N := some 38) (v := ?_) (a' := ?_) #[true, true, true, true, true, true, true, true, true, true, false] rfl rfl (any_of HT_.out (by kernel_rfl)) (fun _ _ _ h => h) (Or.inl ⟨by rfl, ?_⟩) ?_ ?_
         rotate_left
         ·intro w'
          go_simp
          with_reducible rfl
         rotate_left
         ·simp only [Act.put, List.setIfInBounds_toArray, List.set_cons_zero, List.set_cons_succ, i64_w, i32_w]
          rfl
         refine pure_ (i := 10) (N := some 39) (v := ?_) (a' := ?_) #[true, true, true, true, true, true, true, true, true, true, true] rfl rfl (any_of HT_.out (by kernel_rfl)) (fun _ _ _ h => h) (Or.inl ⟨by rfl, ?_⟩) ?_ ?_
         rotate_left
         ·intro w'
          go_simp
          with_reducible rfl
         rotate_left
         ·simp only [Act.put, List.setIfInBounds_toArray, List.set_cons_zero, List.set_cons_succ, i64_w, i32_w]
          rfl
         refine done_ (done_of HT_.out (by kernel_rfl)) ?_
         try go_wp2
         go_ret
         exact ⟨by first | rfl | (simp [errW_none, errW_some] <;> rfl) | (simp [*, errW_none, errW_some] <;> rfl), by repeat (first | (with_reducible first | exact HB.out | apply bA | apply bN | apply bD | refine bS ?_ GE113.out) | exact HB.out)⟩
       ·rw [if_neg c14] at H
        exact absurd H (by simp)
      ·rw [if_neg c13] at H
       exact absurd H (by simp)
     ·rw [if_neg c12] at H
      have c12b0 : decide (x24_1 < (l0_4.length : Int)) = false := decide_eq_false c12
      clear c12
      have H' := am H
      clear H
      have hcz21_0 : wr.cell? ⟨gb113, 0, none⟩ = some (.int .i64 a0_0) := (bC BK113.out 0).trans rfl
      have hcz21_1 : wr.cell? ⟨gb113, 1, none⟩ = some (.int .i64 a0_1) := (bC BK113.out 1).trans rfl
      have hcz21_2 : wr.cell? ⟨gb113, 2, none⟩ = some (.int .i64 a0_2) := (bC BK113.out 2).trans rfl
      have hcz21_3 : wr.cell? ⟨gb113, 3, none⟩ = some (.bool a0_3) := (bC BK113.out 3).trans rfl
      have hcz21_4 : wr.cell? ⟨gb113, 4, none⟩ = some (.slice A0_4 l0_4.length c0_4) := (bC BK113.out 4).trans rfl
      have hfz21_0 := bZ BK113.out 0
      have hfz21_1 := bZ BK113.out 1
      have hfz21_2 := bZ BK113.out 2
      have hfz21_3 := bZ BK113.out 3
      have hfz21_4 := bZ BK113.out 4
      go_wp2
      go_loopg [44] k1 (fun kq v44 w' => ∃ (x44_2 : Int), v44 = .int .i64 x44_2 ∧ Aside0 (plane_Valid.l1 kq l0_4 (l0_4.length : Int) x44_2 a0_0 a0_1 a0_2 a0_3 l0_4 = some r) ∧ Aside0 (kq ≤ k1) ∧ Aside0 (w'.heap[gb113]? = some (.cells #[.int .i64 a0_0, .int .i64 a0_1, .int .i64 a0_2, .bool a0_3, (.slice A0_4 l0_4.length c0_4)] 39 (0, 0))) ∧ Aside0 (Below w.heap.size w w'))
      case atStart => exact ⟨(0), (by first | rfl | (simp; done) | (simp [*]; done)), H', ⟨Nat.le_refl _⟩, ⟨by (with_reducible repeat apply dX); exact BK113.out⟩, ⟨by repeat (first | (with_reducible first | exact HB.out | apply bA | apply bN | apply bD | refine bS ?_ GE113.out) | exact HB.out)⟩⟩
      case round =>
       clear H'
       try clear c1
       try clear p1
       try clear q1
       try clear hx1
       try clear c2
       try clear p2
       try clear c3
       try clear c3b0
       try clear c3b1
       try clear c5
       try clear c5b0
       try clear c5b1
       try clear c6
       try clear p6
       try clear c11
       try clear p11
       try clear q11
       try clear hx11
       try clear c12
       try clear c12b0
       try clear c13
       try clear c13b0
       try clear c14
       try clear c14b0
       try clear c16
       try clear c16b0
       try clear c16b1
       try clear c17
       try clear hcz11_0
       try clear hcz11_1
       try clear hcz11_2
       try clear hcz11_3
       try clear hcz11_4
       try clear hcz21_0
       try clear hcz21_1
       try clear hcz21_2
       try clear hcz21_3
       try clear hcz21_4
       try clear hcz7_0
       try clear hcz7_1
       try clear hcz7_2
       try clear hcz7_3
       try clear hcz7_4
       try clear hfz11_0
       try clear hfz11_1
       try clear hfz11_2
       try clear hfz11_3
       try clear hfz11_4
       try clear hfz21_0
       try clear hfz21_1
       try clear hfz21_2
       try clear hfz21_3
       try clear hfz21_4
       try clear hfz7_0
       try clear hfz7_1
       try clear hfz7_2
       try clear hfz7_3
       try clear hfz7_4
       try clear hx116_0
       try clear p116
       try clear p2
       try clear q116
       obtain ⟨x44_2, rfl, HA, HK2, BK113, HB⟩ := hrel
       cases gk with
       | zero => exact absurd HA.out (by simp [plane_Valid.l1])
       | succ k2 =>
        have H := HA.out
        clear HA
        simp only [plane_Valid.l1] at H
        by_cases c22 : x44_2 < (l0_4.length : Int)
        ·rw [if_pos c22] at H
         have c22b0 : decide (x44_2 < (l0_4.length : Int)) = true := decide_eq_true c22
         clear c22
         by_cases c23 : 0 ≤ x44_2
         ·rw [if_pos c23] at H
          have c23b0 : decide (0 ≤ x44_2) = true := decide_eq_true c23
          clear c23
          by_cases c24 : x44_2 < (l0_4.length : Int)
          ·rw [if_pos c24] at H
           have c24b0 : decide (x44_2 < (l0_4.length : Int)) = true := decide_eq_true c24
           clear c24
           replace H := Option.bind_eq_some_iff.mp H
           obtain ⟨t119, A250, H⟩ := H
           replace H : (if t119 = true then (plane_Valid.l1 k2 l0_4 (l0_4.length : Int) (wrap64 (x44_2 + 1)) a0_0 a0_1 a0_2 a0_3 l0_4) else (some 64)) = some r := H
           have A25 := am A250
           clear A250
           by_cases c26 : t119 = true
           ·subst c26
            have H1 : (plane_Valid.l1 k2 l0_4 (l0_4.length : Int) (wrap64 (x44_2 + 1)) a0_0 a0_1 a0_2 a0_3 l0_4) = some r := by rw [if_pos rfl] at H; exact H
            clear H
            have H := H1
            clear H1
            have H' := am H
            clear H
            have p118 : 0 ≤ (x44_2 : Int) := of_decide_eq_true (by first | (with_reducible assumption) | assumption)
            have q118 : x44_2 < (l0_4.length : Int) := of_decide_eq_true (by first | (with_reducible assumption) | assumption)
            obtain ⟨ad118, A118_0, c118_0, e118, hx118_0, hl118_0, hi118_0⟩ := at_L1 HR0_4.out x44_2 p118 q118
            cases e118
            replace hx118_0 := (HB.out.cell (World.block_lt_of_cell? w _ hx118_0)).trans hx118_0
            have HR118_0 := am hi118_0
            have HC118_0 := am hl118_0
            clear hi118_0 hl118_0
            replace p118 := eq_true p118
            replace q118 := eq_true q118
            have hcz27_0 : wr.cell? ⟨gb113, 0, none⟩ = some (.int .i64 a0_0) := (bC BK113.out 0).trans rfl
            have hcz27_1 : wr.cell? ⟨gb113, 1, none⟩ = some (.int .i64 a0_1) := (bC BK113.out 1).trans rfl
            have hcz27_2 : wr.cell? ⟨gb113, 2, none⟩ = some (.int .i64 a0_2) := (bC BK113.out 2).trans rfl
            have hcz27_3 : wr.cell? ⟨gb113, 3, none⟩ = some (.bool a0_3) := (bC BK113.out 3).trans rfl
            have hcz27_4 : wr.cell? ⟨gb113, 4, none⟩ = some (.slice (some ad118) l0_4.length c0_4) := (bC BK113.out 4).trans rfl
            have hfz27_0 := bZ BK113.out 0
            have hfz27_1 := bZ BK113.out 1
            have hfz27_2 := bZ BK113.out 2
            have hfz27_3 := bZ BK113.out 3
            have hfz27_4 := bZ BK113.out 4
            go_wp2_with (first | ((with_reducible refine gate_callee (f := 63) rfl ?_); refine goesL_ (some 52) rfl rfl Try.func63 (by kernel_rfl) rfl #[.slice A118_0 (rd_L1 l0_4 x44_2).length c118_0, .int .i64 a0_2] rfl (by (try simp only [List.map_toArray, List.map_cons, List.map_nil]); first | done | rfl | (simp only [List.length_drop, List.length_take]; rfl)) ?_; (with_reducible refine (plane_within.calls _ _ (rd_L1 l0_4 x44_2) a0_2 true _ ?side1 ?side2 A25.out).mono ?_); (case side1 => repeat (first | exact (Kd.C_below HR118_0.out HB.out) | (with_reducible refine Kd.C_alloc ?_ _) | (with_reducible refine Kd.C_drewN ?_ _) | (with_reducible refine Kd.C_drew ?_))); (case side2 => exact HC118_0.out); rintro e w28 ⟨rfl, hb⟩; refine ⟨_, rfl, ?_⟩; have n0_ := am (bB (g := gb113) (o := .cells #[.int .i64 a0_0, .int .i64 a0_1, .int .i64 a0_2, .bool a0_3, .slice (some ad118) l0_4.length c0_4] 39 (0, 0)) (by (with_reducible repeat apply dX); exact BK113.out) hb); have n1_ := am (bT (by repeat (first | (with_reducible first | exact HB.out | apply bA | apply bN | apply bD | refine bS ?_ GE113.out) | exact HB.out)) hb); clear BK113; clear HB; have BK113 := n0_; have HB := n1_; clear n0_ n1_; (try clear hb); (try clear hb2); (try clear hk); (try clear hi)))
            go_roundg k2
            case measure => have := HK1.out; have := HK2.out; omega
            case rel => exact ⟨(wrap64 (x44_2 + 1)), (by first | rfl | (simp; done) | (simp [*]; done)), H', ⟨by have := HK1.out; have := HK2.out; omega⟩, ⟨by (with_reducible repeat apply dX); exact BK113.out⟩, ⟨by repeat (first | (with_reducible first | exact HB.out | apply bA | apply bN | apply bD | refine bS ?_ GE113.out) | exact HB.out)⟩⟩
           ·replace c26 := Bool.eq_false_iff.mpr c26
            subst c26
            have H1 : (some 64) = some r := by rw [if_neg (show ¬ (false = true) by decide)] at H; exact H
            clear H
            have H := H1
            clear H1
            obtain rfl := Option.some.inj H
            have p118 : 0 ≤ (x44_2 : Int) := of_decide_eq_true (by first | (with_reducible assumption) | assumption)
            have q118 : x44_2 < (l0_4.length : Int) := of_decide_eq_true (by first | (with_reducible assumption) | assumption)
            obtain ⟨ad118, A118_0, c118_0, e118, hx118_0, hl118_0, hi118_0⟩ := at_L1 HR0_4.out x44_2 p118 q118
            cases e118
            replace hx118_0 := (HB.out.cell (World.block_lt_of_cell? w _ hx118_0)).trans hx118_0
            have HR118_0 := am hi118_0
            have HC118_0 := am hl118_0
            clear hi118_0 hl118_0
            replace p118 := eq_true p118
            replace q118 := eq_true q118
            have hcz29_0 : wr.cell? ⟨gb113, 0, none⟩ = some (.int .i64 a0_0) := (bC BK113.out 0).trans rfl
            have hcz29_1 : wr.cell? ⟨gb113, 1, none⟩ = some (.int .i64 a0_1) := (bC BK113.out 1).trans rfl
            have hcz29_2 : wr.cell? ⟨gb113, 2, none⟩ = some (.int .i64 a0_2) := (bC BK113.out 2).trans rfl
            have hcz29_3 : wr.cell? ⟨gb113, 3, none⟩ = some (.bool a0_3) := (bC BK113.out 3).trans rfl
            have hcz29_4 : wr.cell? ⟨gb113, 4, none⟩ = some (.slice (some ad118) l0_4.length c0_4) := (bC BK113.out 4).trans rfl
            have hfz29_0 := bZ BK113.out 0
            have hfz29_1 := bZ BK113.out 1
            have hfz29_2 := bZ BK113.out 2
            have hfz29_3 := bZ BK113.out 3
            have hfz29_4 := bZ BK113.out 4
            go_wp2_with (first | ((with_reducible refine gate_callee (f := 63) rfl ?_); refine goesL_ (some 52) rfl rfl Try.func63 (by kernel_rfl) rfl #[.slice A118_0 (rd_L1 l0_4 x44_2).length c118_0, .int .i64 a0_2] rfl (by (try simp only [List.map_toArray, List.map_cons, List.map_nil]); first | done | rfl | (simp only [List.length_drop, List.length_take]; rfl)) ?_; (with_reducible refine (plane_within.calls _ _ (rd_L1 l0_4 x44_2) a0_2 false _ ?side1 ?side2 A25.out).mono ?_); (case side1 => repeat (first | exact (Kd.C_below HR118_0.out HB.out) | (with_reducible refine Kd.C_alloc ?_ _) | (with_reducible refine Kd.C_drewN ?_ _) | (with_reducible refine Kd.C_drew ?_))); (case side2 => exact HC118_0.out); rintro e w30 ⟨rfl, hb⟩; refine ⟨_, rfl, ?_⟩; have n0_ := am (bB (g := gb113) (o := .cells #[.int .i64 a0_0, .int .i64 a0_1, .int .i64 a0_2, .bool a0_3, .slice (some ad118) l0_4.length c0_4] 39 (0, 0)) (by (with_reducible repeat apply dX); exact BK113.out) hb); have n1_ := am (bT (by repeat (first | (with_reducible first | exact HB.out | apply bA | apply bN | apply bD | refine bS ?_ GE113.out) | exact HB.out)) hb); clear BK113; clear HB; have BK113 := n0_; have HB := n1_; clear n0_ n1_; (try clear hb); (try clear hb2); (try clear hk); (try clear hi)))
            go_ret
            exact ⟨by first | rfl | (simp [errW_none, errW_some] <;> rfl) | (simp [*, errW_none, errW_some] <;> rfl), by repeat (first | (with_reducible first | exact HB.out | apply bA | apply bN | apply bD | refine bS ?_ GE113.out) | exact HB.out)⟩
          ·rw [if_neg c24] at H
           exact absurd H (by simp)
         ·rw [if_neg c23] at H
          exact absurd H (by simp)
        ·rw [if_neg c22] at H
         have c22b0 : decide (x44_2 < (l0_4.length : Int)) = false := decide_eq_false c22
         clear c22
         obtain rfl := Option.some.inj H
         go_wp2
         go_ret
         exact ⟨by first | rfl | (simp [errW_none, errW_some] <;> rfl) | (simp [*, errW_none, errW_some] <;> rfl), by repeat (first | (with_reducible first | exact HB.out | apply bA | apply bN | apply bD | refine bS ?_ GE113.out) | exact HB.out)⟩
  ·rw [if_neg c5] at H
   have c5b0 : ((l0_4.length : Int) == t115) = false := beq_eq_false_iff_ne.mpr c5
   have c5b1 : ((l0_4.length : Int) != t115) = true := bne_iff_ne.mpr c5
   obtain rfl := Option.some.inj H
   go_enter Try.func29, Try.ntmps29
   try go_wp2_with (first | ((with_reducible refine gD (N := 1) rfl ?_); refine bE ?hg (N := 1) ?hd (cs := #[.int .i64 a0_0, .int .i64 a0_1, .int .i64 a0_2, .bool a0_3, .slice A0_4 l0_4.length c0_4]) (t := 39) ?hr ?_; (case hd => rfl); (case hg => rfl); (case hr => first | (go_simp; done) | (go_simp; rfl)); intro gb113 hg w31 hbox hb; have n0_ := am (bT (by repeat (first | (with_reducible first | exact HB.out | apply bA | apply bN | apply bD) | exact HB.out)) hb); have n1_ := am (hbox); have n2_ := am ((by rw [hg]; exact (bU (by repeat (first | (with_reducible first | exact HB.out | apply bA | apply bN | apply bD) | exact HB.out))) : w.heap.size ≤ gb113)); have n3_ := am ((by rw [hg]; exact (bU (by repeat (first | (with_reducible first | exact HB.out | apply bA | apply bN | apply bD) | exact HB.out))) : w.heap.size ≤ gb113)); clear HB; have HB := n0_; have BK113 := n1_; have GW113 := n2_; have GE113 := n3_; clear n0_ n1_ n2_ n3_; clear hb hbox hg; have hcz32_0 : w31.cell? ⟨gb113, 0, none⟩ = some (.int .i64 a0_0) := (bC BK113.out 0).trans rfl; have hcz32_1 : w31.cell? ⟨gb113, 1, none⟩ = some (.int .i64 a0_1) := (bC BK113.out 1).trans rfl; have hcz32_2 : w31.cell? ⟨gb113, 2, none⟩ = some (.int .i64 a0_2) := (bC BK113.out 2).trans rfl; have hcz32_3 : w31.cell? ⟨gb113, 3, none⟩ = some (.bool a0_3) := (bC BK113.out 3).trans rfl; have hcz32_4 : w31.cell? ⟨gb113, 4, none⟩ = some (.slice A0_4 l0_4.length c0_4) := (bC BK113.out 4).trans rfl; have hfz32_0 := bZ BK113.out 0; have hfz32_1 := bZ BK113.out 1; have hfz32_2 := bZ BK113.out 2; have hfz32_3 := bZ BK113.out 3; have hfz32_4 := bZ BK113.out 4) | ((with_reducible refine gate_callee (f := 17) rfl ?_); refine goesL_ (some 10) rfl rfl Try.func17 (by kernel_rfl) rfl #[.agg #[.int .i64 a0_0, .int .i64 a0_1, .int .i64 a0_2, .bool a0_3]] rfl (by (try simp only [List.map_toArray, List.map_cons, List.map_nil]); first | done | rfl | (simp only [List.length_drop, List.length_take]; rfl)) ?_; (with_reducible refine (plane_Shaped.calls k a0_0 a0_1 a0_2 a0_3 t114 _ A2.out).mono ?_); rintro e w33 ⟨rfl, hb⟩; refine ⟨_, rfl, ?_⟩; have n0_ := am (bB (g := gb113) (o := .cells #[.int .i64 a0_0, .int .i64 a0_1, .int .i64 a0_2, .bool a0_3, .slice A0_4 l0_4.length c0_4] 39 (0, 0)) (by (with_reducible repeat apply dX); exact BK113.out) hb); have n1_ := am (bT (by repeat (first | (with_reducible first | exact HB.out | apply bA | apply bN | apply bD | refine bS ?_ GE113.out) | exact HB.out)) hb); clear BK113; clear HB; have BK113 := n0_; have HB := n1_; clear n0_ n1_; (try clear hb); (try clear hb2); (try clear hk); (try clear hi)))
   have n0_ := am (blk_drew BK113.out)
   have n1_ := am (bD HB.out)
   clear BK113
   clear HB
   have BK113 := n0_
   have HB := n1_
   clear n0_ n1_
   refine start_ (n := 7) (S := fun w' => w'.cell? ⟨gb113, 0, none⟩ = some (.int .i64 a0_0) ∧ w'.cell? ⟨gb113, 1, none⟩ = some (.int .i64 a0_1) ∧ w'.cell? ⟨gb113, 2, none⟩ = some (.int .i64 a0_2) ∧ w'.cell? ⟨gb113, 3, none⟩ = some (.bool a0_3) ∧ w'.cell? ⟨gb113, 4, none⟩ = some (.slice A0_4 l0_4.length c0_4)) (ds := []) #[false, false, false, false, false, false, false] (by kernel_rfl) rfl rfl ⟨(bC BK113.out 0).trans rfl, (bC BK113.out 1).trans rfl, (bC BK113.out 2).trans rfl, (bC BK113.out 3).trans rfl, (bC BK113.out 4).trans rfl⟩ (fun hHeld => ?_)
   generalize w33.drew = w34 at BK113 HB hHeld ⊢
   refine pure_ (i := 0) (N := some 14) (v := ?_) (a' := ?_) #[true, false, false, false, false, false, false] rfl rfl (by kernel_rfl) (fun _ _ _ h => h) (Or.inl ⟨by rfl, ?_⟩) ?_ ?_
   rotate_left
   ·intro w'
    go_simp
    with_reducible rfl
   rotate_left
   ·simp only [Act.put, List.setIfInBounds_toArray, List.set_cons_zero, List.set_cons_succ, i64_w, i32_w]
    rfl
   refine pure_ (i := 3) (N := some 17) (v := ?_) (a' := ?_) #[true, false, false, true, false, false, false] rfl rfl (by kernel_rfl) (fun _ _ _ h => h) (Or.inl ⟨by rfl, ?_⟩) ?_ ?_
   rotate_left
   ·intro w'
    go_simp
    with_reducible rfl
   rotate_left
   ·simp only [Act.put, List.setIfInBounds_toArray, List.set_cons_zero, List.set_cons_succ, i64_w, i32_w]
    rfl
   refine take_ (i := 1) (N := some 15) (v := ?_) (a' := ?_) #[true, true, false, true, false, false, false] rfl rfl (by kernel_rfl) (fun _ _ _ h => h) (Or.inl ⟨by rfl, ?_⟩) hHeld ?_ ?_
   rotate_left
   ·rintro w' ⟨s0, s1, s2, s3, s4⟩
    go_simp
    with_reducible rfl
   rotate_left
   ·simp only [Act.put, List.setIfInBounds_toArray, List.set_cons_zero, List.set_cons_succ, i64_w, i32_w]
    rfl
   refine pure_ (i := 2) (N := some 16) (v := ?_) (a' := ?_) #[true, true, true, true, false, false, false] rfl rfl (by kernel_rfl) (fun _ _ _ h => h) (Or.inl ⟨by rfl, ?_⟩) ?_ ?_
   rotate_left
   ·intro w'
    go_simp
    with_reducible rfl
   rotate_left
   ·simp only [Act.put, List.setIfInBounds_toArray, List.set_cons_zero, List.set_cons_succ, i64_w, i32_w]
    rfl
   refine take_ (i := 4) (N := some 18) (v := ?_) (a' := ?_) #[true, true, true, true, true, false, false] rfl rfl (by kernel_rfl) (fun _ _ _ h => h) (Or.inl ⟨by rfl, ?_⟩) hHeld ?_ ?_
   rotate_left
   ·rintro w' ⟨s0, s1, s2, s3, s4⟩
    go_simp
    with_reducible rfl
   rotate_left
   ·simp only [Act.put, List.setIfInBounds_toArray, List.set_cons_zero, List.set_cons_succ, i64_w, i32_w]
    rfl
   refine one_ (i := 5) (N := some 19) #[true, true, true, true, true, true, false] rfl rfl (by kernel_rfl) (by decide) (fun K hK => ?_)
   refine goes_ Try.func62 (by kernel_rfl) rfl #[.agg #[.int .i64 a0_0, .int .i64 a0_1, .int .i64 a0_2, .bool a0_3]] (by rfl) rfl rfl (by (try simp only [List.map_toArray, List.map_cons, List.map_nil]); first | done | rfl | (simp only [List.length_drop, List.length_take]; rfl)) ?_
   with_reducible refine (plane_planes.calls a0_0 a0_1 a0_2 a0_3 t115 _ A4.out).mono ?_
   rintro e w35 ⟨rfl, hb⟩
   refine ⟨_, rfl, ?_⟩
   have n0_ := am (bB (g := gb113) (o := .cells #[.int .i64 a0_0, .int .i64 a0_1, .int .i64 a0_2, .bool a0_3, .slice A0_4 l0_4.length c0_4] 39 (0, 0)) (by (with_reducible repeat apply dX); exact BK113.out) hb)
   have n1_ := am (bT (by repeat (first | (with_reducible first | exact HB.out | apply bA | apply bN | apply bD | refine bS ?_ GE113.out) | exact HB.out)) hb)
   clear BK113
   clear HB
   have BK113 := n0_
   have HB := n1_
   clear n0_ n1_
   (try clear hb)
   (try clear hb2)
   (try clear hk)
   (try clear hi)
   refine hK.out _ _ ⟨(bC BK113.out 0).trans rfl, (bC BK113.out 1).trans rfl, (bC BK113.out 2).trans rfl, (bC BK113.out 3).trans rfl, (bC BK113.out 4).trans rfl⟩ (fun hHeld => ?_)
   clear hK K
   refine norm_ (a' := ?_) ?_ ?_
   rotate_left
   ·show Act.put _ (some 19) _ = _
    simp only [Act.put, List.setIfInBounds_toArray, List.set_cons_zero, List.set_cons_succ, i64_w, i32_w]
    rfl
   refine pure_ (i := 6) (N := some 20) (v := ?_) (a' := ?_) #[true, true, true, true, true, true, true] rfl rfl (by kernel_rfl) (fun _ _ _ h => h) (Or.inl ⟨by rfl, ?_⟩) ?_ ?_
   rotate_left
   ·intro w'
    go_simp
    with_reducible rfl
   rotate_left
   ·simp only [Act.put, List.setIfInBounds_toArray, List.set_cons_zero, List.set_cons_succ, i64_w, i32_w]
    rfl
   refine done_ (by kernel_rfl) ?_
   try go_wp2
   go_ret
   exact ⟨by first | rfl | (simp [errW_none, errW_some] <;> rfl) | (simp [*, errW_none, errW_some] <;> rfl), by repeat (first | (with_reducible first | exact HB.out | apply bA | apply bN | apply bD | refine bS ?_ GE113.out) | exact HB.out)⟩
 ·rw [if_neg c3] at H
  have c3b0 : (t114 == 0) = false := beq_eq_false_iff_ne.mpr c3
  have c3b1 : (t114 != 0) = true := bne_iff_ne.mpr c3
  obtain rfl := Option.some.inj H
  go_enter Try.func29, Try.ntmps29
  go_wp2_with (first | ((with_reducible refine gD (N := 1) rfl ?_); refine bE ?hg (N := 1) ?hd (cs := #[.int .i64 a0_0, .int .i64 a0_1, .int .i64 a0_2, .bool a0_3, .slice A0_4 l0_4.length c0_4]) (t := 39) ?hr ?_; (case hd => rfl); (case hg => rfl); (case hr => first | (go_simp; done) | (go_simp; rfl)); intro gb113 hg w36 hbox hb; have n0_ := am (bT (by repeat (first | (with_reducible first | exact HB.out | apply bA | apply bN | apply bD) | exact HB.out)) hb); have n1_ := am (hbox); have n2_ := am ((by rw [hg]; exact (bU (by repeat (first | (with_reducible first | exact HB.out | apply bA | apply bN | apply bD) | exact HB.out))) : w.heap.size ≤ gb113)); have n3_ := am ((by rw [hg]; exact (bU (by repeat (first | (with_reducible first | exact HB.out | apply bA | apply bN | apply bD) | exact HB.out))) : w.heap.size ≤ gb113)); clear HB; have HB := n0_; have BK113 := n1_; have GW113 := n2_; have GE113 := n3_; clear n0_ n1_ n2_ n3_; clear hb hbox hg; have hcz37_0 : w36.cell? ⟨gb113, 0, none⟩ = some (.int .i64 a0_0) := (bC BK113.out 0).trans rfl; have hcz37_1 : w36.cell? ⟨gb113, 1, none⟩ = some (.int .i64 a0_1) := (bC BK113.out 1).trans rfl; have hcz37_2 : w36.cell? ⟨gb113, 2, none⟩ = some (.int .i64 a0_2) := (bC BK113.out 2).trans rfl; have hcz37_3 : w36.cell? ⟨gb113, 3, none⟩ = some (.bool a0_3) := (bC BK113.out 3).trans rfl; have hcz37_4 : w36.cell? ⟨gb113, 4, none⟩ = some (.slice A0_4 l0_4.length c0_4) := (bC BK113.out 4).trans rfl; have hfz37_0 := bZ BK113.out 0; have hfz37_1 := bZ BK113.out 1; have hfz37_2 := bZ BK113.out 2; have hfz37_3 := bZ BK113.out 3; have hfz37_4 := bZ BK113.out 4) | ((with_reducible refine gate_callee (f := 17) rfl ?_); refine goesL_ (some 10) rfl rfl Try.func17 (by kernel_rfl) rfl #[.agg #[.int .i64 a0_0, .int .i64 a0_1, .int .i64 a0_2, .bool a0_3]] rfl (by (try simp only [List.map_toArray, List.map_cons, List.map_nil]); first | done | rfl | (simp only [List.length_drop, List.length_take]; rfl)) ?_; (with_reducible refine (plane_Shaped.calls k a0_0 a0_1 a0_2 a0_3 t114 _ A2.out).mono ?_); rintro e w38 ⟨rfl, hb⟩; refine ⟨_, rfl, ?_⟩; have n0_ := am (bB (g := gb113) (o := .cells #[.int .i64 a0_0, .int .i64 a0_1, .int .i64 a0_2, .bool a0_3, .slice A0_4 l0_4.length c0_4] 39 (0, 0)) (by (with_reducible repeat apply dX); exact BK113.out) hb); have n1_ := am (bT (by repeat (first | (with_reducible first | exact HB.out | apply bA | apply bN | apply bD | refine bS ?_ GE113.out) | exact HB.out)) hb); clear BK113; clear HB; have BK113 := n0_; have HB := n1_; clear n0_ n1_; (try clear hb); (try clear hb2); (try clear hk); (try clear hi)))
  go_ret
  exact ⟨by first | rfl | (simp [errW_none, errW_some] <;> rfl) | (simp [*, errW_none, errW_some] <;> rfl), by repeat (first | (with_reducible first | exact HB.out | apply bA | apply bN | apply bD | refine bS ?_ GE113.out) | exact HB.out)⟩

/-! ### dailiesref06_half: function 71 -/
def dailiesref06_half.f (a0 : Int) : Option (Int) := some (wrap64 ((wrap64 (Int.tdiv a0 2)) + (Int.tmod a0 2)))
set_option maxHeartbeats 8000000 in
set_option maxRecDepth 100000 in
theorem dailiesref06_half.calls (a0 : Int) (r : Int) (w : World) (h : dailiesref06_half.f a0 = some r) :
  Calls Try.prog 71 #[.int .i64 a0] w fun e w' => e = .returned (.int .i64 r) ∧ Drawn0 w w' := by
 have H : (some (wrap64 ((wrap64 (Int.tdiv a0 2)) + (Int.tmod a0 2)))) = some r := h
 clear h
 obtain rfl := Option.some.inj H
 go_enter Try.func71, Try.ntmps71
 go_wp2
 go_ret
 exact ⟨by first | rfl | (simp; done) | (simp [*]; done), by repeat (first | exact Drawn0.refl _ | apply Drawn0.step)⟩

/-! ### dailiesref06_wide: function 57 -/
def dailiesref06_wide.f (a0_0 : Int) (a0_1 : Int) (a0_2 : Int) (a0_3 : Bool) (a1 : Int) : Option (Int) := if a1 = 1 then ((dailiesref06_half.f a0_0).bind fun t121 => (some t121)) else (if a1 = 2 then ((dailiesref06_half.f a0_0).bind fun t122 => (some t122)) else (some a0_0))
set_option maxHeartbeats 8000000 in
set_option maxRecDepth 100000 in
theorem dailiesref06_wide.calls (a0_0 : Int) (a0_1 : Int) (a0_2 : Int) (a0_3 : Bool) (a1 : Int) (r : Int) (w : World) (h : dailiesref06_wide.f a0_0 a0_1 a0_2 a0_3 a1 = some r) :
  Calls Try.prog 57 #[.agg #[.int .i64 a0_0, .int .i64 a0_1, .int .i64 a0_2, .bool a0_3], .int .i64 a1] w fun e w' => e = .returned (.int .i64 r) ∧ Below w.heap.size w w' := by
 have hu26 := Try.underlying26
 have HB := am (Below.refl w.heap.size w)
 have H : (if a1 = 1 then ((dailiesref06_half.f a0_0).bind fun t121 => (some t121)) else (if a1 = 2 then ((dailiesref06_half.f a0_0).bind fun t122 => (some t122)) else (some a0_0))) = some r := h
 clear h
 by_cases c3 : a1 = 1
 ·rw [if_pos c3] at H
  have c3b0 : (a1 == 1) = true := beq_iff_eq.mpr c3
  have c3b1 : (a1 != 1) = false := bne_eq_false_iff_eq.mpr c3
  clear c3
  replace H := Option.bind_eq_some_iff.mp H
  obtain ⟨t121, A40, H⟩ := H
  replace H : (some t121) = some r := H
  have A4 := am A40
  clear A40
  obtain rfl := Option.some.inj H
  go_enter Try.func57, Try.ntmps57
  go_wp2_with (first | ((with_reducible refine gD (N := 2) rfl ?_); refine bE ?hg (N := 2) ?hd (cs := #[.int .i64 a0_0, .int .i64 a0_1, .int .i64 a0_2, .bool a0_3]) (t := 26) ?hr ?_; (case hd => rfl); (case hg => rfl); (case hr => first | (go_simp; done) | (go_simp; rfl)); intro gb120 hg w5 hbox hb; have n0_ := am (bT (by repeat (first | (with_reducible first | exact HB.out | apply bA | apply bN | apply bD) | exact HB.out)) hb); have n1_ := am (hbox); have n2_ := am ((by rw [hg]; exact (bU (by repeat (first | (with_reducible first | exact HB.out | apply bA | apply bN | apply bD) | exact HB.out))) : w.heap.size ≤ gb120)); have n3_ := am ((by rw [hg]; exact (bU (by repeat (first | (with_reducible first | exact HB.out | apply bA | apply bN | apply bD) | exact HB.out))) : w.heap.size ≤ gb120)); clear HB; have HB := n0_; have BK120 := n1_; have GW120 := n2_; have GE120 := n3_; clear n0_ n1_ n2_ n3_; clear hb hbox hg; have hcz6_0 : w5.cell? ⟨gb120, 0, none⟩ = some (.int .i64 a0_0) := (bC BK120.out 0).trans rfl; have hcz6_1 : w5.cell? ⟨gb120, 1, none⟩ = some (.int .i64 a0_1) := (bC BK120.out 1).trans rfl; have hcz6_2 : w5.cell? ⟨gb120, 2, none⟩ = some (.int .i64 a0_2) := (bC BK120.out 2).trans rfl; have hcz6_3 : w5.cell? ⟨gb120, 3, none⟩ = some (.bool a0_3) := (bC BK120.out 3).trans rfl; have hfz6_0 := bZ BK120.out 0; have hfz6_1 := bZ BK120.out 1; have hfz6_2 := bZ BK120.out 2; have hfz6_3 := bZ BK120.out 3) | ((with_reducible refine gate_callee (f := 71) rfl ?_); refine goesL_ (some 13) rfl rfl Try.func71 (by kernel_rfl) rfl #[.int .i64 a0_0] rfl (by (try simp only [List.map_toArray, List.map_cons, List.map_nil]); first | done | rfl | (simp only [List.length_drop, List.length_take]; rfl)) ?_; (with_reducible refine (dailiesref06_half.calls a0_0 t121 _ A4.out).mono ?_); rintro e w' ⟨rfl, ⟨nd, rfl⟩⟩; refine ⟨_, rfl, ?_⟩))
  go_ret
  exact ⟨by first | rfl | (simp [errW_none, errW_some] <;> rfl) | (simp [*, errW_none, errW_some] <;> rfl), by repeat (first | (with_reducible first | exact HB.out | apply bA | apply bN | apply bD | refine bS ?_ GE120.out) | exact HB.out)⟩
 ·rw [if_neg c3] at H
  have c3b0 : (a1 == 1) = false := beq_eq_false_iff_ne.mpr c3
  have c3b1 : (a1 != 1) = true := bne_iff_ne.mpr c3
  by_cases c7 : a1 = 2
  ·rw [if_pos c7] at H
   have c7b0 : (a1 == 2) = true := beq_iff_eq.mpr c7
   have c7b1 : (a1 != 2) = false := bne_eq_false_iff_eq.mpr c7
   clear c7
   replace H := Option.bind_eq_some_iff.mp H
   obtain ⟨t122, A80, H⟩ := H
   replace H : (some t122) = some r := H
   have A8 := am A80
   clear A80
   obtain rfl := Option.some.inj H
   go_enter Try.func57, Try.ntmps57
   go_wp2_with (first | ((with_reducible refine gD (N := 2) rfl ?_); refine bE ?hg (N := 2) ?hd (cs := #[.int .i64 a0_0, .int .i64 a0_1, .int .i64 a0_2, .bool a0_3]) (t := 26) ?hr ?_; (case hd => rfl); (case hg => rfl); (case hr => first | (go_simp; done) | (go_simp; rfl)); intro gb120 hg w9 hbox hb; have n0_ := am (bT (by repeat (first | (with_reducible first | exact HB.out | apply bA | apply bN | apply bD) | exact HB.out)) hb); have n1_ := am (hbox); have n2_ := am ((by rw [hg]; exact (bU (by repeat (first | (with_reducible first | exact HB.out | apply bA | apply bN | apply bD) | exact HB.out))) : w.heap.size ≤ gb120)); have n3_ := am ((by rw [hg]; exact (bU (by repeat (first | (with_reducible first | exact HB.out | apply bA | apply bN | apply bD) | exact HB.out))) : w.heap.size ≤ gb120)); clear HB; have HB := n0_; have BK120 := n1_; have GW120 := n2_; have GE120 := n3_; clear n0_ n1_ n2_ n3_; clear hb hbox hg; have hcz10_0 : w9.cell? ⟨gb120, 0, none⟩ = some (.int .i64 a0_0) := (bC BK120.out 0).trans rfl; have hcz10_1 : w9.cell? ⟨gb120, 1, none⟩ = some (.int .i64 a0_1) := (bC BK120.out 1).trans rfl; have hcz10_2 : w9.cell? ⟨gb120, 2, none⟩ = some (.int .i64 a0_2) := (bC BK120.out 2).trans rfl; have hcz10_3 : w9.cell? ⟨gb120, 3, none⟩ = some (.bool a0_3) := (bC BK120.out 3).trans rfl; have hfz10_0 := bZ BK120.out 0; have hfz10_1 := bZ BK120.out 1; have hfz10_2 := bZ BK120.out 2; have hfz10_3 := bZ BK120.out 3) | ((with_reducible refine gate_callee (f := 71) rfl ?_); refine goesL_ (some 13) rfl rfl Try.func71 (by kernel_rfl) rfl #[.int .i64 a0_0] rfl (by (try simp only [List.map_toArray, List.map_cons, List.map_nil]); first | done | rfl | (simp only [List.length_drop, List.length_take]; rfl)) ?_; (with_reducible refine (dailiesref06_half.calls a0_0 t122 _ A8.out).mono ?_); rintro e w' ⟨rfl, ⟨nd, rfl⟩⟩; refine ⟨_, rfl, ?_⟩))
   go_ret
   exact ⟨by first | rfl | (simp [errW_none, errW_some] <;> rfl) | (simp [*, errW_none, errW_some] <;> rfl), by repeat (first | (with_reducible first | exact HB.out | apply bA | apply bN | apply bD | refine bS ?_ GE120.out) | exact HB.out)⟩
  ·rw [if_neg c7] at H
   have c7b0 : (a1 == 2) = false := beq_eq_false_iff_ne.mpr c7
   have c7b1 : (a1 != 2) = true := bne_iff_ne.mpr c7
   obtain rfl := Option.some.inj H
   go_enter Try.func57, Try.ntmps57
   go_wp2_with (first | ((with_reducible refine gD (N := 2) rfl ?_); refine bE ?hg (N := 2) ?hd (cs := #[.int .i64 a0_0, .int .i64 a0_1, .int .i64 a0_2, .bool a0_3]) (t := 26) ?hr ?_; (case hd => rfl); (case hg => rfl); (case hr => first | (go_simp; done) | (go_simp; rfl)); intro gb120 hg w11 hbox hb; have n0_ := am (bT (by repeat (first | (with_reducible first | exact HB.out | apply bA | apply bN | apply bD) | exact HB.out)) hb); have n1_ := am (hbox); have n2_ := am ((by rw [hg]; exact (bU (by repeat (first | (with_reducible first | exact HB.out | apply bA | apply bN | apply bD) | exact HB.out))) : w.heap.size ≤ gb120)); have n3_ := am ((by rw [hg]; exact (bU (by repeat (first | (with_reducible first | exact HB.out | apply bA | apply bN | apply bD) | exact HB.out))) : w.heap.size ≤ gb120)); clear HB; have HB := n0_; have BK120 := n1_; have GW120 := n2_; have GE120 := n3_; clear n0_ n1_ n2_ n3_; clear hb hbox hg; have hcz12_0 : w11.cell? ⟨gb120, 0, none⟩ = some (.int .i64 a0_0) := (bC BK120.out 0).trans rfl; have hcz12_1 : w11.cell? ⟨gb120, 1, none⟩ = some (.int .i64 a0_1) := (bC BK120.out 1).trans rfl; have hcz12_2 : w11.cell? ⟨gb120, 2, none⟩ = some (.int .i64 a0_2) := (bC BK120.out 2).trans rfl; have hcz12_3 : w11.cell? ⟨gb120, 3, none⟩ = some (.bool a0_3) := (bC BK120.out 3).trans rfl; have hfz12_0 := bZ BK120.out 0; have hfz12_1 := bZ BK120.out 1; have hfz12_2 := bZ BK120.out 2; have hfz12_3 := bZ BK120.out 3))
   go_ret
   exact ⟨by first | rfl | (simp [errW_none, errW_some] <;> rfl) | (simp [*, errW_none, errW_some] <;> rfl), by repeat (first | (with_reducible first | exact HB.out | apply bA | apply bN | apply bD | refine bS ?_ GE120.out) | exact HB.out)⟩

/-! ### dailiesref06_count: function 60 -/
def dailiesref06_count.f (a0_0 : Int) (a0_1 : Int) (a0_2 : Int) (a0_3 : Bool) : Option (Int) := if a0_3 = true then (some 4) else (some 3)
set_option maxHeartbeats 8000000 in
set_option maxRecDepth 100000 in
theorem dailiesref06_count.calls (a0_0 : Int) (a0_1 : Int) (a0_2 : Int) (a0_3 : Bool) (r : Int) (w : World) (h : dailiesref06_count.f a0_0 a0_1 a0_2 a0_3 = some r) :
  Calls Try.prog 60 #[.agg #[.int .i64 a0_0, .int .i64 a0_1, .int .i64 a0_2, .bool a0_3]] w fun e w' => e = .returned (.int .i64 r) ∧ Below w.heap.size w w' := by
 have hu26 := Try.underlying26
 have HB := am (Below.refl w.heap.size w)
 have H : (if a0_3 = true then (some 4) else (some 3)) = some r := h
 clear h
 by_cases c2 : a0_3 = true
 ·subst c2
  have H1 : (some 4) = some r := by rw [if_pos rfl] at H; exact H
  clear H
  have H := H1
  clear H1
  obtain rfl := Option.some.inj H
  go_enter Try.func60, Try.ntmps60
  go_wp2_with (first | ((with_reducible refine gD (N := 1) rfl ?_); refine bE ?hg (N := 1) ?hd (cs := #[.int .i64 a0_0, .int .i64 a0_1, .int .i64 a0_2, .bool true]) (t := 26) ?hr ?_; (case hd => rfl); (case hg => rfl); (case hr => first | (go_simp; done) | (go_simp; rfl)); intro gb123 hg w3 hbox hb; have n0_ := am (bT (by repeat (first | (with_reducible first | exact HB.out | apply bA | apply bN | apply bD) | exact HB.out)) hb); have n1_ := am (hbox); have n2_ := am ((by rw [hg]; exact (bU (by repeat (first | (with_reducible first | exact HB.out | apply bA | apply bN | apply bD) | exact HB.out))) : w.heap.size ≤ gb123)); have n3_ := am ((by rw [hg]; exact (bU (by repeat (first | (with_reducible first | exact HB.out | apply bA | apply bN | apply bD) | exact HB.out))) : w.heap.size ≤ gb123)); clear HB; have HB := n0_; have BK123 := n1_; have GW123 := n2_; have GE123 := n3_; clear n0_ n1_ n2_ n3_; clear hb hbox hg; have hcz4_0 : w3.cell? ⟨gb123, 0, none⟩ = some (.int .i64 a0_0) := (bC BK123.out 0).trans rfl; have hcz4_1 : w3.cell? ⟨gb123, 1, none⟩ = some (.int .i64 a0_1) := (bC BK123.out 1).trans rfl; have hcz4_2 : w3.cell? ⟨gb123, 2, none⟩ = some (.int .i64 a0_2) := (bC BK123.out 2).trans rfl; have hcz4_3 : w3.cell? ⟨gb123, 3, none⟩ = some (.bool true) := (bC BK123.out 3).trans rfl; have hfz4_0 := bZ BK123.out 0; have hfz4_1 := bZ BK123.out 1; have hfz4_2 := bZ BK123.out 2; have hfz4_3 := bZ BK123.out 3))
  go_ret
  exact ⟨by first | rfl | (simp [errW_none, errW_some] <;> rfl) | (simp [*, errW_none, errW_some] <;> rfl), by repeat (first | (with_reducible first | exact HB.out | apply bA | apply bN | apply bD | refine bS ?_ GE123.out) | exact HB.out)⟩
 ·replace c2 := Bool.eq_false_iff.mpr c2
  subst c2
  have H1 : (some 3) = some r := by rw [if_neg (show ¬ (false = true) by decide)] at H; exact H
  clear H
  have H := H1
  clear H1
  obtain rfl := Option.some.inj H
  go_enter Try.func60, Try.ntmps60
  go_wp2_with (first | ((with_reducible refine gD (N := 1) rfl ?_); refine bE ?hg (N := 1) ?hd (cs := #[.int .i64 a0_0, .int .i64 a0_1, .int .i64 a0_2, .bool false]) (t := 26) ?hr ?_; (case hd => rfl); (case hg => rfl); (case hr => first | (go_simp; done) | (go_simp; rfl)); intro gb123 hg w5 hbox hb; have n0_ := am (bT (by repeat (first | (with_reducible first | exact HB.out | apply bA | apply bN | apply bD) | exact HB.out)) hb); have n1_ := am (hbox); have n2_ := am ((by rw [hg]; exact (bU (by repeat (first | (with_reducible first | exact HB.out | apply bA | apply bN | apply bD) | exact HB.out))) : w.heap.size ≤ gb123)); have n3_ := am ((by rw [hg]; exact (bU (by repeat (first | (with_reducible first | exact HB.out | apply bA | apply bN | apply bD) | exact HB.out))) : w.heap.size ≤ gb123)); clear HB; have HB := n0_; have BK123 := n1_; have GW123 := n2_; have GE123 := n3_; clear n0_ n1_ n2_ n3_; clear hb hbox hg; have hcz6_0 : w5.cell? ⟨gb123, 0, none⟩ = some (.int .i64 a0_0) := (bC BK123.out 0).trans rfl; have hcz6_1 : w5.cell? ⟨gb123, 1, none⟩ = some (.int .i64 a0_1) := (bC BK123.out 1).trans rfl; have hcz6_2 : w5.cell? ⟨gb123, 2, none⟩ = some (.int .i64 a0_2) := (bC BK123.out 2).trans rfl; have hcz6_3 : w5.cell? ⟨gb123, 3, none⟩ = some (.bool false) := (bC BK123.out 3).trans rfl; have hfz6_0 := bZ BK123.out 0; have hfz6_1 := bZ BK123.out 1; have hfz6_2 := bZ BK123.out 2; have hfz6_3 := bZ BK123.out 3))
  go_ret
  exact ⟨by first | rfl | (simp [errW_none, errW_some] <;> rfl) | (simp [*, errW_none, errW_some] <;> rfl), by repeat (first | (with_reducible first | exact HB.out | apply bA | apply bN | apply bD | refine bS ?_ GE123.out) | exact HB.out)⟩

end Go.Proofs.Ytdoikehkibefpaa.PPb
