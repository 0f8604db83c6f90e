-- Laid by a program of this session (wip/tools/prx.py), over the kit's printer of walks; Lean checks it.
import Derived.Test.YtdoikehkibefpaaPPbx0
import Derived.Test.YtdoikehkibefpaaPPbx2
import Derived.Test.YtdoikehkibefpaaPPbx3
namespace Go.Proofs.Ytdoikehkibefpaa.PPb
open Go.RowKit Go.Proofs.YtdoikehkibefpaaW.PrintWords Go.Proofs.YtdoikehkibefpaaW.PrintLast Go.Proofs.YtdoikehkibefpaaW.PrintMore
open Go.Proofs.YtdoikehkibefpaaW.PrintWords renaming blk_far → bF, below_set → bS, blk_frozen → bZ, below_alloc → bA, pw_below_drewN → bN, below_drew1 → bD, blk_below → bB, blk_cell → bC, blk_set → bs, blk_lt → bL, blk_put → bP, below_step → bT, below_size → bU, box_event → bE, gate_dst → gD
open Go.Proofs.YtdoikehkibefpaaW.PrintWords.Kd renaming S_far → kF, S_types → kT, S_alloc → kA, S_drewN → kN, S_drew → kD
set_option linter.unusedVariables false
set_option linter.unusedSimpArgs false

/-! ### plane_blank: function 59 -/
def plane_blank.l0 : Nat → Int → Int → Int → Int → Int → Bool → Int → Int → Int → Bool → List (List Int) → Option (Int × Int × Int × Bool × (List (List Int)))
 | 0, _, _, _, _, _, _, _, _, _, _, _ => none
 | k + 1, x8, x9, x173000, x173001, x173002, x173003, x175000, x175001, x175002, x175003, x175004 => if x9 < x8 then ((plane_width.f x173000 x173001 x173002 x173003 x9).bind fun t176 => (if 0 ≤ (wrap64 (t176 * x173001)) then (if (wrap64 (t176 * x173001) : Int).toNat ≤ 140737488355328 then (if x175004.length < 5864062014805 then (plane_blank.l0 k x8 (wrap64 (x9 + 1)) x173000 x173001 x173002 x173003 x175000 x175001 x175002 x175003 (x175004 ++ [(List.replicate (wrap64 (t176 * x173001) : Int).toNat 0)])) else (none)) else (none)) else (none))) else (some (x175000, x175001, x175002, x175003, x175004))
def plane_blank.f (k : Nat) (a0_0 : Int) (a0_1 : Int) (a0_2 : Int) (a0_3 : Bool) : Option (Int × Int × Int × Bool × (List (List Int))) := (plane_planes.f a0_0 a0_1 a0_2 a0_3).bind fun t175 => (plane_blank.l0 k t175 0 a0_0 a0_1 a0_2 a0_3 a0_0 a0_1 a0_2 a0_3 ([] : List (List Int)))
theorem plane_blank.mono_l : ∀ k, (∀ y0 y1 y2 y3 y4 y5 y6 y7 y8 y9 y10, LeO (plane_blank.l0 k y0 y1 y2 y3 y4 y5 y6 y7 y8 y9 y10) (plane_blank.l0 (k + 1) y0 y1 y2 y3 y4 y5 y6 y7 y8 y9 y10))
 | 0 => fun _ _ _ _ _ _ _ _ _ _ _ r h => by simp [plane_blank.l0] at h
 | k + 1 => by
  have ih0 := plane_blank.mono_l k
  ·intro y0 y1 y2 y3 y4 y5 y6 y7 y8 y9 y10
   unfold plane_blank.l0
   repeat' first
   | (with_reducible exact ih0 _ _ _ _ _ _ _ _ _ _ _)
   | (with_reducible exact LeO.refl _)
   | (with_reducible exact LeO.none _)
   | (with_reducible refine LeO.ite ?_ ?_)
   | (with_reducible refine LeO.bind ?_ (fun _ => ?_))
   | exact ih0 _ _ _ _ _ _ _ _ _ _ _
   | exact LeO.none _
   | refine LeO.ite ?_ ?_
   | refine LeO.bind ?_ (fun _ => ?_)
theorem plane_blank.mono : ∀ a0 a1 a2 a3 k, LeO (plane_blank.f k a0 a1 a2 a3) (plane_blank.f (k + 1) a0 a1 a2 a3) := by
 intro a0 a1 a2 a3 k
 have ih0 := plane_blank.mono_l k
 unfold plane_blank.f
 repeat' first
   | (with_reducible exact ih0 _ _ _ _ _ _ _ _ _ _ _)
   | (with_reducible exact LeO.refl _)
   | (with_reducible exact LeO.none _)
   | (with_reducible refine LeO.ite ?_ ?_)
   | (with_reducible refine LeO.bind ?_ (fun _ => ?_))
   | exact ih0 _ _ _ _ _ _ _ _ _ _ _
   | exact LeO.none _
   | refine LeO.ite ?_ ?_
   | refine LeO.bind ?_ (fun _ => ?_)
def plane_blank.T5 : Bool × List (List Nat × List Nat) := (true, [([], []), ([0], [0]), ([], []), ([], []), ([2, 3], [2, 3]), ([], []), ([5], [5]), ([4, 6], [4, 6]), ([7, 7], [7]), ([8], [8]), ([1, 9, 4], [1, 9]), ([0, 1, 2, 3, 4, 5, 6, 7, 8, 9, 10], []), ([11, 10, 10, 0, 1, 2, 3, 4, 5, 6, 7, 8, 9, 10], [10, 11])])
def plane_blank.B5 : List Nat := [0, 1, 0, 0, 12, 0, 32, 124, 252, 508, 1023, 2047, 4095]
theorem plane_blank.tab5 : rtab .any (opsOf Try.f59 5) = plane_blank.T5 := by kernel_rfl
theorem plane_blank.bits5 : waitsOk plane_blank.T5.2 plane_blank.B5 = true := by kernel_rfl
set_option maxHeartbeats 8000000 in
set_option maxRecDepth 100000 in
theorem plane_blank.calls (k : Nat) (a0_0 : Int) (a0_1 : Int) (a0_2 : Int) (a0_3 : Bool) (r1 : Int) (r2 : Int) (r3 : Int) (r4 : Bool) (r5 : List (List Int)) (w : World) (h : plane_blank.f k a0_0 a0_1 a0_2 a0_3 = some (r1, r2, r3, r4, r5)) :
  Calls Try.prog 59 #[.agg #[.int .i64 a0_0, .int .i64 a0_1, .int .i64 a0_2, .bool a0_3]] w fun e w' => ∃ v4_ : Value, e = .returned (.agg #[.int .i64 r1, .int .i64 r2, .int .i64 r3, .bool r4, v4_]) ∧ Kd.S (Kd.slice 72 (Kd.int .u16)) 53 w' w.heap.size (fun _ => True) v4_ r5 ∧ Below w.heap.size w w' := by
 have hu26 := Try.underlying26
 have hu39 := Try.underlying39
 have HB := am (Below.refl w.heap.size w)
 have H : ((plane_planes.f a0_0 a0_1 a0_2 a0_3).bind fun t175 => (plane_blank.l0 k t175 0 a0_0 a0_1 a0_2 a0_3 a0_0 a0_1 a0_2 a0_3 ([] : List (List Int)))) = some (r1, r2, r3, r4, r5) := h
 clear h
 replace H := Option.bind_eq_some_iff.mp H
 obtain ⟨t175, A20, H⟩ := H
 replace H : (plane_blank.l0 k t175 0 a0_0 a0_1 a0_2 a0_3 a0_0 a0_1 a0_2 a0_3 ([] : List (List Int))) = some (r1, r2, r3, r4, r5) := H
 have A2 := am A20
 clear A20
 have H' := am H
 clear H
 go_enter Try.func59, Try.ntmps59
 go_wp2_with (first | ((with_reducible refine gD (N := 1) rfl ?_); refine bE ?hg (N := 1) ?hd (cs := #[.int .i64 a0_0, .int .i64 a0_1, .int .i64 a0_2, .bool a0_3]) (t := 26) ?hr ?_; (case hd => rfl); (case hg => rfl); (case hr => first | (go_simp; done) | (go_simp; rfl)); intro gb172 hg w3 hbox hb; have n0_ := am (bT (by repeat (first | (with_reducible first | exact HB.out | apply bA | apply bN | apply bD) | exact HB.out)) hb); have n1_ := am (hbox); have n2_ := am ((by rw [hg]; exact (bU (by repeat (first | (with_reducible first | exact HB.out | apply bA | apply bN | apply bD) | exact HB.out))) : w.heap.size ≤ gb172)); have n3_ := am ((by rw [hg]; exact (bU (by repeat (first | (with_reducible first | exact HB.out | apply bA | apply bN | apply bD) | exact HB.out))) : w.heap.size ≤ gb172)); clear HB; have HB := n0_; have BK172 := n1_; have GW172 := n2_; have GE172 := n3_; clear n0_ n1_ n2_ n3_; clear hb hbox hg) | ((with_reducible refine gD (N := 2) rfl ?_); refine bE ?hg (N := 2) ?hd (cs := #[.int .i64 0, .int .i64 0, .int .i64 0, .bool false, .slice none 0 0]) (t := 39) ?hr ?_; (case hd => rfl); (case hg => rfl); (case hr => first | (go_simp; done) | (go_simp; rfl)); intro gb173 hg w4 hbox hb; have n0_ := am (bB (g := gb172) (o := .cells #[.int .i64 a0_0, .int .i64 a0_1, .int .i64 a0_2, .bool a0_3] 26 (0, 0)) (by (with_reducible repeat apply dX); exact BK172.out) hb); have n1_ := am (bT (by repeat (first | (with_reducible first | exact HB.out | apply bA | apply bN | apply bD | refine bS ?_ GE172.out) | exact HB.out)) hb); have n2_ := am (hbox); have n3_ := am ((by rw [hg]; exact (bU (by repeat (first | (with_reducible first | exact HB.out | apply bA | apply bN | apply bD | refine bS ?_ GE172.out) | exact HB.out))) : w.heap.size ≤ gb173)); have n4_ := am ((by rw [hg]; exact (bU (by repeat (first | (with_reducible first | exact HB.out | apply bA | apply bN | apply bD | refine bS ?_ GE172.out) | exact HB.out))) : w.heap.size ≤ gb173)); have n5_ := am ((by rw [hg]; exact nL (bL (g := gb172) (o := .cells #[.int .i64 a0_0, .int .i64 a0_1, .int .i64 a0_2, .bool a0_3] 26 (0, 0)) (by (with_reducible repeat apply dX); exact BK172.out)) : gb172 ≠ gb173)); have n6_ := am ((by rw [hg]; exact nG (bL (g := gb172) (o := .cells #[.int .i64 a0_0, .int .i64 a0_1, .int .i64 a0_2, .bool a0_3] 26 (0, 0)) (by (with_reducible repeat apply dX); exact BK172.out)) : gb173 ≠ gb172)); clear BK172; clear HB; have BK172 := n0_; have HB := n1_; have BK173 := n2_; have GW173 := n3_; have GE173 := n4_; have NB172_173 := n5_; have NB173_172 := n6_; clear n0_ n1_ n2_ n3_ n4_ n5_ n6_; clear hb hbox hg; have hnb5 := NB172_173.out; have hnc5 := NB173_172.out; have hcz6_0 : w4.cell? ⟨gb172, 0, none⟩ = some (.int .i64 a0_0) := (bC BK172.out 0).trans rfl; have hcz6_1 : w4.cell? ⟨gb172, 1, none⟩ = some (.int .i64 a0_1) := (bC BK172.out 1).trans rfl; have hcz6_2 : w4.cell? ⟨gb172, 2, none⟩ = some (.int .i64 a0_2) := (bC BK172.out 2).trans rfl; have hcz6_3 : w4.cell? ⟨gb172, 3, none⟩ = some (.bool a0_3) := (bC BK172.out 3).trans rfl; have hfz6_0 := bZ BK172.out 0; have hfz6_1 := bZ BK172.out 1; have hfz6_2 := bZ BK172.out 2; have hfz6_3 := bZ BK172.out 3) | ((with_reducible refine gD (N := 3) rfl ?_); refine bE ?hg (N := 3) ?hd (cs := #[.int .i64 0, .int .i64 0, .int .i64 0, .bool false, .slice none 0 0]) (t := 39) ?hr ?_; (case hd => rfl); (case hg => rfl); (case hr => first | (go_simp; done) | (go_simp; rfl)); intro gb174 hg w7 hbox hb; have n0_ := am (bB (g := gb172) (o := .cells #[.int .i64 a0_0, .int .i64 a0_1, .int .i64 a0_2, .bool a0_3] 26 (0, 0)) (by (with_reducible repeat apply dX); exact BK172.out) hb); have n1_ := am (bB (g := gb173) (o := .cells #[.int .i64 0, .int .i64 0, .int .i64 0, .bool false, .slice none 0 0] 39 (0, 0)) (by (with_reducible repeat apply dX); exact BK173.out) hb); have n2_ := am (bT (by repeat (first | (with_reducible first | exact HB.out | apply bA | apply bN | apply bD | refine bS ?_ GE172.out | refine bS ?_ GE173.out) | exact HB.out)) hb); have n3_ := am (hbox); have n4_ := am ((by rw [hg]; exact (bU (by repeat (first | (with_reducible first | exact HB.out | apply bA | apply bN | apply bD | refine bS ?_ GE172.out | refine bS ?_ GE173.out) | exact HB.out))) : w.heap.size ≤ gb174)); have n5_ := am ((by rw [hg]; exact (bU (by repeat (first | (with_reducible first | exact HB.out | apply bA | apply bN | apply bD | refine bS ?_ GE172.out | refine bS ?_ GE173.out) | exact HB.out))) : w.heap.size ≤ gb174)); have n6_ := am ((by rw [hg]; exact nL (bL (g := gb172) (o := .cells #[.int .i64 a0_0, .int .i64 a0_1, .int .i64 a0_2, .bool a0_3] 26 (0, 0)) (by (with_reducible repeat apply dX); exact BK172.out)) : gb172 ≠ gb174)); have n7_ := am ((by rw [hg]; exact nG (bL (g := gb172) (o := .cells #[.int .i64 a0_0, .int .i64 a0_1, .int .i64 a0_2, .bool a0_3] 26 (0, 0)) (by (with_reducible repeat apply dX); exact BK172.out)) : gb174 ≠ gb172)); have n8_ := am ((by rw [hg]; exact nL (bL (g := gb173) (o := .cells #[.int .i64 0, .int .i64 0, .int .i64 0, .bool false, .slice none 0 0] 39 (0, 0)) (by (with_reducible repeat apply dX); exact BK173.out)) : gb173 ≠ gb174)); have n9_ := am ((by rw [hg]; exact nG (bL (g := gb173) (o := .cells #[.int .i64 0, .int .i64 0, .int .i64 0, .bool false, .slice none 0 0] 39 (0, 0)) (by (with_reducible repeat apply dX); exact BK173.out)) : gb174 ≠ gb173)); clear BK172; clear BK173; clear HB; have BK172 := n0_; have BK173 := n1_; have HB := n2_; have BK174 := n3_; have GW174 := n4_; have GE174 := n5_; have NB172_174 := n6_; have NB174_172 := n7_; have NB173_174 := n8_; have NB174_173 := n9_; clear n0_ n1_ n2_ n3_ n4_ n5_ n6_ n7_ n8_ n9_; clear hb hbox hg; have hnb8 := NB174_172.out; have hnc8 := NB172_174.out; have hnb9 := NB174_173.out; have hnc9 := NB173_174.out; have hcz10_0 : w7.cell? ⟨gb174, 0, none⟩ = some (.int .i64 0) := (bC BK174.out 0).trans rfl; have hcz10_1 : w7.cell? ⟨gb174, 1, none⟩ = some (.int .i64 0) := (bC BK174.out 1).trans rfl; have hcz10_2 : w7.cell? ⟨gb174, 2, none⟩ = some (.int .i64 0) := (bC BK174.out 2).trans rfl; have hcz10_3 : w7.cell? ⟨gb174, 3, none⟩ = some (.bool false) := (bC BK174.out 3).trans rfl; have hcz10_4 : w7.cell? ⟨gb174, 4, none⟩ = some (.slice none 0 0) := (bC BK174.out 4).trans rfl; have hfz10_0 := bZ BK174.out 0; have hfz10_1 := bZ BK174.out 1; have hfz10_2 := bZ BK174.out 2; have hfz10_3 := bZ BK174.out 3; have hfz10_4 := bZ BK174.out 4; have hcz11_0 : w7.cell? ⟨gb172, 0, none⟩ = some (.int .i64 a0_0) := (bC BK172.out 0).trans rfl; have hcz11_1 : w7.cell? ⟨gb172, 1, none⟩ = some (.int .i64 a0_1) := (bC BK172.out 1).trans rfl; have hcz11_2 : w7.cell? ⟨gb172, 2, none⟩ = some (.int .i64 a0_2) := (bC BK172.out 2).trans rfl; have hcz11_3 : w7.cell? ⟨gb172, 3, none⟩ = some (.bool a0_3) := (bC BK172.out 3).trans rfl; have hfz11_0 := bZ BK172.out 0; have hfz11_1 := bZ BK172.out 1; have hfz11_2 := bZ BK172.out 2; have hfz11_3 := bZ BK172.out 3) | ((with_reducible refine gate_callee (f := 62) rfl ?_); refine goesL_ (some 8) rfl rfl Try.func62 (by kernel_rfl) rfl #[.agg #[.int .i64 a0_0, .int .i64 a0_1, .int .i64 a0_2, .bool a0_3]] rfl (by (try simp only [List.map_toArray, List.map_cons, List.map_nil]); first | done | rfl | (simp only [List.length_drop, List.length_take]; rfl)) ?_; (with_reducible refine (plane_planes.calls a0_0 a0_1 a0_2 a0_3 t175 _ A2.out).mono ?_); rintro e w12 ⟨rfl, hb⟩; refine ⟨_, rfl, ?_⟩; have n0_ := am (bB (g := gb172) (o := .cells #[.int .i64 a0_0, .int .i64 a0_1, .int .i64 a0_2, .bool a0_3] 26 (0, 0)) (by (with_reducible repeat apply dX); refine bF ?_ NB172_174.out _; (with_reducible repeat apply dX); refine bF ?_ NB172_174.out _; (with_reducible repeat apply dX); refine bF ?_ NB172_174.out _; (with_reducible repeat apply dX); refine bF ?_ NB172_174.out _; (with_reducible repeat apply dX); refine bF ?_ NB172_174.out _; (with_reducible repeat apply dX); exact BK172.out) hb); have n1_ := am (bB (g := gb173) (o := .cells #[.int .i64 0, .int .i64 0, .int .i64 0, .bool false, .slice none 0 0] 39 (0, 0)) (by (with_reducible repeat apply dX); refine bF ?_ NB173_174.out _; (with_reducible repeat apply dX); refine bF ?_ NB173_174.out _; (with_reducible repeat apply dX); refine bF ?_ NB173_174.out _; (with_reducible repeat apply dX); refine bF ?_ NB173_174.out _; (with_reducible repeat apply dX); refine bF ?_ NB173_174.out _; (with_reducible repeat apply dX); exact BK173.out) hb); have n2_ := am (bB (g := gb174) (o := .cells #[.int .i64 a0_0, .int .i64 a0_1, .int .i64 a0_2, .bool a0_3, .slice none 0 0] 39 (0, 0)) (by (with_reducible repeat apply dX); refine bP (cs := #[.int .i64 a0_0, .int .i64 a0_1, .int .i64 a0_2, .bool a0_3, .slice none 0 0]) ?_ 4 _ rfl; (with_reducible repeat apply dX); refine bP (cs := #[.int .i64 a0_0, .int .i64 a0_1, .int .i64 a0_2, .bool false, .slice none 0 0]) ?_ 3 _ rfl; (with_reducible repeat apply dX); refine bP (cs := #[.int .i64 a0_0, .int .i64 a0_1, .int .i64 0, .bool false, .slice none 0 0]) ?_ 2 _ rfl; (with_reducible repeat apply dX); refine bP (cs := #[.int .i64 a0_0, .int .i64 0, .int .i64 0, .bool false, .slice none 0 0]) ?_ 1 _ rfl; (with_reducible repeat apply dX); refine bP (cs := #[.int .i64 0, .int .i64 0, .int .i64 0, .bool false, .slice none 0 0]) ?_ 0 _ rfl; (with_reducible repeat apply dX); exact BK174.out) hb); have n3_ := am (bT (by repeat (first | (with_reducible first | exact HB.out | apply bA | apply bN | apply bD | refine bS ?_ GE172.out | refine bS ?_ GE173.out | refine bS ?_ GE174.out) | exact HB.out)) hb); clear BK172; clear BK173; clear BK174; clear HB; have BK172 := n0_; have BK173 := n1_; have BK174 := n2_; have HB := n3_; clear n0_ n1_ n2_ n3_; (try clear hb); (try clear hb2); (try clear hk); (try clear hi)))
 go_loopg [9] k (fun kq v9 w' => ∃ (x9_1 : Int) (x175004_1 : List (List Int)) (u175004 : Value), v9 = .int .i64 x9_1 ∧ Aside0 (plane_blank.l0 kq t175 x9_1 a0_0 a0_1 a0_2 a0_3 a0_0 a0_1 a0_2 a0_3 x175004_1 = some (r1, r2, r3, r4, r5)) ∧ Aside0 (kq ≤ k) ∧ Aside0 (Kd.S (Kd.slice 72 (Kd.int .u16)) 53 w' w.heap.size (fun _ => True) u175004 x175004_1) ∧ Aside0 (w'.heap[gb172]? = some (.cells #[.int .i64 a0_0, .int .i64 a0_1, .int .i64 a0_2, .bool a0_3] 26 (0, 0))) ∧ Aside0 (w'.heap[gb173]? = some (.cells #[.int .i64 0, .int .i64 0, .int .i64 0, .bool false, (.slice none 0 0)] 39 (0, 0))) ∧ Aside0 (w'.heap[gb174]? = some (.cells #[.int .i64 a0_0, .int .i64 a0_1, .int .i64 a0_2, .bool a0_3, u175004] 39 (0, 0))) ∧ Aside0 (Below w.heap.size w w'))
 case atStart => exact ⟨(0), (([] : List (List Int))), (.slice none 0 0), (by first | rfl | (simp; done) | (simp [*]; done)), H', ⟨Nat.le_refl _⟩, ⟨by first | exact Kd.S_nil _ _ _ _ _ | exact Kd.N_nil _ _ _ _ _ | exact Kd.V_nil _ _ _ _ _ | exact Kd.Q_nil _ _ _ _ _ | exact Kd.R_nil _ _ _ _ _⟩, ⟨by (with_reducible repeat apply dX); exact BK172.out⟩, ⟨by (with_reducible repeat apply dX); exact BK173.out⟩, ⟨by (with_reducible repeat apply dX); exact BK174.out⟩, ⟨by repeat (first | (with_reducible first | exact HB.out | apply bA | apply bN | apply bD | refine bS ?_ GE172.out | refine bS ?_ GE173.out | refine bS ?_ GE174.out) | exact HB.out)⟩⟩
 case round =>
  clear H'
  try clear p2
  try clear c5
  try clear c6
  try clear c8
  try clear c9
  try clear hcz10_0
  try clear hcz10_1
  try clear hcz10_2
  try clear hcz10_3
  try clear hcz10_4
  try clear hcz11_0
  try clear hcz11_1
  try clear hcz11_2
  try clear hcz11_3
  try clear hcz6_0
  try clear hcz6_1
  try clear hcz6_2
  try clear hcz6_3
  try clear hfz10_0
  try clear hfz10_1
  try clear hfz10_2
  try clear hfz10_3
  try clear hfz10_4
  try clear hfz11_0
  try clear hfz11_1
  try clear hfz11_2
  try clear hfz11_3
  try clear hfz6_0
  try clear hfz6_1
  try clear hfz6_2
  try clear hfz6_3
  obtain ⟨x9_1, x175004_1, u175004, rfl, HA, HK1, HO_175004, BK172, BK173, BK174, HB⟩ := hrel
  cases gk with
  | zero => exact absurd HA.out (by simp [plane_blank.l0])
  | succ k1 =>
   have H := HA.out
   clear HA
   simp only [plane_blank.l0] at H
   by_cases c13 : x9_1 < t175
   ·rw [if_pos c13] at H
    have c13b0 : decide (x9_1 < t175) = true := decide_eq_true c13
    clear c13
    replace H := Option.bind_eq_some_iff.mp H
    obtain ⟨t176, A140, H⟩ := H
    replace H : (if 0 ≤ (wrap64 (t176 * a0_1)) then (if (wrap64 (t176 * a0_1) : Int).toNat ≤ 140737488355328 then (if x175004_1.length < 5864062014805 then (plane_blank.l0 k1 t175 (wrap64 (x9_1 + 1)) a0_0 a0_1 a0_2 a0_3 a0_0 a0_1 a0_2 a0_3 (x175004_1 ++ [(List.replicate (wrap64 (t176 * a0_1) : Int).toNat 0)])) else (none)) else (none)) else (none)) = some (r1, r2, r3, r4, r5) := H
    have A14 := am A140
    clear A140
    obtain ⟨ji15, hji15⟩ : ∃ j_ : Int, (wrap64 (t176 * a0_1)) = j_ := ⟨_, rfl⟩
    replace H : (if 0 ≤ (ji15) then (if (ji15 : Int).toNat ≤ 140737488355328 then (if x175004_1.length < 5864062014805 then (plane_blank.l0 k1 t175 (wrap64 (x9_1 + 1)) a0_0 a0_1 a0_2 a0_3 a0_0 a0_1 a0_2 a0_3 (x175004_1 ++ [(List.replicate (ji15 : Int).toNat 0)])) else (none)) else (none)) else (none)) = some (r1, r2, r3, r4, r5) := by first | (rw [hji15] at H; exact H) | (simp only [hji15] at H ⊢; exact H)
    (try rw [hji15] at A14)
    have hji15w : (IntKind.i64.wrap (t176 * a0_1)) = ji15 := (i64_w _).trans hji15
    by_cases c16 : 0 ≤ (ji15)
    ·rw [if_pos c16] at H
     have c16b0 := eq_true c16
     have c16b1 : decide (0 ≤ (ji15)) = true := decide_eq_true c16
     clear c16
     by_cases c17 : (ji15 : Int).toNat ≤ 140737488355328
     ·rw [if_pos c17] at H
      have c17b0 := eq_true c17
      have c17b1 : decide ((ji15 : Int).toNat ≤ 140737488355328) = true := decide_eq_true c17
      clear c17
      obtain ⟨y177, hy177⟩ : ∃ y_ : List Int, y_ = (List.replicate (ji15 : Int).toNat 0) := ⟨_, rfl⟩
      replace H : (if x175004_1.length < 5864062014805 then (plane_blank.l0 k1 t175 (wrap64 (x9_1 + 1)) a0_0 a0_1 a0_2 a0_3 a0_0 a0_1 a0_2 a0_3 (x175004_1 ++ [y177])) else (none)) = some (r1, r2, r3, r4, r5) := by first | (rw [hy177]; with_reducible exact H) | (have H2_ := (Option.bind_some _ _).symm.trans H; rw [hy177]; with_reducible exact H2_) | (have H2_ := (Option.bind_some _ _).symm.trans H; with_reducible exact H2_) | with_reducible exact H | (rw [hy177]; exact H) | exact H
      have Ny177 := am hy177
      clear hy177
      by_cases c18 : x175004_1.length < 5864062014805
      ·rw [if_pos c18] at H
       have LMc18 := am c18
       clear c18
       obtain ⟨y180, hy180⟩ : ∃ y_ : List (List Int), y_ = (x175004_1 ++ [y177]) := ⟨_, rfl⟩
       replace H : (plane_blank.l0 k1 t175 (wrap64 (x9_1 + 1)) a0_0 a0_1 a0_2 a0_3 a0_0 a0_1 a0_2 a0_3 y180) = some (r1, r2, r3, r4, r5) := by first | (rw [hy180]; with_reducible exact H) | (have H2_ := (Option.bind_some _ _).symm.trans H; rw [hy180]; with_reducible exact H2_) | (have H2_ := (Option.bind_some _ _).symm.trans H; with_reducible exact H2_) | with_reducible exact H | (rw [hy180]; exact H) | exact H
       have Ny180 := am hy180
       clear hy180
       have H' := am H
       clear H
       try go_wp2
       have n0_ := am (kD HO_175004.out)
       have n1_ := am (blk_drew BK172.out)
       have n2_ := am (blk_drew BK173.out)
       have n3_ := am (blk_drew BK174.out)
       have n4_ := am (bD HB.out)
       clear HO_175004
       clear BK172
       clear BK173
       clear BK174
       clear HB
       have HO_175004 := n0_
       have BK172 := n1_
       have BK173 := n2_
       have BK174 := n3_
       have HB := n4_
       clear n0_ n1_ n2_ n3_ n4_
       refine start_ (n := 13) (S := fun w' => w'.cell? ⟨gb174, 0, none⟩ = some (.int .i64 a0_0) ∧ w'.cell? ⟨gb174, 1, none⟩ = some (.int .i64 a0_1) ∧ w'.cell? ⟨gb174, 2, none⟩ = some (.int .i64 a0_2) ∧ w'.cell? ⟨gb174, 3, none⟩ = some (.bool a0_3) ∧ w'.cell? ⟨gb174, 4, none⟩ = some (u175004) ∧ w'.cell? ⟨gb172, 0, none⟩ = some (.int .i64 a0_0) ∧ w'.cell? ⟨gb172, 1, none⟩ = some (.int .i64 a0_1) ∧ w'.cell? ⟨gb172, 2, none⟩ = some (.int .i64 a0_2) ∧ w'.cell? ⟨gb172, 3, none⟩ = some (.bool a0_3)) (ds := [12]) #[false, false, false, false, false, false, false, false, false, false, false, false, false] (by kernel_rfl) rfl rfl ⟨(bC BK174.out 0).trans rfl, (bC BK174.out 1).trans rfl, (bC BK174.out 2).trans rfl, (bC BK174.out 3).trans rfl, (bC BK174.out 4).trans rfl, (bC BK172.out 0).trans rfl, (bC BK172.out 1).trans rfl, (bC BK172.out 2).trans rfl, (bC BK172.out 3).trans rfl⟩ (fun hHeld => ?_); refine with_tabW plane_blank.tab5 plane_blank.bits5 (fun HT_ HW_ => ?_)
       generalize wr.drew = w19 at HO_175004 BK172 BK173 BK174 HB hHeld ⊢
       refine pure_ (i := 0) (N := some 12) (v := ?_) (a' := ?_) #[true, false, false, false, false, false, false, false, false, false, false, false, false] rfl rfl (any_of HT_.out (by kernel_rfl)) (fun _ _ _ h => h) (Or.inl ⟨by rfl, ?_⟩) ?_ ?_
       rotate_left
       ·intro w'
        go_simp
        with_reducible rfl
       rotate_left
       ·simp only [Act.put, List.setIfInBounds_toArray, List.set_cons_zero, List.set_cons_succ, i64_w, i32_w]
        rfl
       refine pure_ (i := 3) (N := some 15) (v := ?_) (a' := ?_) #[true, false, false, true, false, false, false, false, false, false, false, false, false] rfl rfl (any_of HT_.out (by kernel_rfl)) (fun _ _ _ h => h) (Or.inl ⟨by rfl, ?_⟩) ?_ ?_
       rotate_left
       ·intro w'
        go_simp
        with_reducible rfl
       rotate_left
       ·simp only [Act.put, List.setIfInBounds_toArray, List.set_cons_zero, List.set_cons_succ, i64_w, i32_w]
        rfl
       refine pure_ (i := 5) (N := some 17) (v := ?_) (a' := ?_) #[true, false, false, true, false, true, false, false, false, false, false, false, false] rfl rfl (any_of HT_.out (by kernel_rfl)) (fun _ _ _ h => h) (Or.inl ⟨by rfl, ?_⟩) ?_ ?_
       rotate_left
       ·intro w'
        go_simp
        with_reducible rfl
       rotate_left
       ·simp only [Act.put, List.setIfInBounds_toArray, List.set_cons_zero, List.set_cons_succ, i64_w, i32_w]
        rfl
       refine take_ (i := 1) (N := some 13) (v := ?_) (a' := ?_) #[true, true, false, true, false, true, false, false, false, false, false, false, false] rfl rfl (take_ofW HT_.out HW_.out (by kernel_rfl)) (fun _ _ _ h => h) (Or.inl ⟨by rfl, ?_⟩) hHeld ?_ ?_
       rotate_left
       ·rintro w' ⟨s0, s1, s2, s3, s4, s5, s6, s7, s8⟩
        go_simp
        with_reducible rfl
       rotate_left
       ·simp only [Act.put, List.setIfInBounds_toArray, List.set_cons_zero, List.set_cons_succ, i64_w, i32_w]
        rfl
       refine take_ (i := 2) (N := some 14) (v := ?_) (a' := ?_) #[true, true, true, true, false, true, false, false, false, false, false, false, false] rfl rfl (take_ofW HT_.out HW_.out (by kernel_rfl)) (fun _ _ _ h => h) (Or.inl ⟨by rfl, ?_⟩) hHeld ?_ ?_
       rotate_left
       ·rintro w' ⟨s0, s1, s2, s3, s4, s5, s6, s7, s8⟩
        go_simp
        with_reducible rfl
       rotate_left
       ·simp only [Act.put, List.setIfInBounds_toArray, List.set_cons_zero, List.set_cons_succ, i64_w, i32_w]
        rfl
       refine take_ (i := 6) (N := some 18) (v := ?_) (a' := ?_) #[true, true, true, true, false, true, true, false, false, false, false, false, false] rfl rfl (take_ofW HT_.out HW_.out (by kernel_rfl)) (fun _ _ _ h => h) (Or.inl ⟨by rfl, ?_⟩) hHeld ?_ ?_
       rotate_left
       ·rintro w' ⟨s0, s1, s2, s3, s4, s5, s6, s7, s8⟩
        go_simp
        with_reducible rfl
       rotate_left
       ·simp only [Act.put, List.setIfInBounds_toArray, List.set_cons_zero, List.set_cons_succ, i64_w, i32_w]
        rfl
       refine one_ (i := 4) (N := some 16) #[true, true, true, true, true, true, true, false, false, false, false, false, false] rfl rfl (one_of HT_.out (by kernel_rfl)) (by decide) (fun K hK => ?_)
       refine goes_ Try.func55 (by kernel_rfl) rfl #[.agg #[.int .i64 a0_0, .int .i64 a0_1, .int .i64 a0_2, .bool a0_3], .int .i64 x9_1] (by rfl) rfl rfl (by (try simp only [List.map_toArray, List.map_cons, List.map_nil]); first | done | rfl | (simp only [List.length_drop, List.length_take]; rfl)) ?_
       with_reducible refine (plane_width.calls a0_0 a0_1 a0_2 a0_3 x9_1 t176 _ A14.out).mono ?_
       rintro e w20 ⟨rfl, hb⟩
       refine ⟨_, rfl, ?_⟩
       have n0_ := am (Kd.S_below (by (with_reducible repeat (first | apply kA | apply kN | apply kD)); exact HO_175004.out) hb)
       have n1_ := am (bB (g := gb172) (o := .cells #[.int .i64 a0_0, .int .i64 a0_1, .int .i64 a0_2, .bool a0_3] 26 (0, 0)) (by (with_reducible repeat apply dX); exact BK172.out) hb)
       have n2_ := am (bB (g := gb173) (o := .cells #[.int .i64 0, .int .i64 0, .int .i64 0, .bool false, .slice none 0 0] 39 (0, 0)) (by (with_reducible repeat apply dX); exact BK173.out) hb)
       have n3_ := am (bB (g := gb174) (o := .cells #[.int .i64 a0_0, .int .i64 a0_1, .int .i64 a0_2, .bool a0_3, u175004] 39 (0, 0)) (by (with_reducible repeat apply dX); exact BK174.out) hb)
       have n4_ := am (bT (by repeat (first | (with_reducible first | exact HB.out | apply bA | apply bN | apply bD | refine bS ?_ GE172.out | refine bS ?_ GE173.out | refine bS ?_ GE174.out) | exact HB.out)) hb)
       clear HO_175004
       clear BK172
       clear BK173
       clear BK174
       clear HB
       have HO_175004 := n0_
       have BK172 := n1_
       have BK173 := n2_
       have BK174 := n3_
       have HB := n4_
       clear n0_ n1_ n2_ n3_ n4_
       (try clear hb)
       (try clear hb2)
       (try clear hk)
       (try clear hi)
       refine hK.out _ _ ⟨(bC BK174.out 0).trans rfl, (bC BK174.out 1).trans rfl, (bC BK174.out 2).trans rfl, (bC BK174.out 3).trans rfl, (bC BK174.out 4).trans rfl, (bC BK172.out 0).trans rfl, (bC BK172.out 1).trans rfl, (bC BK172.out 2).trans rfl, (bC BK172.out 3).trans rfl⟩ (fun hHeld => ?_)
       clear hK K
       refine norm_ (a' := ?_) ?_ ?_
       rotate_left
       ·show Act.put _ (some 16) _ = _
        simp only [Act.put, List.setIfInBounds_toArray, List.set_cons_zero, List.set_cons_succ, i64_w, i32_w]
        rfl
       refine pure_ (i := 7) (N := some 19) (v := ?_) (a' := ?_) #[true, true, true, true, true, true, true, true, false, false, false, false, false] rfl rfl (any_of HT_.out (by kernel_rfl)) (fun _ _ _ h => h) (Or.inl ⟨by rfl, ?_⟩) ?_ ?_
       rotate_left
       ·intro w'
        go_simp
        with_reducible rfl
       rotate_left
       ·simp only [Act.put, List.setIfInBounds_toArray, List.set_cons_zero, List.set_cons_succ, i64_w, i32_w]
        rfl
       refine one_ (i := 8) (N := some 20) #[true, true, true, true, true, true, true, true, true, false, false, false, false] rfl rfl (one_of HT_.out (by kernel_rfl)) (by decide) (fun K hK => ?_)
       refine Kd.R_make_step (Kd.int .u16) _ 72 (by rfl) (N := 20) rfl 53 _ _ rfl ji15 rfl rfl Try.underlying53 (.int .u16 0) 2 info72 rfl (by decide) (by omega) 0 (ok := fun _ => True) (okp := fun _ => True) rfl (fun _ hk => hk) trivial (of_decide_eq_true (by first | (with_reducible assumption) | assumption)) (Nat.le_trans (Nat.mul_le_mul_right _ (of_decide_eq_true (by first | (with_reducible assumption) | assumption) : ji15.toNat ≤ 140737488355328)) (by omega)) (Below.refl _ _) (Nat.le_refl _) ?_
       intro v178 w21 ho22 hb hg_ hnew_
       clear hg_ hnew_
       (first | rw [← Ny177.out] at ho22 | (simp only [Int.reduceToNat] at ho22; rw [← Ny177.out] at ho22))
       have n0_ := am (Kd.S_elder' (by (with_reducible repeat (first | apply kA | apply kN | apply kD)); exact HO_175004.out) (Kd.R_base ho22) hb)
       have n1_ := am (Kd.R_lower ho22 (bU (by repeat (first | (with_reducible first | exact HB.out | apply bA | apply bN | apply bD | refine bS ?_ GE172.out | refine bS ?_ GE173.out | refine bS ?_ GE174.out) | exact HB.out))))
       have n2_ := am (bB (g := gb172) (o := .cells #[.int .i64 a0_0, .int .i64 a0_1, .int .i64 a0_2, .bool a0_3] 26 (0, 0)) (by (with_reducible repeat apply dX); exact BK172.out) hb)
       have n3_ := am (bB (g := gb173) (o := .cells #[.int .i64 0, .int .i64 0, .int .i64 0, .bool false, .slice none 0 0] 39 (0, 0)) (by (with_reducible repeat apply dX); exact BK173.out) hb)
       have n4_ := am (bB (g := gb174) (o := .cells #[.int .i64 a0_0, .int .i64 a0_1, .int .i64 a0_2, .bool a0_3, u175004] 39 (0, 0)) (by (with_reducible repeat apply dX); exact BK174.out) hb)
       have n5_ := am (bT (by repeat (first | (with_reducible first | exact HB.out | apply bA | apply bN | apply bD | refine bS ?_ GE172.out | refine bS ?_ GE173.out | refine bS ?_ GE174.out) | exact HB.out)) hb)
       clear HO_175004
       clear BK172
       clear BK173
       clear BK174
       clear HB
       have HO_175004 := n0_
       have HO179 := n1_
       have BK172 := n2_
       have BK173 := n3_
       have BK174 := n4_
       have HB := n5_
       clear n0_ n1_ n2_ n3_ n4_ n5_
       clear hb ho22
       obtain ⟨Ao24, co24, eo24⟩ := Kd.R_slice HO179.out
       (first | subst eo24 | (injection eo24 with f1_ f2_ f3_; have f4_ := f1_.symm; have f5_ := f3_.symm; clear f1_ f2_ f3_; subst f4_; subst f5_))
       refine hK.out _ _ ⟨(bC BK174.out 0).trans rfl, (bC BK174.out 1).trans rfl, (bC BK174.out 2).trans rfl, (bC BK174.out 3).trans rfl, (bC BK174.out 4).trans rfl, (bC BK172.out 0).trans rfl, (bC BK172.out 1).trans rfl, (bC BK172.out 2).trans rfl, (bC BK172.out 3).trans rfl⟩ (fun hHeld => ?_)
       clear hK K
       refine norm_ (a' := ?_) ?_ ?_
       rotate_left
       ·show Act.put _ (some 20) _ = _
        simp only [Act.put, List.setIfInBounds_toArray, List.set_cons_zero, List.set_cons_succ, i64_w, i32_w]
        rfl
       refine one_ (i := 9) (N := some 21) #[true, true, true, true, true, true, true, true, true, true, false, false, false] rfl rfl (one_of HT_.out (by kernel_rfl)) (by decide) (fun K hK => ?_)
       refine value_ (w1 := ?_) (v := ?_) (by rfl) rfl ?_ ?_
       rotate_left 2
       ·go_simp
        constructor
        ·rfl
        ·rfl
       refine hK.out _ _ ⟨(bC (blk_alloc BK174.out _) 0).trans rfl, (bC (blk_alloc BK174.out _) 1).trans rfl, (bC (blk_alloc BK174.out _) 2).trans rfl, (bC (blk_alloc BK174.out _) 3).trans rfl, (bC (blk_alloc BK174.out _) 4).trans rfl, (bC (blk_alloc BK172.out _) 0).trans rfl, (bC (blk_alloc BK172.out _) 1).trans rfl, (bC (blk_alloc BK172.out _) 2).trans rfl, (bC (blk_alloc BK172.out _) 3).trans rfl⟩ (fun hHeld => ?_)
       clear hK K
       refine norm_ (a' := ?_) ?_ ?_
       rotate_left
       ·show Act.put _ (some 21) _ = _
        simp only [Act.put, List.setIfInBounds_toArray, List.set_cons_zero, List.set_cons_succ, i64_w, i32_w]
        rfl
       refine one_ (i := 10) (N := some 22) #[true, true, true, true, true, true, true, true, true, true, true, false, false] rfl rfl (one_of HT_.out (by kernel_rfl)) (by decide) (fun K hK => ?_)
       refine Kd.S_append_step (Kd.slice 72 (Kd.int .u16)) (w0 := w) w.heap.size (by rfl) (.tmp 13) (.tmp 21) 37 53 (.slice none 0 0) 24 rfl Try.underlying37 info53 rfl (by decide) (by omega) u175004 x175004_1 y177 [.slice Ao24 y177.length co24] (fun _ => True) (fun k_ => some k_ = (.slice Ao24 y177.length co24 : Value).ownBlock) rfl rfl ?aP (fun k_ hk_ => ((Kd.R_mono (ok' := fun k_ => ((fun _ => True)) k_ ∧ some k_ ≠ (u175004 : Value).ownBlock) (Kd.R_apart' (HO179.out) (Kd.S_typed HO_175004.out) (by decide)) (fun k_ hk => ⟨trivial, hk.2⟩))).1 k_ hk_.symm) ?aF ?aO ?aB ?aS ?aL ?_
       (case aP => exact Kd.M_row (Kd.R_mono (Kd.R_tight rfl (Kd.R_mono (ok' := fun k_ => ((fun _ => True)) k_ ∧ some k_ ≠ (u175004 : Value).ownBlock) (Kd.R_apart' (HO179.out) (Kd.S_typed HO_175004.out) (by decide)) (fun k_ hk => ⟨trivial, hk.2⟩))) (fun _ h_ => h_)))
       (case aB => exact (by repeat (first | (with_reducible first | exact HB.out | apply bA | apply bN | apply bD | refine bS ?_ GE172.out | refine bS ?_ GE173.out | refine bS ?_ GE174.out) | exact HB.out)))
       (case aF => exact (fun _ _ => trivial))
       (case aO => exact (by (with_reducible repeat (first | apply kA | apply kN | apply kD)); exact Kd.S_mono HO_175004.out (fun k_ hk => ⟨trivial, fun e_ => hk.2 e_⟩)))
       (case aS => exact (bU (by repeat (first | (with_reducible first | exact HB.out | apply bA | apply bN | apply bD | refine bS ?_ GE172.out | refine bS ?_ GE173.out | refine bS ?_ GE174.out) | exact HB.out))))
       (case aL => have := LMc18.out; omega)
       intro v181 w23 ho hb hg hat
       rw [← Ny180.out] at ho
       have n0_ := am (blk_grown (g := gb172) (o := .cells #[.int .i64 a0_0, .int .i64 a0_1, .int .i64 a0_2, .bool a0_3] 26 (0, 0)) (by (with_reducible repeat apply dX); exact BK172.out) hg (Kd.S_ne HO_175004.out BK172.out (by decide)))
       have n1_ := am (blk_grown (g := gb173) (o := .cells #[.int .i64 0, .int .i64 0, .int .i64 0, .bool false, .slice none 0 0] 39 (0, 0)) (by (with_reducible repeat apply dX); exact BK173.out) hg (Kd.S_ne HO_175004.out BK173.out (by decide)))
       have n2_ := am (blk_grown (g := gb174) (o := .cells #[.int .i64 a0_0, .int .i64 a0_1, .int .i64 a0_2, .bool a0_3, u175004] 39 (0, 0)) (by (with_reducible repeat apply dX); exact BK174.out) hg (Kd.S_ne HO_175004.out BK174.out (by decide)))
       have n3_ := am (hb)
       have n4_ := am (ho)
       clear BK172
       clear BK173
       clear BK174
       clear HB
       clear HO_175004
       clear HO179
       have BK172 := n0_
       have BK173 := n1_
       have BK174 := n2_
       have HB := n3_
       have HO182 := n4_
       clear n0_ n1_ n2_ n3_ n4_
       clear ho hb hg hat
       obtain ⟨Ao25, co25, eo25⟩ := Kd.S_slice HO182.out
       (first | subst eo25 | (injection eo25 with f1_ f2_ f3_; have f4_ := f1_.symm; have f5_ := f3_.symm; clear f1_ f2_ f3_; subst f4_; subst f5_))
       refine hK.out _ _ ⟨(bC BK174.out 0).trans rfl, (bC BK174.out 1).trans rfl, (bC BK174.out 2).trans rfl, (bC BK174.out 3).trans rfl, (bC BK174.out 4).trans rfl, (bC BK172.out 0).trans rfl, (bC BK172.out 1).trans rfl, (bC BK172.out 2).trans rfl, (bC BK172.out 3).trans rfl⟩ (fun hHeld => ?_)
       clear hK K
       refine norm_ (a' := ?_) ?_ ?_
       rotate_left
       ·show Act.put _ (some 22) _ = _
        simp only [Act.put, List.setIfInBounds_toArray, List.set_cons_zero, List.set_cons_succ, i64_w, i32_w]
        rfl
       refine pure_ (i := 11) (N := some 23) (v := ?_) (a' := ?_) #[true, true, true, true, true, true, true, true, true, true, true, true, false] rfl rfl (any_of HT_.out (by kernel_rfl)) (fun _ _ _ h => h) (Or.inl ⟨by rfl, ?_⟩) ?_ ?_
       rotate_left
       ·intro w'
        go_simp
        with_reducible rfl
       rotate_left
       ·simp only [Act.put, List.setIfInBounds_toArray, List.set_cons_zero, List.set_cons_succ, i64_w, i32_w]
        rfl
       refine last_ (i := 12) (N := none) #[true, true, true, true, true, true, true, true, true, true, true, true, true] rfl rfl (one_of HT_.out (by kernel_rfl)) (by decide) (fun K hK => ?_)
       have hs26 : w23.cell? ⟨gb174, 4, none⟩ = some (u175004) := (bC BK174.out 4).trans rfl
       have hfs26 := bZ BK174.out 4
       have hns26_0 := NB172_174.out
       have hns26_1 := NB173_174.out
       have hms26_0 := NB174_172.out
       have hms26_1 := NB174_173.out
       refine skip_ (w1 := ?_) (by rfl) rfl ?_ ?_
       rotate_left
       ·go_simp
        rfl
       refine hK.out _ _ ?_
       clear hK K
       refine done_ (done_of HT_.out (by kernel_rfl)) ?_
       try go_wp2
       go_roundg k1
       case measure => have := HK1.out; omega
       case rel => exact ⟨(wrap64 (x9_1 + 1)), (y180), (.slice Ao25 y180.length co25), (by first | rfl | (simp; done) | (simp [*]; done)), H', ⟨by have := HK1.out; omega⟩, ⟨by (with_reducible repeat (first | apply kA | apply kN | apply kD)); exact Kd.S_mono (kF (p := ⟨gb174, 4, none⟩) (kT HO182.out BK174.out (by decide)) (fun _ hk => hk.2) (.slice Ao25 y180.length co25)) (fun _ hk => trivial)⟩, ⟨by (with_reducible repeat apply dX); refine bF ?_ NB172_174.out _; (with_reducible repeat apply dX); exact BK172.out⟩, ⟨by (with_reducible repeat apply dX); refine bF ?_ NB173_174.out _; (with_reducible repeat apply dX); exact BK173.out⟩, ⟨by (with_reducible repeat apply dX); refine bP (cs := #[.int .i64 a0_0, .int .i64 a0_1, .int .i64 a0_2, .bool a0_3, u175004]) ?_ 4 _ rfl; (with_reducible repeat apply dX); exact BK174.out⟩, ⟨by repeat (first | (with_reducible first | exact HB.out | apply bA | apply bN | apply bD | refine bS ?_ GE172.out | refine bS ?_ GE173.out | refine bS ?_ GE174.out) | exact HB.out)⟩⟩
      ·rw [if_neg c18] at H
       exact absurd H (by simp)
     ·rw [if_neg c17] at H
      exact absurd H (by simp)
    ·rw [if_neg c16] at H
     exact absurd H (by simp)
   ·rw [if_neg c13] at H
    have c13b0 : decide (x9_1 < t175) = false := decide_eq_false c13
    clear c13
    simp only [Option.some.injEq, Prod.mk.injEq] at H
    obtain ⟨rfl, rfl, rfl, rfl, rfl⟩ := H
    have hnb27 := NB174_172.out
    have hnc27 := NB172_174.out
    have hnb28 := NB174_173.out
    have hnc28 := NB173_174.out
    have hcz29_0 : wr.cell? ⟨gb174, 0, none⟩ = some (.int .i64 a0_0) := (bC BK174.out 0).trans rfl
    have hcz29_1 : wr.cell? ⟨gb174, 1, none⟩ = some (.int .i64 a0_1) := (bC BK174.out 1).trans rfl
    have hcz29_2 : wr.cell? ⟨gb174, 2, none⟩ = some (.int .i64 a0_2) := (bC BK174.out 2).trans rfl
    have hcz29_3 : wr.cell? ⟨gb174, 3, none⟩ = some (.bool a0_3) := (bC BK174.out 3).trans rfl
    have hcz29_4 : wr.cell? ⟨gb174, 4, none⟩ = some (u175004) := (bC BK174.out 4).trans rfl
    have hfz29_0 := bZ BK174.out 0
    have hfz29_1 := bZ BK174.out 1
    have hfz29_2 := bZ BK174.out 2
    have hfz29_3 := bZ BK174.out 3
    have hfz29_4 := bZ BK174.out 4
    have hnb30 := NB173_172.out
    have hnc30 := NB172_173.out
    have hcz31_0 : wr.cell? ⟨gb173, 0, none⟩ = some (.int .i64 0) := (bC BK173.out 0).trans rfl
    have hcz31_1 : wr.cell? ⟨gb173, 1, none⟩ = some (.int .i64 0) := (bC BK173.out 1).trans rfl
    have hcz31_2 : wr.cell? ⟨gb173, 2, none⟩ = some (.int .i64 0) := (bC BK173.out 2).trans rfl
    have hcz31_3 : wr.cell? ⟨gb173, 3, none⟩ = some (.bool false) := (bC BK173.out 3).trans rfl
    have hcz31_4 : wr.cell? ⟨gb173, 4, none⟩ = some (.slice none 0 0) := (bC BK173.out 4).trans rfl
    have hfz31_0 := bZ BK173.out 0
    have hfz31_1 := bZ BK173.out 1
    have hfz31_2 := bZ BK173.out 2
    have hfz31_3 := bZ BK173.out 3
    have hfz31_4 := bZ BK173.out 4
    obtain ⟨Ao32, co32, eo32⟩ := Kd.S_slice HO_175004.out
    subst eo32
    go_wp2
    refine bodyPost_ret (results_cell_row rfl _ _ gb173 39 #[.int .i64 a0_0, .int .i64 a0_1, .int .i64 a0_2, .bool a0_3, .slice Ao32 x175004_1.length co32] (0, 0) _ rfl (by (with_reducible repeat apply dX); refine bP (cs := #[.int .i64 a0_0, .int .i64 a0_1, .int .i64 a0_2, .bool a0_3, .slice none 0 0]) ?_ 4 _ rfl; (with_reducible repeat apply dX); refine bP (cs := #[.int .i64 a0_0, .int .i64 a0_1, .int .i64 a0_2, .bool false, .slice none 0 0]) ?_ 3 _ rfl; (with_reducible repeat apply dX); refine bP (cs := #[.int .i64 a0_0, .int .i64 a0_1, .int .i64 0, .bool false, .slice none 0 0]) ?_ 2 _ rfl; (with_reducible repeat apply dX); refine bP (cs := #[.int .i64 a0_0, .int .i64 0, .int .i64 0, .bool false, .slice none 0 0]) ?_ 1 _ rfl; (with_reducible repeat apply dX); refine bP (cs := #[.int .i64 0, .int .i64 0, .int .i64 0, .bool false, .slice none 0 0]) ?_ 0 _ rfl; (with_reducible repeat apply dX); exact BK173.out) Try.underlying39 rfl (by kernel_rfl)) rfl ?_
    exact ⟨_, by first | rfl | (simp [errW_none, errW_some] <;> rfl) | (simp [*, errW_none, errW_some] <;> rfl), by (with_reducible repeat (first | apply kA | apply kN | apply kD)); exact Kd.S_mono (kF (p := ⟨gb173, 4, none⟩) (kF (p := ⟨gb173, 3, none⟩) (kF (p := ⟨gb173, 2, none⟩) (kF (p := ⟨gb173, 1, none⟩) (kF (p := ⟨gb173, 0, none⟩) (kT HO_175004.out BK173.out (by decide)) (fun _ hk => hk.2) (.int .i64 a0_0)) (fun _ hk => hk.2) (.int .i64 a0_1)) (fun _ hk => hk.2) (.int .i64 a0_2)) (fun _ hk => hk.2) (.bool a0_3)) (fun _ hk => hk.2) (.slice Ao32 x175004_1.length co32)) (fun _ hk => trivial), by repeat (first | (with_reducible first | exact HB.out | apply bA | apply bN | apply bD | refine bS ?_ GE172.out | refine bS ?_ GE173.out | refine bS ?_ GE174.out) | exact HB.out)⟩

/-! ### plane_New: function 23 -/
def plane_New.f (k : Nat) (a0_0 : Int) (a0_1 : Int) (a0_2 : Int) (a0_3 : Bool) : Option (Int × Int × Int × Bool × (List (List Int)) × Int) := (plane_Shaped.f k a0_0 a0_1 a0_2 a0_3).bind fun t185 => (if t185 = 0 then ((plane_blank.f k a0_0 a0_1 a0_2 a0_3).bind fun bt186 => (some (bt186.1, bt186.2.1, bt186.2.2.1, bt186.2.2.2.1, bt186.2.2.2.2, 0))) else (some (0, 0, 0, false, ([] : List (List Int)), t185)))
theorem plane_New.mono : ∀ a0 a1 a2 a3 k, LeO (plane_New.f k a0 a1 a2 a3) (plane_New.f (k + 1) a0 a1 a2 a3) := by
 intro a0 a1 a2 a3 k
 unfold plane_New.f
 repeat' first
   | (with_reducible exact plane_Shaped.mono _ _ _ _ _)
   | (with_reducible exact plane_blank.mono _ _ _ _ _)
   | (with_reducible exact LeO.refl _)
   | (with_reducible exact LeO.none _)
   | (with_reducible refine LeO.ite ?_ ?_)
   | (with_reducible refine LeO.bind ?_ (fun _ => ?_))
   | exact plane_Shaped.mono _ _ _ _ _
   | exact plane_blank.mono _ _ _ _ _
   | exact LeO.none _
   | refine LeO.ite ?_ ?_
   | refine LeO.bind ?_ (fun _ => ?_)
set_option maxHeartbeats 8000000 in
set_option maxRecDepth 100000 in
theorem plane_New.calls (k : Nat) (a0_0 : Int) (a0_1 : Int) (a0_2 : Int) (a0_3 : Bool) (r1 : Int) (r2 : Int) (r3 : Int) (r4 : Bool) (r5 : List (List Int)) (r6 : Int) (w : World) (h : plane_New.f k a0_0 a0_1 a0_2 a0_3 = some (r1, r2, r3, r4, r5, r6)) :
  Calls Try.prog 23 #[.agg #[.int .i64 a0_0, .int .i64 a0_1, .int .i64 a0_2, .bool a0_3]] w fun e w' => ∃ v4_ : Value, e = .returned (.tuple #[.agg #[.int .i64 r1, .int .i64 r2, .int .i64 r3, .bool r4, v4_], .int .i64 r6]) ∧ Kd.S (Kd.slice 72 (Kd.int .u16)) 53 w' w.heap.size (fun _ => True) v4_ r5 ∧ Below w.heap.size w w' := by
 have hu26 := Try.underlying26
 have hu39 := Try.underlying39
 have HB := am (Below.refl w.heap.size w)
 have H : ((plane_Shaped.f k a0_0 a0_1 a0_2 a0_3).bind fun t185 => (if t185 = 0 then ((plane_blank.f k a0_0 a0_1 a0_2 a0_3).bind fun bt186 => (some (bt186.1, bt186.2.1, bt186.2.2.1, bt186.2.2.2.1, bt186.2.2.2.2, 0))) else (some (0, 0, 0, false, ([] : List (List Int)), t185)))) = some (r1, r2, r3, r4, r5, r6) := h
 clear h
 replace H := Option.bind_eq_some_iff.mp H
 obtain ⟨t185, A20, H⟩ := H
 replace H : (if t185 = 0 then ((plane_blank.f k a0_0 a0_1 a0_2 a0_3).bind fun bt186 => (some (bt186.1, bt186.2.1, bt186.2.2.1, bt186.2.2.2.1, bt186.2.2.2.2, 0))) else (some (0, 0, 0, false, ([] : List (List Int)), t185))) = some (r1, r2, r3, r4, r5, r6) := H
 have A2 := am A20
 clear A20
 by_cases c3 : t185 = 0
 ·rw [if_pos c3] at H
  have c3b0 : (t185 == 0) = true := beq_iff_eq.mpr c3
  have c3b1 : (t185 != 0) = false := bne_eq_false_iff_eq.mpr c3
  clear c3
  replace H := Option.bind_eq_some_iff.mp H
  obtain ⟨⟨t186, t187, t188, t189, t190⟩, A40, H⟩ := H
  replace H : (some (t186, t187, t188, t189, t190, 0)) = some (r1, r2, r3, r4, r5, r6) := H
  have A4 := am A40
  clear A40
  simp only [Option.some.injEq, Prod.mk.injEq] at H
  obtain ⟨rfl, rfl, rfl, rfl, rfl, rfl⟩ := H
  go_enter Try.func23, Try.ntmps23
  go_wp2_with (first | ((with_reducible refine gD (N := 1) rfl ?_); refine bE ?hg (N := 1) ?hd (cs := #[.int .i64 a0_0, .int .i64 a0_1, .int .i64 a0_2, .bool a0_3]) (t := 26) ?hr ?_; (case hd => rfl); (case hg => rfl); (case hr => first | (go_simp; done) | (go_simp; rfl)); intro gb183 hg w5 hbox hb; have n0_ := am (bT (by repeat (first | (with_reducible first | exact HB.out | apply bA | apply bN | apply bD) | exact HB.out)) hb); have n1_ := am (hbox); have n2_ := am ((by rw [hg]; exact (bU (by repeat (first | (with_reducible first | exact HB.out | apply bA | apply bN | apply bD) | exact HB.out))) : w.heap.size ≤ gb183)); have n3_ := am ((by rw [hg]; exact (bU (by repeat (first | (with_reducible first | exact HB.out | apply bA | apply bN | apply bD) | exact HB.out))) : w.heap.size ≤ gb183)); clear HB; have HB := n0_; have BK183 := n1_; have GW183 := n2_; have GE183 := n3_; clear n0_ n1_ n2_ n3_; clear hb hbox hg) | ((with_reducible refine gD (N := 2) rfl ?_); refine bE ?hg (N := 2) ?hd (cs := #[.int .i64 0, .int .i64 0, .int .i64 0, .bool false, .slice none 0 0]) (t := 39) ?hr ?_; (case hd => rfl); (case hg => rfl); (case hr => first | (go_simp; done) | (go_simp; rfl)); intro gb184 hg w6 hbox hb; have n0_ := am (bB (g := gb183) (o := .cells #[.int .i64 a0_0, .int .i64 a0_1, .int .i64 a0_2, .bool a0_3] 26 (0, 0)) (by (with_reducible repeat apply dX); exact BK183.out) hb); have n1_ := am (bT (by repeat (first | (with_reducible first | exact HB.out | apply bA | apply bN | apply bD | refine bS ?_ GE183.out) | exact HB.out)) hb); have n2_ := am (hbox); have n3_ := am ((by rw [hg]; exact (bU (by repeat (first | (with_reducible first | exact HB.out | apply bA | apply bN | apply bD | refine bS ?_ GE183.out) | exact HB.out))) : w.heap.size ≤ gb184)); have n4_ := am ((by rw [hg]; exact (bU (by repeat (first | (with_reducible first | exact HB.out | apply bA | apply bN | apply bD | refine bS ?_ GE183.out) | exact HB.out))) : w.heap.size ≤ gb184)); have n5_ := am ((by rw [hg]; exact nL (bL (g := gb183) (o := .cells #[.int .i64 a0_0, .int .i64 a0_1, .int .i64 a0_2, .bool a0_3] 26 (0, 0)) (by (with_reducible repeat apply dX); exact BK183.out)) : gb183 ≠ gb184)); have n6_ := am ((by rw [hg]; exact nG (bL (g := gb183) (o := .cells #[.int .i64 a0_0, .int .i64 a0_1, .int .i64 a0_2, .bool a0_3] 26 (0, 0)) (by (with_reducible repeat apply dX); exact BK183.out)) : gb184 ≠ gb183)); clear BK183; clear HB; have BK183 := n0_; have HB := n1_; have BK184 := n2_; have GW184 := n3_; have GE184 := n4_; have NB183_184 := n5_; have NB184_183 := n6_; clear n0_ n1_ n2_ n3_ n4_ n5_ n6_; clear hb hbox hg; have hnb7 := NB183_184.out; have hnc7 := NB184_183.out; have hcz8_0 : w6.cell? ⟨gb183, 0, none⟩ = some (.int .i64 a0_0) := (bC BK183.out 0).trans rfl; have hcz8_1 : w6.cell? ⟨gb183, 1, none⟩ = some (.int .i64 a0_1) := (bC BK183.out 1).trans rfl; have hcz8_2 : w6.cell? ⟨gb183, 2, none⟩ = some (.int .i64 a0_2) := (bC BK183.out 2).trans rfl; have hcz8_3 : w6.cell? ⟨gb183, 3, none⟩ = some (.bool a0_3) := (bC BK183.out 3).trans rfl; have hfz8_0 := bZ BK183.out 0; have hfz8_1 := bZ BK183.out 1; have hfz8_2 := bZ BK183.out 2; have hfz8_3 := bZ BK183.out 3) | ((with_reducible refine gate_callee (f := 17) rfl ?_); refine goesL_ (some 6) rfl rfl Try.func17 (by kernel_rfl) rfl #[.agg #[.int .i64 a0_0, .int .i64 a0_1, .int .i64 a0_2, .bool a0_3]] rfl (by (try simp only [List.map_toArray, List.map_cons, List.map_nil]); first | done | rfl | (simp only [List.length_drop, List.length_take]; rfl)) ?_; (with_reducible refine (plane_Shaped.calls k a0_0 a0_1 a0_2 a0_3 t185 _ A2.out).mono ?_); rintro e w9 ⟨rfl, hb⟩; refine ⟨_, rfl, ?_⟩; have n0_ := am (bB (g := gb183) (o := .cells #[.int .i64 a0_0, .int .i64 a0_1, .int .i64 a0_2, .bool a0_3] 26 (0, 0)) (by (with_reducible repeat apply dX); exact BK183.out) hb); have n1_ := am (bB (g := gb184) (o := .cells #[.int .i64 0, .int .i64 0, .int .i64 0, .bool false, .slice none 0 0] 39 (0, 0)) (by (with_reducible repeat apply dX); exact BK184.out) hb); have n2_ := am (bT (by repeat (first | (with_reducible first | exact HB.out | apply bA | apply bN | apply bD | refine bS ?_ GE183.out | refine bS ?_ GE184.out) | exact HB.out)) hb); clear BK183; clear BK184; clear HB; have BK183 := n0_; have BK184 := n1_; have HB := n2_; clear n0_ n1_ n2_; (try clear hb); (try clear hb2); (try clear hk); (try clear hi); have hcz10_0 : w9.cell? ⟨gb183, 0, none⟩ = some (.int .i64 a0_0) := (bC BK183.out 0).trans rfl; have hcz10_1 : w9.cell? ⟨gb183, 1, none⟩ = some (.int .i64 a0_1) := (bC BK183.out 1).trans rfl; have hcz10_2 : w9.cell? ⟨gb183, 2, none⟩ = some (.int .i64 a0_2) := (bC BK183.out 2).trans rfl; have hcz10_3 : w9.cell? ⟨gb183, 3, none⟩ = some (.bool a0_3) := (bC BK183.out 3).trans rfl; have hfz10_0 := bZ BK183.out 0; have hfz10_1 := bZ BK183.out 1; have hfz10_2 := bZ BK183.out 2; have hfz10_3 := bZ BK183.out 3) | ((with_reducible refine gate_callee (f := 59) rfl ?_); refine goesL_ (some 12) rfl rfl Try.func59 (by kernel_rfl) rfl #[.agg #[.int .i64 a0_0, .int .i64 a0_1, .int .i64 a0_2, .bool a0_3]] rfl (by (try simp only [List.map_toArray, List.map_cons, List.map_nil]); first | done | rfl | (simp only [List.length_drop, List.length_take]; rfl)) ?_; (with_reducible refine (plane_blank.calls k a0_0 a0_1 a0_2 a0_3 t186 t187 t188 t189 t190 _ A4.out).mono ?_); rintro e w11 ⟨v191, rfl, ho0, hb⟩; refine ⟨_, rfl, ?_⟩; have n0_ := am (Kd.S_lower ho0 (bU (by repeat (first | (with_reducible first | exact HB.out | apply bA | apply bN | apply bD | refine bS ?_ GE183.out | refine bS ?_ GE184.out) | exact HB.out)))); have n1_ := am (bB (g := gb183) (o := .cells #[.int .i64 a0_0, .int .i64 a0_1, .int .i64 a0_2, .bool a0_3] 26 (0, 0)) (by (with_reducible repeat apply dX); exact BK183.out) hb); have n2_ := am (bB (g := gb184) (o := .cells #[.int .i64 0, .int .i64 0, .int .i64 0, .bool false, .slice none 0 0] 39 (0, 0)) (by (with_reducible repeat apply dX); exact BK184.out) hb); have n3_ := am (bT (by repeat (first | (with_reducible first | exact HB.out | apply bA | apply bN | apply bD | refine bS ?_ GE183.out | refine bS ?_ GE184.out) | exact HB.out)) hb); clear BK183; clear BK184; clear HB; have HO192 := n0_; have BK183 := n1_; have BK184 := n2_; have HB := n3_; clear n0_ n1_ n2_ n3_; (try clear hb); (try clear hb2); (try clear hk); (try clear hi); (try clear ho0); have hcz12_0 : w11.cell? ⟨gb184, 0, none⟩ = some (.int .i64 0) := (bC BK184.out 0).trans rfl; have hcz12_1 : w11.cell? ⟨gb184, 1, none⟩ = some (.int .i64 0) := (bC BK184.out 1).trans rfl; have hcz12_2 : w11.cell? ⟨gb184, 2, none⟩ = some (.int .i64 0) := (bC BK184.out 2).trans rfl; have hcz12_3 : w11.cell? ⟨gb184, 3, none⟩ = some (.bool false) := (bC BK184.out 3).trans rfl; have hcz12_4 : w11.cell? ⟨gb184, 4, none⟩ = some (.slice none 0 0) := (bC BK184.out 4).trans rfl; have hfz12_0 := bZ BK184.out 0; have hfz12_1 := bZ BK184.out 1; have hfz12_2 := bZ BK184.out 2; have hfz12_3 := bZ BK184.out 3; have hfz12_4 := bZ BK184.out 4; obtain ⟨Ao13, co13, eo13⟩ := Kd.S_slice HO192.out; subst eo13))
  refine bodyPost_ret (results_ct rfl _ _ gb184 39 #[.int .i64 t186, .int .i64 t187, .int .i64 t188, .bool t189, .slice Ao13 t190.length co13] (0, 0) _ rfl (by (with_reducible repeat apply dX); refine bP (cs := #[.int .i64 t186, .int .i64 t187, .int .i64 t188, .bool t189, .slice none 0 0]) ?_ 4 _ rfl; (with_reducible repeat apply dX); refine bP (cs := #[.int .i64 t186, .int .i64 t187, .int .i64 t188, .bool false, .slice none 0 0]) ?_ 3 _ rfl; (with_reducible repeat apply dX); refine bP (cs := #[.int .i64 t186, .int .i64 t187, .int .i64 0, .bool false, .slice none 0 0]) ?_ 2 _ rfl; (with_reducible repeat apply dX); refine bP (cs := #[.int .i64 t186, .int .i64 0, .int .i64 0, .bool false, .slice none 0 0]) ?_ 1 _ rfl; (with_reducible repeat apply dX); refine bP (cs := #[.int .i64 0, .int .i64 0, .int .i64 0, .bool false, .slice none 0 0]) ?_ 0 _ rfl; (with_reducible repeat apply dX); exact BK184.out) Try.underlying39 rfl (by kernel_rfl)) rfl ?_
  exact ⟨_, by first | rfl | (simp [errW_none, errW_some] <;> rfl) | (simp [*, errW_none, errW_some] <;> rfl), by (with_reducible repeat (first | apply kA | apply kN | apply kD)); exact Kd.S_mono (kF (p := ⟨gb184, 4, none⟩) (kF (p := ⟨gb184, 3, none⟩) (kF (p := ⟨gb184, 2, none⟩) (kF (p := ⟨gb184, 1, none⟩) (kF (p := ⟨gb184, 0, none⟩) (kT HO192.out BK184.out (by decide)) (fun _ hk => hk.2) (.int .i64 t186)) (fun _ hk => hk.2) (.int .i64 t187)) (fun _ hk => hk.2) (.int .i64 t188)) (fun _ hk => hk.2) (.bool t189)) (fun _ hk => hk.2) (.slice Ao13 t190.length co13)) (fun _ hk => trivial), by repeat (first | (with_reducible first | exact HB.out | apply bA | apply bN | apply bD | refine bS ?_ GE183.out | refine bS ?_ GE184.out) | exact HB.out)⟩
 ·rw [if_neg c3] at H
  have c3b0 : (t185 == 0) = false := beq_eq_false_iff_ne.mpr c3
  have c3b1 : (t185 != 0) = true := bne_iff_ne.mpr c3
  simp only [Option.some.injEq, Prod.mk.injEq] at H
  obtain ⟨rfl, rfl, rfl, rfl, rfl, rfl⟩ := H
  go_enter Try.func23, Try.ntmps23
  go_wp2_with (first | ((with_reducible refine gD (N := 1) rfl ?_); refine bE ?hg (N := 1) ?hd (cs := #[.int .i64 a0_0, .int .i64 a0_1, .int .i64 a0_2, .bool a0_3]) (t := 26) ?hr ?_; (case hd => rfl); (case hg => rfl); (case hr => first | (go_simp; done) | (go_simp; rfl)); intro gb183 hg w14 hbox hb; have n0_ := am (bT (by repeat (first | (with_reducible first | exact HB.out | apply bA | apply bN | apply bD) | exact HB.out)) hb); have n1_ := am (hbox); have n2_ := am ((by rw [hg]; exact (bU (by repeat (first | (with_reducible first | exact HB.out | apply bA | apply bN | apply bD) | exact HB.out))) : w.heap.size ≤ gb183)); have n3_ := am ((by rw [hg]; exact (bU (by repeat (first | (with_reducible first | exact HB.out | apply bA | apply bN | apply bD) | exact HB.out))) : w.heap.size ≤ gb183)); clear HB; have HB := n0_; have BK183 := n1_; have GW183 := n2_; have GE183 := n3_; clear n0_ n1_ n2_ n3_; clear hb hbox hg) | ((with_reducible refine gD (N := 2) rfl ?_); refine bE ?hg (N := 2) ?hd (cs := #[.int .i64 0, .int .i64 0, .int .i64 0, .bool false, .slice none 0 0]) (t := 39) ?hr ?_; (case hd => rfl); (case hg => rfl); (case hr => first | (go_simp; done) | (go_simp; rfl)); intro gb184 hg w15 hbox hb; have n0_ := am (bB (g := gb183) (o := .cells #[.int .i64 a0_0, .int .i64 a0_1, .int .i64 a0_2, .bool a0_3] 26 (0, 0)) (by (with_reducible repeat apply dX); exact BK183.out) hb); have n1_ := am (bT (by repeat (first | (with_reducible first | exact HB.out | apply bA | apply bN | apply bD | refine bS ?_ GE183.out) | exact HB.out)) hb); have n2_ := am (hbox); have n3_ := am ((by rw [hg]; exact (bU (by repeat (first | (with_reducible first | exact HB.out | apply bA | apply bN | apply bD | refine bS ?_ GE183.out) | exact HB.out))) : w.heap.size ≤ gb184)); have n4_ := am ((by rw [hg]; exact (bU (by repeat (first | (with_reducible first | exact HB.out | apply bA | apply bN | apply bD | refine bS ?_ GE183.out) | exact HB.out))) : w.heap.size ≤ gb184)); have n5_ := am ((by rw [hg]; exact nL (bL (g := gb183) (o := .cells #[.int .i64 a0_0, .int .i64 a0_1, .int .i64 a0_2, .bool a0_3] 26 (0, 0)) (by (with_reducible repeat apply dX); exact BK183.out)) : gb183 ≠ gb184)); have n6_ := am ((by rw [hg]; exact nG (bL (g := gb183) (o := .cells #[.int .i64 a0_0, .int .i64 a0_1, .int .i64 a0_2, .bool a0_3] 26 (0, 0)) (by (with_reducible repeat apply dX); exact BK183.out)) : gb184 ≠ gb183)); clear BK183; clear HB; have BK183 := n0_; have HB := n1_; have BK184 := n2_; have GW184 := n3_; have GE184 := n4_; have NB183_184 := n5_; have NB184_183 := n6_; clear n0_ n1_ n2_ n3_ n4_ n5_ n6_; clear hb hbox hg; have hnb16 := NB183_184.out; have hnc16 := NB184_183.out; have hcz17_0 : w15.cell? ⟨gb183, 0, none⟩ = some (.int .i64 a0_0) := (bC BK183.out 0).trans rfl; have hcz17_1 : w15.cell? ⟨gb183, 1, none⟩ = some (.int .i64 a0_1) := (bC BK183.out 1).trans rfl; have hcz17_2 : w15.cell? ⟨gb183, 2, none⟩ = some (.int .i64 a0_2) := (bC BK183.out 2).trans rfl; have hcz17_3 : w15.cell? ⟨gb183, 3, none⟩ = some (.bool a0_3) := (bC BK183.out 3).trans rfl; have hfz17_0 := bZ BK183.out 0; have hfz17_1 := bZ BK183.out 1; have hfz17_2 := bZ BK183.out 2; have hfz17_3 := bZ BK183.out 3) | ((with_reducible refine gate_callee (f := 17) rfl ?_); refine goesL_ (some 6) rfl rfl Try.func17 (by kernel_rfl) rfl #[.agg #[.int .i64 a0_0, .int .i64 a0_1, .int .i64 a0_2, .bool a0_3]] rfl (by (try simp only [List.map_toArray, List.map_cons, List.map_nil]); first | done | rfl | (simp only [List.length_drop, List.length_take]; rfl)) ?_; (with_reducible refine (plane_Shaped.calls k a0_0 a0_1 a0_2 a0_3 t185 _ A2.out).mono ?_); rintro e w18 ⟨rfl, hb⟩; refine ⟨_, rfl, ?_⟩; have n0_ := am (bB (g := gb183) (o := .cells #[.int .i64 a0_0, .int .i64 a0_1, .int .i64 a0_2, .bool a0_3] 26 (0, 0)) (by (with_reducible repeat apply dX); exact BK183.out) hb); have n1_ := am (bB (g := gb184) (o := .cells #[.int .i64 0, .int .i64 0, .int .i64 0, .bool false, .slice none 0 0] 39 (0, 0)) (by (with_reducible repeat apply dX); exact BK184.out) hb); have n2_ := am (bT (by repeat (first | (with_reducible first | exact HB.out | apply bA | apply bN | apply bD | refine bS ?_ GE183.out | refine bS ?_ GE184.out) | exact HB.out)) hb); clear BK183; clear BK184; clear HB; have BK183 := n0_; have BK184 := n1_; have HB := n2_; clear n0_ n1_ n2_; (try clear hb); (try clear hb2); (try clear hk); (try clear hi); have hcz19_0 : w18.cell? ⟨gb184, 0, none⟩ = some (.int .i64 0) := (bC BK184.out 0).trans rfl; have hcz19_1 : w18.cell? ⟨gb184, 1, none⟩ = some (.int .i64 0) := (bC BK184.out 1).trans rfl; have hcz19_2 : w18.cell? ⟨gb184, 2, none⟩ = some (.int .i64 0) := (bC BK184.out 2).trans rfl; have hcz19_3 : w18.cell? ⟨gb184, 3, none⟩ = some (.bool false) := (bC BK184.out 3).trans rfl; have hcz19_4 : w18.cell? ⟨gb184, 4, none⟩ = some (.slice none 0 0) := (bC BK184.out 4).trans rfl; have hfz19_0 := bZ BK184.out 0; have hfz19_1 := bZ BK184.out 1; have hfz19_2 := bZ BK184.out 2; have hfz19_3 := bZ BK184.out 3; have hfz19_4 := bZ BK184.out 4))
  refine bodyPost_ret (results_ct rfl _ _ gb184 39 #[.int .i64 0, .int .i64 0, .int .i64 0, .bool false, .slice none 0 0] (0, 0) _ rfl (by (with_reducible repeat apply dX); refine bP (cs := #[.int .i64 0, .int .i64 0, .int .i64 0, .bool false, .slice none 0 0]) ?_ 4 _ rfl; (with_reducible repeat apply dX); refine bP (cs := #[.int .i64 0, .int .i64 0, .int .i64 0, .bool false, .slice none 0 0]) ?_ 3 _ rfl; (with_reducible repeat apply dX); refine bP (cs := #[.int .i64 0, .int .i64 0, .int .i64 0, .bool false, .slice none 0 0]) ?_ 2 _ rfl; (with_reducible repeat apply dX); refine bP (cs := #[.int .i64 0, .int .i64 0, .int .i64 0, .bool false, .slice none 0 0]) ?_ 1 _ rfl; (with_reducible repeat apply dX); refine bP (cs := #[.int .i64 0, .int .i64 0, .int .i64 0, .bool false, .slice none 0 0]) ?_ 0 _ rfl; (with_reducible repeat apply dX); exact BK184.out) Try.underlying39 rfl (by kernel_rfl)) rfl ?_
  exact ⟨_, by first | rfl | (simp [errW_none, errW_some] <;> rfl) | (simp [*, errW_none, errW_some] <;> rfl), by first | exact Kd.S_nil _ _ _ _ _ | exact Kd.N_nil _ _ _ _ _ | exact Kd.V_nil _ _ _ _ _ | exact Kd.Q_nil _ _ _ _ _ | exact Kd.R_nil _ _ _ _ _, by repeat (first | (with_reducible first | exact HB.out | apply bA | apply bN | apply bD | refine bS ?_ GE183.out | refine bS ?_ GE184.out) | exact HB.out)⟩

/-! ### dailiesref06_there: function 56 -/
def dailiesref06_there.f (a0_0 : Int) (a0_1 : Int) (a0_2 : Int) (a0_3 : Bool) (a1 : Int) : Option (Bool) := if a1 ≥ 0 then ((dailiesref06_count.f a0_0 a0_1 a0_2 a0_3).bind fun t194 => (some (decide (a1 < t194)))) else (some false)
set_option maxHeartbeats 8000000 in
set_option maxRecDepth 100000 in
theorem dailiesref06_there.calls (a0_0 : Int) (a0_1 : Int) (a0_2 : Int) (a0_3 : Bool) (a1 : Int) (r : Bool) (w : World) (h : dailiesref06_there.f a0_0 a0_1 a0_2 a0_3 a1 = some r) :
  Calls Try.prog 56 #[.agg #[.int .i64 a0_0, .int .i64 a0_1, .int .i64 a0_2, .bool a0_3], .int .i64 a1] w fun e w' => e = .returned (.bool r) ∧ Below w.heap.size w w' := by
 have hu26 := Try.underlying26
 have HB := am (Below.refl w.heap.size w)
 have H : (if a1 ≥ 0 then ((dailiesref06_count.f a0_0 a0_1 a0_2 a0_3).bind fun t194 => (some (decide (a1 < t194)))) else (some false)) = some r := h
 clear h
 by_cases c3 : a1 ≥ 0
 ·rw [if_pos c3] at H
  have c3b0 : decide (0 ≤ a1) = true := decide_eq_true c3
  clear c3
  replace H := Option.bind_eq_some_iff.mp H
  obtain ⟨t194, A40, H⟩ := H
  replace H : (some (decide (a1 < t194))) = some r := H
  have A4 := am A40
  clear A40
  obtain rfl := Option.some.inj H
  go_enter Try.func56, Try.ntmps56
  go_wp2_with (first | ((with_reducible refine gD (N := 2) rfl ?_); refine bE ?hg (N := 2) ?hd (cs := #[.int .i64 a0_0, .int .i64 a0_1, .int .i64 a0_2, .bool a0_3]) (t := 26) ?hr ?_; (case hd => rfl); (case hg => rfl); (case hr => first | (go_simp; done) | (go_simp; rfl)); intro gb193 hg w5 hbox hb; have n0_ := am (bT (by repeat (first | (with_reducible first | exact HB.out | apply bA | apply bN | apply bD) | exact HB.out)) hb); have n1_ := am (hbox); have n2_ := am ((by rw [hg]; exact (bU (by repeat (first | (with_reducible first | exact HB.out | apply bA | apply bN | apply bD) | exact HB.out))) : w.heap.size ≤ gb193)); have n3_ := am ((by rw [hg]; exact (bU (by repeat (first | (with_reducible first | exact HB.out | apply bA | apply bN | apply bD) | exact HB.out))) : w.heap.size ≤ gb193)); clear HB; have HB := n0_; have BK193 := n1_; have GW193 := n2_; have GE193 := n3_; clear n0_ n1_ n2_ n3_; clear hb hbox hg; have hcz6_0 : w5.cell? ⟨gb193, 0, none⟩ = some (.int .i64 a0_0) := (bC BK193.out 0).trans rfl; have hcz6_1 : w5.cell? ⟨gb193, 1, none⟩ = some (.int .i64 a0_1) := (bC BK193.out 1).trans rfl; have hcz6_2 : w5.cell? ⟨gb193, 2, none⟩ = some (.int .i64 a0_2) := (bC BK193.out 2).trans rfl; have hcz6_3 : w5.cell? ⟨gb193, 3, none⟩ = some (.bool a0_3) := (bC BK193.out 3).trans rfl; have hfz6_0 := bZ BK193.out 0; have hfz6_1 := bZ BK193.out 1; have hfz6_2 := bZ BK193.out 2; have hfz6_3 := bZ BK193.out 3) | (go_at_call 60; (with_reducible refine (dailiesref06_count.calls a0_0 a0_1 a0_2 a0_3 t194 _ A4.out).mono ?_); rintro e w7 ⟨rfl, hb⟩; have n0_ := am (bB (g := gb193) (o := .cells #[.int .i64 a0_0, .int .i64 a0_1, .int .i64 a0_2, .bool a0_3] 26 (0, 0)) (by (with_reducible repeat apply dX); exact BK193.out) hb); have n1_ := am (bT (by repeat (first | (with_reducible first | exact HB.out | apply bA | apply bN | apply bD | refine bS ?_ GE193.out) | exact HB.out)) hb); clear BK193; clear HB; have BK193 := n0_; have HB := n1_; clear n0_ n1_; (try clear hb); (try clear hb2); (try clear hk); (try clear hi)))
  go_ret
  exact ⟨by first | rfl | (simp [errW_none, errW_some] <;> rfl) | (simp [*, errW_none, errW_some] <;> rfl), by repeat (first | (with_reducible first | exact HB.out | apply bA | apply bN | apply bD | refine bS ?_ GE193.out) | exact HB.out)⟩
 ·rw [if_neg c3] at H
  have c3b0 : decide (0 ≤ a1) = false := decide_eq_false c3
  clear c3
  obtain rfl := Option.some.inj H
  go_enter Try.func56, Try.ntmps56
  go_wp2_with (first | ((with_reducible refine gD (N := 2) rfl ?_); refine bE ?hg (N := 2) ?hd (cs := #[.int .i64 a0_0, .int .i64 a0_1, .int .i64 a0_2, .bool a0_3]) (t := 26) ?hr ?_; (case hd => rfl); (case hg => rfl); (case hr => first | (go_simp; done) | (go_simp; rfl)); intro gb193 hg w8 hbox hb; have n0_ := am (bT (by repeat (first | (with_reducible first | exact HB.out | apply bA | apply bN | apply bD) | exact HB.out)) hb); have n1_ := am (hbox); have n2_ := am ((by rw [hg]; exact (bU (by repeat (first | (with_reducible first | exact HB.out | apply bA | apply bN | apply bD) | exact HB.out))) : w.heap.size ≤ gb193)); have n3_ := am ((by rw [hg]; exact (bU (by repeat (first | (with_reducible first | exact HB.out | apply bA | apply bN | apply bD) | exact HB.out))) : w.heap.size ≤ gb193)); clear HB; have HB := n0_; have BK193 := n1_; have GW193 := n2_; have GE193 := n3_; clear n0_ n1_ n2_ n3_; clear hb hbox hg))
  go_ret
  exact ⟨by first | rfl | (simp [errW_none, errW_some] <;> rfl) | (simp [*, errW_none, errW_some] <;> rfl), by repeat (first | (with_reducible first | exact HB.out | apply bA | apply bN | apply bD | refine bS ?_ GE193.out) | exact HB.out)⟩

/-! ### dailiesref06_lies: function 67 -/
def dailiesref06_lies.f (a0_0 : Int) (a0_1 : Int) (a0_2 : Int) (a0_3 : Int) (a1 : Int) (a2 : Int) : Option (Bool) := if a0_2 < 1 then (some false) else (if a0_3 < 1 then (some false) else (if a0_0 < 0 then (some false) else (if a0_1 < 0 then (some false) else (if a0_2 > a1 then (some false) else (if a0_3 > a2 then (some false) else (if a0_0 ≤ (wrap64 (a1 - a0_2)) then (some (decide (a0_1 ≤ (wrap64 (a2 - a0_3))))) else (some false)))))))
set_option maxHeartbeats 8000000 in
set_option maxRecDepth 100000 in
theorem dailiesref06_lies.calls (a0_0 : Int) (a0_1 : Int) (a0_2 : Int) (a0_3 : Int) (a1 : Int) (a2 : Int) (r : Bool) (w : World) (h : dailiesref06_lies.f a0_0 a0_1 a0_2 a0_3 a1 a2 = some r) :
  Calls Try.prog 67 #[.agg #[.int .i64 a0_0, .int .i64 a0_1, .int .i64 a0_2, .int .i64 a0_3], .int .i64 a1, .int .i64 a2] w fun e w' => e = .returned (.bool r) ∧ Below w.heap.size w w' := by
 have hu52 := Try.underlying52
 have HB := am (Below.refl w.heap.size w)
 have H : (if a0_2 < 1 then (some false) else (if a0_3 < 1 then (some false) else (if a0_0 < 0 then (some false) else (if a0_1 < 0 then (some false) else (if a0_2 > a1 then (some false) else (if a0_3 > a2 then (some false) else (if a0_0 ≤ (wrap64 (a1 - a0_2)) then (some (decide (a0_1 ≤ (wrap64 (a2 - a0_3))))) else (some false)))))))) = some r := h
 clear h
 by_cases c4 : a0_2 < 1
 ·rw [if_pos c4] at H
  have c4b0 : decide (a0_2 < 1) = true := decide_eq_true c4
  clear c4
  obtain rfl := Option.some.inj H
  go_enter Try.func67, Try.ntmps67
  go_wp2_with (first | ((with_reducible refine gD (N := 3) rfl ?_); refine bE ?hg (N := 3) ?hd (cs := #[.int .i64 a0_0, .int .i64 a0_1, .int .i64 a0_2, .int .i64 a0_3]) (t := 52) ?hr ?_; (case hd => rfl); (case hg => rfl); (case hr => first | (go_simp; done) | (go_simp; rfl)); intro gb195 hg w5 hbox hb; have n0_ := am (bT (by repeat (first | (with_reducible first | exact HB.out | apply bA | apply bN | apply bD) | exact HB.out)) hb); have n1_ := am (hbox); have n2_ := am ((by rw [hg]; exact (bU (by repeat (first | (with_reducible first | exact HB.out | apply bA | apply bN | apply bD) | exact HB.out))) : w.heap.size ≤ gb195)); have n3_ := am ((by rw [hg]; exact (bU (by repeat (first | (with_reducible first | exact HB.out | apply bA | apply bN | apply bD) | exact HB.out))) : w.heap.size ≤ gb195)); clear HB; have HB := n0_; have BK195 := n1_; have GW195 := n2_; have GE195 := n3_; clear n0_ n1_ n2_ n3_; clear hb hbox hg; have hcz6_0 : w5.cell? ⟨gb195, 0, none⟩ = some (.int .i64 a0_0) := (bC BK195.out 0).trans rfl; have hcz6_1 : w5.cell? ⟨gb195, 1, none⟩ = some (.int .i64 a0_1) := (bC BK195.out 1).trans rfl; have hcz6_2 : w5.cell? ⟨gb195, 2, none⟩ = some (.int .i64 a0_2) := (bC BK195.out 2).trans rfl; have hcz6_3 : w5.cell? ⟨gb195, 3, none⟩ = some (.int .i64 a0_3) := (bC BK195.out 3).trans rfl; have hfz6_0 := bZ BK195.out 0; have hfz6_1 := bZ BK195.out 1; have hfz6_2 := bZ BK195.out 2; have hfz6_3 := bZ BK195.out 3))
  go_ret
  exact ⟨by first | rfl | (simp [errW_none, errW_some] <;> rfl) | (simp [*, errW_none, errW_some] <;> rfl), by repeat (first | (with_reducible first | exact HB.out | apply bA | apply bN | apply bD | refine bS ?_ GE195.out) | exact HB.out)⟩
 ·rw [if_neg c4] at H
  have c4b0 : decide (a0_2 < 1) = false := decide_eq_false c4
  clear c4
  by_cases c7 : a0_3 < 1
  ·rw [if_pos c7] at H
   have c7b0 : decide (a0_3 < 1) = true := decide_eq_true c7
   clear c7
   obtain rfl := Option.some.inj H
   go_enter Try.func67, Try.ntmps67
   go_wp2_with (first | ((with_reducible refine gD (N := 3) rfl ?_); refine bE ?hg (N := 3) ?hd (cs := #[.int .i64 a0_0, .int .i64 a0_1, .int .i64 a0_2, .int .i64 a0_3]) (t := 52) ?hr ?_; (case hd => rfl); (case hg => rfl); (case hr => first | (go_simp; done) | (go_simp; rfl)); intro gb195 hg w8 hbox hb; have n0_ := am (bT (by repeat (first | (with_reducible first | exact HB.out | apply bA | apply bN | apply bD) | exact HB.out)) hb); have n1_ := am (hbox); have n2_ := am ((by rw [hg]; exact (bU (by repeat (first | (with_reducible first | exact HB.out | apply bA | apply bN | apply bD) | exact HB.out))) : w.heap.size ≤ gb195)); have n3_ := am ((by rw [hg]; exact (bU (by repeat (first | (with_reducible first | exact HB.out | apply bA | apply bN | apply bD) | exact HB.out))) : w.heap.size ≤ gb195)); clear HB; have HB := n0_; have BK195 := n1_; have GW195 := n2_; have GE195 := n3_; clear n0_ n1_ n2_ n3_; clear hb hbox hg; have hcz9_0 : w8.cell? ⟨gb195, 0, none⟩ = some (.int .i64 a0_0) := (bC BK195.out 0).trans rfl; have hcz9_1 : w8.cell? ⟨gb195, 1, none⟩ = some (.int .i64 a0_1) := (bC BK195.out 1).trans rfl; have hcz9_2 : w8.cell? ⟨gb195, 2, none⟩ = some (.int .i64 a0_2) := (bC BK195.out 2).trans rfl; have hcz9_3 : w8.cell? ⟨gb195, 3, none⟩ = some (.int .i64 a0_3) := (bC BK195.out 3).trans rfl; have hfz9_0 := bZ BK195.out 0; have hfz9_1 := bZ BK195.out 1; have hfz9_2 := bZ BK195.out 2; have hfz9_3 := bZ BK195.out 3))
   go_ret
   exact ⟨by first | rfl | (simp [errW_none, errW_some] <;> rfl) | (simp [*, errW_none, errW_some] <;> rfl), by repeat (first | (with_reducible first | exact HB.out | apply bA | apply bN | apply bD | refine bS ?_ GE195.out) | exact HB.out)⟩
  ·rw [if_neg c7] at H
   have c7b0 : decide (a0_3 < 1) = false := decide_eq_false c7
   clear c7
   by_cases c10 : a0_0 < 0
   ·rw [if_pos c10] at H
    have c10b0 : decide (a0_0 < 0) = true := decide_eq_true c10
    clear c10
    obtain rfl := Option.some.inj H
    go_enter Try.func67, Try.ntmps67
    go_wp2_with (first | ((with_reducible refine gD (N := 3) rfl ?_); refine bE ?hg (N := 3) ?hd (cs := #[.int .i64 a0_0, .int .i64 a0_1, .int .i64 a0_2, .int .i64 a0_3]) (t := 52) ?hr ?_; (case hd => rfl); (case hg => rfl); (case hr => first | (go_simp; done) | (go_simp; rfl)); intro gb195 hg w11 hbox hb; have n0_ := am (bT (by repeat (first | (with_reducible first | exact HB.out | apply bA | apply bN | apply bD) | exact HB.out)) hb); have n1_ := am (hbox); have n2_ := am ((by rw [hg]; exact (bU (by repeat (first | (with_reducible first | exact HB.out | apply bA | apply bN | apply bD) | exact HB.out))) : w.heap.size ≤ gb195)); have n3_ := am ((by rw [hg]; exact (bU (by repeat (first | (with_reducible first | exact HB.out | apply bA | apply bN | apply bD) | exact HB.out))) : w.heap.size ≤ gb195)); clear HB; have HB := n0_; have BK195 := n1_; have GW195 := n2_; have GE195 := n3_; clear n0_ n1_ n2_ n3_; clear hb hbox hg; have hcz12_0 : w11.cell? ⟨gb195, 0, none⟩ = some (.int .i64 a0_0) := (bC BK195.out 0).trans rfl; have hcz12_1 : w11.cell? ⟨gb195, 1, none⟩ = some (.int .i64 a0_1) := (bC BK195.out 1).trans rfl; have hcz12_2 : w11.cell? ⟨gb195, 2, none⟩ = some (.int .i64 a0_2) := (bC BK195.out 2).trans rfl; have hcz12_3 : w11.cell? ⟨gb195, 3, none⟩ = some (.int .i64 a0_3) := (bC BK195.out 3).trans rfl; have hfz12_0 := bZ BK195.out 0; have hfz12_1 := bZ BK195.out 1; have hfz12_2 := bZ BK195.out 2; have hfz12_3 := bZ BK195.out 3))
    go_ret
    exact ⟨by first | rfl | (simp [errW_none, errW_some] <;> rfl) | (simp [*, errW_none, errW_some] <;> rfl), by repeat (first | (with_reducible first | exact HB.out | apply bA | apply bN | apply bD | refine bS ?_ GE195.out) | exact HB.out)⟩
   ·rw [if_neg c10] at H
    have c10b0 : decide (a0_0 < 0) = false := decide_eq_false c10
    clear c10
    by_cases c13 : a0_1 < 0
    ·rw [if_pos c13] at H
     have c13b0 : decide (a0_1 < 0) = true := decide_eq_true c13
     clear c13
     obtain rfl := Option.some.inj H
     go_enter Try.func67, Try.ntmps67
     go_wp2_with (first | ((with_reducible refine gD (N := 3) rfl ?_); refine bE ?hg (N := 3) ?hd (cs := #[.int .i64 a0_0, .int .i64 a0_1, .int .i64 a0_2, .int .i64 a0_3]) (t := 52) ?hr ?_; (case hd => rfl); (case hg => rfl); (case hr => first | (go_simp; done) | (go_simp; rfl)); intro gb195 hg w14 hbox hb; have n0_ := am (bT (by repeat (first | (with_reducible first | exact HB.out | apply bA | apply bN | apply bD) | exact HB.out)) hb); have n1_ := am (hbox); have n2_ := am ((by rw [hg]; exact (bU (by repeat (first | (with_reducible first | exact HB.out | apply bA | apply bN | apply bD) | exact HB.out))) : w.heap.size ≤ gb195)); have n3_ := am ((by rw [hg]; exact (bU (by repeat (first | (with_reducible first | exact HB.out | apply bA | apply bN | apply bD) | exact HB.out))) : w.heap.size ≤ gb195)); clear HB; have HB := n0_; have BK195 := n1_; have GW195 := n2_; have GE195 := n3_; clear n0_ n1_ n2_ n3_; clear hb hbox hg; have hcz15_0 : w14.cell? ⟨gb195, 0, none⟩ = some (.int .i64 a0_0) := (bC BK195.out 0).trans rfl; have hcz15_1 : w14.cell? ⟨gb195, 1, none⟩ = some (.int .i64 a0_1) := (bC BK195.out 1).trans rfl; have hcz15_2 : w14.cell? ⟨gb195, 2, none⟩ = some (.int .i64 a0_2) := (bC BK195.out 2).trans rfl; have hcz15_3 : w14.cell? ⟨gb195, 3, none⟩ = some (.int .i64 a0_3) := (bC BK195.out 3).trans rfl; have hfz15_0 := bZ BK195.out 0; have hfz15_1 := bZ BK195.out 1; have hfz15_2 := bZ BK195.out 2; have hfz15_3 := bZ BK195.out 3))
     go_ret
     exact ⟨by first | rfl | (simp [errW_none, errW_some] <;> rfl) | (simp [*, errW_none, errW_some] <;> rfl), by repeat (first | (with_reducible first | exact HB.out | apply bA | apply bN | apply bD | refine bS ?_ GE195.out) | exact HB.out)⟩
    ·rw [if_neg c13] at H
     have c13b0 : decide (a0_1 < 0) = false := decide_eq_false c13
     clear c13
     by_cases c16 : a0_2 > a1
     ·rw [if_pos c16] at H
      have c16b0 : decide (a1 < a0_2) = true := decide_eq_true c16
      clear c16
      obtain rfl := Option.some.inj H
      go_enter Try.func67, Try.ntmps67
      go_wp2_with (first | ((with_reducible refine gD (N := 3) rfl ?_); refine bE ?hg (N := 3) ?hd (cs := #[.int .i64 a0_0, .int .i64 a0_1, .int .i64 a0_2, .int .i64 a0_3]) (t := 52) ?hr ?_; (case hd => rfl); (case hg => rfl); (case hr => first | (go_simp; done) | (go_simp; rfl)); intro gb195 hg w17 hbox hb; have n0_ := am (bT (by repeat (first | (with_reducible first | exact HB.out | apply bA | apply bN | apply bD) | exact HB.out)) hb); have n1_ := am (hbox); have n2_ := am ((by rw [hg]; exact (bU (by repeat (first | (with_reducible first | exact HB.out | apply bA | apply bN | apply bD) | exact HB.out))) : w.heap.size ≤ gb195)); have n3_ := am ((by rw [hg]; exact (bU (by repeat (first | (with_reducible first | exact HB.out | apply bA | apply bN | apply bD) | exact HB.out))) : w.heap.size ≤ gb195)); clear HB; have HB := n0_; have BK195 := n1_; have GW195 := n2_; have GE195 := n3_; clear n0_ n1_ n2_ n3_; clear hb hbox hg; have hcz18_0 : w17.cell? ⟨gb195, 0, none⟩ = some (.int .i64 a0_0) := (bC BK195.out 0).trans rfl; have hcz18_1 : w17.cell? ⟨gb195, 1, none⟩ = some (.int .i64 a0_1) := (bC BK195.out 1).trans rfl; have hcz18_2 : w17.cell? ⟨gb195, 2, none⟩ = some (.int .i64 a0_2) := (bC BK195.out 2).trans rfl; have hcz18_3 : w17.cell? ⟨gb195, 3, none⟩ = some (.int .i64 a0_3) := (bC BK195.out 3).trans rfl; have hfz18_0 := bZ BK195.out 0; have hfz18_1 := bZ BK195.out 1; have hfz18_2 := bZ BK195.out 2; have hfz18_3 := bZ BK195.out 3))
      go_ret
      exact ⟨by first | rfl | (simp [errW_none, errW_some] <;> rfl) | (simp [*, errW_none, errW_some] <;> rfl), by repeat (first | (with_reducible first | exact HB.out | apply bA | apply bN | apply bD | refine bS ?_ GE195.out) | exact HB.out)⟩
     ·rw [if_neg c16] at H
      have c16b0 : decide (a1 < a0_2) = false := decide_eq_false c16
      clear c16
      by_cases c19 : a0_3 > a2
      ·rw [if_pos c19] at H
       have c19b0 : decide (a2 < a0_3) = true := decide_eq_true c19
       clear c19
       obtain rfl := Option.some.inj H
       go_enter Try.func67, Try.ntmps67
       go_wp2_with (first | ((with_reducible refine gD (N := 3) rfl ?_); refine bE ?hg (N := 3) ?hd (cs := #[.int .i64 a0_0, .int .i64 a0_1, .int .i64 a0_2, .int .i64 a0_3]) (t := 52) ?hr ?_; (case hd => rfl); (case hg => rfl); (case hr => first | (go_simp; done) | (go_simp; rfl)); intro gb195 hg w20 hbox hb; have n0_ := am (bT (by repeat (first | (with_reducible first | exact HB.out | apply bA | apply bN | apply bD) | exact HB.out)) hb); have n1_ := am (hbox); have n2_ := am ((by rw [hg]; exact (bU (by repeat (first | (with_reducible first | exact HB.out | apply bA | apply bN | apply bD) | exact HB.out))) : w.heap.size ≤ gb195)); have n3_ := am ((by rw [hg]; exact (bU (by repeat (first | (with_reducible first | exact HB.out | apply bA | apply bN | apply bD) | exact HB.out))) : w.heap.size ≤ gb195)); clear HB; have HB := n0_; have BK195 := n1_; have GW195 := n2_; have GE195 := n3_; clear n0_ n1_ n2_ n3_; clear hb hbox hg; have hcz21_0 : w20.cell? ⟨gb195, 0, none⟩ = some (.int .i64 a0_0) := (bC BK195.out 0).trans rfl; have hcz21_1 : w20.cell? ⟨gb195, 1, none⟩ = some (.int .i64 a0_1) := (bC BK195.out 1).trans rfl; have hcz21_2 : w20.cell? ⟨gb195, 2, none⟩ = some (.int .i64 a0_2) := (bC BK195.out 2).trans rfl; have hcz21_3 : w20.cell? ⟨gb195, 3, none⟩ = some (.int .i64 a0_3) := (bC BK195.out 3).trans rfl; have hfz21_0 := bZ BK195.out 0; have hfz21_1 := bZ BK195.out 1; have hfz21_2 := bZ BK195.out 2; have hfz21_3 := bZ BK195.out 3))
       go_ret
       exact ⟨by first | rfl | (simp [errW_none, errW_some] <;> rfl) | (simp [*, errW_none, errW_some] <;> rfl), by repeat (first | (with_reducible first | exact HB.out | apply bA | apply bN | apply bD | refine bS ?_ GE195.out) | exact HB.out)⟩
      ·rw [if_neg c19] at H
       have c19b0 : decide (a2 < a0_3) = false := decide_eq_false c19
       clear c19
       by_cases c22 : a0_0 ≤ (wrap64 (a1 - a0_2))
       ·rw [if_pos c22] at H
        have c22b0 : decide (a0_0 ≤ (wrap64 (a1 - a0_2))) = true := decide_eq_true c22
        clear c22
        obtain rfl := Option.some.inj H
        go_enter Try.func67, Try.ntmps67
        go_wp2_with (first | ((with_reducible refine gD (N := 3) rfl ?_); refine bE ?hg (N := 3) ?hd (cs := #[.int .i64 a0_0, .int .i64 a0_1, .int .i64 a0_2, .int .i64 a0_3]) (t := 52) ?hr ?_; (case hd => rfl); (case hg => rfl); (case hr => first | (go_simp; done) | (go_simp; rfl)); intro gb195 hg w23 hbox hb; have n0_ := am (bT (by repeat (first | (with_reducible first | exact HB.out | apply bA | apply bN | apply bD) | exact HB.out)) hb); have n1_ := am (hbox); have n2_ := am ((by rw [hg]; exact (bU (by repeat (first | (with_reducible first | exact HB.out | apply bA | apply bN | apply bD) | exact HB.out))) : w.heap.size ≤ gb195)); have n3_ := am ((by rw [hg]; exact (bU (by repeat (first | (with_reducible first | exact HB.out | apply bA | apply bN | apply bD) | exact HB.out))) : w.heap.size ≤ gb195)); clear HB; have HB := n0_; have BK195 := n1_; have GW195 := n2_; have GE195 := n3_; clear n0_ n1_ n2_ n3_; clear hb hbox hg; have hcz24_0 : w23.cell? ⟨gb195, 0, none⟩ = some (.int .i64 a0_0) := (bC BK195.out 0).trans rfl; have hcz24_1 : w23.cell? ⟨gb195, 1, none⟩ = some (.int .i64 a0_1) := (bC BK195.out 1).trans rfl; have hcz24_2 : w23.cell? ⟨gb195, 2, none⟩ = some (.int .i64 a0_2) := (bC BK195.out 2).trans rfl; have hcz24_3 : w23.cell? ⟨gb195, 3, none⟩ = some (.int .i64 a0_3) := (bC BK195.out 3).trans rfl; have hfz24_0 := bZ BK195.out 0; have hfz24_1 := bZ BK195.out 1; have hfz24_2 := bZ BK195.out 2; have hfz24_3 := bZ BK195.out 3))
        go_ret
        exact ⟨by first | rfl | (simp [errW_none, errW_some] <;> rfl) | (simp [*, errW_none, errW_some] <;> rfl), by repeat (first | (with_reducible first | exact HB.out | apply bA | apply bN | apply bD | refine bS ?_ GE195.out) | exact HB.out)⟩
       ·rw [if_neg c22] at H
        have c22b0 : decide (a0_0 ≤ (wrap64 (a1 - a0_2))) = false := decide_eq_false c22
        clear c22
        obtain rfl := Option.some.inj H
        go_enter Try.func67, Try.ntmps67
        go_wp2_with (first | ((with_reducible refine gD (N := 3) rfl ?_); refine bE ?hg (N := 3) ?hd (cs := #[.int .i64 a0_0, .int .i64 a0_1, .int .i64 a0_2, .int .i64 a0_3]) (t := 52) ?hr ?_; (case hd => rfl); (case hg => rfl); (case hr => first | (go_simp; done) | (go_simp; rfl)); intro gb195 hg w25 hbox hb; have n0_ := am (bT (by repeat (first | (with_reducible first | exact HB.out | apply bA | apply bN | apply bD) | exact HB.out)) hb); have n1_ := am (hbox); have n2_ := am ((by rw [hg]; exact (bU (by repeat (first | (with_reducible first | exact HB.out | apply bA | apply bN | apply bD) | exact HB.out))) : w.heap.size ≤ gb195)); have n3_ := am ((by rw [hg]; exact (bU (by repeat (first | (with_reducible first | exact HB.out | apply bA | apply bN | apply bD) | exact HB.out))) : w.heap.size ≤ gb195)); clear HB; have HB := n0_; have BK195 := n1_; have GW195 := n2_; have GE195 := n3_; clear n0_ n1_ n2_ n3_; clear hb hbox hg; have hcz26_0 : w25.cell? ⟨gb195, 0, none⟩ = some (.int .i64 a0_0) := (bC BK195.out 0).trans rfl; have hcz26_1 : w25.cell? ⟨gb195, 1, none⟩ = some (.int .i64 a0_1) := (bC BK195.out 1).trans rfl; have hcz26_2 : w25.cell? ⟨gb195, 2, none⟩ = some (.int .i64 a0_2) := (bC BK195.out 2).trans rfl; have hcz26_3 : w25.cell? ⟨gb195, 3, none⟩ = some (.int .i64 a0_3) := (bC BK195.out 3).trans rfl; have hfz26_0 := bZ BK195.out 0; have hfz26_1 := bZ BK195.out 1; have hfz26_2 := bZ BK195.out 2; have hfz26_3 := bZ BK195.out 3))
        go_ret
        exact ⟨by first | rfl | (simp [errW_none, errW_some] <;> rfl) | (simp [*, errW_none, errW_some] <;> rfl), by repeat (first | (with_reducible first | exact HB.out | apply bA | apply bN | apply bD | refine bS ?_ GE195.out) | exact HB.out)⟩

end Go.Proofs.Ytdoikehkibefpaa.PPb
