-- Laid by a program of this session (wip/tools/prx.py), over the kit's printer of walks; Lean checks it.
import Derived.Test.YtdoikehkibefpaaPPbx0
import Derived.Test.YtdoikehkibefpaaPPbx1
namespace Go.Proofs.Ytdoikehkibefpaa.PPb
open Go.RowKit Go.Proofs.YtdoikehkibefpaaW.PrintWords Go.Proofs.YtdoikehkibefpaaW.PrintLast Go.Proofs.YtdoikehkibefpaaW.PrintMore
open Go.Proofs.YtdoikehkibefpaaW.PrintWords renaming blk_far → bF, below_set → bS, blk_frozen → bZ, below_alloc → bA, pw_below_drewN → bN, below_drew1 → bD, blk_below → bB, blk_cell → bC, blk_set → bs, blk_lt → bL, blk_put → bP, below_step → bT, below_size → bU, box_event → bE, gate_dst → gD
open Go.Proofs.YtdoikehkibefpaaW.PrintWords.Kd renaming S_far → kF, S_types → kT, S_alloc → kA, S_drewN → kN, S_drew → kD
set_option linter.unusedVariables false
set_option linter.unusedSimpArgs false

attribute [local go_sem high] eqA26
/-! ### dailiesref06_Same: function 25 -/
mutual
def dailiesref06_Same.j0 : Nat → Bool → Int → Int → Int → Bool → List (List Int) → Int → Int → Int → Bool → List (List Int) → Option (Bool)
 | 0, _, _, _, _, _, _, _, _, _, _, _ => none
 | k + 1, x20, x212000, x212001, x212002, x212003, x212004, x213000, x213001, x213002, x213003, x213004 => if x20 = true then (some false) else (dailiesref06_Same.l0 k 0 x212000 x212001 x212002 x212003 x212004 x213000 x213001 x213002 x213003 x213004)
def dailiesref06_Same.l0 : Nat → Int → Int → Int → Int → Bool → List (List Int) → Int → Int → Int → Bool → List (List Int) → Option (Bool)
 | 0, _, _, _, _, _, _, _, _, _, _, _ => none
 | k + 1, x5, x212000, x212001, x212002, x212003, x212004, x213000, x213001, x213002, x213003, x213004 => if x5 < (x212004.length : Int) then (if 0 ≤ x5 then (if x5 < (x213004.length : Int) then (if ((rd_L1 x212004 x5).length : Int) = ((rd_L1 x213004 x5).length : Int) then (dailiesref06_Same.l1 k x5 0 x212000 x212001 x212002 x212003 x212004 x213000 x213001 x213002 x213003 x213004) else (some false)) else (none)) else (none)) else (some true)
def dailiesref06_Same.l1 : Nat → Int → Int → Int → Int → Int → Bool → List (List Int) → Int → Int → Int → Bool → List (List Int) → Option (Bool)
 | 0, _, _, _, _, _, _, _, _, _, _, _, _ => none
 | k + 1, x5, x6, x212000, x212001, x212002, x212003, x212004, x213000, x213001, x213002, x213003, x213004 => if 0 ≤ x5 then (if x5 < (x212004.length : Int) then (if x6 < ((rd_L1 x212004 x5).length : Int) then (if 0 ≤ x6 then (if x5 < (x213004.length : Int) then (if x6 < ((rd_L1 x213004 x5).length : Int) then (if (rd (rd_L1 x212004 x5) x6) = (rd (rd_L1 x213004 x5) x6) then (dailiesref06_Same.l1 k x5 (wrap64 (x6 + 1)) x212000 x212001 x212002 x212003 x212004 x213000 x213001 x213002 x213003 x213004) else (some false)) else (none)) else (none)) else (none)) else (dailiesref06_Same.l0 k (wrap64 (x5 + 1)) x212000 x212001 x212002 x212003 x212004 x213000 x213001 x213002 x213003 x213004)) else (none)) else (none)
end
def dailiesref06_Same.f (k : Nat) (a0_0 : Int) (a0_1 : Int) (a0_2 : Int) (a0_3 : Bool) (l0_4 : List (List Int)) (a1_0 : Int) (a1_1 : Int) (a1_2 : Int) (a1_3 : Bool) (l1_4 : List (List Int)) : Option (Bool) := if (!(a0_0 == a1_0) || (!(a0_1 == a1_1) || (!(a0_2 == a1_2) || (!(a0_3 == a1_3))))) = true then (dailiesref06_Same.j0 k true a0_0 a0_1 a0_2 a0_3 l0_4 a1_0 a1_1 a1_2 a1_3 l1_4) else (dailiesref06_Same.j0 k ((l0_4.length : Int) != (l1_4.length : Int)) a0_0 a0_1 a0_2 a0_3 l0_4 a1_0 a1_1 a1_2 a1_3 l1_4)
theorem dailiesref06_Same.mono_l : ∀ k, (∀ y0 y1 y2 y3 y4 y5 y6 y7 y8 y9 y10, LeO (dailiesref06_Same.j0 k y0 y1 y2 y3 y4 y5 y6 y7 y8 y9 y10) (dailiesref06_Same.j0 (k + 1) y0 y1 y2 y3 y4 y5 y6 y7 y8 y9 y10)) ∧ (∀ y0 y1 y2 y3 y4 y5 y6 y7 y8 y9 y10, LeO (dailiesref06_Same.l0 k y0 y1 y2 y3 y4 y5 y6 y7 y8 y9 y10) (dailiesref06_Same.l0 (k + 1) y0 y1 y2 y3 y4 y5 y6 y7 y8 y9 y10)) ∧ (∀ y0 y1 y2 y3 y4 y5 y6 y7 y8 y9 y10 y11, LeO (dailiesref06_Same.l1 k y0 y1 y2 y3 y4 y5 y6 y7 y8 y9 y10 y11) (dailiesref06_Same.l1 (k + 1) y0 y1 y2 y3 y4 y5 y6 y7 y8 y9 y10 y11))
 | 0 => ⟨fun _ _ _ _ _ _ _ _ _ _ _ r h => by simp [dailiesref06_Same.j0] at h, fun _ _ _ _ _ _ _ _ _ _ _ r h => by simp [dailiesref06_Same.l0] at h, fun _ _ _ _ _ _ _ _ _ _ _ _ r h => by simp [dailiesref06_Same.l1] at h⟩
 | k + 1 => by
  obtain ⟨ih0, ih1, ih2⟩ := dailiesref06_Same.mono_l k
  refine ⟨?_, ?_, ?_⟩
  ·intro y0 y1 y2 y3 y4 y5 y6 y7 y8 y9 y10
   unfold dailiesref06_Same.j0
   repeat' first
   | (with_reducible exact ih0 _ _ _ _ _ _ _ _ _ _ _)
   | (with_reducible exact ih1 _ _ _ _ _ _ _ _ _ _ _)
   | (with_reducible exact ih2 _ _ _ _ _ _ _ _ _ _ _ _)
   | (with_reducible exact LeO.refl _)
   | (with_reducible exact LeO.none _)
   | (with_reducible refine LeO.ite ?_ ?_)
   | (with_reducible refine LeO.bind ?_ (fun _ => ?_))
   | exact ih0 _ _ _ _ _ _ _ _ _ _ _
   | exact ih1 _ _ _ _ _ _ _ _ _ _ _
   | exact ih2 _ _ _ _ _ _ _ _ _ _ _ _
   | exact LeO.none _
   | refine LeO.ite ?_ ?_
   | refine LeO.bind ?_ (fun _ => ?_)
  ·intro y0 y1 y2 y3 y4 y5 y6 y7 y8 y9 y10
   unfold dailiesref06_Same.l0
   repeat' first
   | (with_reducible exact ih0 _ _ _ _ _ _ _ _ _ _ _)
   | (with_reducible exact ih1 _ _ _ _ _ _ _ _ _ _ _)
   | (with_reducible exact ih2 _ _ _ _ _ _ _ _ _ _ _ _)
   | (with_reducible exact LeO.refl _)
   | (with_reducible exact LeO.none _)
   | (with_reducible refine LeO.ite ?_ ?_)
   | (with_reducible refine LeO.bind ?_ (fun _ => ?_))
   | exact ih0 _ _ _ _ _ _ _ _ _ _ _
   | exact ih1 _ _ _ _ _ _ _ _ _ _ _
   | exact ih2 _ _ _ _ _ _ _ _ _ _ _ _
   | exact LeO.none _
   | refine LeO.ite ?_ ?_
   | refine LeO.bind ?_ (fun _ => ?_)
  ·intro y0 y1 y2 y3 y4 y5 y6 y7 y8 y9 y10 y11
   unfold dailiesref06_Same.l1
   repeat' first
   | (with_reducible exact ih0 _ _ _ _ _ _ _ _ _ _ _)
   | (with_reducible exact ih1 _ _ _ _ _ _ _ _ _ _ _)
   | (with_reducible exact ih2 _ _ _ _ _ _ _ _ _ _ _ _)
   | (with_reducible exact LeO.refl _)
   | (with_reducible exact LeO.none _)
   | (with_reducible refine LeO.ite ?_ ?_)
   | (with_reducible refine LeO.bind ?_ (fun _ => ?_))
   | exact ih0 _ _ _ _ _ _ _ _ _ _ _
   | exact ih1 _ _ _ _ _ _ _ _ _ _ _
   | exact ih2 _ _ _ _ _ _ _ _ _ _ _ _
   | exact LeO.none _
   | refine LeO.ite ?_ ?_
   | refine LeO.bind ?_ (fun _ => ?_)
theorem dailiesref06_Same.mono : ∀ a0 a1 a2 a3 a4 a5 a6 a7 a8 a9 k, LeO (dailiesref06_Same.f k a0 a1 a2 a3 a4 a5 a6 a7 a8 a9) (dailiesref06_Same.f (k + 1) a0 a1 a2 a3 a4 a5 a6 a7 a8 a9) := by
 intro a0 a1 a2 a3 a4 a5 a6 a7 a8 a9 k
 obtain ⟨ih0, ih1, ih2⟩ := dailiesref06_Same.mono_l k
 unfold dailiesref06_Same.f
 repeat' first
   | (with_reducible exact ih0 _ _ _ _ _ _ _ _ _ _ _)
   | (with_reducible exact ih1 _ _ _ _ _ _ _ _ _ _ _)
   | (with_reducible exact ih2 _ _ _ _ _ _ _ _ _ _ _ _)
   | (with_reducible exact LeO.refl _)
   | (with_reducible exact LeO.none _)
   | (with_reducible refine LeO.ite ?_ ?_)
   | (with_reducible refine LeO.bind ?_ (fun _ => ?_))
   | exact ih0 _ _ _ _ _ _ _ _ _ _ _
   | exact ih1 _ _ _ _ _ _ _ _ _ _ _
   | exact ih2 _ _ _ _ _ _ _ _ _ _ _ _
   | exact LeO.none _
   | refine LeO.ite ?_ ?_
   | refine LeO.bind ?_ (fun _ => ?_)
set_option maxHeartbeats 8000000 in
set_option maxRecDepth 100000 in
theorem dailiesref06_Same.calls (k : Nat) (a0_0 : Int) (a0_1 : Int) (a0_2 : Int) (a0_3 : Bool) (A0_4 : Option Addr) (c0_4 : Nat) (l0_4 : List (List Int)) (a1_0 : Int) (a1_1 : Int) (a1_2 : Int) (a1_3 : Bool) (A1_4 : Option Addr) (c1_4 : Nat) (l1_4 : List (List Int)) (r : Bool) (w : World) (hr0_4 : Kd.C (Kd.slice 72 (Kd.int .u16)) w A0_4 l0_4.length l0_4) (hc0_4 : l0_4.length ≤ c0_4) (hr1_4 : Kd.C (Kd.slice 72 (Kd.int .u16)) w A1_4 l1_4.length l1_4) (hc1_4 : l1_4.length ≤ c1_4) (h : dailiesref06_Same.f k a0_0 a0_1 a0_2 a0_3 l0_4 a1_0 a1_1 a1_2 a1_3 l1_4 = some r) :
  Calls Try.prog 25 #[.agg #[.int .i64 a0_0, .int .i64 a0_1, .int .i64 a0_2, .bool a0_3, .slice A0_4 l0_4.length c0_4], .agg #[.int .i64 a1_0, .int .i64 a1_1, .int .i64 a1_2, .bool a1_3, .slice A1_4 l1_4.length c1_4]] w fun e w' => e = .returned (.bool r) ∧ Below w.heap.size w w' := by
 have hu39 := Try.underlying39
 have hu26 := Try.underlying26
 have HR0_4 := am hr0_4
 have HC0_4 := am hc0_4
 clear hr0_4 hc0_4
 have HR1_4 := am hr1_4
 have HC1_4 := am hc1_4
 clear hr1_4 hc1_4
 have HB := am (Below.refl w.heap.size w)
 have H : (if (!(a0_0 == a1_0) || (!(a0_1 == a1_1) || (!(a0_2 == a1_2) || (!(a0_3 == a1_3))))) = true then (dailiesref06_Same.j0 k true a0_0 a0_1 a0_2 a0_3 l0_4 a1_0 a1_1 a1_2 a1_3 l1_4) else (dailiesref06_Same.j0 k ((l0_4.length : Int) != (l1_4.length : Int)) a0_0 a0_1 a0_2 a0_3 l0_4 a1_0 a1_1 a1_2 a1_3 l1_4)) = some r := h
 clear h
 have HC3 := am H
 clear H
 go_enter Try.func25, Try.ntmps25
 go_upto_region 1 with (first | ((with_reducible refine gD (N := 2) rfl ?_); (try (refine gate_guard (by rfl) ?_; dsimp only)); refine bE ?hg (N := 2) ?hd (cs := #[.int .i64 a0_0, .int .i64 a0_1, .int .i64 a0_2, .bool a0_3, .slice A0_4 l0_4.length c0_4]) (t := 39) ?hr ?_; (case hd => rfl); (case hg => rfl); (case hr => first | (go_simp; done) | (go_simp; rfl)); intro gb211 hg w4 hbox hb; have n0_ := am (bT (by repeat (first | (with_reducible first | exact HB.out | apply bA | apply bN | apply bD) | exact HB.out)) hb); have n1_ := am (hbox); have n2_ := am ((by rw [hg]; exact (bU (by repeat (first | (with_reducible first | exact HB.out | apply bA | apply bN | apply bD) | exact HB.out))) : w.heap.size ≤ gb211)); have n3_ := am ((by rw [hg]; exact (bU (by repeat (first | (with_reducible first | exact HB.out | apply bA | apply bN | apply bD) | exact HB.out))) : w.heap.size ≤ gb211)); clear HB; have HB := n0_; have BK211 := n1_; have GW211 := n2_; have GE211 := n3_; clear n0_ n1_ n2_ n3_; clear hb hbox hg) | ((with_reducible refine gD (N := 3) rfl ?_); (try (refine gate_guard (by rfl) ?_; dsimp only)); refine bE ?hg (N := 3) ?hd (cs := #[.int .i64 a1_0, .int .i64 a1_1, .int .i64 a1_2, .bool a1_3, .slice A1_4 l1_4.length c1_4]) (t := 39) ?hr ?_; (case hd => rfl); (case hg => rfl); (case hr => first | (go_simp; done) | (go_simp; rfl)); intro gb212 hg w5 hbox hb; have n0_ := am (bB (g := gb211) (o := .cells #[.int .i64 a0_0, .int .i64 a0_1, .int .i64 a0_2, .bool a0_3, .slice A0_4 l0_4.length c0_4] 39 (0, 0)) (by (with_reducible repeat apply dX); exact BK211.out) hb); have n1_ := am (bT (by repeat (first | (with_reducible first | exact HB.out | apply bA | apply bN | apply bD | refine bS ?_ GE211.out) | exact HB.out)) hb); have n2_ := am (hbox); have n3_ := am ((by rw [hg]; exact (bU (by repeat (first | (with_reducible first | exact HB.out | apply bA | apply bN | apply bD | refine bS ?_ GE211.out) | exact HB.out))) : w.heap.size ≤ gb212)); have n4_ := am ((by rw [hg]; exact (bU (by repeat (first | (with_reducible first | exact HB.out | apply bA | apply bN | apply bD | refine bS ?_ GE211.out) | exact HB.out))) : w.heap.size ≤ gb212)); have n5_ := am ((by rw [hg]; exact nL (bL (g := gb211) (o := .cells #[.int .i64 a0_0, .int .i64 a0_1, .int .i64 a0_2, .bool a0_3, .slice A0_4 l0_4.length c0_4] 39 (0, 0)) (by (with_reducible repeat apply dX); exact BK211.out)) : gb211 ≠ gb212)); have n6_ := am ((by rw [hg]; exact nG (bL (g := gb211) (o := .cells #[.int .i64 a0_0, .int .i64 a0_1, .int .i64 a0_2, .bool a0_3, .slice A0_4 l0_4.length c0_4] 39 (0, 0)) (by (with_reducible repeat apply dX); exact BK211.out)) : gb212 ≠ gb211)); clear BK211; clear HB; have BK211 := n0_; have HB := n1_; have BK212 := n2_; have GW212 := n3_; have GE212 := n4_; have NB211_212 := n5_; have NB212_211 := n6_; clear n0_ n1_ n2_ n3_ n4_ n5_ n6_; clear hb hbox hg))
 repeat (go_quiet (first | ((with_reducible refine gD (N := 2) rfl ?_); (try (refine gate_guard (by rfl) ?_; dsimp only)); refine bE ?hg (N := 2) ?hd (cs := #[.int .i64 a0_0, .int .i64 a0_1, .int .i64 a0_2, .bool a0_3, .slice A0_4 l0_4.length c0_4]) (t := 39) ?hr ?_; (case hd => rfl); (case hg => rfl); (case hr => first | (go_simp; done) | (go_simp; rfl)); intro gb211 hg w4 hbox hb; have n0_ := am (bT (by repeat (first | (with_reducible first | exact HB.out | apply bA | apply bN | apply bD) | exact HB.out)) hb); have n1_ := am (hbox); have n2_ := am ((by rw [hg]; exact (bU (by repeat (first | (with_reducible first | exact HB.out | apply bA | apply bN | apply bD) | exact HB.out))) : w.heap.size ≤ gb211)); have n3_ := am ((by rw [hg]; exact (bU (by repeat (first | (with_reducible first | exact HB.out | apply bA | apply bN | apply bD) | exact HB.out))) : w.heap.size ≤ gb211)); clear HB; have HB := n0_; have BK211 := n1_; have GW211 := n2_; have GE211 := n3_; clear n0_ n1_ n2_ n3_; clear hb hbox hg) | ((with_reducible refine gD (N := 3) rfl ?_); (try (refine gate_guard (by rfl) ?_; dsimp only)); refine bE ?hg (N := 3) ?hd (cs := #[.int .i64 a1_0, .int .i64 a1_1, .int .i64 a1_2, .bool a1_3, .slice A1_4 l1_4.length c1_4]) (t := 39) ?hr ?_; (case hd => rfl); (case hg => rfl); (case hr => first | (go_simp; done) | (go_simp; rfl)); intro gb212 hg w5 hbox hb; have n0_ := am (bB (g := gb211) (o := .cells #[.int .i64 a0_0, .int .i64 a0_1, .int .i64 a0_2, .bool a0_3, .slice A0_4 l0_4.length c0_4] 39 (0, 0)) (by (with_reducible repeat apply dX); exact BK211.out) hb); have n1_ := am (bT (by repeat (first | (with_reducible first | exact HB.out | apply bA | apply bN | apply bD | refine bS ?_ GE211.out) | exact HB.out)) hb); have n2_ := am (hbox); have n3_ := am ((by rw [hg]; exact (bU (by repeat (first | (with_reducible first | exact HB.out | apply bA | apply bN | apply bD | refine bS ?_ GE211.out) | exact HB.out))) : w.heap.size ≤ gb212)); have n4_ := am ((by rw [hg]; exact (bU (by repeat (first | (with_reducible first | exact HB.out | apply bA | apply bN | apply bD | refine bS ?_ GE211.out) | exact HB.out))) : w.heap.size ≤ gb212)); have n5_ := am ((by rw [hg]; exact nL (bL (g := gb211) (o := .cells #[.int .i64 a0_0, .int .i64 a0_1, .int .i64 a0_2, .bool a0_3, .slice A0_4 l0_4.length c0_4] 39 (0, 0)) (by (with_reducible repeat apply dX); exact BK211.out)) : gb211 ≠ gb212)); have n6_ := am ((by rw [hg]; exact nG (bL (g := gb211) (o := .cells #[.int .i64 a0_0, .int .i64 a0_1, .int .i64 a0_2, .bool a0_3, .slice A0_4 l0_4.length c0_4] 39 (0, 0)) (by (with_reducible repeat apply dX); exact BK211.out)) : gb212 ≠ gb211)); clear BK211; clear HB; have BK211 := n0_; have HB := n1_; have BK212 := n2_; have GW212 := n3_; have GE212 := n4_; have NB211_212 := n5_; have NB212_211 := n6_; clear n0_ n1_ n2_ n3_ n4_ n5_ n6_; clear hb hbox hg)); go_upto_region 1 with (first | ((with_reducible refine gD (N := 2) rfl ?_); (try (refine gate_guard (by rfl) ?_; dsimp only)); refine bE ?hg (N := 2) ?hd (cs := #[.int .i64 a0_0, .int .i64 a0_1, .int .i64 a0_2, .bool a0_3, .slice A0_4 l0_4.length c0_4]) (t := 39) ?hr ?_; (case hd => rfl); (case hg => rfl); (case hr => first | (go_simp; done) | (go_simp; rfl)); intro gb211 hg w4 hbox hb; have n0_ := am (bT (by repeat (first | (with_reducible first | exact HB.out | apply bA | apply bN | apply bD) | exact HB.out)) hb); have n1_ := am (hbox); have n2_ := am ((by rw [hg]; exact (bU (by repeat (first | (with_reducible first | exact HB.out | apply bA | apply bN | apply bD) | exact HB.out))) : w.heap.size ≤ gb211)); have n3_ := am ((by rw [hg]; exact (bU (by repeat (first | (with_reducible first | exact HB.out | apply bA | apply bN | apply bD) | exact HB.out))) : w.heap.size ≤ gb211)); clear HB; have HB := n0_; have BK211 := n1_; have GW211 := n2_; have GE211 := n3_; clear n0_ n1_ n2_ n3_; clear hb hbox hg) | ((with_reducible refine gD (N := 3) rfl ?_); (try (refine gate_guard (by rfl) ?_; dsimp only)); refine bE ?hg (N := 3) ?hd (cs := #[.int .i64 a1_0, .int .i64 a1_1, .int .i64 a1_2, .bool a1_3, .slice A1_4 l1_4.length c1_4]) (t := 39) ?hr ?_; (case hd => rfl); (case hg => rfl); (case hr => first | (go_simp; done) | (go_simp; rfl)); intro gb212 hg w5 hbox hb; have n0_ := am (bB (g := gb211) (o := .cells #[.int .i64 a0_0, .int .i64 a0_1, .int .i64 a0_2, .bool a0_3, .slice A0_4 l0_4.length c0_4] 39 (0, 0)) (by (with_reducible repeat apply dX); exact BK211.out) hb); have n1_ := am (bT (by repeat (first | (with_reducible first | exact HB.out | apply bA | apply bN | apply bD | refine bS ?_ GE211.out) | exact HB.out)) hb); have n2_ := am (hbox); have n3_ := am ((by rw [hg]; exact (bU (by repeat (first | (with_reducible first | exact HB.out | apply bA | apply bN | apply bD | refine bS ?_ GE211.out) | exact HB.out))) : w.heap.size ≤ gb212)); have n4_ := am ((by rw [hg]; exact (bU (by repeat (first | (with_reducible first | exact HB.out | apply bA | apply bN | apply bD | refine bS ?_ GE211.out) | exact HB.out))) : w.heap.size ≤ gb212)); have n5_ := am ((by rw [hg]; exact nL (bL (g := gb211) (o := .cells #[.int .i64 a0_0, .int .i64 a0_1, .int .i64 a0_2, .bool a0_3, .slice A0_4 l0_4.length c0_4] 39 (0, 0)) (by (with_reducible repeat apply dX); exact BK211.out)) : gb211 ≠ gb212)); have n6_ := am ((by rw [hg]; exact nG (bL (g := gb211) (o := .cells #[.int .i64 a0_0, .int .i64 a0_1, .int .i64 a0_2, .bool a0_3, .slice A0_4 l0_4.length c0_4] 39 (0, 0)) (by (with_reducible repeat apply dX); exact BK211.out)) : gb212 ≠ gb211)); clear BK211; clear HB; have BK211 := n0_; have HB := n1_; have BK212 := n2_; have GW212 := n3_; have GE212 := n4_; have NB211_212 := n5_; have NB212_211 := n6_; clear n0_ n1_ n2_ n3_ n4_ n5_ n6_; clear hb hbox hg)))
 (try simp only [Act.put, List.setIfInBounds_toArray, List.set_cons_zero, List.set_cons_succ])
 go_cut [20] (fun v20 wc => ∃ (kq : Nat) (x20_2 : Bool), v20 = .bool x20_2 ∧ Aside0 (dailiesref06_Same.j0 kq x20_2 a0_0 a0_1 a0_2 a0_3 l0_4 a1_0 a1_1 a1_2 a1_3 l1_4 = some r) ∧ Aside0 (kq ≤ k) ∧ Aside0 (wc.heap[gb211]? = some (.cells #[.int .i64 a0_0, .int .i64 a0_1, .int .i64 a0_2, .bool a0_3, (.slice A0_4 l0_4.length c0_4)] 39 (0, 0))) ∧ Aside0 (wc.heap[gb212]? = some (.cells #[.int .i64 a1_0, .int .i64 a1_1, .int .i64 a1_2, .bool a1_3, (.slice A1_4 l1_4.length c1_4)] 39 (0, 0))) ∧ Aside0 (Below w.heap.size w wc))
 case first =>
  have H := HC3.out
  clear HC3
  by_cases c6 : (!(a0_0 == a1_0) || (!(a0_1 == a1_1) || (!(a0_2 == a1_2) || (!(a0_3 == a1_3))))) = true
  ·rw [if_pos c6] at H
   have c6b0 : (!(a0_0 == a1_0) || (!(a0_1 == a1_1) || (!(a0_2 == a1_2) || (!(a0_3 == a1_3))))) = true := c6
   clear c6
   (first | rw [c6b0] | (simp only [i64_w, i32_w]; rw [c6b0]) | skip)
   have H' := am H
   clear H
   have hnb7 := NB211_212.out
   have hnc7 := NB212_211.out
   have hcz8_0 : w5.cell? ⟨gb211, 0, none⟩ = some (.int .i64 a0_0) := (bC BK211.out 0).trans rfl
   have hcz8_1 : w5.cell? ⟨gb211, 1, none⟩ = some (.int .i64 a0_1) := (bC BK211.out 1).trans rfl
   have hcz8_2 : w5.cell? ⟨gb211, 2, none⟩ = some (.int .i64 a0_2) := (bC BK211.out 2).trans rfl
   have hcz8_3 : w5.cell? ⟨gb211, 3, none⟩ = some (.bool a0_3) := (bC BK211.out 3).trans rfl
   have hcz8_4 : w5.cell? ⟨gb211, 4, none⟩ = some (.slice A0_4 l0_4.length c0_4) := (bC BK211.out 4).trans rfl
   have hfz8_0 := bZ BK211.out 0
   have hfz8_1 := bZ BK211.out 1
   have hfz8_2 := bZ BK211.out 2
   have hfz8_3 := bZ BK211.out 3
   have hfz8_4 := bZ BK211.out 4
   have hcz9_0 : w5.cell? ⟨gb212, 0, none⟩ = some (.int .i64 a1_0) := (bC BK212.out 0).trans rfl
   have hcz9_1 : w5.cell? ⟨gb212, 1, none⟩ = some (.int .i64 a1_1) := (bC BK212.out 1).trans rfl
   have hcz9_2 : w5.cell? ⟨gb212, 2, none⟩ = some (.int .i64 a1_2) := (bC BK212.out 2).trans rfl
   have hcz9_3 : w5.cell? ⟨gb212, 3, none⟩ = some (.bool a1_3) := (bC BK212.out 3).trans rfl
   have hcz9_4 : w5.cell? ⟨gb212, 4, none⟩ = some (.slice A1_4 l1_4.length c1_4) := (bC BK212.out 4).trans rfl
   have hfz9_0 := bZ BK212.out 0
   have hfz9_1 := bZ BK212.out 1
   have hfz9_2 := bZ BK212.out 2
   have hfz9_3 := bZ BK212.out 3
   have hfz9_4 := bZ BK212.out 4
   go_wp2
   repeat (go_quiet (fail); try go_wp2)
   go_meet
   case rel => exact ⟨_, (true), (by first | rfl | (simp; done) | (simp [*]; done)), H', ⟨by first | omega | exact Nat.le_refl _⟩, ⟨by (with_reducible repeat apply dX); exact BK211.out⟩, ⟨by (with_reducible repeat apply dX); exact BK212.out⟩, ⟨by repeat (first | (with_reducible first | exact HB.out | apply bA | apply bN | apply bD | refine bS ?_ GE211.out | refine bS ?_ GE212.out) | exact HB.out)⟩⟩
  ·rw [if_neg c6] at H
   have c6b0 : (!(a0_0 == a1_0) || (!(a0_1 == a1_1) || (!(a0_2 == a1_2) || (!(a0_3 == a1_3))))) = false := by simpa using c6
   clear c6
   (first | rw [c6b0] | (simp only [i64_w, i32_w]; rw [c6b0]) | skip)
   have H' := am H
   clear H
   have hnb10 := NB211_212.out
   have hnc10 := NB212_211.out
   have hcz11_0 : w5.cell? ⟨gb211, 0, none⟩ = some (.int .i64 a0_0) := (bC BK211.out 0).trans rfl
   have hcz11_1 : w5.cell? ⟨gb211, 1, none⟩ = some (.int .i64 a0_1) := (bC BK211.out 1).trans rfl
   have hcz11_2 : w5.cell? ⟨gb211, 2, none⟩ = some (.int .i64 a0_2) := (bC BK211.out 2).trans rfl
   have hcz11_3 : w5.cell? ⟨gb211, 3, none⟩ = some (.bool a0_3) := (bC BK211.out 3).trans rfl
   have hcz11_4 : w5.cell? ⟨gb211, 4, none⟩ = some (.slice A0_4 l0_4.length c0_4) := (bC BK211.out 4).trans rfl
   have hfz11_0 := bZ BK211.out 0
   have hfz11_1 := bZ BK211.out 1
   have hfz11_2 := bZ BK211.out 2
   have hfz11_3 := bZ BK211.out 3
   have hfz11_4 := bZ BK211.out 4
   have hcz12_0 : w5.cell? ⟨gb212, 0, none⟩ = some (.int .i64 a1_0) := (bC BK212.out 0).trans rfl
   have hcz12_1 : w5.cell? ⟨gb212, 1, none⟩ = some (.int .i64 a1_1) := (bC BK212.out 1).trans rfl
   have hcz12_2 : w5.cell? ⟨gb212, 2, none⟩ = some (.int .i64 a1_2) := (bC BK212.out 2).trans rfl
   have hcz12_3 : w5.cell? ⟨gb212, 3, none⟩ = some (.bool a1_3) := (bC BK212.out 3).trans rfl
   have hcz12_4 : w5.cell? ⟨gb212, 4, none⟩ = some (.slice A1_4 l1_4.length c1_4) := (bC BK212.out 4).trans rfl
   have hfz12_0 := bZ BK212.out 0
   have hfz12_1 := bZ BK212.out 1
   have hfz12_2 := bZ BK212.out 2
   have hfz12_3 := bZ BK212.out 3
   have hfz12_4 := bZ BK212.out 4
   go_wp2
   repeat (go_quiet (fail); try go_wp2)
   go_meet
   case rel => exact ⟨_, (((l0_4.length : Int) != (l1_4.length : Int))), (by first | rfl | (simp; done) | (simp [*]; done)), H', ⟨by first | omega | exact Nat.le_refl _⟩, ⟨by (with_reducible repeat apply dX); exact BK211.out⟩, ⟨by (with_reducible repeat apply dX); exact BK212.out⟩, ⟨by repeat (first | (with_reducible first | exact HB.out | apply bA | apply bN | apply bD | refine bS ?_ GE211.out | refine bS ?_ GE212.out) | exact HB.out)⟩⟩
 case rest =>
  clear HC3
  try clear c1
  try clear c2
  try clear p2
  try clear c6
  try clear c6b0
  try clear c7
  try clear c10
  try clear hcz11_0
  try clear hcz11_1
  try clear hcz11_2
  try clear hcz11_3
  try clear hcz11_4
  try clear hcz12_0
  try clear hcz12_1
  try clear hcz12_2
  try clear hcz12_3
  try clear hcz12_4
  try clear hcz8_0
  try clear hcz8_1
  try clear hcz8_2
  try clear hcz8_3
  try clear hcz8_4
  try clear hcz9_0
  try clear hcz9_1
  try clear hcz9_2
  try clear hcz9_3
  try clear hcz9_4
  try clear hfz11_0
  try clear hfz11_1
  try clear hfz11_2
  try clear hfz11_3
  try clear hfz11_4
  try clear hfz12_0
  try clear hfz12_1
  try clear hfz12_2
  try clear hfz12_3
  try clear hfz12_4
  try clear hfz8_0
  try clear hfz8_1
  try clear hfz8_2
  try clear hfz8_3
  try clear hfz8_4
  try clear hfz9_0
  try clear hfz9_1
  try clear hfz9_2
  try clear hfz9_3
  try clear hfz9_4
  obtain ⟨kq, x20_2, rfl, HA, HJ2, BK211, BK212, HB⟩ := hcut
  cases kq with
  | zero => exact absurd HA.out (by simp [dailiesref06_Same.j0])
  | succ kj2 =>
   have H := HA.out
   clear HA
   simp only [dailiesref06_Same.j0] at H
   by_cases c13 : x20_2 = true
   ·subst c13
    have H1 : (some false) = some r := by rw [if_pos rfl] at H; exact H
    clear H
    have H := H1
    clear H1
    obtain rfl := Option.some.inj H
    go_wp2
    repeat (go_quiet (fail); try go_wp2)
    go_ret
    exact ⟨by first | rfl | (simp [errW_none, errW_some] <;> rfl) | (simp [*, errW_none, errW_some] <;> rfl), by repeat (first | (with_reducible first | exact HB.out | apply bA | apply bN | apply bD | refine bS ?_ GE211.out | refine bS ?_ GE212.out) | exact HB.out)⟩
   ·replace c13 := Bool.eq_false_iff.mpr c13
    subst c13
    have H1 : (dailiesref06_Same.l0 kj2 0 a0_0 a0_1 a0_2 a0_3 l0_4 a1_0 a1_1 a1_2 a1_3 l1_4) = some r := by rw [if_neg (show ¬ (false = true) by decide)] at H; exact H
    clear H
    have H := H1
    clear H1
    have H' := am H
    clear H
    go_wp2
    repeat (go_quiet (fail); try go_wp2)
    go_loopg [5] kj2 (fun kq v5 w' => ∃ (x5_2 : Int), v5 = .int .i64 x5_2 ∧ Aside0 (dailiesref06_Same.l0 kq x5_2 a0_0 a0_1 a0_2 a0_3 l0_4 a1_0 a1_1 a1_2 a1_3 l1_4 = some r) ∧ Aside0 (kq ≤ kj2) ∧ Aside0 (w'.heap[gb211]? = some (.cells #[.int .i64 a0_0, .int .i64 a0_1, .int .i64 a0_2, .bool a0_3, (.slice A0_4 l0_4.length c0_4)] 39 (0, 0))) ∧ Aside0 (w'.heap[gb212]? = some (.cells #[.int .i64 a1_0, .int .i64 a1_1, .int .i64 a1_2, .bool a1_3, (.slice A1_4 l1_4.length c1_4)] 39 (0, 0))) ∧ Aside0 (Below w.heap.size w w'))
    case atStart => exact ⟨(0), (by first | rfl | (simp; done) | (simp [*]; done)), H', ⟨Nat.le_refl _⟩, ⟨by (with_reducible repeat apply dX); exact BK211.out⟩, ⟨by (with_reducible repeat apply dX); exact BK212.out⟩, ⟨by repeat (first | (with_reducible first | exact HB.out | apply bA | apply bN | apply bD | refine bS ?_ GE211.out | refine bS ?_ GE212.out) | exact HB.out)⟩⟩
    case round =>
     clear H'
     try clear c1
     try clear c2
     try clear p2
     try clear c6
     try clear c6b0
     try clear c7
     try clear c10
     try clear c13
     try clear hcz11_0
     try clear hcz11_1
     try clear hcz11_2
     try clear hcz11_3
     try clear hcz11_4
     try clear hcz12_0
     try clear hcz12_1
     try clear hcz12_2
     try clear hcz12_3
     try clear hcz12_4
     try clear hcz8_0
     try clear hcz8_1
     try clear hcz8_2
     try clear hcz8_3
     try clear hcz8_4
     try clear hcz9_0
     try clear hcz9_1
     try clear hcz9_2
     try clear hcz9_3
     try clear hcz9_4
     try clear hfz11_0
     try clear hfz11_1
     try clear hfz11_2
     try clear hfz11_3
     try clear hfz11_4
     try clear hfz12_0
     try clear hfz12_1
     try clear hfz12_2
     try clear hfz12_3
     try clear hfz12_4
     try clear hfz8_0
     try clear hfz8_1
     try clear hfz8_2
     try clear hfz8_3
     try clear hfz8_4
     try clear hfz9_0
     try clear hfz9_1
     try clear hfz9_2
     try clear hfz9_3
     try clear hfz9_4
     try clear p2
     obtain ⟨x5_2, rfl, HA, HK2, BK211, BK212, HB⟩ := hrel
     cases gk with
     | zero => exact absurd HA.out (by simp [dailiesref06_Same.l0])
     | succ k2 =>
      have H := HA.out
      clear HA
      simp only [dailiesref06_Same.l0] at H
      by_cases c14 : x5_2 < (l0_4.length : Int)
      ·rw [if_pos c14] at H
       have c14b0 : decide (x5_2 < (l0_4.length : Int)) = true := decide_eq_true c14
       clear c14
       by_cases c15 : 0 ≤ x5_2
       ·rw [if_pos c15] at H
        have c15b0 : decide (0 ≤ x5_2) = true := decide_eq_true c15
        clear c15
        by_cases c16 : x5_2 < (l1_4.length : Int)
        ·rw [if_pos c16] at H
         have c16b0 : decide (x5_2 < (l1_4.length : Int)) = true := decide_eq_true c16
         clear c16
         by_cases c17 : ((rd_L1 l0_4 x5_2).length : Int) = ((rd_L1 l1_4 x5_2).length : Int)
         ·rw [if_pos c17] at H
          have c17b0 : (((rd_L1 l0_4 x5_2).length : Int) == ((rd_L1 l1_4 x5_2).length : Int)) = true := beq_iff_eq.mpr c17
          have c17b1 : (((rd_L1 l0_4 x5_2).length : Int) != ((rd_L1 l1_4 x5_2).length : Int)) = false := bne_eq_false_iff_eq.mpr c17
          have c17b2 : ((rd_L1 l0_4 x5_2).length == (rd_L1 l1_4 x5_2).length) = true := by first | simpa using c17 | (simp at c17 ⊢; omega)
          clear c17
          have H' := am H
          clear H
          have hnb18 := NB211_212.out
          have hnc18 := NB212_211.out
          have hcz19_0 : wr.cell? ⟨gb211, 0, none⟩ = some (.int .i64 a0_0) := (bC BK211.out 0).trans rfl
          have hcz19_1 : wr.cell? ⟨gb211, 1, none⟩ = some (.int .i64 a0_1) := (bC BK211.out 1).trans rfl
          have hcz19_2 : wr.cell? ⟨gb211, 2, none⟩ = some (.int .i64 a0_2) := (bC BK211.out 2).trans rfl
          have hcz19_3 : wr.cell? ⟨gb211, 3, none⟩ = some (.bool a0_3) := (bC BK211.out 3).trans rfl
          have hcz19_4 : wr.cell? ⟨gb211, 4, none⟩ = some (.slice A0_4 l0_4.length c0_4) := (bC BK211.out 4).trans rfl
          have hfz19_0 := bZ BK211.out 0
          have hfz19_1 := bZ BK211.out 1
          have hfz19_2 := bZ BK211.out 2
          have hfz19_3 := bZ BK211.out 3
          have hfz19_4 := bZ BK211.out 4
          have p213 : 0 ≤ (x5_2 : Int) := of_decide_eq_true (by first | (with_reducible assumption) | assumption)
          have q213 : x5_2 < (l0_4.length : Int) := of_decide_eq_true (by first | (with_reducible assumption) | assumption)
          obtain ⟨ad213, A213_0, c213_0, e213, hx213_0, hl213_0, hi213_0⟩ := at_L1 HR0_4.out x5_2 p213 q213
          cases e213
          replace hx213_0 := (HB.out.cell (World.block_lt_of_cell? w _ hx213_0)).trans hx213_0
          have HR213_0 := am hi213_0
          have HC213_0 := am hl213_0
          clear hi213_0 hl213_0
          replace p213 := eq_true p213
          replace q213 := eq_true q213
          have hcz20_0 : wr.cell? ⟨gb212, 0, none⟩ = some (.int .i64 a1_0) := (bC BK212.out 0).trans rfl
          have hcz20_1 : wr.cell? ⟨gb212, 1, none⟩ = some (.int .i64 a1_1) := (bC BK212.out 1).trans rfl
          have hcz20_2 : wr.cell? ⟨gb212, 2, none⟩ = some (.int .i64 a1_2) := (bC BK212.out 2).trans rfl
          have hcz20_3 : wr.cell? ⟨gb212, 3, none⟩ = some (.bool a1_3) := (bC BK212.out 3).trans rfl
          have hcz20_4 : wr.cell? ⟨gb212, 4, none⟩ = some (.slice A1_4 l1_4.length c1_4) := (bC BK212.out 4).trans rfl
          have hfz20_0 := bZ BK212.out 0
          have hfz20_1 := bZ BK212.out 1
          have hfz20_2 := bZ BK212.out 2
          have hfz20_3 := bZ BK212.out 3
          have hfz20_4 := bZ BK212.out 4
          have p214 : 0 ≤ (x5_2 : Int) := of_decide_eq_true (by first | (with_reducible assumption) | assumption)
          have q214 : x5_2 < (l1_4.length : Int) := of_decide_eq_true (by first | (with_reducible assumption) | assumption)
          obtain ⟨ad214, A214_0, c214_0, e214, hx214_0, hl214_0, hi214_0⟩ := at_L1 HR1_4.out x5_2 p214 q214
          cases e214
          replace hx214_0 := (HB.out.cell (World.block_lt_of_cell? w _ hx214_0)).trans hx214_0
          have HR214_0 := am hi214_0
          have HC214_0 := am hl214_0
          clear hi214_0 hl214_0
          replace p214 := eq_true p214
          replace q214 := eq_true q214
          go_wp2
          repeat (go_quiet (fail); try go_wp2)
          go_loopg [6] k2 (fun kq v6 w' => ∃ (x6_3 : Int), v6 = .int .i64 x6_3 ∧ Aside0 (dailiesref06_Same.l1 kq x5_2 x6_3 a0_0 a0_1 a0_2 a0_3 l0_4 a1_0 a1_1 a1_2 a1_3 l1_4 = some r) ∧ Aside0 (kq ≤ k2) ∧ Aside0 (w'.heap[gb211]? = some (.cells #[.int .i64 a0_0, .int .i64 a0_1, .int .i64 a0_2, .bool a0_3, (.slice (some ad213) l0_4.length c0_4)] 39 (0, 0))) ∧ Aside0 (w'.heap[gb212]? = some (.cells #[.int .i64 a1_0, .int .i64 a1_1, .int .i64 a1_2, .bool a1_3, (.slice (some ad214) l1_4.length c1_4)] 39 (0, 0))) ∧ Aside0 (Below w.heap.size w w'))
          case atStart => exact ⟨(0), (by first | rfl | (simp; done) | (simp [*]; done)), H', ⟨Nat.le_refl _⟩, ⟨by (with_reducible repeat apply dX); exact BK211.out⟩, ⟨by (with_reducible repeat apply dX); exact BK212.out⟩, ⟨by repeat (first | (with_reducible first | exact HB.out | apply bA | apply bN | apply bD | refine bS ?_ GE211.out | refine bS ?_ GE212.out) | exact HB.out)⟩⟩
          case round =>
           clear H'
           try clear c1
           try clear c2
           try clear p2
           try clear q2
           try clear hx2
           try clear c6
           try clear c6b0
           try clear c7
           try clear c10
           try clear c13
           try clear c14
           try clear c14b0
           try clear c15
           try clear c15b0
           try clear c16
           try clear c16b0
           try clear c17
           try clear c17b0
           try clear c17b1
           try clear c17b2
           try clear c18
           try clear hcz11_0
           try clear hcz11_1
           try clear hcz11_2
           try clear hcz11_3
           try clear hcz11_4
           try clear hcz12_0
           try clear hcz12_1
           try clear hcz12_2
           try clear hcz12_3
           try clear hcz12_4
           try clear hcz19_0
           try clear hcz19_1
           try clear hcz19_2
           try clear hcz19_3
           try clear hcz19_4
           try clear hcz20_0
           try clear hcz20_1
           try clear hcz20_2
           try clear hcz20_3
           try clear hcz20_4
           try clear hcz8_0
           try clear hcz8_1
           try clear hcz8_2
           try clear hcz8_3
           try clear hcz8_4
           try clear hcz9_0
           try clear hcz9_1
           try clear hcz9_2
           try clear hcz9_3
           try clear hcz9_4
           try clear hfz11_0
           try clear hfz11_1
           try clear hfz11_2
           try clear hfz11_3
           try clear hfz11_4
           try clear hfz12_0
           try clear hfz12_1
           try clear hfz12_2
           try clear hfz12_3
           try clear hfz12_4
           try clear hfz19_0
           try clear hfz19_1
           try clear hfz19_2
           try clear hfz19_3
           try clear hfz19_4
           try clear hfz20_0
           try clear hfz20_1
           try clear hfz20_2
           try clear hfz20_3
           try clear hfz20_4
           try clear hfz8_0
           try clear hfz8_1
           try clear hfz8_2
           try clear hfz8_3
           try clear hfz8_4
           try clear hfz9_0
           try clear hfz9_1
           try clear hfz9_2
           try clear hfz9_3
           try clear hfz9_4
           try clear hx213_0
           try clear hx214_0
           try clear p2
           try clear p213
           try clear p214
           try clear q213
           try clear q214
           obtain ⟨x6_3, rfl, HA, HK3, BK211, BK212, HB⟩ := hrel
           cases gk with
           | zero => exact absurd HA.out (by simp [dailiesref06_Same.l1])
           | succ k3 =>
            have H := HA.out
            clear HA
            simp only [dailiesref06_Same.l1] at H
            by_cases c21 : 0 ≤ x5_2
            ·rw [if_pos c21] at H
             have c21b0 : decide (0 ≤ x5_2) = true := decide_eq_true c21
             clear c21
             by_cases c22 : x5_2 < (l0_4.length : Int)
             ·rw [if_pos c22] at H
              have c22b0 : decide (x5_2 < (l0_4.length : Int)) = true := decide_eq_true c22
              clear c22
              by_cases c23 : x6_3 < ((rd_L1 l0_4 x5_2).length : Int)
              ·rw [if_pos c23] at H
               have c23b0 : decide (x6_3 < ((rd_L1 l0_4 x5_2).length : Int)) = true := decide_eq_true c23
               clear c23
               by_cases c24 : 0 ≤ x6_3
               ·rw [if_pos c24] at H
                have c24b0 : decide (0 ≤ x6_3) = true := decide_eq_true c24
                clear c24
                by_cases c25 : x5_2 < (l1_4.length : Int)
                ·rw [if_pos c25] at H
                 have c25b0 : decide (x5_2 < (l1_4.length : Int)) = true := decide_eq_true c25
                 clear c25
                 by_cases c26 : x6_3 < ((rd_L1 l1_4 x5_2).length : Int)
                 ·rw [if_pos c26] at H
                  have c26b0 : decide (x6_3 < ((rd_L1 l1_4 x5_2).length : Int)) = true := decide_eq_true c26
                  clear c26
                  by_cases c27 : (rd (rd_L1 l0_4 x5_2) x6_3) = (rd (rd_L1 l1_4 x5_2) x6_3)
                  ·rw [if_pos c27] at H
                   have c27b0 : ((rd (rd_L1 l0_4 x5_2) x6_3) == (rd (rd_L1 l1_4 x5_2) x6_3)) = true := beq_iff_eq.mpr c27
                   have c27b1 : ((rd (rd_L1 l0_4 x5_2) x6_3) != (rd (rd_L1 l1_4 x5_2) x6_3)) = false := bne_eq_false_iff_eq.mpr c27
                   clear c27
                   have H' := am H
                   clear H
                   have hnb28 := NB211_212.out
                   have hnc28 := NB212_211.out
                   have hcz29_0 : wr.cell? ⟨gb211, 0, none⟩ = some (.int .i64 a0_0) := (bC BK211.out 0).trans rfl
                   have hcz29_1 : wr.cell? ⟨gb211, 1, none⟩ = some (.int .i64 a0_1) := (bC BK211.out 1).trans rfl
                   have hcz29_2 : wr.cell? ⟨gb211, 2, none⟩ = some (.int .i64 a0_2) := (bC BK211.out 2).trans rfl
                   have hcz29_3 : wr.cell? ⟨gb211, 3, none⟩ = some (.bool a0_3) := (bC BK211.out 3).trans rfl
                   have hcz29_4 : wr.cell? ⟨gb211, 4, none⟩ = some (.slice (some ad213) l0_4.length c0_4) := (bC BK211.out 4).trans rfl
                   have hfz29_0 := bZ BK211.out 0
                   have hfz29_1 := bZ BK211.out 1
                   have hfz29_2 := bZ BK211.out 2
                   have hfz29_3 := bZ BK211.out 3
                   have hfz29_4 := bZ BK211.out 4
                   have p215 : 0 ≤ (x5_2 : Int) := of_decide_eq_true (by first | (with_reducible assumption) | assumption)
                   have q215 : x5_2 < (l0_4.length : Int) := of_decide_eq_true (by first | (with_reducible assumption) | assumption)
                   obtain ⟨ad215, A215_0, c215_0, e215, hx215_0, hl215_0, hi215_0⟩ := at_L1 HR0_4.out x5_2 p215 q215
                   obtain rfl : ad213 = ad215 := (by injection e215)
                   replace hx215_0 := (HB.out.cell (World.block_lt_of_cell? w _ hx215_0)).trans hx215_0
                   have HR215_0 := am hi215_0
                   have HC215_0 := am hl215_0
                   clear hi215_0 hl215_0
                   replace p215 := eq_true p215
                   replace q215 := eq_true q215
                   have p216 : 0 ≤ (x5_2 : Int) := of_decide_eq_true (by first | (with_reducible assumption) | assumption)
                   have q216 : x5_2 < (l0_4.length : Int) := of_decide_eq_true (by first | (with_reducible assumption) | assumption)
                   obtain ⟨ad216, A216_0, c216_0, e216, hx216_0, hl216_0, hi216_0⟩ := at_L1 HR0_4.out x5_2 p216 q216
                   obtain rfl : ad213 = ad216 := (by injection e216)
                   replace hx216_0 := (HB.out.cell (World.block_lt_of_cell? w _ hx216_0)).trans hx216_0
                   have HR216_0 := am hi216_0
                   have HC216_0 := am hl216_0
                   clear hi216_0 hl216_0
                   replace p216 := eq_true p216
                   replace q216 := eq_true q216
                   have ea_ := Option.some.inj (hx215_0.symm.trans hx216_0)
                   injection ea_ with ea_ en_ ec_
                   subst ea_
                   subst ec_
                   clear en_
                   have p217 : 0 ≤ (x6_3 : Int) := of_decide_eq_true (by first | (with_reducible assumption) | assumption)
                   have q217 : x6_3 < ((rd_L1 l0_4 x5_2).length : Int) := of_decide_eq_true (by first | (with_reducible assumption) | assumption)
                   obtain ⟨ad217, e217, hx217_0⟩ := Kd.at_int HR216_0.out x6_3 p217 q217
                   cases e217
                   replace hx217_0 := (HB.out.cell (World.block_lt_of_cell? w _ hx217_0)).trans hx217_0
                   replace p217 := eq_true p217
                   replace q217 := eq_true q217
                   have hcz30_0 : wr.cell? ⟨gb212, 0, none⟩ = some (.int .i64 a1_0) := (bC BK212.out 0).trans rfl
                   have hcz30_1 : wr.cell? ⟨gb212, 1, none⟩ = some (.int .i64 a1_1) := (bC BK212.out 1).trans rfl
                   have hcz30_2 : wr.cell? ⟨gb212, 2, none⟩ = some (.int .i64 a1_2) := (bC BK212.out 2).trans rfl
                   have hcz30_3 : wr.cell? ⟨gb212, 3, none⟩ = some (.bool a1_3) := (bC BK212.out 3).trans rfl
                   have hcz30_4 : wr.cell? ⟨gb212, 4, none⟩ = some (.slice (some ad214) l1_4.length c1_4) := (bC BK212.out 4).trans rfl
                   have hfz30_0 := bZ BK212.out 0
                   have hfz30_1 := bZ BK212.out 1
                   have hfz30_2 := bZ BK212.out 2
                   have hfz30_3 := bZ BK212.out 3
                   have hfz30_4 := bZ BK212.out 4
                   have p218 : 0 ≤ (x5_2 : Int) := of_decide_eq_true (by first | (with_reducible assumption) | assumption)
                   have q218 : x5_2 < (l1_4.length : Int) := of_decide_eq_true (by first | (with_reducible assumption) | assumption)
                   obtain ⟨ad218, A218_0, c218_0, e218, hx218_0, hl218_0, hi218_0⟩ := at_L1 HR1_4.out x5_2 p218 q218
                   obtain rfl : ad214 = ad218 := (by injection e218)
                   replace hx218_0 := (HB.out.cell (World.block_lt_of_cell? w _ hx218_0)).trans hx218_0
                   have HR218_0 := am hi218_0
                   have HC218_0 := am hl218_0
                   clear hi218_0 hl218_0
                   replace p218 := eq_true p218
                   replace q218 := eq_true q218
                   have p219 : 0 ≤ (x6_3 : Int) := of_decide_eq_true (by first | (with_reducible assumption) | assumption)
                   have q219 : x6_3 < ((rd_L1 l1_4 x5_2).length : Int) := of_decide_eq_true (by first | (with_reducible assumption) | assumption)
                   obtain ⟨ad219, e219, hx219_0⟩ := Kd.at_int HR218_0.out x6_3 p219 q219
                   cases e219
                   replace hx219_0 := (HB.out.cell (World.block_lt_of_cell? w _ hx219_0)).trans hx219_0
                   replace p219 := eq_true p219
                   replace q219 := eq_true q219
                   go_wp2
                   repeat (go_quiet (fail); try go_wp2)
                   go_roundg k3
                   case measure => have := HJ2.out; have := HK2.out; have := HK3.out; omega
                   case rel => exact ⟨(wrap64 (x6_3 + 1)), (by first | rfl | (simp; done) | (simp [*]; done)), H', ⟨by have := HJ2.out; have := HK2.out; have := HK3.out; omega⟩, ⟨by (with_reducible repeat apply dX); exact BK211.out⟩, ⟨by (with_reducible repeat apply dX); exact BK212.out⟩, ⟨by repeat (first | (with_reducible first | exact HB.out | apply bA | apply bN | apply bD | refine bS ?_ GE211.out | refine bS ?_ GE212.out) | exact HB.out)⟩⟩
                  ·rw [if_neg c27] at H
                   have c27b0 : ((rd (rd_L1 l0_4 x5_2) x6_3) == (rd (rd_L1 l1_4 x5_2) x6_3)) = false := beq_eq_false_iff_ne.mpr c27
                   have c27b1 : ((rd (rd_L1 l0_4 x5_2) x6_3) != (rd (rd_L1 l1_4 x5_2) x6_3)) = true := bne_iff_ne.mpr c27
                   obtain rfl := Option.some.inj H
                   have hnb31 := NB211_212.out
                   have hnc31 := NB212_211.out
                   have hcz32_0 : wr.cell? ⟨gb211, 0, none⟩ = some (.int .i64 a0_0) := (bC BK211.out 0).trans rfl
                   have hcz32_1 : wr.cell? ⟨gb211, 1, none⟩ = some (.int .i64 a0_1) := (bC BK211.out 1).trans rfl
                   have hcz32_2 : wr.cell? ⟨gb211, 2, none⟩ = some (.int .i64 a0_2) := (bC BK211.out 2).trans rfl
                   have hcz32_3 : wr.cell? ⟨gb211, 3, none⟩ = some (.bool a0_3) := (bC BK211.out 3).trans rfl
                   have hcz32_4 : wr.cell? ⟨gb211, 4, none⟩ = some (.slice (some ad213) l0_4.length c0_4) := (bC BK211.out 4).trans rfl
                   have hfz32_0 := bZ BK211.out 0
                   have hfz32_1 := bZ BK211.out 1
                   have hfz32_2 := bZ BK211.out 2
                   have hfz32_3 := bZ BK211.out 3
                   have hfz32_4 := bZ BK211.out 4
                   have p215 : 0 ≤ (x5_2 : Int) := of_decide_eq_true (by first | (with_reducible assumption) | assumption)
                   have q215 : x5_2 < (l0_4.length : Int) := of_decide_eq_true (by first | (with_reducible assumption) | assumption)
                   obtain ⟨ad215, A215_0, c215_0, e215, hx215_0, hl215_0, hi215_0⟩ := at_L1 HR0_4.out x5_2 p215 q215
                   obtain rfl : ad213 = ad215 := (by injection e215)
                   replace hx215_0 := (HB.out.cell (World.block_lt_of_cell? w _ hx215_0)).trans hx215_0
                   have HR215_0 := am hi215_0
                   have HC215_0 := am hl215_0
                   clear hi215_0 hl215_0
                   replace p215 := eq_true p215
                   replace q215 := eq_true q215
                   have p216 : 0 ≤ (x5_2 : Int) := of_decide_eq_true (by first | (with_reducible assumption) | assumption)
                   have q216 : x5_2 < (l0_4.length : Int) := of_decide_eq_true (by first | (with_reducible assumption) | assumption)
                   obtain ⟨ad216, A216_0, c216_0, e216, hx216_0, hl216_0, hi216_0⟩ := at_L1 HR0_4.out x5_2 p216 q216
                   obtain rfl : ad213 = ad216 := (by injection e216)
                   replace hx216_0 := (HB.out.cell (World.block_lt_of_cell? w _ hx216_0)).trans hx216_0
                   have HR216_0 := am hi216_0
                   have HC216_0 := am hl216_0
                   clear hi216_0 hl216_0
                   replace p216 := eq_true p216
                   replace q216 := eq_true q216
                   have ea_ := Option.some.inj (hx215_0.symm.trans hx216_0)
                   injection ea_ with ea_ en_ ec_
                   subst ea_
                   subst ec_
                   clear en_
                   have p217 : 0 ≤ (x6_3 : Int) := of_decide_eq_true (by first | (with_reducible assumption) | assumption)
                   have q217 : x6_3 < ((rd_L1 l0_4 x5_2).length : Int) := of_decide_eq_true (by first | (with_reducible assumption) | assumption)
                   obtain ⟨ad217, e217, hx217_0⟩ := Kd.at_int HR216_0.out x6_3 p217 q217
                   cases e217
                   replace hx217_0 := (HB.out.cell (World.block_lt_of_cell? w _ hx217_0)).trans hx217_0
                   replace p217 := eq_true p217
                   replace q217 := eq_true q217
                   have hcz33_0 : wr.cell? ⟨gb212, 0, none⟩ = some (.int .i64 a1_0) := (bC BK212.out 0).trans rfl
                   have hcz33_1 : wr.cell? ⟨gb212, 1, none⟩ = some (.int .i64 a1_1) := (bC BK212.out 1).trans rfl
                   have hcz33_2 : wr.cell? ⟨gb212, 2, none⟩ = some (.int .i64 a1_2) := (bC BK212.out 2).trans rfl
                   have hcz33_3 : wr.cell? ⟨gb212, 3, none⟩ = some (.bool a1_3) := (bC BK212.out 3).trans rfl
                   have hcz33_4 : wr.cell? ⟨gb212, 4, none⟩ = some (.slice (some ad214) l1_4.length c1_4) := (bC BK212.out 4).trans rfl
                   have hfz33_0 := bZ BK212.out 0
                   have hfz33_1 := bZ BK212.out 1
                   have hfz33_2 := bZ BK212.out 2
                   have hfz33_3 := bZ BK212.out 3
                   have hfz33_4 := bZ BK212.out 4
                   have p218 : 0 ≤ (x5_2 : Int) := of_decide_eq_true (by first | (with_reducible assumption) | assumption)
                   have q218 : x5_2 < (l1_4.length : Int) := of_decide_eq_true (by first | (with_reducible assumption) | assumption)
                   obtain ⟨ad218, A218_0, c218_0, e218, hx218_0, hl218_0, hi218_0⟩ := at_L1 HR1_4.out x5_2 p218 q218
                   obtain rfl : ad214 = ad218 := (by injection e218)
                   replace hx218_0 := (HB.out.cell (World.block_lt_of_cell? w _ hx218_0)).trans hx218_0
                   have HR218_0 := am hi218_0
                   have HC218_0 := am hl218_0
                   clear hi218_0 hl218_0
                   replace p218 := eq_true p218
                   replace q218 := eq_true q218
                   have p219 : 0 ≤ (x6_3 : Int) := of_decide_eq_true (by first | (with_reducible assumption) | assumption)
                   have q219 : x6_3 < ((rd_L1 l1_4 x5_2).length : Int) := of_decide_eq_true (by first | (with_reducible assumption) | assumption)
                   obtain ⟨ad219, e219, hx219_0⟩ := Kd.at_int HR218_0.out x6_3 p219 q219
                   cases e219
                   replace hx219_0 := (HB.out.cell (World.block_lt_of_cell? w _ hx219_0)).trans hx219_0
                   replace p219 := eq_true p219
                   replace q219 := eq_true q219
                   go_wp2
                   repeat (go_quiet (fail); try go_wp2)
                   go_ret
                   exact ⟨by first | rfl | (simp [errW_none, errW_some] <;> rfl) | (simp [*, errW_none, errW_some] <;> rfl), by repeat (first | (with_reducible first | exact HB.out | apply bA | apply bN | apply bD | refine bS ?_ GE211.out | refine bS ?_ GE212.out) | exact HB.out)⟩
                 ·rw [if_neg c26] at H
                  exact absurd H (by simp)
                ·rw [if_neg c25] at H
                 exact absurd H (by simp)
               ·rw [if_neg c24] at H
                exact absurd H (by simp)
              ·rw [if_neg c23] at H
               have c23b0 : decide (x6_3 < ((rd_L1 l0_4 x5_2).length : Int)) = false := decide_eq_false c23
               clear c23
               have H' := am H
               clear H
               have hnb34 := NB211_212.out
               have hnc34 := NB212_211.out
               have hcz35_0 : wr.cell? ⟨gb211, 0, none⟩ = some (.int .i64 a0_0) := (bC BK211.out 0).trans rfl
               have hcz35_1 : wr.cell? ⟨gb211, 1, none⟩ = some (.int .i64 a0_1) := (bC BK211.out 1).trans rfl
               have hcz35_2 : wr.cell? ⟨gb211, 2, none⟩ = some (.int .i64 a0_2) := (bC BK211.out 2).trans rfl
               have hcz35_3 : wr.cell? ⟨gb211, 3, none⟩ = some (.bool a0_3) := (bC BK211.out 3).trans rfl
               have hcz35_4 : wr.cell? ⟨gb211, 4, none⟩ = some (.slice (some ad213) l0_4.length c0_4) := (bC BK211.out 4).trans rfl
               have hfz35_0 := bZ BK211.out 0
               have hfz35_1 := bZ BK211.out 1
               have hfz35_2 := bZ BK211.out 2
               have hfz35_3 := bZ BK211.out 3
               have hfz35_4 := bZ BK211.out 4
               have p215 : 0 ≤ (x5_2 : Int) := of_decide_eq_true (by first | (with_reducible assumption) | assumption)
               have q215 : x5_2 < (l0_4.length : Int) := of_decide_eq_true (by first | (with_reducible assumption) | assumption)
               obtain ⟨ad215, A215_0, c215_0, e215, hx215_0, hl215_0, hi215_0⟩ := at_L1 HR0_4.out x5_2 p215 q215
               obtain rfl : ad213 = ad215 := (by injection e215)
               replace hx215_0 := (HB.out.cell (World.block_lt_of_cell? w _ hx215_0)).trans hx215_0
               have HR215_0 := am hi215_0
               have HC215_0 := am hl215_0
               clear hi215_0 hl215_0
               replace p215 := eq_true p215
               replace q215 := eq_true q215
               go_wp2
               repeat (go_quiet (fail); try go_wp2)
               go_roundg k3
               case measure => have := HJ2.out; have := HK2.out; have := HK3.out; omega
               case rel => exact ⟨(wrap64 (x5_2 + 1)), (by first | rfl | (simp; done) | (simp [*]; done)), H', ⟨by have := HJ2.out; have := HK2.out; have := HK3.out; omega⟩, ⟨by (with_reducible repeat apply dX); exact BK211.out⟩, ⟨by (with_reducible repeat apply dX); exact BK212.out⟩, ⟨by repeat (first | (with_reducible first | exact HB.out | apply bA | apply bN | apply bD | refine bS ?_ GE211.out | refine bS ?_ GE212.out) | exact HB.out)⟩⟩
             ·rw [if_neg c22] at H
              exact absurd H (by simp)
            ·rw [if_neg c21] at H
             exact absurd H (by simp)
         ·rw [if_neg c17] at H
          have c17b0 : (((rd_L1 l0_4 x5_2).length : Int) == ((rd_L1 l1_4 x5_2).length : Int)) = false := beq_eq_false_iff_ne.mpr c17
          have c17b1 : (((rd_L1 l0_4 x5_2).length : Int) != ((rd_L1 l1_4 x5_2).length : Int)) = true := bne_iff_ne.mpr c17
          have c17b2 : ((rd_L1 l0_4 x5_2).length == (rd_L1 l1_4 x5_2).length) = false := by first | simpa using c17 | (simp at c17 ⊢; omega)
          obtain rfl := Option.some.inj H
          have hnb36 := NB211_212.out
          have hnc36 := NB212_211.out
          have hcz37_0 : wr.cell? ⟨gb211, 0, none⟩ = some (.int .i64 a0_0) := (bC BK211.out 0).trans rfl
          have hcz37_1 : wr.cell? ⟨gb211, 1, none⟩ = some (.int .i64 a0_1) := (bC BK211.out 1).trans rfl
          have hcz37_2 : wr.cell? ⟨gb211, 2, none⟩ = some (.int .i64 a0_2) := (bC BK211.out 2).trans rfl
          have hcz37_3 : wr.cell? ⟨gb211, 3, none⟩ = some (.bool a0_3) := (bC BK211.out 3).trans rfl
          have hcz37_4 : wr.cell? ⟨gb211, 4, none⟩ = some (.slice A0_4 l0_4.length c0_4) := (bC BK211.out 4).trans rfl
          have hfz37_0 := bZ BK211.out 0
          have hfz37_1 := bZ BK211.out 1
          have hfz37_2 := bZ BK211.out 2
          have hfz37_3 := bZ BK211.out 3
          have hfz37_4 := bZ BK211.out 4
          have p213 : 0 ≤ (x5_2 : Int) := of_decide_eq_true (by first | (with_reducible assumption) | assumption)
          have q213 : x5_2 < (l0_4.length : Int) := of_decide_eq_true (by first | (with_reducible assumption) | assumption)
          obtain ⟨ad213, A213_0, c213_0, e213, hx213_0, hl213_0, hi213_0⟩ := at_L1 HR0_4.out x5_2 p213 q213
          cases e213
          replace hx213_0 := (HB.out.cell (World.block_lt_of_cell? w _ hx213_0)).trans hx213_0
          have HR213_0 := am hi213_0
          have HC213_0 := am hl213_0
          clear hi213_0 hl213_0
          replace p213 := eq_true p213
          replace q213 := eq_true q213
          have hcz38_0 : wr.cell? ⟨gb212, 0, none⟩ = some (.int .i64 a1_0) := (bC BK212.out 0).trans rfl
          have hcz38_1 : wr.cell? ⟨gb212, 1, none⟩ = some (.int .i64 a1_1) := (bC BK212.out 1).trans rfl
          have hcz38_2 : wr.cell? ⟨gb212, 2, none⟩ = some (.int .i64 a1_2) := (bC BK212.out 2).trans rfl
          have hcz38_3 : wr.cell? ⟨gb212, 3, none⟩ = some (.bool a1_3) := (bC BK212.out 3).trans rfl
          have hcz38_4 : wr.cell? ⟨gb212, 4, none⟩ = some (.slice A1_4 l1_4.length c1_4) := (bC BK212.out 4).trans rfl
          have hfz38_0 := bZ BK212.out 0
          have hfz38_1 := bZ BK212.out 1
          have hfz38_2 := bZ BK212.out 2
          have hfz38_3 := bZ BK212.out 3
          have hfz38_4 := bZ BK212.out 4
          have p214 : 0 ≤ (x5_2 : Int) := of_decide_eq_true (by first | (with_reducible assumption) | assumption)
          have q214 : x5_2 < (l1_4.length : Int) := of_decide_eq_true (by first | (with_reducible assumption) | assumption)
          obtain ⟨ad214, A214_0, c214_0, e214, hx214_0, hl214_0, hi214_0⟩ := at_L1 HR1_4.out x5_2 p214 q214
          cases e214
          replace hx214_0 := (HB.out.cell (World.block_lt_of_cell? w _ hx214_0)).trans hx214_0
          have HR214_0 := am hi214_0
          have HC214_0 := am hl214_0
          clear hi214_0 hl214_0
          replace p214 := eq_true p214
          replace q214 := eq_true q214
          go_wp2
          repeat (go_quiet (fail); try go_wp2)
          go_ret
          exact ⟨by first | rfl | (simp [errW_none, errW_some] <;> rfl) | (simp [*, errW_none, errW_some] <;> rfl), by repeat (first | (with_reducible first | exact HB.out | apply bA | apply bN | apply bD | refine bS ?_ GE211.out | refine bS ?_ GE212.out) | exact HB.out)⟩
        ·rw [if_neg c16] at H
         exact absurd H (by simp)
       ·rw [if_neg c15] at H
        exact absurd H (by simp)
      ·rw [if_neg c14] at H
       have c14b0 : decide (x5_2 < (l0_4.length : Int)) = false := decide_eq_false c14
       clear c14
       obtain rfl := Option.some.inj H
       have hnb39 := NB211_212.out
       have hnc39 := NB212_211.out
       have hcz40_0 : wr.cell? ⟨gb211, 0, none⟩ = some (.int .i64 a0_0) := (bC BK211.out 0).trans rfl
       have hcz40_1 : wr.cell? ⟨gb211, 1, none⟩ = some (.int .i64 a0_1) := (bC BK211.out 1).trans rfl
       have hcz40_2 : wr.cell? ⟨gb211, 2, none⟩ = some (.int .i64 a0_2) := (bC BK211.out 2).trans rfl
       have hcz40_3 : wr.cell? ⟨gb211, 3, none⟩ = some (.bool a0_3) := (bC BK211.out 3).trans rfl
       have hcz40_4 : wr.cell? ⟨gb211, 4, none⟩ = some (.slice A0_4 l0_4.length c0_4) := (bC BK211.out 4).trans rfl
       have hfz40_0 := bZ BK211.out 0
       have hfz40_1 := bZ BK211.out 1
       have hfz40_2 := bZ BK211.out 2
       have hfz40_3 := bZ BK211.out 3
       have hfz40_4 := bZ BK211.out 4
       go_wp2
       repeat (go_quiet (fail); try go_wp2)
       go_ret
       exact ⟨by first | rfl | (simp [errW_none, errW_some] <;> rfl) | (simp [*, errW_none, errW_some] <;> rfl), by repeat (first | (with_reducible first | exact HB.out | apply bA | apply bN | apply bD | refine bS ?_ GE211.out | refine bS ?_ GE212.out) | exact HB.out)⟩

end Go.Proofs.Ytdoikehkibefpaa.PPb
