-- Laid by a program of this session (wip/tools/prx.py), over the kit's printer of walks; Lean checks it.
import Derived.Test.YtdoikehkibefpaaPPbx0
import Derived.Test.YtdoikehkibefpaaPPbx1
import Derived.Test.YtdoikehkibefpaaPPbx3
namespace Go.Proofs.Ytdoikehkibefpaa.PPb
open Go.RowKit Go.Proofs.YtdoikehkibefpaaW.PrintWords Go.Proofs.YtdoikehkibefpaaW.PrintLast Go.Proofs.YtdoikehkibefpaaW.PrintMore
open Go.Proofs.YtdoikehkibefpaaW.PrintWords renaming blk_far → bF, below_set → bS, blk_frozen → bZ, below_alloc → bA, pw_below_drewN → bN, below_drew1 → bD, blk_below → bB, blk_cell → bC, blk_set → bs, blk_lt → bL, blk_put → bP, below_step → bT, below_size → bU, box_event → bE, gate_dst → gD
open Go.Proofs.YtdoikehkibefpaaW.PrintWords.Kd renaming S_far → kF, S_types → kT, S_alloc → kA, S_drewN → kN, S_drew → kD
set_option linter.unusedVariables false
set_option linter.unusedSimpArgs false

attribute [local go_sem high] eqA26
/-! ### dailiesref06_Same: function 25 -/
mutual
def dailiesref06_Same.j0 : Nat → Bool → Int → Int → Int → Bool → List (List Int) → Int → Int → Int → Bool → List (List Int) → Option (Bool)
 | 0, _, _, _, _, _, _, _, _, _, _, _ => none
 | k + 1, x20, x186000, x186001, x186002, x186003, x186004, x187000, x187001, x187002, x187003, x187004 => if x20 = true then (some false) else (dailiesref06_Same.l0 k 0 x186000 x186001 x186002 x186003 x186004 x187000 x187001 x187002 x187003 x187004)
def dailiesref06_Same.l0 : Nat → Int → Int → Int → Int → Bool → List (List Int) → Int → Int → Int → Bool → List (List Int) → Option (Bool)
 | 0, _, _, _, _, _, _, _, _, _, _, _ => none
 | k + 1, x5, x186000, x186001, x186002, x186003, x186004, x187000, x187001, x187002, x187003, x187004 => if x5 < (x186004.length : Int) then (if 0 ≤ x5 then (if x5 < (x187004.length : Int) then (if ((rd_L1 x186004 x5).length : Int) = ((rd_L1 x187004 x5).length : Int) then (dailiesref06_Same.l1 k x5 0 x186000 x186001 x186002 x186003 x186004 x187000 x187001 x187002 x187003 x187004) else (some false)) else (none)) else (none)) else (some true)
def dailiesref06_Same.l1 : Nat → Int → Int → Int → Int → Int → Bool → List (List Int) → Int → Int → Int → Bool → List (List Int) → Option (Bool)
 | 0, _, _, _, _, _, _, _, _, _, _, _, _ => none
 | k + 1, x5, x6, x186000, x186001, x186002, x186003, x186004, x187000, x187001, x187002, x187003, x187004 => if 0 ≤ x5 then (if x5 < (x186004.length : Int) then (if x6 < ((rd_L1 x186004 x5).length : Int) then (if 0 ≤ x6 then (if x5 < (x187004.length : Int) then (if x6 < ((rd_L1 x187004 x5).length : Int) then (if (rd (rd_L1 x186004 x5) x6) = (rd (rd_L1 x187004 x5) x6) then (dailiesref06_Same.l1 k x5 (wrap64 (x6 + 1)) x186000 x186001 x186002 x186003 x186004 x187000 x187001 x187002 x187003 x187004) else (some false)) else (none)) else (none)) else (none)) else (dailiesref06_Same.l0 k (wrap64 (x5 + 1)) x186000 x186001 x186002 x186003 x186004 x187000 x187001 x187002 x187003 x187004)) else (none)) else (none)
end
def dailiesref06_Same.f (k : Nat) (a0_0 : Int) (a0_1 : Int) (a0_2 : Int) (a0_3 : Bool) (l0_4 : List (List Int)) (a1_0 : Int) (a1_1 : Int) (a1_2 : Int) (a1_3 : Bool) (l1_4 : List (List Int)) : Option (Bool) := if (!(a0_0 == a1_0) || (!(a0_1 == a1_1) || (!(a0_2 == a1_2) || (!(a0_3 == a1_3))))) = true then (dailiesref06_Same.j0 k true a0_0 a0_1 a0_2 a0_3 l0_4 a1_0 a1_1 a1_2 a1_3 l1_4) else (dailiesref06_Same.j0 k ((l0_4.length : Int) != (l1_4.length : Int)) a0_0 a0_1 a0_2 a0_3 l0_4 a1_0 a1_1 a1_2 a1_3 l1_4)
theorem dailiesref06_Same.mono_l : ∀ k, (∀ y0 y1 y2 y3 y4 y5 y6 y7 y8 y9 y10, LeO (dailiesref06_Same.j0 k y0 y1 y2 y3 y4 y5 y6 y7 y8 y9 y10) (dailiesref06_Same.j0 (k + 1) y0 y1 y2 y3 y4 y5 y6 y7 y8 y9 y10)) ∧ (∀ y0 y1 y2 y3 y4 y5 y6 y7 y8 y9 y10, LeO (dailiesref06_Same.l0 k y0 y1 y2 y3 y4 y5 y6 y7 y8 y9 y10) (dailiesref06_Same.l0 (k + 1) y0 y1 y2 y3 y4 y5 y6 y7 y8 y9 y10)) ∧ (∀ y0 y1 y2 y3 y4 y5 y6 y7 y8 y9 y10 y11, LeO (dailiesref06_Same.l1 k y0 y1 y2 y3 y4 y5 y6 y7 y8 y9 y10 y11) (dailiesref06_Same.l1 (k + 1) y0 y1 y2 y3 y4 y5 y6 y7 y8 y9 y10 y11))
 | 0 => ⟨fun _ _ _ _ _ _ _ _ _ _ _ r h => by simp [dailiesref06_Same.j0] at h, fun _ _ _ _ _ _ _ _ _ _ _ r h => by simp [dailiesref06_Same.l0] at h, fun _ _ _ _ _ _ _ _ _ _ _ _ r h => by simp [dailiesref06_Same.l1] at h⟩
 | k + 1 => by
  obtain ⟨ih0, ih1, ih2⟩ := dailiesref06_Same.mono_l k
  refine ⟨?_, ?_, ?_⟩
  ·intro y0 y1 y2 y3 y4 y5 y6 y7 y8 y9 y10
   unfold dailiesref06_Same.j0
   repeat' first
   | (with_reducible exact ih0 _ _ _ _ _ _ _ _ _ _ _)
   | (with_reducible exact ih1 _ _ _ _ _ _ _ _ _ _ _)
   | (with_reducible exact ih2 _ _ _ _ _ _ _ _ _ _ _ _)
   | (with_reducible exact LeO.refl _)
   | (with_reducible exact LeO.none _)
   | (with_reducible refine LeO.ite ?_ ?_)
   | (with_reducible refine LeO.bind ?_ (fun _ => ?_))
   | exact ih0 _ _ _ _ _ _ _ _ _ _ _
   | exact ih1 _ _ _ _ _ _ _ _ _ _ _
   | exact ih2 _ _ _ _ _ _ _ _ _ _ _ _
   | exact LeO.none _
   | refine LeO.ite ?_ ?_
   | refine LeO.bind ?_ (fun _ => ?_)
  ·intro y0 y1 y2 y3 y4 y5 y6 y7 y8 y9 y10
   unfold dailiesref06_Same.l0
   repeat' first
   | (with_reducible exact ih0 _ _ _ _ _ _ _ _ _ _ _)
   | (with_reducible exact ih1 _ _ _ _ _ _ _ _ _ _ _)
   | (with_reducible exact ih2 _ _ _ _ _ _ _ _ _ _ _ _)
   | (with_reducible exact LeO.refl _)
   | (with_reducible exact LeO.none _)
   | (with_reducible refine LeO.ite ?_ ?_)
   | (with_reducible refine LeO.bind ?_ (fun _ => ?_))
   | exact ih0 _ _ _ _ _ _ _ _ _ _ _
   | exact ih1 _ _ _ _ _ _ _ _ _ _ _
   | exact ih2 _ _ _ _ _ _ _ _ _ _ _ _
   | exact LeO.none _
   | refine LeO.ite ?_ ?_
   | refine LeO.bind ?_ (fun _ => ?_)
  ·intro y0 y1 y2 y3 y4 y5 y6 y7 y8 y9 y10 y11
   unfold dailiesref06_Same.l1
   repeat' first
   | (with_reducible exact ih0 _ _ _ _ _ _ _ _ _ _ _)
   | (with_reducible exact ih1 _ _ _ _ _ _ _ _ _ _ _)
   | (with_reducible exact ih2 _ _ _ _ _ _ _ _ _ _ _ _)
   | (with_reducible exact LeO.refl _)
   | (with_reducible exact LeO.none _)
   | (with_reducible refine LeO.ite ?_ ?_)
   | (with_reducible refine LeO.bind ?_ (fun _ => ?_))
   | exact ih0 _ _ _ _ _ _ _ _ _ _ _
   | exact ih1 _ _ _ _ _ _ _ _ _ _ _
   | exact ih2 _ _ _ _ _ _ _ _ _ _ _ _
   | exact LeO.none _
   | refine LeO.ite ?_ ?_
   | refine LeO.bind ?_ (fun _ => ?_)
theorem dailiesref06_Same.mono : ∀ a0 a1 a2 a3 a4 a5 a6 a7 a8 a9 k, LeO (dailiesref06_Same.f k a0 a1 a2 a3 a4 a5 a6 a7 a8 a9) (dailiesref06_Same.f (k + 1) a0 a1 a2 a3 a4 a5 a6 a7 a8 a9) := by
 intro a0 a1 a2 a3 a4 a5 a6 a7 a8 a9 k
 obtain ⟨ih0, ih1, ih2⟩ := dailiesref06_Same.mono_l k
 unfold dailiesref06_Same.f
 repeat' first
   | (with_reducible exact ih0 _ _ _ _ _ _ _ _ _ _ _)
   | (with_reducible exact ih1 _ _ _ _ _ _ _ _ _ _ _)
   | (with_reducible exact ih2 _ _ _ _ _ _ _ _ _ _ _ _)
   | (with_reducible exact LeO.refl _)
   | (with_reducible exact LeO.none _)
   | (with_reducible refine LeO.ite ?_ ?_)
   | (with_reducible refine LeO.bind ?_ (fun _ => ?_))
   | exact ih0 _ _ _ _ _ _ _ _ _ _ _
   | exact ih1 _ _ _ _ _ _ _ _ _ _ _
   | exact ih2 _ _ _ _ _ _ _ _ _ _ _ _
   | exact LeO.none _
   | refine LeO.ite ?_ ?_
   | refine LeO.bind ?_ (fun _ => ?_)
set_option maxHeartbeats 8000000 in
set_option maxRecDepth 100000 in
theorem dailiesref06_Same.calls (k : Nat) (a0_0 : Int) (a0_1 : Int) (a0_2 : Int) (a0_3 : Bool) (A0_4 : Option Addr) (c0_4 : Nat) (l0_4 : List (List Int)) (a1_0 : Int) (a1_1 : Int) (a1_2 : Int) (a1_3 : Bool) (A1_4 : Option Addr) (c1_4 : Nat) (l1_4 : List (List Int)) (r : Bool) (w : World) (hr0_4 : Kd.C (Kd.slice 72 (Kd.int .u16)) w A0_4 l0_4.length l0_4) (hc0_4 : l0_4.length ≤ c0_4) (hr1_4 : Kd.C (Kd.slice 72 (Kd.int .u16)) w A1_4 l1_4.length l1_4) (hc1_4 : l1_4.length ≤ c1_4) (h : dailiesref06_Same.f k a0_0 a0_1 a0_2 a0_3 l0_4 a1_0 a1_1 a1_2 a1_3 l1_4 = some r) :
  Calls Try.prog 25 #[.agg #[.int .i64 a0_0, .int .i64 a0_1, .int .i64 a0_2, .bool a0_3, .slice A0_4 l0_4.length c0_4], .agg #[.int .i64 a1_0, .int .i64 a1_1, .int .i64 a1_2, .bool a1_3, .slice A1_4 l1_4.length c1_4]] w fun e w' => e = .returned (.bool r) ∧ Below w.heap.size w w' := by
 have hu39 := Try.underlying39
 have hu26 := Try.underlying26
 have HR0_4 := am hr0_4
 have HC0_4 := am hc0_4
 clear hr0_4 hc0_4
 have HR1_4 := am hr1_4
 have HC1_4 := am hc1_4
 clear hr1_4 hc1_4
 have HB := am (Below.refl w.heap.size w)
 have H : (if (!(a0_0 == a1_0) || (!(a0_1 == a1_1) || (!(a0_2 == a1_2) || (!(a0_3 == a1_3))))) = true then (dailiesref06_Same.j0 k true a0_0 a0_1 a0_2 a0_3 l0_4 a1_0 a1_1 a1_2 a1_3 l1_4) else (dailiesref06_Same.j0 k ((l0_4.length : Int) != (l1_4.length : Int)) a0_0 a0_1 a0_2 a0_3 l0_4 a1_0 a1_1 a1_2 a1_3 l1_4)) = some r := h
 clear h
 have HC3 := am H
 clear H
 go_enter Try.func25, Try.ntmps25
 go_upto_region 1 with (first | ((with_reducible refine gD (N := 2) rfl ?_); (try (refine gate_guard (by rfl) ?_; dsimp only)); refine bE ?hg (N := 2) ?hd (cs := #[.int .i64 a0_0, .int .i64 a0_1, .int .i64 a0_2, .bool a0_3, .slice A0_4 l0_4.length c0_4]) (t := 39) ?hr ?_; (case hd => rfl); (case hg => rfl); (case hr => first | (go_simp; done) | (go_simp; rfl)); intro gb185 hg w4 hbox hb; have n0_ := am (bT (by repeat (first | (with_reducible first | exact HB.out | apply bA | apply bN | apply bD) | exact HB.out)) hb); have n1_ := am (hbox); have n2_ := am ((by rw [hg]; exact (bU (by repeat (first | (with_reducible first | exact HB.out | apply bA | apply bN | apply bD) | exact HB.out))) : w.heap.size ≤ gb185)); have n3_ := am ((by rw [hg]; exact (bU (by repeat (first | (with_reducible first | exact HB.out | apply bA | apply bN | apply bD) | exact HB.out))) : w.heap.size ≤ gb185)); clear HB; have HB := n0_; have BK185 := n1_; have GW185 := n2_; have GE185 := n3_; clear n0_ n1_ n2_ n3_; clear hb hbox hg) | ((with_reducible refine gD (N := 3) rfl ?_); (try (refine gate_guard (by rfl) ?_; dsimp only)); refine bE ?hg (N := 3) ?hd (cs := #[.int .i64 a1_0, .int .i64 a1_1, .int .i64 a1_2, .bool a1_3, .slice A1_4 l1_4.length c1_4]) (t := 39) ?hr ?_; (case hd => rfl); (case hg => rfl); (case hr => first | (go_simp; done) | (go_simp; rfl)); intro gb186 hg w5 hbox hb; have n0_ := am (bB (g := gb185) (o := .cells #[.int .i64 a0_0, .int .i64 a0_1, .int .i64 a0_2, .bool a0_3, .slice A0_4 l0_4.length c0_4] 39 (0, 0)) (by (with_reducible repeat apply dX); exact BK185.out) hb); have n1_ := am (bT (by repeat (first | (with_reducible first | exact HB.out | apply bA | apply bN | apply bD | refine bS ?_ GE185.out) | exact HB.out)) hb); have n2_ := am (hbox); have n3_ := am ((by rw [hg]; exact (bU (by repeat (first | (with_reducible first | exact HB.out | apply bA | apply bN | apply bD | refine bS ?_ GE185.out) | exact HB.out))) : w.heap.size ≤ gb186)); have n4_ := am ((by rw [hg]; exact (bU (by repeat (first | (with_reducible first | exact HB.out | apply bA | apply bN | apply bD | refine bS ?_ GE185.out) | exact HB.out))) : w.heap.size ≤ gb186)); have n5_ := am ((by rw [hg]; exact nL (bL (g := gb185) (o := .cells #[.int .i64 a0_0, .int .i64 a0_1, .int .i64 a0_2, .bool a0_3, .slice A0_4 l0_4.length c0_4] 39 (0, 0)) (by (with_reducible repeat apply dX); exact BK185.out)) : gb185 ≠ gb186)); have n6_ := am ((by rw [hg]; exact nG (bL (g := gb185) (o := .cells #[.int .i64 a0_0, .int .i64 a0_1, .int .i64 a0_2, .bool a0_3, .slice A0_4 l0_4.length c0_4] 39 (0, 0)) (by (with_reducible repeat apply dX); exact BK185.out)) : gb186 ≠ gb185)); clear BK185; clear HB; have BK185 := n0_; have HB := n1_; have BK186 := n2_; have GW186 := n3_; have GE186 := n4_; have NB185_186 := n5_; have NB186_185 := n6_; clear n0_ n1_ n2_ n3_ n4_ n5_ n6_; clear hb hbox hg))
 repeat (go_quiet (first | ((with_reducible refine gD (N := 2) rfl ?_); (try (refine gate_guard (by rfl) ?_; dsimp only)); refine bE ?hg (N := 2) ?hd (cs := #[.int .i64 a0_0, .int .i64 a0_1, .int .i64 a0_2, .bool a0_3, .slice A0_4 l0_4.length c0_4]) (t := 39) ?hr ?_; (case hd => rfl); (case hg => rfl); (case hr => first | (go_simp; done) | (go_simp; rfl)); intro gb185 hg w4 hbox hb; have n0_ := am (bT (by repeat (first | (with_reducible first | exact HB.out | apply bA | apply bN | apply bD) | exact HB.out)) hb); have n1_ := am (hbox); have n2_ := am ((by rw [hg]; exact (bU (by repeat (first | (with_reducible first | exact HB.out | apply bA | apply bN | apply bD) | exact HB.out))) : w.heap.size ≤ gb185)); have n3_ := am ((by rw [hg]; exact (bU (by repeat (first | (with_reducible first | exact HB.out | apply bA | apply bN | apply bD) | exact HB.out))) : w.heap.size ≤ gb185)); clear HB; have HB := n0_; have BK185 := n1_; have GW185 := n2_; have GE185 := n3_; clear n0_ n1_ n2_ n3_; clear hb hbox hg) | ((with_reducible refine gD (N := 3) rfl ?_); (try (refine gate_guard (by rfl) ?_; dsimp only)); refine bE ?hg (N := 3) ?hd (cs := #[.int .i64 a1_0, .int .i64 a1_1, .int .i64 a1_2, .bool a1_3, .slice A1_4 l1_4.length c1_4]) (t := 39) ?hr ?_; (case hd => rfl); (case hg => rfl); (case hr => first | (go_simp; done) | (go_simp; rfl)); intro gb186 hg w5 hbox hb; have n0_ := am (bB (g := gb185) (o := .cells #[.int .i64 a0_0, .int .i64 a0_1, .int .i64 a0_2, .bool a0_3, .slice A0_4 l0_4.length c0_4] 39 (0, 0)) (by (with_reducible repeat apply dX); exact BK185.out) hb); have n1_ := am (bT (by repeat (first | (with_reducible first | exact HB.out | apply bA | apply bN | apply bD | refine bS ?_ GE185.out) | exact HB.out)) hb); have n2_ := am (hbox); have n3_ := am ((by rw [hg]; exact (bU (by repeat (first | (with_reducible first | exact HB.out | apply bA | apply bN | apply bD | refine bS ?_ GE185.out) | exact HB.out))) : w.heap.size ≤ gb186)); have n4_ := am ((by rw [hg]; exact (bU (by repeat (first | (with_reducible first | exact HB.out | apply bA | apply bN | apply bD | refine bS ?_ GE185.out) | exact HB.out))) : w.heap.size ≤ gb186)); have n5_ := am ((by rw [hg]; exact nL (bL (g := gb185) (o := .cells #[.int .i64 a0_0, .int .i64 a0_1, .int .i64 a0_2, .bool a0_3, .slice A0_4 l0_4.length c0_4] 39 (0, 0)) (by (with_reducible repeat apply dX); exact BK185.out)) : gb185 ≠ gb186)); have n6_ := am ((by rw [hg]; exact nG (bL (g := gb185) (o := .cells #[.int .i64 a0_0, .int .i64 a0_1, .int .i64 a0_2, .bool a0_3, .slice A0_4 l0_4.length c0_4] 39 (0, 0)) (by (with_reducible repeat apply dX); exact BK185.out)) : gb186 ≠ gb185)); clear BK185; clear HB; have BK185 := n0_; have HB := n1_; have BK186 := n2_; have GW186 := n3_; have GE186 := n4_; have NB185_186 := n5_; have NB186_185 := n6_; clear n0_ n1_ n2_ n3_ n4_ n5_ n6_; clear hb hbox hg)); go_upto_region 1 with (first | ((with_reducible refine gD (N := 2) rfl ?_); (try (refine gate_guard (by rfl) ?_; dsimp only)); refine bE ?hg (N := 2) ?hd (cs := #[.int .i64 a0_0, .int .i64 a0_1, .int .i64 a0_2, .bool a0_3, .slice A0_4 l0_4.length c0_4]) (t := 39) ?hr ?_; (case hd => rfl); (case hg => rfl); (case hr => first | (go_simp; done) | (go_simp; rfl)); intro gb185 hg w4 hbox hb; have n0_ := am (bT (by repeat (first | (with_reducible first | exact HB.out | apply bA | apply bN | apply bD) | exact HB.out)) hb); have n1_ := am (hbox); have n2_ := am ((by rw [hg]; exact (bU (by repeat (first | (with_reducible first | exact HB.out | apply bA | apply bN | apply bD) | exact HB.out))) : w.heap.size ≤ gb185)); have n3_ := am ((by rw [hg]; exact (bU (by repeat (first | (with_reducible first | exact HB.out | apply bA | apply bN | apply bD) | exact HB.out))) : w.heap.size ≤ gb185)); clear HB; have HB := n0_; have BK185 := n1_; have GW185 := n2_; have GE185 := n3_; clear n0_ n1_ n2_ n3_; clear hb hbox hg) | ((with_reducible refine gD (N := 3) rfl ?_); (try (refine gate_guard (by rfl) ?_; dsimp only)); refine bE ?hg (N := 3) ?hd (cs := #[.int .i64 a1_0, .int .i64 a1_1, .int .i64 a1_2, .bool a1_3, .slice A1_4 l1_4.length c1_4]) (t := 39) ?hr ?_; (case hd => rfl); (case hg => rfl); (case hr => first | (go_simp; done) | (go_simp; rfl)); intro gb186 hg w5 hbox hb; have n0_ := am (bB (g := gb185) (o := .cells #[.int .i64 a0_0, .int .i64 a0_1, .int .i64 a0_2, .bool a0_3, .slice A0_4 l0_4.length c0_4] 39 (0, 0)) (by (with_reducible repeat apply dX); exact BK185.out) hb); have n1_ := am (bT (by repeat (first | (with_reducible first | exact HB.out | apply bA | apply bN | apply bD | refine bS ?_ GE185.out) | exact HB.out)) hb); have n2_ := am (hbox); have n3_ := am ((by rw [hg]; exact (bU (by repeat (first | (with_reducible first | exact HB.out | apply bA | apply bN | apply bD | refine bS ?_ GE185.out) | exact HB.out))) : w.heap.size ≤ gb186)); have n4_ := am ((by rw [hg]; exact (bU (by repeat (first | (with_reducible first | exact HB.out | apply bA | apply bN | apply bD | refine bS ?_ GE185.out) | exact HB.out))) : w.heap.size ≤ gb186)); have n5_ := am ((by rw [hg]; exact nL (bL (g := gb185) (o := .cells #[.int .i64 a0_0, .int .i64 a0_1, .int .i64 a0_2, .bool a0_3, .slice A0_4 l0_4.length c0_4] 39 (0, 0)) (by (with_reducible repeat apply dX); exact BK185.out)) : gb185 ≠ gb186)); have n6_ := am ((by rw [hg]; exact nG (bL (g := gb185) (o := .cells #[.int .i64 a0_0, .int .i64 a0_1, .int .i64 a0_2, .bool a0_3, .slice A0_4 l0_4.length c0_4] 39 (0, 0)) (by (with_reducible repeat apply dX); exact BK185.out)) : gb186 ≠ gb185)); clear BK185; clear HB; have BK185 := n0_; have HB := n1_; have BK186 := n2_; have GW186 := n3_; have GE186 := n4_; have NB185_186 := n5_; have NB186_185 := n6_; clear n0_ n1_ n2_ n3_ n4_ n5_ n6_; clear hb hbox hg)))
 (try simp only [Act.put, List.setIfInBounds_toArray, List.set_cons_zero, List.set_cons_succ])
 go_cut [20] (fun v20 wc => ∃ (kq : Nat) (x20_2 : Bool), v20 = .bool x20_2 ∧ Aside0 (dailiesref06_Same.j0 kq x20_2 a0_0 a0_1 a0_2 a0_3 l0_4 a1_0 a1_1 a1_2 a1_3 l1_4 = some r) ∧ Aside0 (kq ≤ k) ∧ Aside0 (wc.heap[gb185]? = some (.cells #[.int .i64 a0_0, .int .i64 a0_1, .int .i64 a0_2, .bool a0_3, (.slice A0_4 l0_4.length c0_4)] 39 (0, 0))) ∧ Aside0 (wc.heap[gb186]? = some (.cells #[.int .i64 a1_0, .int .i64 a1_1, .int .i64 a1_2, .bool a1_3, (.slice A1_4 l1_4.length c1_4)] 39 (0, 0))) ∧ Aside0 (Below w.heap.size w wc))
 case first =>
  have H := HC3.out
  clear HC3
  by_cases c6 : (!(a0_0 == a1_0) || (!(a0_1 == a1_1) || (!(a0_2 == a1_2) || (!(a0_3 == a1_3))))) = true
  ·rw [if_pos c6] at H
   have c6b0 : (!(a0_0 == a1_0) || (!(a0_1 == a1_1) || (!(a0_2 == a1_2) || (!(a0_3 == a1_3))))) = true := c6
   clear c6
   (first | rw [c6b0] | (simp only [i64_w, i32_w]; rw [c6b0]) | skip)
   have H' := am H
   clear H
   have hnb7 := NB185_186.out
   have hnc7 := NB186_185.out
   have hcz8_0 : w5.cell? ⟨gb185, 0, none⟩ = some (.int .i64 a0_0) := (bC BK185.out 0).trans rfl
   have hcz8_1 : w5.cell? ⟨gb185, 1, none⟩ = some (.int .i64 a0_1) := (bC BK185.out 1).trans rfl
   have hcz8_2 : w5.cell? ⟨gb185, 2, none⟩ = some (.int .i64 a0_2) := (bC BK185.out 2).trans rfl
   have hcz8_3 : w5.cell? ⟨gb185, 3, none⟩ = some (.bool a0_3) := (bC BK185.out 3).trans rfl
   have hcz8_4 : w5.cell? ⟨gb185, 4, none⟩ = some (.slice A0_4 l0_4.length c0_4) := (bC BK185.out 4).trans rfl
   have hfz8_0 := bZ BK185.out 0
   have hfz8_1 := bZ BK185.out 1
   have hfz8_2 := bZ BK185.out 2
   have hfz8_3 := bZ BK185.out 3
   have hfz8_4 := bZ BK185.out 4
   have hcz9_0 : w5.cell? ⟨gb186, 0, none⟩ = some (.int .i64 a1_0) := (bC BK186.out 0).trans rfl
   have hcz9_1 : w5.cell? ⟨gb186, 1, none⟩ = some (.int .i64 a1_1) := (bC BK186.out 1).trans rfl
   have hcz9_2 : w5.cell? ⟨gb186, 2, none⟩ = some (.int .i64 a1_2) := (bC BK186.out 2).trans rfl
   have hcz9_3 : w5.cell? ⟨gb186, 3, none⟩ = some (.bool a1_3) := (bC BK186.out 3).trans rfl
   have hcz9_4 : w5.cell? ⟨gb186, 4, none⟩ = some (.slice A1_4 l1_4.length c1_4) := (bC BK186.out 4).trans rfl
   have hfz9_0 := bZ BK186.out 0
   have hfz9_1 := bZ BK186.out 1
   have hfz9_2 := bZ BK186.out 2
   have hfz9_3 := bZ BK186.out 3
   have hfz9_4 := bZ BK186.out 4
   go_wp2
   repeat (go_quiet (fail); try go_wp2)
   go_meet
   case rel => exact ⟨_, (true), (by first | rfl | (simp; done) | (simp [*]; done)), H', ⟨by first | omega | exact Nat.le_refl _⟩, ⟨by (with_reducible repeat apply dX); exact BK185.out⟩, ⟨by (with_reducible repeat apply dX); exact BK186.out⟩, ⟨by repeat (first | (with_reducible first | exact HB.out | apply bA | apply bN | apply bD | refine bS ?_ GE185.out | refine bS ?_ GE186.out) | exact HB.out)⟩⟩
  ·rw [if_neg c6] at H
   have c6b0 : (!(a0_0 == a1_0) || (!(a0_1 == a1_1) || (!(a0_2 == a1_2) || (!(a0_3 == a1_3))))) = false := by simpa using c6
   clear c6
   (first | rw [c6b0] | (simp only [i64_w, i32_w]; rw [c6b0]) | skip)
   have H' := am H
   clear H
   have hnb10 := NB185_186.out
   have hnc10 := NB186_185.out
   have hcz11_0 : w5.cell? ⟨gb185, 0, none⟩ = some (.int .i64 a0_0) := (bC BK185.out 0).trans rfl
   have hcz11_1 : w5.cell? ⟨gb185, 1, none⟩ = some (.int .i64 a0_1) := (bC BK185.out 1).trans rfl
   have hcz11_2 : w5.cell? ⟨gb185, 2, none⟩ = some (.int .i64 a0_2) := (bC BK185.out 2).trans rfl
   have hcz11_3 : w5.cell? ⟨gb185, 3, none⟩ = some (.bool a0_3) := (bC BK185.out 3).trans rfl
   have hcz11_4 : w5.cell? ⟨gb185, 4, none⟩ = some (.slice A0_4 l0_4.length c0_4) := (bC BK185.out 4).trans rfl
   have hfz11_0 := bZ BK185.out 0
   have hfz11_1 := bZ BK185.out 1
   have hfz11_2 := bZ BK185.out 2
   have hfz11_3 := bZ BK185.out 3
   have hfz11_4 := bZ BK185.out 4
   have hcz12_0 : w5.cell? ⟨gb186, 0, none⟩ = some (.int .i64 a1_0) := (bC BK186.out 0).trans rfl
   have hcz12_1 : w5.cell? ⟨gb186, 1, none⟩ = some (.int .i64 a1_1) := (bC BK186.out 1).trans rfl
   have hcz12_2 : w5.cell? ⟨gb186, 2, none⟩ = some (.int .i64 a1_2) := (bC BK186.out 2).trans rfl
   have hcz12_3 : w5.cell? ⟨gb186, 3, none⟩ = some (.bool a1_3) := (bC BK186.out 3).trans rfl
   have hcz12_4 : w5.cell? ⟨gb186, 4, none⟩ = some (.slice A1_4 l1_4.length c1_4) := (bC BK186.out 4).trans rfl
   have hfz12_0 := bZ BK186.out 0
   have hfz12_1 := bZ BK186.out 1
   have hfz12_2 := bZ BK186.out 2
   have hfz12_3 := bZ BK186.out 3
   have hfz12_4 := bZ BK186.out 4
   go_wp2
   repeat (go_quiet (fail); try go_wp2)
   go_meet
   case rel => exact ⟨_, (((l0_4.length : Int) != (l1_4.length : Int))), (by first | rfl | (simp; done) | (simp [*]; done)), H', ⟨by first | omega | exact Nat.le_refl _⟩, ⟨by (with_reducible repeat apply dX); exact BK185.out⟩, ⟨by (with_reducible repeat apply dX); exact BK186.out⟩, ⟨by repeat (first | (with_reducible first | exact HB.out | apply bA | apply bN | apply bD | refine bS ?_ GE185.out | refine bS ?_ GE186.out) | exact HB.out)⟩⟩
 case rest =>
  clear HC3
  try clear c1
  try clear c2
  try clear p2
  try clear c6
  try clear c6b0
  try clear c7
  try clear c10
  try clear hcz11_0
  try clear hcz11_1
  try clear hcz11_2
  try clear hcz11_3
  try clear hcz11_4
  try clear hcz12_0
  try clear hcz12_1
  try clear hcz12_2
  try clear hcz12_3
  try clear hcz12_4
  try clear hcz8_0
  try clear hcz8_1
  try clear hcz8_2
  try clear hcz8_3
  try clear hcz8_4
  try clear hcz9_0
  try clear hcz9_1
  try clear hcz9_2
  try clear hcz9_3
  try clear hcz9_4
  try clear hfz11_0
  try clear hfz11_1
  try clear hfz11_2
  try clear hfz11_3
  try clear hfz11_4
  try clear hfz12_0
  try clear hfz12_1
  try clear hfz12_2
  try clear hfz12_3
  try clear hfz12_4
  try clear hfz8_0
  try clear hfz8_1
  try clear hfz8_2
  try clear hfz8_3
  try clear hfz8_4
  try clear hfz9_0
  try clear hfz9_1
  try clear hfz9_2
  try clear hfz9_3
  try clear hfz9_4
  obtain ⟨kq, x20_2, rfl, HA, HJ2, BK185, BK186, HB⟩ := hcut
  cases kq with
  | zero => exact absurd HA.out (by simp [dailiesref06_Same.j0])
  | succ kj2 =>
   have H := HA.out
   clear HA
   simp only [dailiesref06_Same.j0] at H
   by_cases c13 : x20_2 = true
   ·subst c13
    have H1 : (some false) = some r := by rw [if_pos rfl] at H; exact H
    clear H
    have H := H1
    clear H1
    obtain rfl := Option.some.inj H
    go_wp2
    repeat (go_quiet (fail); try go_wp2)
    go_ret
    exact ⟨by first | rfl | (simp [errW_none, errW_some] <;> rfl) | (simp [*, errW_none, errW_some] <;> rfl), by repeat (first | (with_reducible first | exact HB.out | apply bA | apply bN | apply bD | refine bS ?_ GE185.out | refine bS ?_ GE186.out) | exact HB.out)⟩
   ·replace c13 := Bool.eq_false_iff.mpr c13
    subst c13
    have H1 : (dailiesref06_Same.l0 kj2 0 a0_0 a0_1 a0_2 a0_3 l0_4 a1_0 a1_1 a1_2 a1_3 l1_4) = some r := by rw [if_neg (show ¬ (false = true) by decide)] at H; exact H
    clear H
    have H := H1
    clear H1
    have H' := am H
    clear H
    go_wp2
    repeat (go_quiet (fail); try go_wp2)
    go_loopg [5] kj2 (fun kq v5 w' => ∃ (x5_2 : Int), v5 = .int .i64 x5_2 ∧ Aside0 (dailiesref06_Same.l0 kq x5_2 a0_0 a0_1 a0_2 a0_3 l0_4 a1_0 a1_1 a1_2 a1_3 l1_4 = some r) ∧ Aside0 (kq ≤ kj2) ∧ Aside0 (w'.heap[gb185]? = some (.cells #[.int .i64 a0_0, .int .i64 a0_1, .int .i64 a0_2, .bool a0_3, (.slice A0_4 l0_4.length c0_4)] 39 (0, 0))) ∧ Aside0 (w'.heap[gb186]? = some (.cells #[.int .i64 a1_0, .int .i64 a1_1, .int .i64 a1_2, .bool a1_3, (.slice A1_4 l1_4.length c1_4)] 39 (0, 0))) ∧ Aside0 (Below w.heap.size w w'))
    case atStart => exact ⟨(0), (by first | rfl | (simp; done) | (simp [*]; done)), H', ⟨Nat.le_refl _⟩, ⟨by (with_reducible repeat apply dX); exact BK185.out⟩, ⟨by (with_reducible repeat apply dX); exact BK186.out⟩, ⟨by repeat (first | (with_reducible first | exact HB.out | apply bA | apply bN | apply bD | refine bS ?_ GE185.out | refine bS ?_ GE186.out) | exact HB.out)⟩⟩
    case round =>
     clear H'
     try clear c1
     try clear c2
     try clear p2
     try clear c6
     try clear c6b0
     try clear c7
     try clear c10
     try clear c13
     try clear hcz11_0
     try clear hcz11_1
     try clear hcz11_2
     try clear hcz11_3
     try clear hcz11_4
     try clear hcz12_0
     try clear hcz12_1
     try clear hcz12_2
     try clear hcz12_3
     try clear hcz12_4
     try clear hcz8_0
     try clear hcz8_1
     try clear hcz8_2
     try clear hcz8_3
     try clear hcz8_4
     try clear hcz9_0
     try clear hcz9_1
     try clear hcz9_2
     try clear hcz9_3
     try clear hcz9_4
     try clear hfz11_0
     try clear hfz11_1
     try clear hfz11_2
     try clear hfz11_3
     try clear hfz11_4
     try clear hfz12_0
     try clear hfz12_1
     try clear hfz12_2
     try clear hfz12_3
     try clear hfz12_4
     try clear hfz8_0
     try clear hfz8_1
     try clear hfz8_2
     try clear hfz8_3
     try clear hfz8_4
     try clear hfz9_0
     try clear hfz9_1
     try clear hfz9_2
     try clear hfz9_3
     try clear hfz9_4
     try clear p2
     obtain ⟨x5_2, rfl, HA, HK2, BK185, BK186, HB⟩ := hrel
     cases gk with
     | zero => exact absurd HA.out (by simp [dailiesref06_Same.l0])
     | succ k2 =>
      have H := HA.out
      clear HA
      simp only [dailiesref06_Same.l0] at H
      by_cases c14 : x5_2 < (l0_4.length : Int)
      ·rw [if_pos c14] at H
       have c14b0 : decide (x5_2 < (l0_4.length : Int)) = true := decide_eq_true c14
       clear c14
       by_cases c15 : 0 ≤ x5_2
       ·rw [if_pos c15] at H
        have c15b0 : decide (0 ≤ x5_2) = true := decide_eq_true c15
        clear c15
        by_cases c16 : x5_2 < (l1_4.length : Int)
        ·rw [if_pos c16] at H
         have c16b0 : decide (x5_2 < (l1_4.length : Int)) = true := decide_eq_true c16
         clear c16
         by_cases c17 : ((rd_L1 l0_4 x5_2).length : Int) = ((rd_L1 l1_4 x5_2).length : Int)
         ·rw [if_pos c17] at H
          have c17b0 : (((rd_L1 l0_4 x5_2).length : Int) == ((rd_L1 l1_4 x5_2).length : Int)) = true := beq_iff_eq.mpr c17
          have c17b1 : (((rd_L1 l0_4 x5_2).length : Int) != ((rd_L1 l1_4 x5_2).length : Int)) = false := bne_eq_false_iff_eq.mpr c17
          have c17b2 : ((rd_L1 l0_4 x5_2).length == (rd_L1 l1_4 x5_2).length) = true := by first | simpa using c17 | (simp at c17 ⊢; omega)
          clear c17
          have H' := am H
          clear H
          have hnb18 := NB185_186.out
          have hnc18 := NB186_185.out
          have hcz19_0 : wr.cell? ⟨gb185, 0, none⟩ = some (.int .i64 a0_0) := (bC BK185.out 0).trans rfl
          have hcz19_1 : wr.cell? ⟨gb185, 1, none⟩ = some (.int .i64 a0_1) := (bC BK185.out 1).trans rfl
          have hcz19_2 : wr.cell? ⟨gb185, 2, none⟩ = some (.int .i64 a0_2) := (bC BK185.out 2).trans rfl
          have hcz19_3 : wr.cell? ⟨gb185, 3, none⟩ = some (.bool a0_3) := (bC BK185.out 3).trans rfl
          have hcz19_4 : wr.cell? ⟨gb185, 4, none⟩ = some (.slice A0_4 l0_4.length c0_4) := (bC BK185.out 4).trans rfl
          have hfz19_0 := bZ BK185.out 0
          have hfz19_1 := bZ BK185.out 1
          have hfz19_2 := bZ BK185.out 2
          have hfz19_3 := bZ BK185.out 3
          have hfz19_4 := bZ BK185.out 4
          have p187 : 0 ≤ (x5_2 : Int) := of_decide_eq_true (by first | (with_reducible assumption) | assumption)
          have q187 : x5_2 < (l0_4.length : Int) := of_decide_eq_true (by first | (with_reducible assumption) | assumption)
          obtain ⟨ad187, A187_0, c187_0, e187, hx187_0, hl187_0, hi187_0⟩ := at_L1 HR0_4.out x5_2 p187 q187
          cases e187
          replace hx187_0 := (HB.out.cell (World.block_lt_of_cell? w _ hx187_0)).trans hx187_0
          have HR187_0 := am hi187_0
          have HC187_0 := am hl187_0
          clear hi187_0 hl187_0
          replace p187 := eq_true p187
          replace q187 := eq_true q187
          have hcz20_0 : wr.cell? ⟨gb186, 0, none⟩ = some (.int .i64 a1_0) := (bC BK186.out 0).trans rfl
          have hcz20_1 : wr.cell? ⟨gb186, 1, none⟩ = some (.int .i64 a1_1) := (bC BK186.out 1).trans rfl
          have hcz20_2 : wr.cell? ⟨gb186, 2, none⟩ = some (.int .i64 a1_2) := (bC BK186.out 2).trans rfl
          have hcz20_3 : wr.cell? ⟨gb186, 3, none⟩ = some (.bool a1_3) := (bC BK186.out 3).trans rfl
          have hcz20_4 : wr.cell? ⟨gb186, 4, none⟩ = some (.slice A1_4 l1_4.length c1_4) := (bC BK186.out 4).trans rfl
          have hfz20_0 := bZ BK186.out 0
          have hfz20_1 := bZ BK186.out 1
          have hfz20_2 := bZ BK186.out 2
          have hfz20_3 := bZ BK186.out 3
          have hfz20_4 := bZ BK186.out 4
          have p188 : 0 ≤ (x5_2 : Int) := of_decide_eq_true (by first | (with_reducible assumption) | assumption)
          have q188 : x5_2 < (l1_4.length : Int) := of_decide_eq_true (by first | (with_reducible assumption) | assumption)
          obtain ⟨ad188, A188_0, c188_0, e188, hx188_0, hl188_0, hi188_0⟩ := at_L1 HR1_4.out x5_2 p188 q188
          cases e188
          replace hx188_0 := (HB.out.cell (World.block_lt_of_cell? w _ hx188_0)).trans hx188_0
          have HR188_0 := am hi188_0
          have HC188_0 := am hl188_0
          clear hi188_0 hl188_0
          replace p188 := eq_true p188
          replace q188 := eq_true q188
          go_wp2
          repeat (go_quiet (fail); try go_wp2)
          go_loopg [6] k2 (fun kq v6 w' => ∃ (x6_3 : Int), v6 = .int .i64 x6_3 ∧ Aside0 (dailiesref06_Same.l1 kq x5_2 x6_3 a0_0 a0_1 a0_2 a0_3 l0_4 a1_0 a1_1 a1_2 a1_3 l1_4 = some r) ∧ Aside0 (kq ≤ k2) ∧ Aside0 (w'.heap[gb185]? = some (.cells #[.int .i64 a0_0, .int .i64 a0_1, .int .i64 a0_2, .bool a0_3, (.slice (some ad187) l0_4.length c0_4)] 39 (0, 0))) ∧ Aside0 (w'.heap[gb186]? = some (.cells #[.int .i64 a1_0, .int .i64 a1_1, .int .i64 a1_2, .bool a1_3, (.slice (some ad188) l1_4.length c1_4)] 39 (0, 0))) ∧ Aside0 (Below w.heap.size w w'))
          case atStart => exact ⟨(0), (by first | rfl | (simp; done) | (simp [*]; done)), H', ⟨Nat.le_refl _⟩, ⟨by (with_reducible repeat apply dX); exact BK185.out⟩, ⟨by (with_reducible repeat apply dX); exact BK186.out⟩, ⟨by repeat (first | (with_reducible first | exact HB.out | apply bA | apply bN | apply bD | refine bS ?_ GE185.out | refine bS ?_ GE186.out) | exact HB.out)⟩⟩
          case round =>
           clear H'
           try clear c1
           try clear p1
           try clear q1
           try clear hx1
           try clear c2
           try clear p2
           try clear c6
           try clear c6b0
           try clear c7
           try clear c10
           try clear c13
           try clear c14
           try clear c14b0
           try clear c15
           try clear c15b0
           try clear c16
           try clear c16b0
           try clear c17
           try clear c17b0
           try clear c17b1
           try clear c17b2
           try clear c18
           try clear p18
           try clear q18
           try clear hx18
           try clear hcz11_0
           try clear hcz11_1
           try clear hcz11_2
           try clear hcz11_3
           try clear hcz11_4
           try clear hcz12_0
           try clear hcz12_1
           try clear hcz12_2
           try clear hcz12_3
           try clear hcz12_4
           try clear hcz19_0
           try clear hcz19_1
           try clear hcz19_2
           try clear hcz19_3
           try clear hcz19_4
           try clear hcz20_0
           try clear hcz20_1
           try clear hcz20_2
           try clear hcz20_3
           try clear hcz20_4
           try clear hcz8_0
           try clear hcz8_1
           try clear hcz8_2
           try clear hcz8_3
           try clear hcz8_4
           try clear hcz9_0
           try clear hcz9_1
           try clear hcz9_2
           try clear hcz9_3
           try clear hcz9_4
           try clear hfz11_0
           try clear hfz11_1
           try clear hfz11_2
           try clear hfz11_3
           try clear hfz11_4
           try clear hfz12_0
           try clear hfz12_1
           try clear hfz12_2
           try clear hfz12_3
           try clear hfz12_4
           try clear hfz19_0
           try clear hfz19_1
           try clear hfz19_2
           try clear hfz19_3
           try clear hfz19_4
           try clear hfz20_0
           try clear hfz20_1
           try clear hfz20_2
           try clear hfz20_3
           try clear hfz20_4
           try clear hfz8_0
           try clear hfz8_1
           try clear hfz8_2
           try clear hfz8_3
           try clear hfz8_4
           try clear hfz9_0
           try clear hfz9_1
           try clear hfz9_2
           try clear hfz9_3
           try clear hfz9_4
           try clear hx187_0
           try clear hx188_0
           try clear p187
           try clear p188
           try clear p2
           try clear q187
           try clear q188
           obtain ⟨x6_3, rfl, HA, HK3, BK185, BK186, HB⟩ := hrel
           cases gk with
           | zero => exact absurd HA.out (by simp [dailiesref06_Same.l1])
           | succ k3 =>
            have H := HA.out
            clear HA
            simp only [dailiesref06_Same.l1] at H
            by_cases c21 : 0 ≤ x5_2
            ·rw [if_pos c21] at H
             have c21b0 : decide (0 ≤ x5_2) = true := decide_eq_true c21
             clear c21
             by_cases c22 : x5_2 < (l0_4.length : Int)
             ·rw [if_pos c22] at H
              have c22b0 : decide (x5_2 < (l0_4.length : Int)) = true := decide_eq_true c22
              clear c22
              by_cases c23 : x6_3 < ((rd_L1 l0_4 x5_2).length : Int)
              ·rw [if_pos c23] at H
               have c23b0 : decide (x6_3 < ((rd_L1 l0_4 x5_2).length : Int)) = true := decide_eq_true c23
               clear c23
               by_cases c24 : 0 ≤ x6_3
               ·rw [if_pos c24] at H
                have c24b0 : decide (0 ≤ x6_3) = true := decide_eq_true c24
                clear c24
                by_cases c25 : x5_2 < (l1_4.length : Int)
                ·rw [if_pos c25] at H
                 have c25b0 : decide (x5_2 < (l1_4.length : Int)) = true := decide_eq_true c25
                 clear c25
                 by_cases c26 : x6_3 < ((rd_L1 l1_4 x5_2).length : Int)
                 ·rw [if_pos c26] at H
                  have c26b0 : decide (x6_3 < ((rd_L1 l1_4 x5_2).length : Int)) = true := decide_eq_true c26
                  clear c26
                  by_cases c27 : (rd (rd_L1 l0_4 x5_2) x6_3) = (rd (rd_L1 l1_4 x5_2) x6_3)
                  ·rw [if_pos c27] at H
                   have c27b0 : ((rd (rd_L1 l0_4 x5_2) x6_3) == (rd (rd_L1 l1_4 x5_2) x6_3)) = true := beq_iff_eq.mpr c27
                   have c27b1 : ((rd (rd_L1 l0_4 x5_2) x6_3) != (rd (rd_L1 l1_4 x5_2) x6_3)) = false := bne_eq_false_iff_eq.mpr c27
                   clear c27
                   have H' := am H
                   clear H
                   have hnb28 := NB185_186.out
                   have hnc28 := NB186_185.out
                   have hcz29_0 : wr.cell? ⟨gb185, 0, none⟩ = some (.int .i64 a0_0) := (bC BK185.out 0).trans rfl
                   have hcz29_1 : wr.cell? ⟨gb185, 1, none⟩ = some (.int .i64 a0_1) := (bC BK185.out 1).trans rfl
                   have hcz29_2 : wr.cell? ⟨gb185, 2, none⟩ = some (.int .i64 a0_2) := (bC BK185.out 2).trans rfl
                   have hcz29_3 : wr.cell? ⟨gb185, 3, none⟩ = some (.bool a0_3) := (bC BK185.out 3).trans rfl
                   have hcz29_4 : wr.cell? ⟨gb185, 4, none⟩ = some (.slice (some ad187) l0_4.length c0_4) := (bC BK185.out 4).trans rfl
                   have hfz29_0 := bZ BK185.out 0
                   have hfz29_1 := bZ BK185.out 1
                   have hfz29_2 := bZ BK185.out 2
                   have hfz29_3 := bZ BK185.out 3
                   have hfz29_4 := bZ BK185.out 4
                   have p189 : 0 ≤ (x5_2 : Int) := of_decide_eq_true (by first | (with_reducible assumption) | assumption)
                   have q189 : x5_2 < (l0_4.length : Int) := of_decide_eq_true (by first | (with_reducible assumption) | assumption)
                   obtain ⟨ad189, A189_0, c189_0, e189, hx189_0, hl189_0, hi189_0⟩ := at_L1 HR0_4.out x5_2 p189 q189
                   obtain rfl : ad187 = ad189 := (by injection e189)
                   replace hx189_0 := (HB.out.cell (World.block_lt_of_cell? w _ hx189_0)).trans hx189_0
                   have HR189_0 := am hi189_0
                   have HC189_0 := am hl189_0
                   clear hi189_0 hl189_0
                   replace p189 := eq_true p189
                   replace q189 := eq_true q189
                   have p190 : 0 ≤ (x5_2 : Int) := of_decide_eq_true (by first | (with_reducible assumption) | assumption)
                   have q190 : x5_2 < (l0_4.length : Int) := of_decide_eq_true (by first | (with_reducible assumption) | assumption)
                   obtain ⟨ad190, A190_0, c190_0, e190, hx190_0, hl190_0, hi190_0⟩ := at_L1 HR0_4.out x5_2 p190 q190
                   obtain rfl : ad187 = ad190 := (by injection e190)
                   replace hx190_0 := (HB.out.cell (World.block_lt_of_cell? w _ hx190_0)).trans hx190_0
                   have HR190_0 := am hi190_0
                   have HC190_0 := am hl190_0
                   clear hi190_0 hl190_0
                   replace p190 := eq_true p190
                   replace q190 := eq_true q190
                   have ea_ := Option.some.inj (hx189_0.symm.trans hx190_0)
                   injection ea_ with ea_ en_ ec_
                   subst ea_
                   subst ec_
                   clear en_
                   have p191 : 0 ≤ (x6_3 : Int) := of_decide_eq_true (by first | (with_reducible assumption) | assumption)
                   have q191 : x6_3 < ((rd_L1 l0_4 x5_2).length : Int) := of_decide_eq_true (by first | (with_reducible assumption) | assumption)
                   obtain ⟨ad191, e191, hx191_0⟩ := Kd.at_int HR190_0.out x6_3 p191 q191
                   cases e191
                   replace hx191_0 := (HB.out.cell (World.block_lt_of_cell? w _ hx191_0)).trans hx191_0
                   replace p191 := eq_true p191
                   replace q191 := eq_true q191
                   have hcz30_0 : wr.cell? ⟨gb186, 0, none⟩ = some (.int .i64 a1_0) := (bC BK186.out 0).trans rfl
                   have hcz30_1 : wr.cell? ⟨gb186, 1, none⟩ = some (.int .i64 a1_1) := (bC BK186.out 1).trans rfl
                   have hcz30_2 : wr.cell? ⟨gb186, 2, none⟩ = some (.int .i64 a1_2) := (bC BK186.out 2).trans rfl
                   have hcz30_3 : wr.cell? ⟨gb186, 3, none⟩ = some (.bool a1_3) := (bC BK186.out 3).trans rfl
                   have hcz30_4 : wr.cell? ⟨gb186, 4, none⟩ = some (.slice (some ad188) l1_4.length c1_4) := (bC BK186.out 4).trans rfl
                   have hfz30_0 := bZ BK186.out 0
                   have hfz30_1 := bZ BK186.out 1
                   have hfz30_2 := bZ BK186.out 2
                   have hfz30_3 := bZ BK186.out 3
                   have hfz30_4 := bZ BK186.out 4
                   have p192 : 0 ≤ (x5_2 : Int) := of_decide_eq_true (by first | (with_reducible assumption) | assumption)
                   have q192 : x5_2 < (l1_4.length : Int) := of_decide_eq_true (by first | (with_reducible assumption) | assumption)
                   obtain ⟨ad192, A192_0, c192_0, e192, hx192_0, hl192_0, hi192_0⟩ := at_L1 HR1_4.out x5_2 p192 q192
                   obtain rfl : ad188 = ad192 := (by injection e192)
                   replace hx192_0 := (HB.out.cell (World.block_lt_of_cell? w _ hx192_0)).trans hx192_0
                   have HR192_0 := am hi192_0
                   have HC192_0 := am hl192_0
                   clear hi192_0 hl192_0
                   replace p192 := eq_true p192
                   replace q192 := eq_true q192
                   have p193 : 0 ≤ (x6_3 : Int) := of_decide_eq_true (by first | (with_reducible assumption) | assumption)
                   have q193 : x6_3 < ((rd_L1 l1_4 x5_2).length : Int) := of_decide_eq_true (by first | (with_reducible assumption) | assumption)
                   obtain ⟨ad193, e193, hx193_0⟩ := Kd.at_int HR192_0.out x6_3 p193 q193
                   cases e193
                   replace hx193_0 := (HB.out.cell (World.block_lt_of_cell? w _ hx193_0)).trans hx193_0
                   replace p193 := eq_true p193
                   replace q193 := eq_true q193
                   go_wp2
                   repeat (go_quiet (fail); try go_wp2)
                   go_roundg k3
                   case measure => have := HJ2.out; have := HK2.out; have := HK3.out; omega
                   case rel => exact ⟨(wrap64 (x6_3 + 1)), (by first | rfl | (simp; done) | (simp [*]; done)), H', ⟨by have := HJ2.out; have := HK2.out; have := HK3.out; omega⟩, ⟨by (with_reducible repeat apply dX); exact BK185.out⟩, ⟨by (with_reducible repeat apply dX); exact BK186.out⟩, ⟨by repeat (first | (with_reducible first | exact HB.out | apply bA | apply bN | apply bD | refine bS ?_ GE185.out | refine bS ?_ GE186.out) | exact HB.out)⟩⟩
                  ·rw [if_neg c27] at H
                   have c27b0 : ((rd (rd_L1 l0_4 x5_2) x6_3) == (rd (rd_L1 l1_4 x5_2) x6_3)) = false := beq_eq_false_iff_ne.mpr c27
                   have c27b1 : ((rd (rd_L1 l0_4 x5_2) x6_3) != (rd (rd_L1 l1_4 x5_2) x6_3)) = true := bne_iff_ne.mpr c27
                   obtain rfl := Option.some.inj H
                   have hnb31 := NB185_186.out
                   have hnc31 := NB186_185.out
                   have hcz32_0 : wr.cell? ⟨gb185, 0, none⟩ = some (.int .i64 a0_0) := (bC BK185.out 0).trans rfl
                   have hcz32_1 : wr.cell? ⟨gb185, 1, none⟩ = some (.int .i64 a0_1) := (bC BK185.out 1).trans rfl
                   have hcz32_2 : wr.cell? ⟨gb185, 2, none⟩ = some (.int .i64 a0_2) := (bC BK185.out 2).trans rfl
                   have hcz32_3 : wr.cell? ⟨gb185, 3, none⟩ = some (.bool a0_3) := (bC BK185.out 3).trans rfl
                   have hcz32_4 : wr.cell? ⟨gb185, 4, none⟩ = some (.slice (some ad187) l0_4.length c0_4) := (bC BK185.out 4).trans rfl
                   have hfz32_0 := bZ BK185.out 0
                   have hfz32_1 := bZ BK185.out 1
                   have hfz32_2 := bZ BK185.out 2
                   have hfz32_3 := bZ BK185.out 3
                   have hfz32_4 := bZ BK185.out 4
                   have p189 : 0 ≤ (x5_2 : Int) := of_decide_eq_true (by first | (with_reducible assumption) | assumption)
                   have q189 : x5_2 < (l0_4.length : Int) := of_decide_eq_true (by first | (with_reducible assumption) | assumption)
                   obtain ⟨ad189, A189_0, c189_0, e189, hx189_0, hl189_0, hi189_0⟩ := at_L1 HR0_4.out x5_2 p189 q189
                   obtain rfl : ad187 = ad189 := (by injection e189)
                   replace hx189_0 := (HB.out.cell (World.block_lt_of_cell? w _ hx189_0)).trans hx189_0
                   have HR189_0 := am hi189_0
                   have HC189_0 := am hl189_0
                   clear hi189_0 hl189_0
                   replace p189 := eq_true p189
                   replace q189 := eq_true q189
                   have p190 : 0 ≤ (x5_2 : Int) := of_decide_eq_true (by first | (with_reducible assumption) | assumption)
                   have q190 : x5_2 < (l0_4.length : Int) := of_decide_eq_true (by first | (with_reducible assumption) | assumption)
                   obtain ⟨ad190, A190_0, c190_0, e190, hx190_0, hl190_0, hi190_0⟩ := at_L1 HR0_4.out x5_2 p190 q190
                   obtain rfl : ad187 = ad190 := (by injection e190)
                   replace hx190_0 := (HB.out.cell (World.block_lt_of_cell? w _ hx190_0)).trans hx190_0
                   have HR190_0 := am hi190_0
                   have HC190_0 := am hl190_0
                   clear hi190_0 hl190_0
                   replace p190 := eq_true p190
                   replace q190 := eq_true q190
                   have ea_ := Option.some.inj (hx189_0.symm.trans hx190_0)
                   injection ea_ with ea_ en_ ec_
                   subst ea_
                   subst ec_
                   clear en_
                   have p191 : 0 ≤ (x6_3 : Int) := of_decide_eq_true (by first | (with_reducible assumption) | assumption)
                   have q191 : x6_3 < ((rd_L1 l0_4 x5_2).length : Int) := of_decide_eq_true (by first | (with_reducible assumption) | assumption)
                   obtain ⟨ad191, e191, hx191_0⟩ := Kd.at_int HR190_0.out x6_3 p191 q191
                   cases e191
                   replace hx191_0 := (HB.out.cell (World.block_lt_of_cell? w _ hx191_0)).trans hx191_0
                   replace p191 := eq_true p191
                   replace q191 := eq_true q191
                   have hcz33_0 : wr.cell? ⟨gb186, 0, none⟩ = some (.int .i64 a1_0) := (bC BK186.out 0).trans rfl
                   have hcz33_1 : wr.cell? ⟨gb186, 1, none⟩ = some (.int .i64 a1_1) := (bC BK186.out 1).trans rfl
                   have hcz33_2 : wr.cell? ⟨gb186, 2, none⟩ = some (.int .i64 a1_2) := (bC BK186.out 2).trans rfl
                   have hcz33_3 : wr.cell? ⟨gb186, 3, none⟩ = some (.bool a1_3) := (bC BK186.out 3).trans rfl
                   have hcz33_4 : wr.cell? ⟨gb186, 4, none⟩ = some (.slice (some ad188) l1_4.length c1_4) := (bC BK186.out 4).trans rfl
                   have hfz33_0 := bZ BK186.out 0
                   have hfz33_1 := bZ BK186.out 1
                   have hfz33_2 := bZ BK186.out 2
                   have hfz33_3 := bZ BK186.out 3
                   have hfz33_4 := bZ BK186.out 4
                   have p192 : 0 ≤ (x5_2 : Int) := of_decide_eq_true (by first | (with_reducible assumption) | assumption)
                   have q192 : x5_2 < (l1_4.length : Int) := of_decide_eq_true (by first | (with_reducible assumption) | assumption)
                   obtain ⟨ad192, A192_0, c192_0, e192, hx192_0, hl192_0, hi192_0⟩ := at_L1 HR1_4.out x5_2 p192 q192
                   obtain rfl : ad188 = ad192 := (by injection e192)
                   replace hx192_0 := (HB.out.cell (World.block_lt_of_cell? w _ hx192_0)).trans hx192_0
                   have HR192_0 := am hi192_0
                   have HC192_0 := am hl192_0
                   clear hi192_0 hl192_0
                   replace p192 := eq_true p192
                   replace q192 := eq_true q192
                   have p193 : 0 ≤ (x6_3 : Int) := of_decide_eq_true (by first | (with_reducible assumption) | assumption)
                   have q193 : x6_3 < ((rd_L1 l1_4 x5_2).length : Int) := of_decide_eq_true (by first | (with_reducible assumption) | assumption)
                   obtain ⟨ad193, e193, hx193_0⟩ := Kd.at_int HR192_0.out x6_3 p193 q193
                   cases e193
                   replace hx193_0 := (HB.out.cell (World.block_lt_of_cell? w _ hx193_0)).trans hx193_0
                   replace p193 := eq_true p193
                   replace q193 := eq_true q193
                   go_wp2
                   repeat (go_quiet (fail); try go_wp2)
                   go_ret
                   exact ⟨by first | rfl | (simp [errW_none, errW_some] <;> rfl) | (simp [*, errW_none, errW_some] <;> rfl), by repeat (first | (with_reducible first | exact HB.out | apply bA | apply bN | apply bD | refine bS ?_ GE185.out | refine bS ?_ GE186.out) | exact HB.out)⟩
                 ·rw [if_neg c26] at H
                  exact absurd H (by simp)
                ·rw [if_neg c25] at H
                 exact absurd H (by simp)
               ·rw [if_neg c24] at H
                exact absurd H (by simp)
              ·rw [if_neg c23] at H
               have c23b0 : decide (x6_3 < ((rd_L1 l0_4 x5_2).length : Int)) = false := decide_eq_false c23
               clear c23
               have H' := am H
               clear H
               have hnb34 := NB185_186.out
               have hnc34 := NB186_185.out
               have hcz35_0 : wr.cell? ⟨gb185, 0, none⟩ = some (.int .i64 a0_0) := (bC BK185.out 0).trans rfl
               have hcz35_1 : wr.cell? ⟨gb185, 1, none⟩ = some (.int .i64 a0_1) := (bC BK185.out 1).trans rfl
               have hcz35_2 : wr.cell? ⟨gb185, 2, none⟩ = some (.int .i64 a0_2) := (bC BK185.out 2).trans rfl
               have hcz35_3 : wr.cell? ⟨gb185, 3, none⟩ = some (.bool a0_3) := (bC BK185.out 3).trans rfl
               have hcz35_4 : wr.cell? ⟨gb185, 4, none⟩ = some (.slice (some ad187) l0_4.length c0_4) := (bC BK185.out 4).trans rfl
               have hfz35_0 := bZ BK185.out 0
               have hfz35_1 := bZ BK185.out 1
               have hfz35_2 := bZ BK185.out 2
               have hfz35_3 := bZ BK185.out 3
               have hfz35_4 := bZ BK185.out 4
               have p189 : 0 ≤ (x5_2 : Int) := of_decide_eq_true (by first | (with_reducible assumption) | assumption)
               have q189 : x5_2 < (l0_4.length : Int) := of_decide_eq_true (by first | (with_reducible assumption) | assumption)
               obtain ⟨ad189, A189_0, c189_0, e189, hx189_0, hl189_0, hi189_0⟩ := at_L1 HR0_4.out x5_2 p189 q189
               obtain rfl : ad187 = ad189 := (by injection e189)
               replace hx189_0 := (HB.out.cell (World.block_lt_of_cell? w _ hx189_0)).trans hx189_0
               have HR189_0 := am hi189_0
               have HC189_0 := am hl189_0
               clear hi189_0 hl189_0
               replace p189 := eq_true p189
               replace q189 := eq_true q189
               go_wp2
               repeat (go_quiet (fail); try go_wp2)
               go_roundg k3
               case measure => have := HJ2.out; have := HK2.out; have := HK3.out; omega
               case rel => exact ⟨(wrap64 (x5_2 + 1)), (by first | rfl | (simp; done) | (simp [*]; done)), H', ⟨by have := HJ2.out; have := HK2.out; have := HK3.out; omega⟩, ⟨by (with_reducible repeat apply dX); exact BK185.out⟩, ⟨by (with_reducible repeat apply dX); exact BK186.out⟩, ⟨by repeat (first | (with_reducible first | exact HB.out | apply bA | apply bN | apply bD | refine bS ?_ GE185.out | refine bS ?_ GE186.out) | exact HB.out)⟩⟩
             ·rw [if_neg c22] at H
              exact absurd H (by simp)
            ·rw [if_neg c21] at H
             exact absurd H (by simp)
         ·rw [if_neg c17] at H
          have c17b0 : (((rd_L1 l0_4 x5_2).length : Int) == ((rd_L1 l1_4 x5_2).length : Int)) = false := beq_eq_false_iff_ne.mpr c17
          have c17b1 : (((rd_L1 l0_4 x5_2).length : Int) != ((rd_L1 l1_4 x5_2).length : Int)) = true := bne_iff_ne.mpr c17
          have c17b2 : ((rd_L1 l0_4 x5_2).length == (rd_L1 l1_4 x5_2).length) = false := by first | simpa using c17 | (simp at c17 ⊢; omega)
          obtain rfl := Option.some.inj H
          have hnb36 := NB185_186.out
          have hnc36 := NB186_185.out
          have hcz37_0 : wr.cell? ⟨gb185, 0, none⟩ = some (.int .i64 a0_0) := (bC BK185.out 0).trans rfl
          have hcz37_1 : wr.cell? ⟨gb185, 1, none⟩ = some (.int .i64 a0_1) := (bC BK185.out 1).trans rfl
          have hcz37_2 : wr.cell? ⟨gb185, 2, none⟩ = some (.int .i64 a0_2) := (bC BK185.out 2).trans rfl
          have hcz37_3 : wr.cell? ⟨gb185, 3, none⟩ = some (.bool a0_3) := (bC BK185.out 3).trans rfl
          have hcz37_4 : wr.cell? ⟨gb185, 4, none⟩ = some (.slice A0_4 l0_4.length c0_4) := (bC BK185.out 4).trans rfl
          have hfz37_0 := bZ BK185.out 0
          have hfz37_1 := bZ BK185.out 1
          have hfz37_2 := bZ BK185.out 2
          have hfz37_3 := bZ BK185.out 3
          have hfz37_4 := bZ BK185.out 4
          have p187 : 0 ≤ (x5_2 : Int) := of_decide_eq_true (by first | (with_reducible assumption) | assumption)
          have q187 : x5_2 < (l0_4.length : Int) := of_decide_eq_true (by first | (with_reducible assumption) | assumption)
          obtain ⟨ad187, A187_0, c187_0, e187, hx187_0, hl187_0, hi187_0⟩ := at_L1 HR0_4.out x5_2 p187 q187
          cases e187
          replace hx187_0 := (HB.out.cell (World.block_lt_of_cell? w _ hx187_0)).trans hx187_0
          have HR187_0 := am hi187_0
          have HC187_0 := am hl187_0
          clear hi187_0 hl187_0
          replace p187 := eq_true p187
          replace q187 := eq_true q187
          have hcz38_0 : wr.cell? ⟨gb186, 0, none⟩ = some (.int .i64 a1_0) := (bC BK186.out 0).trans rfl
          have hcz38_1 : wr.cell? ⟨gb186, 1, none⟩ = some (.int .i64 a1_1) := (bC BK186.out 1).trans rfl
          have hcz38_2 : wr.cell? ⟨gb186, 2, none⟩ = some (.int .i64 a1_2) := (bC BK186.out 2).trans rfl
          have hcz38_3 : wr.cell? ⟨gb186, 3, none⟩ = some (.bool a1_3) := (bC BK186.out 3).trans rfl
          have hcz38_4 : wr.cell? ⟨gb186, 4, none⟩ = some (.slice A1_4 l1_4.length c1_4) := (bC BK186.out 4).trans rfl
          have hfz38_0 := bZ BK186.out 0
          have hfz38_1 := bZ BK186.out 1
          have hfz38_2 := bZ BK186.out 2
          have hfz38_3 := bZ BK186.out 3
          have hfz38_4 := bZ BK186.out 4
          have p188 : 0 ≤ (x5_2 : Int) := of_decide_eq_true (by first | (with_reducible assumption) | assumption)
          have q188 : x5_2 < (l1_4.length : Int) := of_decide_eq_true (by first | (with_reducible assumption) | assumption)
          obtain ⟨ad188, A188_0, c188_0, e188, hx188_0, hl188_0, hi188_0⟩ := at_L1 HR1_4.out x5_2 p188 q188
          cases e188
          replace hx188_0 := (HB.out.cell (World.block_lt_of_cell? w _ hx188_0)).trans hx188_0
          have HR188_0 := am hi188_0
          have HC188_0 := am hl188_0
          clear hi188_0 hl188_0
          replace p188 := eq_true p188
          replace q188 := eq_true q188
          go_wp2
          repeat (go_quiet (fail); try go_wp2)
          go_ret
          exact ⟨by first | rfl | (simp [errW_none, errW_some] <;> rfl) | (simp [*, errW_none, errW_some] <;> rfl), by repeat (first | (with_reducible first | exact HB.out | apply bA | apply bN | apply bD | refine bS ?_ GE185.out | refine bS ?_ GE186.out) | exact HB.out)⟩
        ·rw [if_neg c16] at H
         exact absurd H (by simp)
       ·rw [if_neg c15] at H
        exact absurd H (by simp)
      ·rw [if_neg c14] at H
       have c14b0 : decide (x5_2 < (l0_4.length : Int)) = false := decide_eq_false c14
       clear c14
       obtain rfl := Option.some.inj H
       have hnb39 := NB185_186.out
       have hnc39 := NB186_185.out
       have hcz40_0 : wr.cell? ⟨gb185, 0, none⟩ = some (.int .i64 a0_0) := (bC BK185.out 0).trans rfl
       have hcz40_1 : wr.cell? ⟨gb185, 1, none⟩ = some (.int .i64 a0_1) := (bC BK185.out 1).trans rfl
       have hcz40_2 : wr.cell? ⟨gb185, 2, none⟩ = some (.int .i64 a0_2) := (bC BK185.out 2).trans rfl
       have hcz40_3 : wr.cell? ⟨gb185, 3, none⟩ = some (.bool a0_3) := (bC BK185.out 3).trans rfl
       have hcz40_4 : wr.cell? ⟨gb185, 4, none⟩ = some (.slice A0_4 l0_4.length c0_4) := (bC BK185.out 4).trans rfl
       have hfz40_0 := bZ BK185.out 0
       have hfz40_1 := bZ BK185.out 1
       have hfz40_2 := bZ BK185.out 2
       have hfz40_3 := bZ BK185.out 3
       have hfz40_4 := bZ BK185.out 4
       go_wp2
       repeat (go_quiet (fail); try go_wp2)
       go_ret
       exact ⟨by first | rfl | (simp [errW_none, errW_some] <;> rfl) | (simp [*, errW_none, errW_some] <;> rfl), by repeat (first | (with_reducible first | exact HB.out | apply bA | apply bN | apply bD | refine bS ?_ GE185.out | refine bS ?_ GE186.out) | exact HB.out)⟩

/-! ### plane_pair: function 78 -/
def plane_pair.f (k : Nat) (a0_0 : Int) (a0_1 : Int) (a0_2 : Int) (a0_3 : Bool) (l0_4 : List (List Int)) (a1_0 : Int) (a1_1 : Int) (a1_2 : Int) (a1_3 : Bool) (l1_4 : List (List Int)) : Option (Int) := (plane_Valid.f k a0_0 a0_1 a0_2 a0_3 l0_4).bind fun t196 => (if t196 = 0 then ((plane_Valid.f k a1_0 a1_1 a1_2 a1_3 l1_4).bind fun t197 => (if t197 = 0 then (if (!(a0_0 == a1_0) || (!(a0_1 == a1_1) || (!(a0_2 == a1_2) || (!(a0_3 == a1_3))))) = true then (some 61) else (some 0)) else (some t197))) else (some t196))
theorem plane_pair.mono : ∀ a0 a1 a2 a3 a4 a5 a6 a7 a8 a9 k, LeO (plane_pair.f k a0 a1 a2 a3 a4 a5 a6 a7 a8 a9) (plane_pair.f (k + 1) a0 a1 a2 a3 a4 a5 a6 a7 a8 a9) := by
 intro a0 a1 a2 a3 a4 a5 a6 a7 a8 a9 k
 unfold plane_pair.f
 repeat' first
   | (with_reducible exact plane_Valid.mono _ _ _ _ _ _)
   | (with_reducible exact LeO.refl _)
   | (with_reducible exact LeO.none _)
   | (with_reducible refine LeO.ite ?_ ?_)
   | (with_reducible refine LeO.bind ?_ (fun _ => ?_))
   | exact plane_Valid.mono _ _ _ _ _ _
   | exact LeO.none _
   | refine LeO.ite ?_ ?_
   | refine LeO.bind ?_ (fun _ => ?_)
set_option maxHeartbeats 8000000 in
set_option maxRecDepth 100000 in
theorem plane_pair.calls (k : Nat) (a0_0 : Int) (a0_1 : Int) (a0_2 : Int) (a0_3 : Bool) (A0_4 : Option Addr) (c0_4 : Nat) (l0_4 : List (List Int)) (a1_0 : Int) (a1_1 : Int) (a1_2 : Int) (a1_3 : Bool) (A1_4 : Option Addr) (c1_4 : Nat) (l1_4 : List (List Int)) (r : Int) (w : World) (hr0_4 : Kd.C (Kd.slice 72 (Kd.int .u16)) w A0_4 l0_4.length l0_4) (hc0_4 : l0_4.length ≤ c0_4) (hr1_4 : Kd.C (Kd.slice 72 (Kd.int .u16)) w A1_4 l1_4.length l1_4) (hc1_4 : l1_4.length ≤ c1_4) (h : plane_pair.f k a0_0 a0_1 a0_2 a0_3 l0_4 a1_0 a1_1 a1_2 a1_3 l1_4 = some r) :
  Calls Try.prog 78 #[.agg #[.int .i64 a0_0, .int .i64 a0_1, .int .i64 a0_2, .bool a0_3, .slice A0_4 l0_4.length c0_4], .agg #[.int .i64 a1_0, .int .i64 a1_1, .int .i64 a1_2, .bool a1_3, .slice A1_4 l1_4.length c1_4]] w fun e w' => e = .returned (.int .i64 r) ∧ Below w.heap.size w w' := by
 have hu39 := Try.underlying39
 have hu26 := Try.underlying26
 have HR0_4 := am hr0_4
 have HC0_4 := am hc0_4
 clear hr0_4 hc0_4
 have HR1_4 := am hr1_4
 have HC1_4 := am hc1_4
 clear hr1_4 hc1_4
 have HB := am (Below.refl w.heap.size w)
 have H : ((plane_Valid.f k a0_0 a0_1 a0_2 a0_3 l0_4).bind fun t196 => (if t196 = 0 then ((plane_Valid.f k a1_0 a1_1 a1_2 a1_3 l1_4).bind fun t197 => (if t197 = 0 then (if (!(a0_0 == a1_0) || (!(a0_1 == a1_1) || (!(a0_2 == a1_2) || (!(a0_3 == a1_3))))) = true then (some 61) else (some 0)) else (some t197))) else (some t196))) = some r := h
 clear h
 replace H := Option.bind_eq_some_iff.mp H
 obtain ⟨t196, A30, H⟩ := H
 replace H : (if t196 = 0 then ((plane_Valid.f k a1_0 a1_1 a1_2 a1_3 l1_4).bind fun t197 => (if t197 = 0 then (if (!(a0_0 == a1_0) || (!(a0_1 == a1_1) || (!(a0_2 == a1_2) || (!(a0_3 == a1_3))))) = true then (some 61) else (some 0)) else (some t197))) else (some t196)) = some r := H
 have A3 := am A30
 clear A30
 by_cases c4 : t196 = 0
 ·rw [if_pos c4] at H
  have c4b0 : (t196 == 0) = true := beq_iff_eq.mpr c4
  have c4b1 : (t196 != 0) = false := bne_eq_false_iff_eq.mpr c4
  clear c4
  replace H := Option.bind_eq_some_iff.mp H
  obtain ⟨t197, A50, H⟩ := H
  replace H : (if t197 = 0 then (if (!(a0_0 == a1_0) || (!(a0_1 == a1_1) || (!(a0_2 == a1_2) || (!(a0_3 == a1_3))))) = true then (some 61) else (some 0)) else (some t197)) = some r := H
  have A5 := am A50
  clear A50
  by_cases c6 : t197 = 0
  ·rw [if_pos c6] at H
   have c6b0 : (t197 == 0) = true := beq_iff_eq.mpr c6
   have c6b1 : (t197 != 0) = false := bne_eq_false_iff_eq.mpr c6
   clear c6
   by_cases c7 : (!(a0_0 == a1_0) || (!(a0_1 == a1_1) || (!(a0_2 == a1_2) || (!(a0_3 == a1_3))))) = true
   ·rw [if_pos c7] at H
    have c7b0 : (!(a0_0 == a1_0) || (!(a0_1 == a1_1) || (!(a0_2 == a1_2) || (!(a0_3 == a1_3))))) = true := c7
    clear c7
    obtain rfl := Option.some.inj H
    go_enter Try.func78, Try.ntmps78
    go_wp2_with (first | ((with_reducible refine gD (N := 2) rfl ?_); refine bE ?hg (N := 2) ?hd (cs := #[.int .i64 a0_0, .int .i64 a0_1, .int .i64 a0_2, .bool a0_3, .slice A0_4 l0_4.length c0_4]) (t := 39) ?hr ?_; (case hd => rfl); (case hg => rfl); (case hr => first | (go_simp; done) | (go_simp; rfl)); intro gb194 hg w8 hbox hb; have n0_ := am (bT (by repeat (first | (with_reducible first | exact HB.out | apply bA | apply bN | apply bD) | exact HB.out)) hb); have n1_ := am (hbox); have n2_ := am ((by rw [hg]; exact (bU (by repeat (first | (with_reducible first | exact HB.out | apply bA | apply bN | apply bD) | exact HB.out))) : w.heap.size ≤ gb194)); have n3_ := am ((by rw [hg]; exact (bU (by repeat (first | (with_reducible first | exact HB.out | apply bA | apply bN | apply bD) | exact HB.out))) : w.heap.size ≤ gb194)); clear HB; have HB := n0_; have BK194 := n1_; have GW194 := n2_; have GE194 := n3_; clear n0_ n1_ n2_ n3_; clear hb hbox hg) | ((with_reducible refine gD (N := 3) rfl ?_); refine bE ?hg (N := 3) ?hd (cs := #[.int .i64 a1_0, .int .i64 a1_1, .int .i64 a1_2, .bool a1_3, .slice A1_4 l1_4.length c1_4]) (t := 39) ?hr ?_; (case hd => rfl); (case hg => rfl); (case hr => first | (go_simp; done) | (go_simp; rfl)); intro gb195 hg w9 hbox hb; have n0_ := am (bB (g := gb194) (o := .cells #[.int .i64 a0_0, .int .i64 a0_1, .int .i64 a0_2, .bool a0_3, .slice A0_4 l0_4.length c0_4] 39 (0, 0)) (by (with_reducible repeat apply dX); exact BK194.out) hb); have n1_ := am (bT (by repeat (first | (with_reducible first | exact HB.out | apply bA | apply bN | apply bD | refine bS ?_ GE194.out) | exact HB.out)) hb); have n2_ := am (hbox); have n3_ := am ((by rw [hg]; exact (bU (by repeat (first | (with_reducible first | exact HB.out | apply bA | apply bN | apply bD | refine bS ?_ GE194.out) | exact HB.out))) : w.heap.size ≤ gb195)); have n4_ := am ((by rw [hg]; exact (bU (by repeat (first | (with_reducible first | exact HB.out | apply bA | apply bN | apply bD | refine bS ?_ GE194.out) | exact HB.out))) : w.heap.size ≤ gb195)); have n5_ := am ((by rw [hg]; exact nL (bL (g := gb194) (o := .cells #[.int .i64 a0_0, .int .i64 a0_1, .int .i64 a0_2, .bool a0_3, .slice A0_4 l0_4.length c0_4] 39 (0, 0)) (by (with_reducible repeat apply dX); exact BK194.out)) : gb194 ≠ gb195)); have n6_ := am ((by rw [hg]; exact nG (bL (g := gb194) (o := .cells #[.int .i64 a0_0, .int .i64 a0_1, .int .i64 a0_2, .bool a0_3, .slice A0_4 l0_4.length c0_4] 39 (0, 0)) (by (with_reducible repeat apply dX); exact BK194.out)) : gb195 ≠ gb194)); clear BK194; clear HB; have BK194 := n0_; have HB := n1_; have BK195 := n2_; have GW195 := n3_; have GE195 := n4_; have NB194_195 := n5_; have NB195_194 := n6_; clear n0_ n1_ n2_ n3_ n4_ n5_ n6_; clear hb hbox hg; have hnb10 := NB194_195.out; have hnc10 := NB195_194.out; have hcz11_0 : w9.cell? ⟨gb194, 0, none⟩ = some (.int .i64 a0_0) := (bC BK194.out 0).trans rfl; have hcz11_1 : w9.cell? ⟨gb194, 1, none⟩ = some (.int .i64 a0_1) := (bC BK194.out 1).trans rfl; have hcz11_2 : w9.cell? ⟨gb194, 2, none⟩ = some (.int .i64 a0_2) := (bC BK194.out 2).trans rfl; have hcz11_3 : w9.cell? ⟨gb194, 3, none⟩ = some (.bool a0_3) := (bC BK194.out 3).trans rfl; have hcz11_4 : w9.cell? ⟨gb194, 4, none⟩ = some (.slice A0_4 l0_4.length c0_4) := (bC BK194.out 4).trans rfl; have hfz11_0 := bZ BK194.out 0; have hfz11_1 := bZ BK194.out 1; have hfz11_2 := bZ BK194.out 2; have hfz11_3 := bZ BK194.out 3; have hfz11_4 := bZ BK194.out 4) | ((with_reducible refine gate_callee (f := 29) rfl ?_); refine goesL_ (some 8) rfl rfl Try.func29 (by kernel_rfl) rfl #[.agg #[.int .i64 a0_0, .int .i64 a0_1, .int .i64 a0_2, .bool a0_3, .slice A0_4 l0_4.length c0_4]] rfl (by (try simp only [List.map_toArray, List.map_cons, List.map_nil]); first | done | rfl | (simp only [List.length_drop, List.length_take]; rfl)) ?_; (with_reducible refine (plane_Valid.calls k a0_0 a0_1 a0_2 a0_3 _ _ l0_4 t196 _ ?side1 ?side2 A3.out).mono ?_); (case side1 => repeat (first | exact (Kd.C_below HR0_4.out HB.out) | (with_reducible refine Kd.C_alloc ?_ _) | (with_reducible refine Kd.C_drewN ?_ _) | (with_reducible refine Kd.C_drew ?_))); (case side2 => exact HC0_4.out); rintro e w12 ⟨rfl, hb⟩; refine ⟨_, rfl, ?_⟩; have n0_ := am (bB (g := gb194) (o := .cells #[.int .i64 a0_0, .int .i64 a0_1, .int .i64 a0_2, .bool a0_3, .slice A0_4 l0_4.length c0_4] 39 (0, 0)) (by (with_reducible repeat apply dX); exact BK194.out) hb); have n1_ := am (bB (g := gb195) (o := .cells #[.int .i64 a1_0, .int .i64 a1_1, .int .i64 a1_2, .bool a1_3, .slice A1_4 l1_4.length c1_4] 39 (0, 0)) (by (with_reducible repeat apply dX); exact BK195.out) hb); have n2_ := am (bT (by repeat (first | (with_reducible first | exact HB.out | apply bA | apply bN | apply bD | refine bS ?_ GE194.out | refine bS ?_ GE195.out) | exact HB.out)) hb); clear BK194; clear BK195; clear HB; have BK194 := n0_; have BK195 := n1_; have HB := n2_; clear n0_ n1_ n2_; (try clear hb); (try clear hb2); (try clear hk); (try clear hi); have hcz13_0 : w12.cell? ⟨gb195, 0, none⟩ = some (.int .i64 a1_0) := (bC BK195.out 0).trans rfl; have hcz13_1 : w12.cell? ⟨gb195, 1, none⟩ = some (.int .i64 a1_1) := (bC BK195.out 1).trans rfl; have hcz13_2 : w12.cell? ⟨gb195, 2, none⟩ = some (.int .i64 a1_2) := (bC BK195.out 2).trans rfl; have hcz13_3 : w12.cell? ⟨gb195, 3, none⟩ = some (.bool a1_3) := (bC BK195.out 3).trans rfl; have hcz13_4 : w12.cell? ⟨gb195, 4, none⟩ = some (.slice A1_4 l1_4.length c1_4) := (bC BK195.out 4).trans rfl; have hfz13_0 := bZ BK195.out 0; have hfz13_1 := bZ BK195.out 1; have hfz13_2 := bZ BK195.out 2; have hfz13_3 := bZ BK195.out 3; have hfz13_4 := bZ BK195.out 4) | ((with_reducible refine gate_callee (f := 29) rfl ?_); refine goesL_ (some 13) rfl rfl Try.func29 (by kernel_rfl) rfl #[.agg #[.int .i64 a1_0, .int .i64 a1_1, .int .i64 a1_2, .bool a1_3, .slice A1_4 l1_4.length c1_4]] rfl (by (try simp only [List.map_toArray, List.map_cons, List.map_nil]); first | done | rfl | (simp only [List.length_drop, List.length_take]; rfl)) ?_; (with_reducible refine (plane_Valid.calls k a1_0 a1_1 a1_2 a1_3 _ _ l1_4 t197 _ ?side1 ?side2 A5.out).mono ?_); (case side1 => repeat (first | exact (Kd.C_below HR1_4.out HB.out) | (with_reducible refine Kd.C_alloc ?_ _) | (with_reducible refine Kd.C_drewN ?_ _) | (with_reducible refine Kd.C_drew ?_))); (case side2 => exact HC1_4.out); rintro e w14 ⟨rfl, hb⟩; refine ⟨_, rfl, ?_⟩; have n0_ := am (bB (g := gb194) (o := .cells #[.int .i64 a0_0, .int .i64 a0_1, .int .i64 a0_2, .bool a0_3, .slice A0_4 l0_4.length c0_4] 39 (0, 0)) (by (with_reducible repeat apply dX); exact BK194.out) hb); have n1_ := am (bB (g := gb195) (o := .cells #[.int .i64 a1_0, .int .i64 a1_1, .int .i64 a1_2, .bool a1_3, .slice A1_4 l1_4.length c1_4] 39 (0, 0)) (by (with_reducible repeat apply dX); exact BK195.out) hb); have n2_ := am (bT (by repeat (first | (with_reducible first | exact HB.out | apply bA | apply bN | apply bD | refine bS ?_ GE194.out | refine bS ?_ GE195.out) | exact HB.out)) hb); clear BK194; clear BK195; clear HB; have BK194 := n0_; have BK195 := n1_; have HB := n2_; clear n0_ n1_ n2_; (try clear hb); (try clear hb2); (try clear hk); (try clear hi); have hcz15_0 : w14.cell? ⟨gb194, 0, none⟩ = some (.int .i64 a0_0) := (bC BK194.out 0).trans rfl; have hcz15_1 : w14.cell? ⟨gb194, 1, none⟩ = some (.int .i64 a0_1) := (bC BK194.out 1).trans rfl; have hcz15_2 : w14.cell? ⟨gb194, 2, none⟩ = some (.int .i64 a0_2) := (bC BK194.out 2).trans rfl; have hcz15_3 : w14.cell? ⟨gb194, 3, none⟩ = some (.bool a0_3) := (bC BK194.out 3).trans rfl; have hcz15_4 : w14.cell? ⟨gb194, 4, none⟩ = some (.slice A0_4 l0_4.length c0_4) := (bC BK194.out 4).trans rfl; have hfz15_0 := bZ BK194.out 0; have hfz15_1 := bZ BK194.out 1; have hfz15_2 := bZ BK194.out 2; have hfz15_3 := bZ BK194.out 3; have hfz15_4 := bZ BK194.out 4; have hcz16_0 : w14.cell? ⟨gb195, 0, none⟩ = some (.int .i64 a1_0) := (bC BK195.out 0).trans rfl; have hcz16_1 : w14.cell? ⟨gb195, 1, none⟩ = some (.int .i64 a1_1) := (bC BK195.out 1).trans rfl; have hcz16_2 : w14.cell? ⟨gb195, 2, none⟩ = some (.int .i64 a1_2) := (bC BK195.out 2).trans rfl; have hcz16_3 : w14.cell? ⟨gb195, 3, none⟩ = some (.bool a1_3) := (bC BK195.out 3).trans rfl; have hcz16_4 : w14.cell? ⟨gb195, 4, none⟩ = some (.slice A1_4 l1_4.length c1_4) := (bC BK195.out 4).trans rfl; have hfz16_0 := bZ BK195.out 0; have hfz16_1 := bZ BK195.out 1; have hfz16_2 := bZ BK195.out 2; have hfz16_3 := bZ BK195.out 3; have hfz16_4 := bZ BK195.out 4))
    go_ret
    exact ⟨by first | rfl | (simp [errW_none, errW_some] <;> rfl) | (simp [*, errW_none, errW_some] <;> rfl), by repeat (first | (with_reducible first | exact HB.out | apply bA | apply bN | apply bD | refine bS ?_ GE194.out | refine bS ?_ GE195.out) | exact HB.out)⟩
   ·rw [if_neg c7] at H
    have c7b0 : (!(a0_0 == a1_0) || (!(a0_1 == a1_1) || (!(a0_2 == a1_2) || (!(a0_3 == a1_3))))) = false := by simpa using c7
    clear c7
    obtain rfl := Option.some.inj H
    go_enter Try.func78, Try.ntmps78
    go_wp2_with (first | ((with_reducible refine gD (N := 2) rfl ?_); refine bE ?hg (N := 2) ?hd (cs := #[.int .i64 a0_0, .int .i64 a0_1, .int .i64 a0_2, .bool a0_3, .slice A0_4 l0_4.length c0_4]) (t := 39) ?hr ?_; (case hd => rfl); (case hg => rfl); (case hr => first | (go_simp; done) | (go_simp; rfl)); intro gb194 hg w17 hbox hb; have n0_ := am (bT (by repeat (first | (with_reducible first | exact HB.out | apply bA | apply bN | apply bD) | exact HB.out)) hb); have n1_ := am (hbox); have n2_ := am ((by rw [hg]; exact (bU (by repeat (first | (with_reducible first | exact HB.out | apply bA | apply bN | apply bD) | exact HB.out))) : w.heap.size ≤ gb194)); have n3_ := am ((by rw [hg]; exact (bU (by repeat (first | (with_reducible first | exact HB.out | apply bA | apply bN | apply bD) | exact HB.out))) : w.heap.size ≤ gb194)); clear HB; have HB := n0_; have BK194 := n1_; have GW194 := n2_; have GE194 := n3_; clear n0_ n1_ n2_ n3_; clear hb hbox hg) | ((with_reducible refine gD (N := 3) rfl ?_); refine bE ?hg (N := 3) ?hd (cs := #[.int .i64 a1_0, .int .i64 a1_1, .int .i64 a1_2, .bool a1_3, .slice A1_4 l1_4.length c1_4]) (t := 39) ?hr ?_; (case hd => rfl); (case hg => rfl); (case hr => first | (go_simp; done) | (go_simp; rfl)); intro gb195 hg w18 hbox hb; have n0_ := am (bB (g := gb194) (o := .cells #[.int .i64 a0_0, .int .i64 a0_1, .int .i64 a0_2, .bool a0_3, .slice A0_4 l0_4.length c0_4] 39 (0, 0)) (by (with_reducible repeat apply dX); exact BK194.out) hb); have n1_ := am (bT (by repeat (first | (with_reducible first | exact HB.out | apply bA | apply bN | apply bD | refine bS ?_ GE194.out) | exact HB.out)) hb); have n2_ := am (hbox); have n3_ := am ((by rw [hg]; exact (bU (by repeat (first | (with_reducible first | exact HB.out | apply bA | apply bN | apply bD | refine bS ?_ GE194.out) | exact HB.out))) : w.heap.size ≤ gb195)); have n4_ := am ((by rw [hg]; exact (bU (by repeat (first | (with_reducible first | exact HB.out | apply bA | apply bN | apply bD | refine bS ?_ GE194.out) | exact HB.out))) : w.heap.size ≤ gb195)); have n5_ := am ((by rw [hg]; exact nL (bL (g := gb194) (o := .cells #[.int .i64 a0_0, .int .i64 a0_1, .int .i64 a0_2, .bool a0_3, .slice A0_4 l0_4.length c0_4] 39 (0, 0)) (by (with_reducible repeat apply dX); exact BK194.out)) : gb194 ≠ gb195)); have n6_ := am ((by rw [hg]; exact nG (bL (g := gb194) (o := .cells #[.int .i64 a0_0, .int .i64 a0_1, .int .i64 a0_2, .bool a0_3, .slice A0_4 l0_4.length c0_4] 39 (0, 0)) (by (with_reducible repeat apply dX); exact BK194.out)) : gb195 ≠ gb194)); clear BK194; clear HB; have BK194 := n0_; have HB := n1_; have BK195 := n2_; have GW195 := n3_; have GE195 := n4_; have NB194_195 := n5_; have NB195_194 := n6_; clear n0_ n1_ n2_ n3_ n4_ n5_ n6_; clear hb hbox hg; have hnb19 := NB194_195.out; have hnc19 := NB195_194.out; have hcz20_0 : w18.cell? ⟨gb194, 0, none⟩ = some (.int .i64 a0_0) := (bC BK194.out 0).trans rfl; have hcz20_1 : w18.cell? ⟨gb194, 1, none⟩ = some (.int .i64 a0_1) := (bC BK194.out 1).trans rfl; have hcz20_2 : w18.cell? ⟨gb194, 2, none⟩ = some (.int .i64 a0_2) := (bC BK194.out 2).trans rfl; have hcz20_3 : w18.cell? ⟨gb194, 3, none⟩ = some (.bool a0_3) := (bC BK194.out 3).trans rfl; have hcz20_4 : w18.cell? ⟨gb194, 4, none⟩ = some (.slice A0_4 l0_4.length c0_4) := (bC BK194.out 4).trans rfl; have hfz20_0 := bZ BK194.out 0; have hfz20_1 := bZ BK194.out 1; have hfz20_2 := bZ BK194.out 2; have hfz20_3 := bZ BK194.out 3; have hfz20_4 := bZ BK194.out 4) | ((with_reducible refine gate_callee (f := 29) rfl ?_); refine goesL_ (some 8) rfl rfl Try.func29 (by kernel_rfl) rfl #[.agg #[.int .i64 a0_0, .int .i64 a0_1, .int .i64 a0_2, .bool a0_3, .slice A0_4 l0_4.length c0_4]] rfl (by (try simp only [List.map_toArray, List.map_cons, List.map_nil]); first | done | rfl | (simp only [List.length_drop, List.length_take]; rfl)) ?_; (with_reducible refine (plane_Valid.calls k a0_0 a0_1 a0_2 a0_3 _ _ l0_4 t196 _ ?side1 ?side2 A3.out).mono ?_); (case side1 => repeat (first | exact (Kd.C_below HR0_4.out HB.out) | (with_reducible refine Kd.C_alloc ?_ _) | (with_reducible refine Kd.C_drewN ?_ _) | (with_reducible refine Kd.C_drew ?_))); (case side2 => exact HC0_4.out); rintro e w21 ⟨rfl, hb⟩; refine ⟨_, rfl, ?_⟩; have n0_ := am (bB (g := gb194) (o := .cells #[.int .i64 a0_0, .int .i64 a0_1, .int .i64 a0_2, .bool a0_3, .slice A0_4 l0_4.length c0_4] 39 (0, 0)) (by (with_reducible repeat apply dX); exact BK194.out) hb); have n1_ := am (bB (g := gb195) (o := .cells #[.int .i64 a1_0, .int .i64 a1_1, .int .i64 a1_2, .bool a1_3, .slice A1_4 l1_4.length c1_4] 39 (0, 0)) (by (with_reducible repeat apply dX); exact BK195.out) hb); have n2_ := am (bT (by repeat (first | (with_reducible first | exact HB.out | apply bA | apply bN | apply bD | refine bS ?_ GE194.out | refine bS ?_ GE195.out) | exact HB.out)) hb); clear BK194; clear BK195; clear HB; have BK194 := n0_; have BK195 := n1_; have HB := n2_; clear n0_ n1_ n2_; (try clear hb); (try clear hb2); (try clear hk); (try clear hi); have hcz22_0 : w21.cell? ⟨gb195, 0, none⟩ = some (.int .i64 a1_0) := (bC BK195.out 0).trans rfl; have hcz22_1 : w21.cell? ⟨gb195, 1, none⟩ = some (.int .i64 a1_1) := (bC BK195.out 1).trans rfl; have hcz22_2 : w21.cell? ⟨gb195, 2, none⟩ = some (.int .i64 a1_2) := (bC BK195.out 2).trans rfl; have hcz22_3 : w21.cell? ⟨gb195, 3, none⟩ = some (.bool a1_3) := (bC BK195.out 3).trans rfl; have hcz22_4 : w21.cell? ⟨gb195, 4, none⟩ = some (.slice A1_4 l1_4.length c1_4) := (bC BK195.out 4).trans rfl; have hfz22_0 := bZ BK195.out 0; have hfz22_1 := bZ BK195.out 1; have hfz22_2 := bZ BK195.out 2; have hfz22_3 := bZ BK195.out 3; have hfz22_4 := bZ BK195.out 4) | ((with_reducible refine gate_callee (f := 29) rfl ?_); refine goesL_ (some 13) rfl rfl Try.func29 (by kernel_rfl) rfl #[.agg #[.int .i64 a1_0, .int .i64 a1_1, .int .i64 a1_2, .bool a1_3, .slice A1_4 l1_4.length c1_4]] rfl (by (try simp only [List.map_toArray, List.map_cons, List.map_nil]); first | done | rfl | (simp only [List.length_drop, List.length_take]; rfl)) ?_; (with_reducible refine (plane_Valid.calls k a1_0 a1_1 a1_2 a1_3 _ _ l1_4 t197 _ ?side1 ?side2 A5.out).mono ?_); (case side1 => repeat (first | exact (Kd.C_below HR1_4.out HB.out) | (with_reducible refine Kd.C_alloc ?_ _) | (with_reducible refine Kd.C_drewN ?_ _) | (with_reducible refine Kd.C_drew ?_))); (case side2 => exact HC1_4.out); rintro e w23 ⟨rfl, hb⟩; refine ⟨_, rfl, ?_⟩; have n0_ := am (bB (g := gb194) (o := .cells #[.int .i64 a0_0, .int .i64 a0_1, .int .i64 a0_2, .bool a0_3, .slice A0_4 l0_4.length c0_4] 39 (0, 0)) (by (with_reducible repeat apply dX); exact BK194.out) hb); have n1_ := am (bB (g := gb195) (o := .cells #[.int .i64 a1_0, .int .i64 a1_1, .int .i64 a1_2, .bool a1_3, .slice A1_4 l1_4.length c1_4] 39 (0, 0)) (by (with_reducible repeat apply dX); exact BK195.out) hb); have n2_ := am (bT (by repeat (first | (with_reducible first | exact HB.out | apply bA | apply bN | apply bD | refine bS ?_ GE194.out | refine bS ?_ GE195.out) | exact HB.out)) hb); clear BK194; clear BK195; clear HB; have BK194 := n0_; have BK195 := n1_; have HB := n2_; clear n0_ n1_ n2_; (try clear hb); (try clear hb2); (try clear hk); (try clear hi); have hcz24_0 : w23.cell? ⟨gb194, 0, none⟩ = some (.int .i64 a0_0) := (bC BK194.out 0).trans rfl; have hcz24_1 : w23.cell? ⟨gb194, 1, none⟩ = some (.int .i64 a0_1) := (bC BK194.out 1).trans rfl; have hcz24_2 : w23.cell? ⟨gb194, 2, none⟩ = some (.int .i64 a0_2) := (bC BK194.out 2).trans rfl; have hcz24_3 : w23.cell? ⟨gb194, 3, none⟩ = some (.bool a0_3) := (bC BK194.out 3).trans rfl; have hcz24_4 : w23.cell? ⟨gb194, 4, none⟩ = some (.slice A0_4 l0_4.length c0_4) := (bC BK194.out 4).trans rfl; have hfz24_0 := bZ BK194.out 0; have hfz24_1 := bZ BK194.out 1; have hfz24_2 := bZ BK194.out 2; have hfz24_3 := bZ BK194.out 3; have hfz24_4 := bZ BK194.out 4; have hcz25_0 : w23.cell? ⟨gb195, 0, none⟩ = some (.int .i64 a1_0) := (bC BK195.out 0).trans rfl; have hcz25_1 : w23.cell? ⟨gb195, 1, none⟩ = some (.int .i64 a1_1) := (bC BK195.out 1).trans rfl; have hcz25_2 : w23.cell? ⟨gb195, 2, none⟩ = some (.int .i64 a1_2) := (bC BK195.out 2).trans rfl; have hcz25_3 : w23.cell? ⟨gb195, 3, none⟩ = some (.bool a1_3) := (bC BK195.out 3).trans rfl; have hcz25_4 : w23.cell? ⟨gb195, 4, none⟩ = some (.slice A1_4 l1_4.length c1_4) := (bC BK195.out 4).trans rfl; have hfz25_0 := bZ BK195.out 0; have hfz25_1 := bZ BK195.out 1; have hfz25_2 := bZ BK195.out 2; have hfz25_3 := bZ BK195.out 3; have hfz25_4 := bZ BK195.out 4))
    go_ret
    exact ⟨by first | rfl | (simp [errW_none, errW_some] <;> rfl) | (simp [*, errW_none, errW_some] <;> rfl), by repeat (first | (with_reducible first | exact HB.out | apply bA | apply bN | apply bD | refine bS ?_ GE194.out | refine bS ?_ GE195.out) | exact HB.out)⟩
  ·rw [if_neg c6] at H
   have c6b0 : (t197 == 0) = false := beq_eq_false_iff_ne.mpr c6
   have c6b1 : (t197 != 0) = true := bne_iff_ne.mpr c6
   obtain rfl := Option.some.inj H
   go_enter Try.func78, Try.ntmps78
   go_wp2_with (first | ((with_reducible refine gD (N := 2) rfl ?_); refine bE ?hg (N := 2) ?hd (cs := #[.int .i64 a0_0, .int .i64 a0_1, .int .i64 a0_2, .bool a0_3, .slice A0_4 l0_4.length c0_4]) (t := 39) ?hr ?_; (case hd => rfl); (case hg => rfl); (case hr => first | (go_simp; done) | (go_simp; rfl)); intro gb194 hg w26 hbox hb; have n0_ := am (bT (by repeat (first | (with_reducible first | exact HB.out | apply bA | apply bN | apply bD) | exact HB.out)) hb); have n1_ := am (hbox); have n2_ := am ((by rw [hg]; exact (bU (by repeat (first | (with_reducible first | exact HB.out | apply bA | apply bN | apply bD) | exact HB.out))) : w.heap.size ≤ gb194)); have n3_ := am ((by rw [hg]; exact (bU (by repeat (first | (with_reducible first | exact HB.out | apply bA | apply bN | apply bD) | exact HB.out))) : w.heap.size ≤ gb194)); clear HB; have HB := n0_; have BK194 := n1_; have GW194 := n2_; have GE194 := n3_; clear n0_ n1_ n2_ n3_; clear hb hbox hg) | ((with_reducible refine gD (N := 3) rfl ?_); refine bE ?hg (N := 3) ?hd (cs := #[.int .i64 a1_0, .int .i64 a1_1, .int .i64 a1_2, .bool a1_3, .slice A1_4 l1_4.length c1_4]) (t := 39) ?hr ?_; (case hd => rfl); (case hg => rfl); (case hr => first | (go_simp; done) | (go_simp; rfl)); intro gb195 hg w27 hbox hb; have n0_ := am (bB (g := gb194) (o := .cells #[.int .i64 a0_0, .int .i64 a0_1, .int .i64 a0_2, .bool a0_3, .slice A0_4 l0_4.length c0_4] 39 (0, 0)) (by (with_reducible repeat apply dX); exact BK194.out) hb); have n1_ := am (bT (by repeat (first | (with_reducible first | exact HB.out | apply bA | apply bN | apply bD | refine bS ?_ GE194.out) | exact HB.out)) hb); have n2_ := am (hbox); have n3_ := am ((by rw [hg]; exact (bU (by repeat (first | (with_reducible first | exact HB.out | apply bA | apply bN | apply bD | refine bS ?_ GE194.out) | exact HB.out))) : w.heap.size ≤ gb195)); have n4_ := am ((by rw [hg]; exact (bU (by repeat (first | (with_reducible first | exact HB.out | apply bA | apply bN | apply bD | refine bS ?_ GE194.out) | exact HB.out))) : w.heap.size ≤ gb195)); have n5_ := am ((by rw [hg]; exact nL (bL (g := gb194) (o := .cells #[.int .i64 a0_0, .int .i64 a0_1, .int .i64 a0_2, .bool a0_3, .slice A0_4 l0_4.length c0_4] 39 (0, 0)) (by (with_reducible repeat apply dX); exact BK194.out)) : gb194 ≠ gb195)); have n6_ := am ((by rw [hg]; exact nG (bL (g := gb194) (o := .cells #[.int .i64 a0_0, .int .i64 a0_1, .int .i64 a0_2, .bool a0_3, .slice A0_4 l0_4.length c0_4] 39 (0, 0)) (by (with_reducible repeat apply dX); exact BK194.out)) : gb195 ≠ gb194)); clear BK194; clear HB; have BK194 := n0_; have HB := n1_; have BK195 := n2_; have GW195 := n3_; have GE195 := n4_; have NB194_195 := n5_; have NB195_194 := n6_; clear n0_ n1_ n2_ n3_ n4_ n5_ n6_; clear hb hbox hg; have hnb28 := NB194_195.out; have hnc28 := NB195_194.out; have hcz29_0 : w27.cell? ⟨gb194, 0, none⟩ = some (.int .i64 a0_0) := (bC BK194.out 0).trans rfl; have hcz29_1 : w27.cell? ⟨gb194, 1, none⟩ = some (.int .i64 a0_1) := (bC BK194.out 1).trans rfl; have hcz29_2 : w27.cell? ⟨gb194, 2, none⟩ = some (.int .i64 a0_2) := (bC BK194.out 2).trans rfl; have hcz29_3 : w27.cell? ⟨gb194, 3, none⟩ = some (.bool a0_3) := (bC BK194.out 3).trans rfl; have hcz29_4 : w27.cell? ⟨gb194, 4, none⟩ = some (.slice A0_4 l0_4.length c0_4) := (bC BK194.out 4).trans rfl; have hfz29_0 := bZ BK194.out 0; have hfz29_1 := bZ BK194.out 1; have hfz29_2 := bZ BK194.out 2; have hfz29_3 := bZ BK194.out 3; have hfz29_4 := bZ BK194.out 4) | ((with_reducible refine gate_callee (f := 29) rfl ?_); refine goesL_ (some 8) rfl rfl Try.func29 (by kernel_rfl) rfl #[.agg #[.int .i64 a0_0, .int .i64 a0_1, .int .i64 a0_2, .bool a0_3, .slice A0_4 l0_4.length c0_4]] rfl (by (try simp only [List.map_toArray, List.map_cons, List.map_nil]); first | done | rfl | (simp only [List.length_drop, List.length_take]; rfl)) ?_; (with_reducible refine (plane_Valid.calls k a0_0 a0_1 a0_2 a0_3 _ _ l0_4 t196 _ ?side1 ?side2 A3.out).mono ?_); (case side1 => repeat (first | exact (Kd.C_below HR0_4.out HB.out) | (with_reducible refine Kd.C_alloc ?_ _) | (with_reducible refine Kd.C_drewN ?_ _) | (with_reducible refine Kd.C_drew ?_))); (case side2 => exact HC0_4.out); rintro e w30 ⟨rfl, hb⟩; refine ⟨_, rfl, ?_⟩; have n0_ := am (bB (g := gb194) (o := .cells #[.int .i64 a0_0, .int .i64 a0_1, .int .i64 a0_2, .bool a0_3, .slice A0_4 l0_4.length c0_4] 39 (0, 0)) (by (with_reducible repeat apply dX); exact BK194.out) hb); have n1_ := am (bB (g := gb195) (o := .cells #[.int .i64 a1_0, .int .i64 a1_1, .int .i64 a1_2, .bool a1_3, .slice A1_4 l1_4.length c1_4] 39 (0, 0)) (by (with_reducible repeat apply dX); exact BK195.out) hb); have n2_ := am (bT (by repeat (first | (with_reducible first | exact HB.out | apply bA | apply bN | apply bD | refine bS ?_ GE194.out | refine bS ?_ GE195.out) | exact HB.out)) hb); clear BK194; clear BK195; clear HB; have BK194 := n0_; have BK195 := n1_; have HB := n2_; clear n0_ n1_ n2_; (try clear hb); (try clear hb2); (try clear hk); (try clear hi); have hcz31_0 : w30.cell? ⟨gb195, 0, none⟩ = some (.int .i64 a1_0) := (bC BK195.out 0).trans rfl; have hcz31_1 : w30.cell? ⟨gb195, 1, none⟩ = some (.int .i64 a1_1) := (bC BK195.out 1).trans rfl; have hcz31_2 : w30.cell? ⟨gb195, 2, none⟩ = some (.int .i64 a1_2) := (bC BK195.out 2).trans rfl; have hcz31_3 : w30.cell? ⟨gb195, 3, none⟩ = some (.bool a1_3) := (bC BK195.out 3).trans rfl; have hcz31_4 : w30.cell? ⟨gb195, 4, none⟩ = some (.slice A1_4 l1_4.length c1_4) := (bC BK195.out 4).trans rfl; have hfz31_0 := bZ BK195.out 0; have hfz31_1 := bZ BK195.out 1; have hfz31_2 := bZ BK195.out 2; have hfz31_3 := bZ BK195.out 3; have hfz31_4 := bZ BK195.out 4) | ((with_reducible refine gate_callee (f := 29) rfl ?_); refine goesL_ (some 13) rfl rfl Try.func29 (by kernel_rfl) rfl #[.agg #[.int .i64 a1_0, .int .i64 a1_1, .int .i64 a1_2, .bool a1_3, .slice A1_4 l1_4.length c1_4]] rfl (by (try simp only [List.map_toArray, List.map_cons, List.map_nil]); first | done | rfl | (simp only [List.length_drop, List.length_take]; rfl)) ?_; (with_reducible refine (plane_Valid.calls k a1_0 a1_1 a1_2 a1_3 _ _ l1_4 t197 _ ?side1 ?side2 A5.out).mono ?_); (case side1 => repeat (first | exact (Kd.C_below HR1_4.out HB.out) | (with_reducible refine Kd.C_alloc ?_ _) | (with_reducible refine Kd.C_drewN ?_ _) | (with_reducible refine Kd.C_drew ?_))); (case side2 => exact HC1_4.out); rintro e w32 ⟨rfl, hb⟩; refine ⟨_, rfl, ?_⟩; have n0_ := am (bB (g := gb194) (o := .cells #[.int .i64 a0_0, .int .i64 a0_1, .int .i64 a0_2, .bool a0_3, .slice A0_4 l0_4.length c0_4] 39 (0, 0)) (by (with_reducible repeat apply dX); exact BK194.out) hb); have n1_ := am (bB (g := gb195) (o := .cells #[.int .i64 a1_0, .int .i64 a1_1, .int .i64 a1_2, .bool a1_3, .slice A1_4 l1_4.length c1_4] 39 (0, 0)) (by (with_reducible repeat apply dX); exact BK195.out) hb); have n2_ := am (bT (by repeat (first | (with_reducible first | exact HB.out | apply bA | apply bN | apply bD | refine bS ?_ GE194.out | refine bS ?_ GE195.out) | exact HB.out)) hb); clear BK194; clear BK195; clear HB; have BK194 := n0_; have BK195 := n1_; have HB := n2_; clear n0_ n1_ n2_; (try clear hb); (try clear hb2); (try clear hk); (try clear hi)))
   go_ret
   exact ⟨by first | rfl | (simp [errW_none, errW_some] <;> rfl) | (simp [*, errW_none, errW_some] <;> rfl), by repeat (first | (with_reducible first | exact HB.out | apply bA | apply bN | apply bD | refine bS ?_ GE194.out | refine bS ?_ GE195.out) | exact HB.out)⟩
 ·rw [if_neg c4] at H
  have c4b0 : (t196 == 0) = false := beq_eq_false_iff_ne.mpr c4
  have c4b1 : (t196 != 0) = true := bne_iff_ne.mpr c4
  obtain rfl := Option.some.inj H
  go_enter Try.func78, Try.ntmps78
  go_wp2_with (first | ((with_reducible refine gD (N := 2) rfl ?_); refine bE ?hg (N := 2) ?hd (cs := #[.int .i64 a0_0, .int .i64 a0_1, .int .i64 a0_2, .bool a0_3, .slice A0_4 l0_4.length c0_4]) (t := 39) ?hr ?_; (case hd => rfl); (case hg => rfl); (case hr => first | (go_simp; done) | (go_simp; rfl)); intro gb194 hg w33 hbox hb; have n0_ := am (bT (by repeat (first | (with_reducible first | exact HB.out | apply bA | apply bN | apply bD) | exact HB.out)) hb); have n1_ := am (hbox); have n2_ := am ((by rw [hg]; exact (bU (by repeat (first | (with_reducible first | exact HB.out | apply bA | apply bN | apply bD) | exact HB.out))) : w.heap.size ≤ gb194)); have n3_ := am ((by rw [hg]; exact (bU (by repeat (first | (with_reducible first | exact HB.out | apply bA | apply bN | apply bD) | exact HB.out))) : w.heap.size ≤ gb194)); clear HB; have HB := n0_; have BK194 := n1_; have GW194 := n2_; have GE194 := n3_; clear n0_ n1_ n2_ n3_; clear hb hbox hg) | ((with_reducible refine gD (N := 3) rfl ?_); refine bE ?hg (N := 3) ?hd (cs := #[.int .i64 a1_0, .int .i64 a1_1, .int .i64 a1_2, .bool a1_3, .slice A1_4 l1_4.length c1_4]) (t := 39) ?hr ?_; (case hd => rfl); (case hg => rfl); (case hr => first | (go_simp; done) | (go_simp; rfl)); intro gb195 hg w34 hbox hb; have n0_ := am (bB (g := gb194) (o := .cells #[.int .i64 a0_0, .int .i64 a0_1, .int .i64 a0_2, .bool a0_3, .slice A0_4 l0_4.length c0_4] 39 (0, 0)) (by (with_reducible repeat apply dX); exact BK194.out) hb); have n1_ := am (bT (by repeat (first | (with_reducible first | exact HB.out | apply bA | apply bN | apply bD | refine bS ?_ GE194.out) | exact HB.out)) hb); have n2_ := am (hbox); have n3_ := am ((by rw [hg]; exact (bU (by repeat (first | (with_reducible first | exact HB.out | apply bA | apply bN | apply bD | refine bS ?_ GE194.out) | exact HB.out))) : w.heap.size ≤ gb195)); have n4_ := am ((by rw [hg]; exact (bU (by repeat (first | (with_reducible first | exact HB.out | apply bA | apply bN | apply bD | refine bS ?_ GE194.out) | exact HB.out))) : w.heap.size ≤ gb195)); have n5_ := am ((by rw [hg]; exact nL (bL (g := gb194) (o := .cells #[.int .i64 a0_0, .int .i64 a0_1, .int .i64 a0_2, .bool a0_3, .slice A0_4 l0_4.length c0_4] 39 (0, 0)) (by (with_reducible repeat apply dX); exact BK194.out)) : gb194 ≠ gb195)); have n6_ := am ((by rw [hg]; exact nG (bL (g := gb194) (o := .cells #[.int .i64 a0_0, .int .i64 a0_1, .int .i64 a0_2, .bool a0_3, .slice A0_4 l0_4.length c0_4] 39 (0, 0)) (by (with_reducible repeat apply dX); exact BK194.out)) : gb195 ≠ gb194)); clear BK194; clear HB; have BK194 := n0_; have HB := n1_; have BK195 := n2_; have GW195 := n3_; have GE195 := n4_; have NB194_195 := n5_; have NB195_194 := n6_; clear n0_ n1_ n2_ n3_ n4_ n5_ n6_; clear hb hbox hg; have hnb35 := NB194_195.out; have hnc35 := NB195_194.out; have hcz36_0 : w34.cell? ⟨gb194, 0, none⟩ = some (.int .i64 a0_0) := (bC BK194.out 0).trans rfl; have hcz36_1 : w34.cell? ⟨gb194, 1, none⟩ = some (.int .i64 a0_1) := (bC BK194.out 1).trans rfl; have hcz36_2 : w34.cell? ⟨gb194, 2, none⟩ = some (.int .i64 a0_2) := (bC BK194.out 2).trans rfl; have hcz36_3 : w34.cell? ⟨gb194, 3, none⟩ = some (.bool a0_3) := (bC BK194.out 3).trans rfl; have hcz36_4 : w34.cell? ⟨gb194, 4, none⟩ = some (.slice A0_4 l0_4.length c0_4) := (bC BK194.out 4).trans rfl; have hfz36_0 := bZ BK194.out 0; have hfz36_1 := bZ BK194.out 1; have hfz36_2 := bZ BK194.out 2; have hfz36_3 := bZ BK194.out 3; have hfz36_4 := bZ BK194.out 4) | ((with_reducible refine gate_callee (f := 29) rfl ?_); refine goesL_ (some 8) rfl rfl Try.func29 (by kernel_rfl) rfl #[.agg #[.int .i64 a0_0, .int .i64 a0_1, .int .i64 a0_2, .bool a0_3, .slice A0_4 l0_4.length c0_4]] rfl (by (try simp only [List.map_toArray, List.map_cons, List.map_nil]); first | done | rfl | (simp only [List.length_drop, List.length_take]; rfl)) ?_; (with_reducible refine (plane_Valid.calls k a0_0 a0_1 a0_2 a0_3 _ _ l0_4 t196 _ ?side1 ?side2 A3.out).mono ?_); (case side1 => repeat (first | exact (Kd.C_below HR0_4.out HB.out) | (with_reducible refine Kd.C_alloc ?_ _) | (with_reducible refine Kd.C_drewN ?_ _) | (with_reducible refine Kd.C_drew ?_))); (case side2 => exact HC0_4.out); rintro e w37 ⟨rfl, hb⟩; refine ⟨_, rfl, ?_⟩; have n0_ := am (bB (g := gb194) (o := .cells #[.int .i64 a0_0, .int .i64 a0_1, .int .i64 a0_2, .bool a0_3, .slice A0_4 l0_4.length c0_4] 39 (0, 0)) (by (with_reducible repeat apply dX); exact BK194.out) hb); have n1_ := am (bB (g := gb195) (o := .cells #[.int .i64 a1_0, .int .i64 a1_1, .int .i64 a1_2, .bool a1_3, .slice A1_4 l1_4.length c1_4] 39 (0, 0)) (by (with_reducible repeat apply dX); exact BK195.out) hb); have n2_ := am (bT (by repeat (first | (with_reducible first | exact HB.out | apply bA | apply bN | apply bD | refine bS ?_ GE194.out | refine bS ?_ GE195.out) | exact HB.out)) hb); clear BK194; clear BK195; clear HB; have BK194 := n0_; have BK195 := n1_; have HB := n2_; clear n0_ n1_ n2_; (try clear hb); (try clear hb2); (try clear hk); (try clear hi)))
  go_ret
  exact ⟨by first | rfl | (simp [errW_none, errW_some] <;> rfl) | (simp [*, errW_none, errW_some] <;> rfl), by repeat (first | (with_reducible first | exact HB.out | apply bA | apply bN | apply bD | refine bS ?_ GE194.out | refine bS ?_ GE195.out) | exact HB.out)⟩

end Go.Proofs.Ytdoikehkibefpaa.PPb
