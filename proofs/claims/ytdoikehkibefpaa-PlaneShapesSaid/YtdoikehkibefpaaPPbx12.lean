-- Laid by a program of this session (wip/tools/prx.py), over the kit's printer of walks; Lean checks it.
import Derived.Test.YtdoikehkibefpaaPPbx0
import Derived.Test.YtdoikehkibefpaaPPbx1
namespace Go.Proofs.Ytdoikehkibefpaa.PPb
open Go.RowKit Go.Proofs.YtdoikehkibefpaaW.PrintWords Go.Proofs.YtdoikehkibefpaaW.PrintLast Go.Proofs.YtdoikehkibefpaaW.PrintMore
open Go.Proofs.YtdoikehkibefpaaW.PrintWords renaming blk_far → bF, below_set → bS, blk_frozen → bZ, below_alloc → bA, pw_below_drewN → bN, below_drew1 → bD, blk_below → bB, blk_cell → bC, blk_set → bs, blk_lt → bL, blk_put → bP, below_step → bT, below_size → bU, box_event → bE, gate_dst → gD
open Go.Proofs.YtdoikehkibefpaaW.PrintWords.Kd renaming S_far → kF, S_types → kT, S_alloc → kA, S_drewN → kN, S_drew → kD
attribute [local go_sem] max2_int min2_int max_two min_two max_three min_three max_four min_four   -- for this text's walks alone
set_option linter.unusedVariables false
set_option linter.unusedSimpArgs false

attribute [local go_sem high] eqA26
/-! ### dailiesref06_Same: function 25 -/
mutual
def dailiesref06_Same.j0 : Nat → Bool → Int → Int → Int → Bool → List (List Int) → Int → Int → Int → Bool → List (List Int) → Option (Bool)
  | 0, _, _, _, _, _, _, _, _, _, _, _ => none
  | k + 1, x20, x231000, x231001, x231002, x231003, x231004, x232000, x232001, x232002, x232003, x232004 => if x20 = true then (some false) else (dailiesref06_Same.l0 k 0 x231000 x231001 x231002 x231003 x231004 x232000 x232001 x232002 x232003 x232004)
def dailiesref06_Same.l0 : Nat → Int → Int → Int → Int → Bool → List (List Int) → Int → Int → Int → Bool → List (List Int) → Option (Bool)
  | 0, _, _, _, _, _, _, _, _, _, _, _ => none
  | k + 1, x5, x231000, x231001, x231002, x231003, x231004, x232000, x232001, x232002, x232003, x232004 => if x5 < (x231004.length : Int) then (if 0 ≤ x5 then (if x5 < (x232004.length : Int) then (if ((rd_L1 x231004 x5).length : Int) = ((rd_L1 x232004 x5).length : Int) then (dailiesref06_Same.l1 k x5 0 x231000 x231001 x231002 x231003 x231004 x232000 x232001 x232002 x232003 x232004) else (some false)) else (none)) else (none)) else (some true)
def dailiesref06_Same.l1 : Nat → Int → Int → Int → Int → Int → Bool → List (List Int) → Int → Int → Int → Bool → List (List Int) → Option (Bool)
  | 0, _, _, _, _, _, _, _, _, _, _, _, _ => none
  | k + 1, x5, x6, x231000, x231001, x231002, x231003, x231004, x232000, x232001, x232002, x232003, x232004 => if 0 ≤ x5 then (if x5 < (x231004.length : Int) then (if x6 < ((rd_L1 x231004 x5).length : Int) then (if 0 ≤ x6 then (if x5 < (x232004.length : Int) then (if x6 < ((rd_L1 x232004 x5).length : Int) then (if (rd (rd_L1 x231004 x5) x6) = (rd (rd_L1 x232004 x5) x6) then (dailiesref06_Same.l1 k x5 (wrap64 (x6 + 1)) x231000 x231001 x231002 x231003 x231004 x232000 x232001 x232002 x232003 x232004) else (some false)) else (none)) else (none)) else (none)) else (dailiesref06_Same.l0 k (wrap64 (x5 + 1)) x231000 x231001 x231002 x231003 x231004 x232000 x232001 x232002 x232003 x232004)) else (none)) else (none)
end
def dailiesref06_Same.f (k : Nat) (a0_0 : Int) (a0_1 : Int) (a0_2 : Int) (a0_3 : Bool) (l0_4 : List (List Int)) (a1_0 : Int) (a1_1 : Int) (a1_2 : Int) (a1_3 : Bool) (l1_4 : List (List Int)) : Option (Bool) := if (!(a0_0 == a1_0) || (!(a0_1 == a1_1) || (!(a0_2 == a1_2) || (!(a0_3 == a1_3))))) = true then (dailiesref06_Same.j0 k true a0_0 a0_1 a0_2 a0_3 l0_4 a1_0 a1_1 a1_2 a1_3 l1_4) else (dailiesref06_Same.j0 k ((l0_4.length : Int) != (l1_4.length : Int)) a0_0 a0_1 a0_2 a0_3 l0_4 a1_0 a1_1 a1_2 a1_3 l1_4)
theorem dailiesref06_Same.mono_l : ∀ k, (∀ y0 y1 y2 y3 y4 y5 y6 y7 y8 y9 y10, LeO (dailiesref06_Same.j0 k y0 y1 y2 y3 y4 y5 y6 y7 y8 y9 y10) (dailiesref06_Same.j0 (k + 1) y0 y1 y2 y3 y4 y5 y6 y7 y8 y9 y10)) ∧ (∀ y0 y1 y2 y3 y4 y5 y6 y7 y8 y9 y10, LeO (dailiesref06_Same.l0 k y0 y1 y2 y3 y4 y5 y6 y7 y8 y9 y10) (dailiesref06_Same.l0 (k + 1) y0 y1 y2 y3 y4 y5 y6 y7 y8 y9 y10)) ∧ (∀ y0 y1 y2 y3 y4 y5 y6 y7 y8 y9 y10 y11, LeO (dailiesref06_Same.l1 k y0 y1 y2 y3 y4 y5 y6 y7 y8 y9 y10 y11) (dailiesref06_Same.l1 (k + 1) y0 y1 y2 y3 y4 y5 y6 y7 y8 y9 y10 y11))
  | 0 => ⟨fun _ _ _ _ _ _ _ _ _ _ _ r h => by simp [dailiesref06_Same.j0] at h, fun _ _ _ _ _ _ _ _ _ _ _ r h => by simp [dailiesref06_Same.l0] at h, fun _ _ _ _ _ _ _ _ _ _ _ _ r h => by simp [dailiesref06_Same.l1] at h⟩
  | k + 1 => by
    obtain ⟨ih0, ih1, ih2⟩ := dailiesref06_Same.mono_l k
    refine ⟨?_, ?_, ?_⟩
    · intro y0 y1 y2 y3 y4 y5 y6 y7 y8 y9 y10
      unfold dailiesref06_Same.j0
      repeat' first
      | (with_reducible exact ih0 _ _ _ _ _ _ _ _ _ _ _)
      | (with_reducible exact ih1 _ _ _ _ _ _ _ _ _ _ _)
      | (with_reducible exact ih2 _ _ _ _ _ _ _ _ _ _ _ _)
      | (with_reducible exact LeO.refl _)
      | (with_reducible exact LeO.none _)
      | (with_reducible refine LeO.ite ?_ ?_)
      | (with_reducible refine LeO.bind ?_ (fun _ => ?_))
      | exact ih0 _ _ _ _ _ _ _ _ _ _ _
      | exact ih1 _ _ _ _ _ _ _ _ _ _ _
      | exact ih2 _ _ _ _ _ _ _ _ _ _ _ _
      | exact LeO.none _
      | refine LeO.ite ?_ ?_
      | refine LeO.bind ?_ (fun _ => ?_)
    · intro y0 y1 y2 y3 y4 y5 y6 y7 y8 y9 y10
      unfold dailiesref06_Same.l0
      repeat' first
      | (with_reducible exact ih0 _ _ _ _ _ _ _ _ _ _ _)
      | (with_reducible exact ih1 _ _ _ _ _ _ _ _ _ _ _)
      | (with_reducible exact ih2 _ _ _ _ _ _ _ _ _ _ _ _)
      | (with_reducible exact LeO.refl _)
      | (with_reducible exact LeO.none _)
      | (with_reducible refine LeO.ite ?_ ?_)
      | (with_reducible refine LeO.bind ?_ (fun _ => ?_))
      | exact ih0 _ _ _ _ _ _ _ _ _ _ _
      | exact ih1 _ _ _ _ _ _ _ _ _ _ _
      | exact ih2 _ _ _ _ _ _ _ _ _ _ _ _
      | exact LeO.none _
      | refine LeO.ite ?_ ?_
      | refine LeO.bind ?_ (fun _ => ?_)
    · intro y0 y1 y2 y3 y4 y5 y6 y7 y8 y9 y10 y11
      unfold dailiesref06_Same.l1
      repeat' first
      | (with_reducible exact ih0 _ _ _ _ _ _ _ _ _ _ _)
      | (with_reducible exact ih1 _ _ _ _ _ _ _ _ _ _ _)
      | (with_reducible exact ih2 _ _ _ _ _ _ _ _ _ _ _ _)
      | (with_reducible exact LeO.refl _)
      | (with_reducible exact LeO.none _)
      | (with_reducible refine LeO.ite ?_ ?_)
      | (with_reducible refine LeO.bind ?_ (fun _ => ?_))
      | exact ih0 _ _ _ _ _ _ _ _ _ _ _
      | exact ih1 _ _ _ _ _ _ _ _ _ _ _
      | exact ih2 _ _ _ _ _ _ _ _ _ _ _ _
      | exact LeO.none _
      | refine LeO.ite ?_ ?_
      | refine LeO.bind ?_ (fun _ => ?_)
theorem dailiesref06_Same.mono : ∀ a0 a1 a2 a3 a4 a5 a6 a7 a8 a9 k, LeO (dailiesref06_Same.f k a0 a1 a2 a3 a4 a5 a6 a7 a8 a9) (dailiesref06_Same.f (k + 1) a0 a1 a2 a3 a4 a5 a6 a7 a8 a9) := by
  intro a0 a1 a2 a3 a4 a5 a6 a7 a8 a9 k
  obtain ⟨ih0, ih1, ih2⟩ := dailiesref06_Same.mono_l k
  unfold dailiesref06_Same.f
  repeat' first
      | (with_reducible exact ih0 _ _ _ _ _ _ _ _ _ _ _)
      | (with_reducible exact ih1 _ _ _ _ _ _ _ _ _ _ _)
      | (with_reducible exact ih2 _ _ _ _ _ _ _ _ _ _ _ _)
      | (with_reducible exact LeO.refl _)
      | (with_reducible exact LeO.none _)
      | (with_reducible refine LeO.ite ?_ ?_)
      | (with_reducible refine LeO.bind ?_ (fun _ => ?_))
      | exact ih0 _ _ _ _ _ _ _ _ _ _ _
      | exact ih1 _ _ _ _ _ _ _ _ _ _ _
      | exact ih2 _ _ _ _ _ _ _ _ _ _ _ _
      | exact LeO.none _
      | refine LeO.ite ?_ ?_
      | refine LeO.bind ?_ (fun _ => ?_)
set_option maxHeartbeats 8000000 in
set_option maxRecDepth 100000 in
theorem dailiesref06_Same.calls (k : Nat) (a0_0 : Int) (a0_1 : Int) (a0_2 : Int) (a0_3 : Bool) (A0_4 : Option Addr) (c0_4 : Nat) (l0_4 : List (List Int)) (a1_0 : Int) (a1_1 : Int) (a1_2 : Int) (a1_3 : Bool) (A1_4 : Option Addr) (c1_4 : Nat) (l1_4 : List (List Int)) (r : Bool) (w : World) (hr0_4 : Kd.C (Kd.slice 72 (Kd.int .u16)) w A0_4 l0_4.length l0_4) (hc0_4 : l0_4.length ≤ c0_4) (hr1_4 : Kd.C (Kd.slice 72 (Kd.int .u16)) w A1_4 l1_4.length l1_4) (hc1_4 : l1_4.length ≤ c1_4) (h : dailiesref06_Same.f k a0_0 a0_1 a0_2 a0_3 l0_4 a1_0 a1_1 a1_2 a1_3 l1_4 = some r) :
    Calls Try.prog 25 #[.agg #[.int .i64 a0_0, .int .i64 a0_1, .int .i64 a0_2, .bool a0_3, .slice A0_4 l0_4.length c0_4], .agg #[.int .i64 a1_0, .int .i64 a1_1, .int .i64 a1_2, .bool a1_3, .slice A1_4 l1_4.length c1_4]] w fun e w' => e = .returned (.bool r) ∧ Below w.heap.size w w' := by
  have hu39 := Try.underlying39
  have hu26 := Try.underlying26
  have HR0_4 := am hr0_4
  have HC0_4 := am hc0_4
  clear hr0_4 hc0_4
  have HR1_4 := am hr1_4
  have HC1_4 := am hc1_4
  clear hr1_4 hc1_4
  have HB := am (Below.refl w.heap.size w)
  have H : (if (!(a0_0 == a1_0) || (!(a0_1 == a1_1) || (!(a0_2 == a1_2) || (!(a0_3 == a1_3))))) = true then (dailiesref06_Same.j0 k true a0_0 a0_1 a0_2 a0_3 l0_4 a1_0 a1_1 a1_2 a1_3 l1_4) else (dailiesref06_Same.j0 k ((l0_4.length : Int) != (l1_4.length : Int)) a0_0 a0_1 a0_2 a0_3 l0_4 a1_0 a1_1 a1_2 a1_3 l1_4)) = some r := h
  clear h
  have HC3 := am H
  clear H
  go_enter Try.func25, Try.ntmps25
  go_upto_region 1 with (first | ((with_reducible refine gD (N := 2) rfl ?_); (try (refine gate_guard (by rfl) ?_; dsimp only)); refine bE ?hg (N := 2) ?hd (cs := #[.int .i64 a0_0, .int .i64 a0_1, .int .i64 a0_2, .bool a0_3, .slice A0_4 l0_4.length c0_4]) (t := 39) ?hr ?_; (case hd => rfl); (case hg => rfl); (case hr => first | (go_simp; done) | (go_simp; rfl)); intro gb230 hg w4 hbox hb; have n0_ := am (bT (by repeat (first | (with_reducible first | exact HB.out | apply bA | apply bN | apply bD) | exact HB.out)) hb); have n1_ := am (hbox); have n2_ := am ((by rw [hg]; exact (bU (by repeat (first | (with_reducible first | exact HB.out | apply bA | apply bN | apply bD) | exact HB.out))) : w.heap.size ≤ gb230)); have n3_ := am ((by rw [hg]; exact (bU (by repeat (first | (with_reducible first | exact HB.out | apply bA | apply bN | apply bD) | exact HB.out))) : w.heap.size ≤ gb230)); clear HB; have HB := n0_; have BK230 := n1_; have GW230 := n2_; have GE230 := n3_; clear n0_ n1_ n2_ n3_; clear hb hbox hg) | ((with_reducible refine gD (N := 3) rfl ?_); (try (refine gate_guard (by rfl) ?_; dsimp only)); refine bE ?hg (N := 3) ?hd (cs := #[.int .i64 a1_0, .int .i64 a1_1, .int .i64 a1_2, .bool a1_3, .slice A1_4 l1_4.length c1_4]) (t := 39) ?hr ?_; (case hd => rfl); (case hg => rfl); (case hr => first | (go_simp; done) | (go_simp; rfl)); intro gb231 hg w5 hbox hb; have n0_ := am (bB (g := gb230) (o := .cells #[.int .i64 a0_0, .int .i64 a0_1, .int .i64 a0_2, .bool a0_3, .slice A0_4 l0_4.length c0_4] 39 (0, 0)) (by (with_reducible repeat apply dX); exact BK230.out) hb); have n1_ := am (bT (by repeat (first | (with_reducible first | exact HB.out | apply bA | apply bN | apply bD | refine bS ?_ GE230.out) | exact HB.out)) hb); have n2_ := am (hbox); have n3_ := am ((by rw [hg]; exact (bU (by repeat (first | (with_reducible first | exact HB.out | apply bA | apply bN | apply bD | refine bS ?_ GE230.out) | exact HB.out))) : w.heap.size ≤ gb231)); have n4_ := am ((by rw [hg]; exact (bU (by repeat (first | (with_reducible first | exact HB.out | apply bA | apply bN | apply bD | refine bS ?_ GE230.out) | exact HB.out))) : w.heap.size ≤ gb231)); have n5_ := am ((by rw [hg]; exact nL (bL (g := gb230) (o := .cells #[.int .i64 a0_0, .int .i64 a0_1, .int .i64 a0_2, .bool a0_3, .slice A0_4 l0_4.length c0_4] 39 (0, 0)) (by (with_reducible repeat apply dX); exact BK230.out)) : gb230 ≠ gb231)); have n6_ := am ((by rw [hg]; exact nG (bL (g := gb230) (o := .cells #[.int .i64 a0_0, .int .i64 a0_1, .int .i64 a0_2, .bool a0_3, .slice A0_4 l0_4.length c0_4] 39 (0, 0)) (by (with_reducible repeat apply dX); exact BK230.out)) : gb231 ≠ gb230)); clear BK230; clear HB; have BK230 := n0_; have HB := n1_; have BK231 := n2_; have GW231 := n3_; have GE231 := n4_; have NB230_231 := n5_; have NB231_230 := n6_; clear n0_ n1_ n2_ n3_ n4_ n5_ n6_; clear hb hbox hg))
  repeat (go_quiet (first | ((with_reducible refine gD (N := 2) rfl ?_); (try (refine gate_guard (by rfl) ?_; dsimp only)); refine bE ?hg (N := 2) ?hd (cs := #[.int .i64 a0_0, .int .i64 a0_1, .int .i64 a0_2, .bool a0_3, .slice A0_4 l0_4.length c0_4]) (t := 39) ?hr ?_; (case hd => rfl); (case hg => rfl); (case hr => first | (go_simp; done) | (go_simp; rfl)); intro gb230 hg w4 hbox hb; have n0_ := am (bT (by repeat (first | (with_reducible first | exact HB.out | apply bA | apply bN | apply bD) | exact HB.out)) hb); have n1_ := am (hbox); have n2_ := am ((by rw [hg]; exact (bU (by repeat (first | (with_reducible first | exact HB.out | apply bA | apply bN | apply bD) | exact HB.out))) : w.heap.size ≤ gb230)); have n3_ := am ((by rw [hg]; exact (bU (by repeat (first | (with_reducible first | exact HB.out | apply bA | apply bN | apply bD) | exact HB.out))) : w.heap.size ≤ gb230)); clear HB; have HB := n0_; have BK230 := n1_; have GW230 := n2_; have GE230 := n3_; clear n0_ n1_ n2_ n3_; clear hb hbox hg) | ((with_reducible refine gD (N := 3) rfl ?_); (try (refine gate_guard (by rfl) ?_; dsimp only)); refine bE ?hg (N := 3) ?hd (cs := #[.int .i64 a1_0, .int .i64 a1_1, .int .i64 a1_2, .bool a1_3, .slice A1_4 l1_4.length c1_4]) (t := 39) ?hr ?_; (case hd => rfl); (case hg => rfl); (case hr => first | (go_simp; done) | (go_simp; rfl)); intro gb231 hg w5 hbox hb; have n0_ := am (bB (g := gb230) (o := .cells #[.int .i64 a0_0, .int .i64 a0_1, .int .i64 a0_2, .bool a0_3, .slice A0_4 l0_4.length c0_4] 39 (0, 0)) (by (with_reducible repeat apply dX); exact BK230.out) hb); have n1_ := am (bT (by repeat (first | (with_reducible first | exact HB.out | apply bA | apply bN | apply bD | refine bS ?_ GE230.out) | exact HB.out)) hb); have n2_ := am (hbox); have n3_ := am ((by rw [hg]; exact (bU (by repeat (first | (with_reducible first | exact HB.out | apply bA | apply bN | apply bD | refine bS ?_ GE230.out) | exact HB.out))) : w.heap.size ≤ gb231)); have n4_ := am ((by rw [hg]; exact (bU (by repeat (first | (with_reducible first | exact HB.out | apply bA | apply bN | apply bD | refine bS ?_ GE230.out) | exact HB.out))) : w.heap.size ≤ gb231)); have n5_ := am ((by rw [hg]; exact nL (bL (g := gb230) (o := .cells #[.int .i64 a0_0, .int .i64 a0_1, .int .i64 a0_2, .bool a0_3, .slice A0_4 l0_4.length c0_4] 39 (0, 0)) (by (with_reducible repeat apply dX); exact BK230.out)) : gb230 ≠ gb231)); have n6_ := am ((by rw [hg]; exact nG (bL (g := gb230) (o := .cells #[.int .i64 a0_0, .int .i64 a0_1, .int .i64 a0_2, .bool a0_3, .slice A0_4 l0_4.length c0_4] 39 (0, 0)) (by (with_reducible repeat apply dX); exact BK230.out)) : gb231 ≠ gb230)); clear BK230; clear HB; have BK230 := n0_; have HB := n1_; have BK231 := n2_; have GW231 := n3_; have GE231 := n4_; have NB230_231 := n5_; have NB231_230 := n6_; clear n0_ n1_ n2_ n3_ n4_ n5_ n6_; clear hb hbox hg)); go_upto_region 1 with (first | ((with_reducible refine gD (N := 2) rfl ?_); (try (refine gate_guard (by rfl) ?_; dsimp only)); refine bE ?hg (N := 2) ?hd (cs := #[.int .i64 a0_0, .int .i64 a0_1, .int .i64 a0_2, .bool a0_3, .slice A0_4 l0_4.length c0_4]) (t := 39) ?hr ?_; (case hd => rfl); (case hg => rfl); (case hr => first | (go_simp; done) | (go_simp; rfl)); intro gb230 hg w4 hbox hb; have n0_ := am (bT (by repeat (first | (with_reducible first | exact HB.out | apply bA | apply bN | apply bD) | exact HB.out)) hb); have n1_ := am (hbox); have n2_ := am ((by rw [hg]; exact (bU (by repeat (first | (with_reducible first | exact HB.out | apply bA | apply bN | apply bD) | exact HB.out))) : w.heap.size ≤ gb230)); have n3_ := am ((by rw [hg]; exact (bU (by repeat (first | (with_reducible first | exact HB.out | apply bA | apply bN | apply bD) | exact HB.out))) : w.heap.size ≤ gb230)); clear HB; have HB := n0_; have BK230 := n1_; have GW230 := n2_; have GE230 := n3_; clear n0_ n1_ n2_ n3_; clear hb hbox hg) | ((with_reducible refine gD (N := 3) rfl ?_); (try (refine gate_guard (by rfl) ?_; dsimp only)); refine bE ?hg (N := 3) ?hd (cs := #[.int .i64 a1_0, .int .i64 a1_1, .int .i64 a1_2, .bool a1_3, .slice A1_4 l1_4.length c1_4]) (t := 39) ?hr ?_; (case hd => rfl); (case hg => rfl); (case hr => first | (go_simp; done) | (go_simp; rfl)); intro gb231 hg w5 hbox hb; have n0_ := am (bB (g := gb230) (o := .cells #[.int .i64 a0_0, .int .i64 a0_1, .int .i64 a0_2, .bool a0_3, .slice A0_4 l0_4.length c0_4] 39 (0, 0)) (by (with_reducible repeat apply dX); exact BK230.out) hb); have n1_ := am (bT (by repeat (first | (with_reducible first | exact HB.out | apply bA | apply bN | apply bD | refine bS ?_ GE230.out) | exact HB.out)) hb); have n2_ := am (hbox); have n3_ := am ((by rw [hg]; exact (bU (by repeat (first | (with_reducible first | exact HB.out | apply bA | apply bN | apply bD | refine bS ?_ GE230.out) | exact HB.out))) : w.heap.size ≤ gb231)); have n4_ := am ((by rw [hg]; exact (bU (by repeat (first | (with_reducible first | exact HB.out | apply bA | apply bN | apply bD | refine bS ?_ GE230.out) | exact HB.out))) : w.heap.size ≤ gb231)); have n5_ := am ((by rw [hg]; exact nL (bL (g := gb230) (o := .cells #[.int .i64 a0_0, .int .i64 a0_1, .int .i64 a0_2, .bool a0_3, .slice A0_4 l0_4.length c0_4] 39 (0, 0)) (by (with_reducible repeat apply dX); exact BK230.out)) : gb230 ≠ gb231)); have n6_ := am ((by rw [hg]; exact nG (bL (g := gb230) (o := .cells #[.int .i64 a0_0, .int .i64 a0_1, .int .i64 a0_2, .bool a0_3, .slice A0_4 l0_4.length c0_4] 39 (0, 0)) (by (with_reducible repeat apply dX); exact BK230.out)) : gb231 ≠ gb230)); clear BK230; clear HB; have BK230 := n0_; have HB := n1_; have BK231 := n2_; have GW231 := n3_; have GE231 := n4_; have NB230_231 := n5_; have NB231_230 := n6_; clear n0_ n1_ n2_ n3_ n4_ n5_ n6_; clear hb hbox hg)))
  (try simp only [Act.put, List.setIfInBounds_toArray, List.set_cons_zero, List.set_cons_succ])
  go_cut [20] (fun v20 wc => ∃ (kq : Nat) (x20_2 : Bool), v20 = .bool x20_2 ∧ Aside0 (dailiesref06_Same.j0 kq x20_2 a0_0 a0_1 a0_2 a0_3 l0_4 a1_0 a1_1 a1_2 a1_3 l1_4 = some r) ∧ Aside0 (kq ≤ k) ∧ Aside0 (wc.heap[gb230]? = some (.cells #[.int .i64 a0_0, .int .i64 a0_1, .int .i64 a0_2, .bool a0_3, (.slice A0_4 l0_4.length c0_4)] 39 (0, 0))) ∧ Aside0 (wc.heap[gb231]? = some (.cells #[.int .i64 a1_0, .int .i64 a1_1, .int .i64 a1_2, .bool a1_3, (.slice A1_4 l1_4.length c1_4)] 39 (0, 0))) ∧ Aside0 (Below w.heap.size w wc))
  case first =>
    have H := HC3.out
    clear HC3
    by_cases c6 : (!(a0_0 == a1_0) || (!(a0_1 == a1_1) || (!(a0_2 == a1_2) || (!(a0_3 == a1_3))))) = true
    · rw [if_pos c6] at H
      have c6b0 : (!(a0_0 == a1_0) || (!(a0_1 == a1_1) || (!(a0_2 == a1_2) || (!(a0_3 == a1_3))))) = true := c6
      clear c6
      (first | rw [c6b0] | (simp only [i64_w, i32_w]; rw [c6b0]) | skip)
      have H' := am H
      clear H
      have hnb7 := NB230_231.out
      have hnc7 := NB231_230.out
      have hcz8_0 : w5.cell? ⟨gb230, 0, none⟩ = some (.int .i64 a0_0) := (bC BK230.out 0).trans rfl
      have hcz8_1 : w5.cell? ⟨gb230, 1, none⟩ = some (.int .i64 a0_1) := (bC BK230.out 1).trans rfl
      have hcz8_2 : w5.cell? ⟨gb230, 2, none⟩ = some (.int .i64 a0_2) := (bC BK230.out 2).trans rfl
      have hcz8_3 : w5.cell? ⟨gb230, 3, none⟩ = some (.bool a0_3) := (bC BK230.out 3).trans rfl
      have hcz8_4 : w5.cell? ⟨gb230, 4, none⟩ = some (.slice A0_4 l0_4.length c0_4) := (bC BK230.out 4).trans rfl
      have hfz8_0 := bZ BK230.out 0
      have hfz8_1 := bZ BK230.out 1
      have hfz8_2 := bZ BK230.out 2
      have hfz8_3 := bZ BK230.out 3
      have hfz8_4 := bZ BK230.out 4
      have hcz9_0 : w5.cell? ⟨gb231, 0, none⟩ = some (.int .i64 a1_0) := (bC BK231.out 0).trans rfl
      have hcz9_1 : w5.cell? ⟨gb231, 1, none⟩ = some (.int .i64 a1_1) := (bC BK231.out 1).trans rfl
      have hcz9_2 : w5.cell? ⟨gb231, 2, none⟩ = some (.int .i64 a1_2) := (bC BK231.out 2).trans rfl
      have hcz9_3 : w5.cell? ⟨gb231, 3, none⟩ = some (.bool a1_3) := (bC BK231.out 3).trans rfl
      have hcz9_4 : w5.cell? ⟨gb231, 4, none⟩ = some (.slice A1_4 l1_4.length c1_4) := (bC BK231.out 4).trans rfl
      have hfz9_0 := bZ BK231.out 0
      have hfz9_1 := bZ BK231.out 1
      have hfz9_2 := bZ BK231.out 2
      have hfz9_3 := bZ BK231.out 3
      have hfz9_4 := bZ BK231.out 4
      go_wp2
      repeat (go_quiet (fail); try go_wp2)
      go_meet
      case rel => exact ⟨_, (true), (by first | rfl | (simp; done) | (simp [*]; done)), H', ⟨by first | omega | exact Nat.le_refl _⟩, ⟨by (with_reducible repeat apply dX); exact BK230.out⟩, ⟨by (with_reducible repeat apply dX); exact BK231.out⟩, ⟨by repeat (first | (with_reducible first | exact HB.out | apply bA | apply bN | apply bD | refine bS ?_ GE230.out | refine bS ?_ GE231.out) | exact HB.out)⟩⟩
    · rw [if_neg c6] at H
      have c6b0 : (!(a0_0 == a1_0) || (!(a0_1 == a1_1) || (!(a0_2 == a1_2) || (!(a0_3 == a1_3))))) = false := by simpa using c6
      clear c6
      (first | rw [c6b0] | (simp only [i64_w, i32_w]; rw [c6b0]) | skip)
      have H' := am H
      clear H
      have hnb10 := NB230_231.out
      have hnc10 := NB231_230.out
      have hcz11_0 : w5.cell? ⟨gb230, 0, none⟩ = some (.int .i64 a0_0) := (bC BK230.out 0).trans rfl
      have hcz11_1 : w5.cell? ⟨gb230, 1, none⟩ = some (.int .i64 a0_1) := (bC BK230.out 1).trans rfl
      have hcz11_2 : w5.cell? ⟨gb230, 2, none⟩ = some (.int .i64 a0_2) := (bC BK230.out 2).trans rfl
      have hcz11_3 : w5.cell? ⟨gb230, 3, none⟩ = some (.bool a0_3) := (bC BK230.out 3).trans rfl
      have hcz11_4 : w5.cell? ⟨gb230, 4, none⟩ = some (.slice A0_4 l0_4.length c0_4) := (bC BK230.out 4).trans rfl
      have hfz11_0 := bZ BK230.out 0
      have hfz11_1 := bZ BK230.out 1
      have hfz11_2 := bZ BK230.out 2
      have hfz11_3 := bZ BK230.out 3
      have hfz11_4 := bZ BK230.out 4
      have hcz12_0 : w5.cell? ⟨gb231, 0, none⟩ = some (.int .i64 a1_0) := (bC BK231.out 0).trans rfl
      have hcz12_1 : w5.cell? ⟨gb231, 1, none⟩ = some (.int .i64 a1_1) := (bC BK231.out 1).trans rfl
      have hcz12_2 : w5.cell? ⟨gb231, 2, none⟩ = some (.int .i64 a1_2) := (bC BK231.out 2).trans rfl
      have hcz12_3 : w5.cell? ⟨gb231, 3, none⟩ = some (.bool a1_3) := (bC BK231.out 3).trans rfl
      have hcz12_4 : w5.cell? ⟨gb231, 4, none⟩ = some (.slice A1_4 l1_4.length c1_4) := (bC BK231.out 4).trans rfl
      have hfz12_0 := bZ BK231.out 0
      have hfz12_1 := bZ BK231.out 1
      have hfz12_2 := bZ BK231.out 2
      have hfz12_3 := bZ BK231.out 3
      have hfz12_4 := bZ BK231.out 4
      go_wp2
      repeat (go_quiet (fail); try go_wp2)
      go_meet
      case rel => exact ⟨_, (((l0_4.length : Int) != (l1_4.length : Int))), (by first | rfl | (simp; done) | (simp [*]; done)), H', ⟨by first | omega | exact Nat.le_refl _⟩, ⟨by (with_reducible repeat apply dX); exact BK230.out⟩, ⟨by (with_reducible repeat apply dX); exact BK231.out⟩, ⟨by repeat (first | (with_reducible first | exact HB.out | apply bA | apply bN | apply bD | refine bS ?_ GE230.out | refine bS ?_ GE231.out) | exact HB.out)⟩⟩
  case rest =>
    clear HC3
    try clear c1
    try clear c2
    try clear p2
    try clear c6
    try clear c6b0
    try clear c7
    try clear c10
    try clear hcz11_0
    try clear hcz11_1
    try clear hcz11_2
    try clear hcz11_3
    try clear hcz11_4
    try clear hcz12_0
    try clear hcz12_1
    try clear hcz12_2
    try clear hcz12_3
    try clear hcz12_4
    try clear hcz8_0
    try clear hcz8_1
    try clear hcz8_2
    try clear hcz8_3
    try clear hcz8_4
    try clear hcz9_0
    try clear hcz9_1
    try clear hcz9_2
    try clear hcz9_3
    try clear hcz9_4
    try clear hfz11_0
    try clear hfz11_1
    try clear hfz11_2
    try clear hfz11_3
    try clear hfz11_4
    try clear hfz12_0
    try clear hfz12_1
    try clear hfz12_2
    try clear hfz12_3
    try clear hfz12_4
    try clear hfz8_0
    try clear hfz8_1
    try clear hfz8_2
    try clear hfz8_3
    try clear hfz8_4
    try clear hfz9_0
    try clear hfz9_1
    try clear hfz9_2
    try clear hfz9_3
    try clear hfz9_4
    obtain ⟨kq, x20_2, rfl, HA, HJ2, BK230, BK231, HB⟩ := hcut
    cases kq with
    | zero => exact absurd HA.out (by simp [dailiesref06_Same.j0])
    | succ kj2 =>
      have H := HA.out
      clear HA
      simp only [dailiesref06_Same.j0] at H
      by_cases c13 : x20_2 = true
      · subst c13
        have H1 : (some false) = some r := by rw [if_pos rfl] at H; exact H
        clear H
        have H := H1
        clear H1
        obtain rfl := Option.some.inj H
        go_wp2
        repeat (go_quiet (fail); try go_wp2)
        go_ret
        exact ⟨by first | rfl | (simp [errW_none, errW_some] <;> rfl) | (simp [*, errW_none, errW_some] <;> rfl), by repeat (first | (with_reducible first | exact HB.out | apply bA | apply bN | apply bD | refine bS ?_ GE230.out | refine bS ?_ GE231.out) | exact HB.out)⟩
      · replace c13 := Bool.eq_false_iff.mpr c13
        subst c13
        have H1 : (dailiesref06_Same.l0 kj2 0 a0_0 a0_1 a0_2 a0_3 l0_4 a1_0 a1_1 a1_2 a1_3 l1_4) = some r := by rw [if_neg (show ¬ (false = true) by decide)] at H; exact H
        clear H
        have H := H1
        clear H1
        have H' := am H
        clear H
        go_wp2
        repeat (go_quiet (fail); try go_wp2)
        go_loopg [5] kj2 (fun kq v5 w' => ∃ (x5_2 : Int), v5 = .int .i64 x5_2 ∧ Aside0 (dailiesref06_Same.l0 kq x5_2 a0_0 a0_1 a0_2 a0_3 l0_4 a1_0 a1_1 a1_2 a1_3 l1_4 = some r) ∧ Aside0 (kq ≤ kj2) ∧ Aside0 (w'.heap[gb230]? = some (.cells #[.int .i64 a0_0, .int .i64 a0_1, .int .i64 a0_2, .bool a0_3, (.slice A0_4 l0_4.length c0_4)] 39 (0, 0))) ∧ Aside0 (w'.heap[gb231]? = some (.cells #[.int .i64 a1_0, .int .i64 a1_1, .int .i64 a1_2, .bool a1_3, (.slice A1_4 l1_4.length c1_4)] 39 (0, 0))) ∧ Aside0 (Below w.heap.size w w'))
        case atStart => exact ⟨(0), (by first | rfl | (simp; done) | (simp [*]; done)), H', ⟨Nat.le_refl _⟩, ⟨by (with_reducible repeat apply dX); exact BK230.out⟩, ⟨by (with_reducible repeat apply dX); exact BK231.out⟩, ⟨by repeat (first | (with_reducible first | exact HB.out | apply bA | apply bN | apply bD | refine bS ?_ GE230.out | refine bS ?_ GE231.out) | exact HB.out)⟩⟩
        case round =>
          clear H'
          try clear c1
          try clear c2
          try clear p2
          try clear c6
          try clear c6b0
          try clear c7
          try clear c10
          try clear c13
          try clear hcz11_0
          try clear hcz11_1
          try clear hcz11_2
          try clear hcz11_3
          try clear hcz11_4
          try clear hcz12_0
          try clear hcz12_1
          try clear hcz12_2
          try clear hcz12_3
          try clear hcz12_4
          try clear hcz8_0
          try clear hcz8_1
          try clear hcz8_2
          try clear hcz8_3
          try clear hcz8_4
          try clear hcz9_0
          try clear hcz9_1
          try clear hcz9_2
          try clear hcz9_3
          try clear hcz9_4
          try clear hfz11_0
          try clear hfz11_1
          try clear hfz11_2
          try clear hfz11_3
          try clear hfz11_4
          try clear hfz12_0
          try clear hfz12_1
          try clear hfz12_2
          try clear hfz12_3
          try clear hfz12_4
          try clear hfz8_0
          try clear hfz8_1
          try clear hfz8_2
          try clear hfz8_3
          try clear hfz8_4
          try clear hfz9_0
          try clear hfz9_1
          try clear hfz9_2
          try clear hfz9_3
          try clear hfz9_4
          try clear p2
          obtain ⟨x5_2, rfl, HA, HK2, BK230, BK231, HB⟩ := hrel
          cases gk with
          | zero => exact absurd HA.out (by simp [dailiesref06_Same.l0])
          | succ k2 =>
            have H := HA.out
            clear HA
            simp only [dailiesref06_Same.l0] at H
            by_cases c14 : x5_2 < (l0_4.length : Int)
            · rw [if_pos c14] at H
              have c14b0 : decide (x5_2 < (l0_4.length : Int)) = true := decide_eq_true c14
              clear c14
              by_cases c15 : 0 ≤ x5_2
              · rw [if_pos c15] at H
                have c15b0 : decide (0 ≤ x5_2) = true := decide_eq_true c15
                clear c15
                by_cases c16 : x5_2 < (l1_4.length : Int)
                · rw [if_pos c16] at H
                  have c16b0 : decide (x5_2 < (l1_4.length : Int)) = true := decide_eq_true c16
                  clear c16
                  by_cases c17 : ((rd_L1 l0_4 x5_2).length : Int) = ((rd_L1 l1_4 x5_2).length : Int)
                  · rw [if_pos c17] at H
                    have c17b0 : (((rd_L1 l0_4 x5_2).length : Int) == ((rd_L1 l1_4 x5_2).length : Int)) = true := beq_iff_eq.mpr c17
                    have c17b1 : (((rd_L1 l0_4 x5_2).length : Int) != ((rd_L1 l1_4 x5_2).length : Int)) = false := bne_eq_false_iff_eq.mpr c17
                    have c17b2 : ((rd_L1 l0_4 x5_2).length == (rd_L1 l1_4 x5_2).length) = true := by first | simpa using c17 | (simp at c17 ⊢; omega)
                    clear c17
                    have H' := am H
                    clear H
                    have hnb18 := NB230_231.out
                    have hnc18 := NB231_230.out
                    have hcz19_0 : wr.cell? ⟨gb230, 0, none⟩ = some (.int .i64 a0_0) := (bC BK230.out 0).trans rfl
                    have hcz19_1 : wr.cell? ⟨gb230, 1, none⟩ = some (.int .i64 a0_1) := (bC BK230.out 1).trans rfl
                    have hcz19_2 : wr.cell? ⟨gb230, 2, none⟩ = some (.int .i64 a0_2) := (bC BK230.out 2).trans rfl
                    have hcz19_3 : wr.cell? ⟨gb230, 3, none⟩ = some (.bool a0_3) := (bC BK230.out 3).trans rfl
                    have hcz19_4 : wr.cell? ⟨gb230, 4, none⟩ = some (.slice A0_4 l0_4.length c0_4) := (bC BK230.out 4).trans rfl
                    have hfz19_0 := bZ BK230.out 0
                    have hfz19_1 := bZ BK230.out 1
                    have hfz19_2 := bZ BK230.out 2
                    have hfz19_3 := bZ BK230.out 3
                    have hfz19_4 := bZ BK230.out 4
                    have p232 : 0 ≤ (x5_2 : Int) := of_decide_eq_true (by first | (with_reducible assumption) | assumption)
                    have q232 : x5_2 < (l0_4.length : Int) := of_decide_eq_true (by first | (with_reducible assumption) | assumption)
                    obtain ⟨ad232, A232_0, c232_0, e232, hx232_0, hl232_0, hi232_0⟩ := at_L1 HR0_4.out x5_2 p232 q232
                    cases e232
                    replace hx232_0 := (HB.out.cell (World.block_lt_of_cell? w _ hx232_0)).trans hx232_0
                    have HR232_0 := am hi232_0
                    have HC232_0 := am hl232_0
                    clear hi232_0 hl232_0
                    replace p232 := eq_true p232
                    replace q232 := eq_true q232
                    have hcz20_0 : wr.cell? ⟨gb231, 0, none⟩ = some (.int .i64 a1_0) := (bC BK231.out 0).trans rfl
                    have hcz20_1 : wr.cell? ⟨gb231, 1, none⟩ = some (.int .i64 a1_1) := (bC BK231.out 1).trans rfl
                    have hcz20_2 : wr.cell? ⟨gb231, 2, none⟩ = some (.int .i64 a1_2) := (bC BK231.out 2).trans rfl
                    have hcz20_3 : wr.cell? ⟨gb231, 3, none⟩ = some (.bool a1_3) := (bC BK231.out 3).trans rfl
                    have hcz20_4 : wr.cell? ⟨gb231, 4, none⟩ = some (.slice A1_4 l1_4.length c1_4) := (bC BK231.out 4).trans rfl
                    have hfz20_0 := bZ BK231.out 0
                    have hfz20_1 := bZ BK231.out 1
                    have hfz20_2 := bZ BK231.out 2
                    have hfz20_3 := bZ BK231.out 3
                    have hfz20_4 := bZ BK231.out 4
                    have p233 : 0 ≤ (x5_2 : Int) := of_decide_eq_true (by first | (with_reducible assumption) | assumption)
                    have q233 : x5_2 < (l1_4.length : Int) := of_decide_eq_true (by first | (with_reducible assumption) | assumption)
                    obtain ⟨ad233, A233_0, c233_0, e233, hx233_0, hl233_0, hi233_0⟩ := at_L1 HR1_4.out x5_2 p233 q233
                    cases e233
                    replace hx233_0 := (HB.out.cell (World.block_lt_of_cell? w _ hx233_0)).trans hx233_0
                    have HR233_0 := am hi233_0
                    have HC233_0 := am hl233_0
                    clear hi233_0 hl233_0
                    replace p233 := eq_true p233
                    replace q233 := eq_true q233
                    go_wp2
                    repeat (go_quiet (fail); try go_wp2)
                    go_loopg [6] k2 (fun kq v6 w' => ∃ (x6_3 : Int), v6 = .int .i64 x6_3 ∧ Aside0 (dailiesref06_Same.l1 kq x5_2 x6_3 a0_0 a0_1 a0_2 a0_3 l0_4 a1_0 a1_1 a1_2 a1_3 l1_4 = some r) ∧ Aside0 (kq ≤ k2) ∧ Aside0 (w'.heap[gb230]? = some (.cells #[.int .i64 a0_0, .int .i64 a0_1, .int .i64 a0_2, .bool a0_3, (.slice (some ad232) l0_4.length c0_4)] 39 (0, 0))) ∧ Aside0 (w'.heap[gb231]? = some (.cells #[.int .i64 a1_0, .int .i64 a1_1, .int .i64 a1_2, .bool a1_3, (.slice (some ad233) l1_4.length c1_4)] 39 (0, 0))) ∧ Aside0 (Below w.heap.size w w'))
                    case atStart => exact ⟨(0), (by first | rfl | (simp; done) | (simp [*]; done)), H', ⟨Nat.le_refl _⟩, ⟨by (with_reducible repeat apply dX); exact BK230.out⟩, ⟨by (with_reducible repeat apply dX); exact BK231.out⟩, ⟨by repeat (first | (with_reducible first | exact HB.out | apply bA | apply bN | apply bD | refine bS ?_ GE230.out | refine bS ?_ GE231.out) | exact HB.out)⟩⟩
                    case round =>
                      clear H'
                      try clear c1
                      try clear c2
                      try clear p2
                      try clear q2
                      try clear hx2
                      try clear c6
                      try clear c6b0
                      try clear c7
                      try clear c10
                      try clear c13
                      try clear c14
                      try clear c14b0
                      try clear c15
                      try clear c15b0
                      try clear c16
                      try clear c16b0
                      try clear c17
                      try clear c17b0
                      try clear c17b1
                      try clear c17b2
                      try clear c18
                      try clear hcz11_0
                      try clear hcz11_1
                      try clear hcz11_2
                      try clear hcz11_3
                      try clear hcz11_4
                      try clear hcz12_0
                      try clear hcz12_1
                      try clear hcz12_2
                      try clear hcz12_3
                      try clear hcz12_4
                      try clear hcz19_0
                      try clear hcz19_1
                      try clear hcz19_2
                      try clear hcz19_3
                      try clear hcz19_4
                      try clear hcz20_0
                      try clear hcz20_1
                      try clear hcz20_2
                      try clear hcz20_3
                      try clear hcz20_4
                      try clear hcz8_0
                      try clear hcz8_1
                      try clear hcz8_2
                      try clear hcz8_3
                      try clear hcz8_4
                      try clear hcz9_0
                      try clear hcz9_1
                      try clear hcz9_2
                      try clear hcz9_3
                      try clear hcz9_4
                      try clear hfz11_0
                      try clear hfz11_1
                      try clear hfz11_2
                      try clear hfz11_3
                      try clear hfz11_4
                      try clear hfz12_0
                      try clear hfz12_1
                      try clear hfz12_2
                      try clear hfz12_3
                      try clear hfz12_4
                      try clear hfz19_0
                      try clear hfz19_1
                      try clear hfz19_2
                      try clear hfz19_3
                      try clear hfz19_4
                      try clear hfz20_0
                      try clear hfz20_1
                      try clear hfz20_2
                      try clear hfz20_3
                      try clear hfz20_4
                      try clear hfz8_0
                      try clear hfz8_1
                      try clear hfz8_2
                      try clear hfz8_3
                      try clear hfz8_4
                      try clear hfz9_0
                      try clear hfz9_1
                      try clear hfz9_2
                      try clear hfz9_3
                      try clear hfz9_4
                      try clear hx232_0
                      try clear hx233_0
                      try clear p2
                      try clear p232
                      try clear p233
                      try clear q232
                      try clear q233
                      obtain ⟨x6_3, rfl, HA, HK3, BK230, BK231, HB⟩ := hrel
                      cases gk with
                      | zero => exact absurd HA.out (by simp [dailiesref06_Same.l1])
                      | succ k3 =>
                        have H := HA.out
                        clear HA
                        simp only [dailiesref06_Same.l1] at H
                        by_cases c21 : 0 ≤ x5_2
                        · rw [if_pos c21] at H
                          have c21b0 : decide (0 ≤ x5_2) = true := decide_eq_true c21
                          clear c21
                          by_cases c22 : x5_2 < (l0_4.length : Int)
                          · rw [if_pos c22] at H
                            have c22b0 : decide (x5_2 < (l0_4.length : Int)) = true := decide_eq_true c22
                            clear c22
                            by_cases c23 : x6_3 < ((rd_L1 l0_4 x5_2).length : Int)
                            · rw [if_pos c23] at H
                              have c23b0 : decide (x6_3 < ((rd_L1 l0_4 x5_2).length : Int)) = true := decide_eq_true c23
                              clear c23
                              by_cases c24 : 0 ≤ x6_3
                              · rw [if_pos c24] at H
                                have c24b0 : decide (0 ≤ x6_3) = true := decide_eq_true c24
                                clear c24
                                by_cases c25 : x5_2 < (l1_4.length : Int)
                                · rw [if_pos c25] at H
                                  have c25b0 : decide (x5_2 < (l1_4.length : Int)) = true := decide_eq_true c25
                                  clear c25
                                  by_cases c26 : x6_3 < ((rd_L1 l1_4 x5_2).length : Int)
                                  · rw [if_pos c26] at H
                                    have c26b0 : decide (x6_3 < ((rd_L1 l1_4 x5_2).length : Int)) = true := decide_eq_true c26
                                    clear c26
                                    by_cases c27 : (rd (rd_L1 l0_4 x5_2) x6_3) = (rd (rd_L1 l1_4 x5_2) x6_3)
                                    · rw [if_pos c27] at H
                                      have c27b0 : ((rd (rd_L1 l0_4 x5_2) x6_3) == (rd (rd_L1 l1_4 x5_2) x6_3)) = true := beq_iff_eq.mpr c27
                                      have c27b1 : ((rd (rd_L1 l0_4 x5_2) x6_3) != (rd (rd_L1 l1_4 x5_2) x6_3)) = false := bne_eq_false_iff_eq.mpr c27
                                      clear c27
                                      have H' := am H
                                      clear H
                                      have hnb28 := NB230_231.out
                                      have hnc28 := NB231_230.out
                                      have hcz29_0 : wr.cell? ⟨gb230, 0, none⟩ = some (.int .i64 a0_0) := (bC BK230.out 0).trans rfl
                                      have hcz29_1 : wr.cell? ⟨gb230, 1, none⟩ = some (.int .i64 a0_1) := (bC BK230.out 1).trans rfl
                                      have hcz29_2 : wr.cell? ⟨gb230, 2, none⟩ = some (.int .i64 a0_2) := (bC BK230.out 2).trans rfl
                                      have hcz29_3 : wr.cell? ⟨gb230, 3, none⟩ = some (.bool a0_3) := (bC BK230.out 3).trans rfl
                                      have hcz29_4 : wr.cell? ⟨gb230, 4, none⟩ = some (.slice (some ad232) l0_4.length c0_4) := (bC BK230.out 4).trans rfl
                                      have hfz29_0 := bZ BK230.out 0
                                      have hfz29_1 := bZ BK230.out 1
                                      have hfz29_2 := bZ BK230.out 2
                                      have hfz29_3 := bZ BK230.out 3
                                      have hfz29_4 := bZ BK230.out 4
                                      have p234 : 0 ≤ (x5_2 : Int) := of_decide_eq_true (by first | (with_reducible assumption) | assumption)
                                      have q234 : x5_2 < (l0_4.length : Int) := of_decide_eq_true (by first | (with_reducible assumption) | assumption)
                                      obtain ⟨ad234, A234_0, c234_0, e234, hx234_0, hl234_0, hi234_0⟩ := at_L1 HR0_4.out x5_2 p234 q234
                                      obtain rfl : ad232 = ad234 := (by injection e234)
                                      replace hx234_0 := (HB.out.cell (World.block_lt_of_cell? w _ hx234_0)).trans hx234_0
                                      have HR234_0 := am hi234_0
                                      have HC234_0 := am hl234_0
                                      clear hi234_0 hl234_0
                                      replace p234 := eq_true p234
                                      replace q234 := eq_true q234
                                      have p235 : 0 ≤ (x5_2 : Int) := of_decide_eq_true (by first | (with_reducible assumption) | assumption)
                                      have q235 : x5_2 < (l0_4.length : Int) := of_decide_eq_true (by first | (with_reducible assumption) | assumption)
                                      obtain ⟨ad235, A235_0, c235_0, e235, hx235_0, hl235_0, hi235_0⟩ := at_L1 HR0_4.out x5_2 p235 q235
                                      obtain rfl : ad232 = ad235 := (by injection e235)
                                      replace hx235_0 := (HB.out.cell (World.block_lt_of_cell? w _ hx235_0)).trans hx235_0
                                      have HR235_0 := am hi235_0
                                      have HC235_0 := am hl235_0
                                      clear hi235_0 hl235_0
                                      replace p235 := eq_true p235
                                      replace q235 := eq_true q235
                                      have ea_ := Option.some.inj (hx234_0.symm.trans hx235_0)
                                      injection ea_ with ea_ en_ ec_
                                      subst ea_
                                      subst ec_
                                      clear en_
                                      have p236 : 0 ≤ (x6_3 : Int) := of_decide_eq_true (by first | (with_reducible assumption) | assumption)
                                      have q236 : x6_3 < ((rd_L1 l0_4 x5_2).length : Int) := of_decide_eq_true (by first | (with_reducible assumption) | assumption)
                                      obtain ⟨ad236, e236, hx236_0⟩ := Kd.at_int HR235_0.out x6_3 p236 q236
                                      cases e236
                                      replace hx236_0 := (HB.out.cell (World.block_lt_of_cell? w _ hx236_0)).trans hx236_0
                                      replace p236 := eq_true p236
                                      replace q236 := eq_true q236
                                      have hcz30_0 : wr.cell? ⟨gb231, 0, none⟩ = some (.int .i64 a1_0) := (bC BK231.out 0).trans rfl
                                      have hcz30_1 : wr.cell? ⟨gb231, 1, none⟩ = some (.int .i64 a1_1) := (bC BK231.out 1).trans rfl
                                      have hcz30_2 : wr.cell? ⟨gb231, 2, none⟩ = some (.int .i64 a1_2) := (bC BK231.out 2).trans rfl
                                      have hcz30_3 : wr.cell? ⟨gb231, 3, none⟩ = some (.bool a1_3) := (bC BK231.out 3).trans rfl
                                      have hcz30_4 : wr.cell? ⟨gb231, 4, none⟩ = some (.slice (some ad233) l1_4.length c1_4) := (bC BK231.out 4).trans rfl
                                      have hfz30_0 := bZ BK231.out 0
                                      have hfz30_1 := bZ BK231.out 1
                                      have hfz30_2 := bZ BK231.out 2
                                      have hfz30_3 := bZ BK231.out 3
                                      have hfz30_4 := bZ BK231.out 4
                                      have p237 : 0 ≤ (x5_2 : Int) := of_decide_eq_true (by first | (with_reducible assumption) | assumption)
                                      have q237 : x5_2 < (l1_4.length : Int) := of_decide_eq_true (by first | (with_reducible assumption) | assumption)
                                      obtain ⟨ad237, A237_0, c237_0, e237, hx237_0, hl237_0, hi237_0⟩ := at_L1 HR1_4.out x5_2 p237 q237
                                      obtain rfl : ad233 = ad237 := (by injection e237)
                                      replace hx237_0 := (HB.out.cell (World.block_lt_of_cell? w _ hx237_0)).trans hx237_0
                                      have HR237_0 := am hi237_0
                                      have HC237_0 := am hl237_0
                                      clear hi237_0 hl237_0
                                      replace p237 := eq_true p237
                                      replace q237 := eq_true q237
                                      have p238 : 0 ≤ (x6_3 : Int) := of_decide_eq_true (by first | (with_reducible assumption) | assumption)
                                      have q238 : x6_3 < ((rd_L1 l1_4 x5_2).length : Int) := of_decide_eq_true (by first | (with_reducible assumption) | assumption)
                                      obtain ⟨ad238, e238, hx238_0⟩ := Kd.at_int HR237_0.out x6_3 p238 q238
                                      cases e238
                                      replace hx238_0 := (HB.out.cell (World.block_lt_of_cell? w _ hx238_0)).trans hx238_0
                                      replace p238 := eq_true p238
                                      replace q238 := eq_true q238
                                      go_wp2
                                      repeat (go_quiet (fail); try go_wp2)
                                      go_roundg k3
                                      case measure => have := HJ2.out; have := HK2.out; have := HK3.out; omega
                                      case rel => exact ⟨(wrap64 (x6_3 + 1)), (by first | rfl | (simp; done) | (simp [*]; done)), H', ⟨by have := HJ2.out; have := HK2.out; have := HK3.out; omega⟩, ⟨by (with_reducible repeat apply dX); exact BK230.out⟩, ⟨by (with_reducible repeat apply dX); exact BK231.out⟩, ⟨by repeat (first | (with_reducible first | exact HB.out | apply bA | apply bN | apply bD | refine bS ?_ GE230.out | refine bS ?_ GE231.out) | exact HB.out)⟩⟩
                                    · rw [if_neg c27] at H
                                      have c27b0 : ((rd (rd_L1 l0_4 x5_2) x6_3) == (rd (rd_L1 l1_4 x5_2) x6_3)) = false := beq_eq_false_iff_ne.mpr c27
                                      have c27b1 : ((rd (rd_L1 l0_4 x5_2) x6_3) != (rd (rd_L1 l1_4 x5_2) x6_3)) = true := bne_iff_ne.mpr c27
                                      obtain rfl := Option.some.inj H
                                      have hnb31 := NB230_231.out
                                      have hnc31 := NB231_230.out
                                      have hcz32_0 : wr.cell? ⟨gb230, 0, none⟩ = some (.int .i64 a0_0) := (bC BK230.out 0).trans rfl
                                      have hcz32_1 : wr.cell? ⟨gb230, 1, none⟩ = some (.int .i64 a0_1) := (bC BK230.out 1).trans rfl
                                      have hcz32_2 : wr.cell? ⟨gb230, 2, none⟩ = some (.int .i64 a0_2) := (bC BK230.out 2).trans rfl
                                      have hcz32_3 : wr.cell? ⟨gb230, 3, none⟩ = some (.bool a0_3) := (bC BK230.out 3).trans rfl
                                      have hcz32_4 : wr.cell? ⟨gb230, 4, none⟩ = some (.slice (some ad232) l0_4.length c0_4) := (bC BK230.out 4).trans rfl
                                      have hfz32_0 := bZ BK230.out 0
                                      have hfz32_1 := bZ BK230.out 1
                                      have hfz32_2 := bZ BK230.out 2
                                      have hfz32_3 := bZ BK230.out 3
                                      have hfz32_4 := bZ BK230.out 4
                                      have p234 : 0 ≤ (x5_2 : Int) := of_decide_eq_true (by first | (with_reducible assumption) | assumption)
                                      have q234 : x5_2 < (l0_4.length : Int) := of_decide_eq_true (by first | (with_reducible assumption) | assumption)
                                      obtain ⟨ad234, A234_0, c234_0, e234, hx234_0, hl234_0, hi234_0⟩ := at_L1 HR0_4.out x5_2 p234 q234
                                      obtain rfl : ad232 = ad234 := (by injection e234)
                                      replace hx234_0 := (HB.out.cell (World.block_lt_of_cell? w _ hx234_0)).trans hx234_0
                                      have HR234_0 := am hi234_0
                                      have HC234_0 := am hl234_0
                                      clear hi234_0 hl234_0
                                      replace p234 := eq_true p234
                                      replace q234 := eq_true q234
                                      have p235 : 0 ≤ (x5_2 : Int) := of_decide_eq_true (by first | (with_reducible assumption) | assumption)
                                      have q235 : x5_2 < (l0_4.length : Int) := of_decide_eq_true (by first | (with_reducible assumption) | assumption)
                                      obtain ⟨ad235, A235_0, c235_0, e235, hx235_0, hl235_0, hi235_0⟩ := at_L1 HR0_4.out x5_2 p235 q235
                                      obtain rfl : ad232 = ad235 := (by injection e235)
                                      replace hx235_0 := (HB.out.cell (World.block_lt_of_cell? w _ hx235_0)).trans hx235_0
                                      have HR235_0 := am hi235_0
                                      have HC235_0 := am hl235_0
                                      clear hi235_0 hl235_0
                                      replace p235 := eq_true p235
                                      replace q235 := eq_true q235
                                      have ea_ := Option.some.inj (hx234_0.symm.trans hx235_0)
                                      injection ea_ with ea_ en_ ec_
                                      subst ea_
                                      subst ec_
                                      clear en_
                                      have p236 : 0 ≤ (x6_3 : Int) := of_decide_eq_true (by first | (with_reducible assumption) | assumption)
                                      have q236 : x6_3 < ((rd_L1 l0_4 x5_2).length : Int) := of_decide_eq_true (by first | (with_reducible assumption) | assumption)
                                      obtain ⟨ad236, e236, hx236_0⟩ := Kd.at_int HR235_0.out x6_3 p236 q236
                                      cases e236
                                      replace hx236_0 := (HB.out.cell (World.block_lt_of_cell? w _ hx236_0)).trans hx236_0
                                      replace p236 := eq_true p236
                                      replace q236 := eq_true q236
                                      have hcz33_0 : wr.cell? ⟨gb231, 0, none⟩ = some (.int .i64 a1_0) := (bC BK231.out 0).trans rfl
                                      have hcz33_1 : wr.cell? ⟨gb231, 1, none⟩ = some (.int .i64 a1_1) := (bC BK231.out 1).trans rfl
                                      have hcz33_2 : wr.cell? ⟨gb231, 2, none⟩ = some (.int .i64 a1_2) := (bC BK231.out 2).trans rfl
                                      have hcz33_3 : wr.cell? ⟨gb231, 3, none⟩ = some (.bool a1_3) := (bC BK231.out 3).trans rfl
                                      have hcz33_4 : wr.cell? ⟨gb231, 4, none⟩ = some (.slice (some ad233) l1_4.length c1_4) := (bC BK231.out 4).trans rfl
                                      have hfz33_0 := bZ BK231.out 0
                                      have hfz33_1 := bZ BK231.out 1
                                      have hfz33_2 := bZ BK231.out 2
                                      have hfz33_3 := bZ BK231.out 3
                                      have hfz33_4 := bZ BK231.out 4
                                      have p237 : 0 ≤ (x5_2 : Int) := of_decide_eq_true (by first | (with_reducible assumption) | assumption)
                                      have q237 : x5_2 < (l1_4.length : Int) := of_decide_eq_true (by first | (with_reducible assumption) | assumption)
                                      obtain ⟨ad237, A237_0, c237_0, e237, hx237_0, hl237_0, hi237_0⟩ := at_L1 HR1_4.out x5_2 p237 q237
                                      obtain rfl : ad233 = ad237 := (by injection e237)
                                      replace hx237_0 := (HB.out.cell (World.block_lt_of_cell? w _ hx237_0)).trans hx237_0
                                      have HR237_0 := am hi237_0
                                      have HC237_0 := am hl237_0
                                      clear hi237_0 hl237_0
                                      replace p237 := eq_true p237
                                      replace q237 := eq_true q237
                                      have p238 : 0 ≤ (x6_3 : Int) := of_decide_eq_true (by first | (with_reducible assumption) | assumption)
                                      have q238 : x6_3 < ((rd_L1 l1_4 x5_2).length : Int) := of_decide_eq_true (by first | (with_reducible assumption) | assumption)
                                      obtain ⟨ad238, e238, hx238_0⟩ := Kd.at_int HR237_0.out x6_3 p238 q238
                                      cases e238
                                      replace hx238_0 := (HB.out.cell (World.block_lt_of_cell? w _ hx238_0)).trans hx238_0
                                      replace p238 := eq_true p238
                                      replace q238 := eq_true q238
                                      go_wp2
                                      repeat (go_quiet (fail); try go_wp2)
                                      go_ret
                                      exact ⟨by first | rfl | (simp [errW_none, errW_some] <;> rfl) | (simp [*, errW_none, errW_some] <;> rfl), by repeat (first | (with_reducible first | exact HB.out | apply bA | apply bN | apply bD | refine bS ?_ GE230.out | refine bS ?_ GE231.out) | exact HB.out)⟩
                                  · rw [if_neg c26] at H
                                    exact absurd H (by simp)
                                · rw [if_neg c25] at H
                                  exact absurd H (by simp)
                              · rw [if_neg c24] at H
                                exact absurd H (by simp)
                            · rw [if_neg c23] at H
                              have c23b0 : decide (x6_3 < ((rd_L1 l0_4 x5_2).length : Int)) = false := decide_eq_false c23
                              clear c23
                              have H' := am H
                              clear H
                              have hnb34 := NB230_231.out
                              have hnc34 := NB231_230.out
                              have hcz35_0 : wr.cell? ⟨gb230, 0, none⟩ = some (.int .i64 a0_0) := (bC BK230.out 0).trans rfl
                              have hcz35_1 : wr.cell? ⟨gb230, 1, none⟩ = some (.int .i64 a0_1) := (bC BK230.out 1).trans rfl
                              have hcz35_2 : wr.cell? ⟨gb230, 2, none⟩ = some (.int .i64 a0_2) := (bC BK230.out 2).trans rfl
                              have hcz35_3 : wr.cell? ⟨gb230, 3, none⟩ = some (.bool a0_3) := (bC BK230.out 3).trans rfl
                              have hcz35_4 : wr.cell? ⟨gb230, 4, none⟩ = some (.slice (some ad232) l0_4.length c0_4) := (bC BK230.out 4).trans rfl
                              have hfz35_0 := bZ BK230.out 0
                              have hfz35_1 := bZ BK230.out 1
                              have hfz35_2 := bZ BK230.out 2
                              have hfz35_3 := bZ BK230.out 3
                              have hfz35_4 := bZ BK230.out 4
                              have p234 : 0 ≤ (x5_2 : Int) := of_decide_eq_true (by first | (with_reducible assumption) | assumption)
                              have q234 : x5_2 < (l0_4.length : Int) := of_decide_eq_true (by first | (with_reducible assumption) | assumption)
                              obtain ⟨ad234, A234_0, c234_0, e234, hx234_0, hl234_0, hi234_0⟩ := at_L1 HR0_4.out x5_2 p234 q234
                              obtain rfl : ad232 = ad234 := (by injection e234)
                              replace hx234_0 := (HB.out.cell (World.block_lt_of_cell? w _ hx234_0)).trans hx234_0
                              have HR234_0 := am hi234_0
                              have HC234_0 := am hl234_0
                              clear hi234_0 hl234_0
                              replace p234 := eq_true p234
                              replace q234 := eq_true q234
                              go_wp2
                              repeat (go_quiet (fail); try go_wp2)
                              go_roundg k3
                              case measure => have := HJ2.out; have := HK2.out; have := HK3.out; omega
                              case rel => exact ⟨(wrap64 (x5_2 + 1)), (by first | rfl | (simp; done) | (simp [*]; done)), H', ⟨by have := HJ2.out; have := HK2.out; have := HK3.out; omega⟩, ⟨by (with_reducible repeat apply dX); exact BK230.out⟩, ⟨by (with_reducible repeat apply dX); exact BK231.out⟩, ⟨by repeat (first | (with_reducible first | exact HB.out | apply bA | apply bN | apply bD | refine bS ?_ GE230.out | refine bS ?_ GE231.out) | exact HB.out)⟩⟩
                          · rw [if_neg c22] at H
                            exact absurd H (by simp)
                        · rw [if_neg c21] at H
                          exact absurd H (by simp)
                  · rw [if_neg c17] at H
                    have c17b0 : (((rd_L1 l0_4 x5_2).length : Int) == ((rd_L1 l1_4 x5_2).length : Int)) = false := beq_eq_false_iff_ne.mpr c17
                    have c17b1 : (((rd_L1 l0_4 x5_2).length : Int) != ((rd_L1 l1_4 x5_2).length : Int)) = true := bne_iff_ne.mpr c17
                    have c17b2 : ((rd_L1 l0_4 x5_2).length == (rd_L1 l1_4 x5_2).length) = false := by first | simpa using c17 | (simp at c17 ⊢; omega)
                    obtain rfl := Option.some.inj H
                    have hnb36 := NB230_231.out
                    have hnc36 := NB231_230.out
                    have hcz37_0 : wr.cell? ⟨gb230, 0, none⟩ = some (.int .i64 a0_0) := (bC BK230.out 0).trans rfl
                    have hcz37_1 : wr.cell? ⟨gb230, 1, none⟩ = some (.int .i64 a0_1) := (bC BK230.out 1).trans rfl
                    have hcz37_2 : wr.cell? ⟨gb230, 2, none⟩ = some (.int .i64 a0_2) := (bC BK230.out 2).trans rfl
                    have hcz37_3 : wr.cell? ⟨gb230, 3, none⟩ = some (.bool a0_3) := (bC BK230.out 3).trans rfl
                    have hcz37_4 : wr.cell? ⟨gb230, 4, none⟩ = some (.slice A0_4 l0_4.length c0_4) := (bC BK230.out 4).trans rfl
                    have hfz37_0 := bZ BK230.out 0
                    have hfz37_1 := bZ BK230.out 1
                    have hfz37_2 := bZ BK230.out 2
                    have hfz37_3 := bZ BK230.out 3
                    have hfz37_4 := bZ BK230.out 4
                    have p232 : 0 ≤ (x5_2 : Int) := of_decide_eq_true (by first | (with_reducible assumption) | assumption)
                    have q232 : x5_2 < (l0_4.length : Int) := of_decide_eq_true (by first | (with_reducible assumption) | assumption)
                    obtain ⟨ad232, A232_0, c232_0, e232, hx232_0, hl232_0, hi232_0⟩ := at_L1 HR0_4.out x5_2 p232 q232
                    cases e232
                    replace hx232_0 := (HB.out.cell (World.block_lt_of_cell? w _ hx232_0)).trans hx232_0
                    have HR232_0 := am hi232_0
                    have HC232_0 := am hl232_0
                    clear hi232_0 hl232_0
                    replace p232 := eq_true p232
                    replace q232 := eq_true q232
                    have hcz38_0 : wr.cell? ⟨gb231, 0, none⟩ = some (.int .i64 a1_0) := (bC BK231.out 0).trans rfl
                    have hcz38_1 : wr.cell? ⟨gb231, 1, none⟩ = some (.int .i64 a1_1) := (bC BK231.out 1).trans rfl
                    have hcz38_2 : wr.cell? ⟨gb231, 2, none⟩ = some (.int .i64 a1_2) := (bC BK231.out 2).trans rfl
                    have hcz38_3 : wr.cell? ⟨gb231, 3, none⟩ = some (.bool a1_3) := (bC BK231.out 3).trans rfl
                    have hcz38_4 : wr.cell? ⟨gb231, 4, none⟩ = some (.slice A1_4 l1_4.length c1_4) := (bC BK231.out 4).trans rfl
                    have hfz38_0 := bZ BK231.out 0
                    have hfz38_1 := bZ BK231.out 1
                    have hfz38_2 := bZ BK231.out 2
                    have hfz38_3 := bZ BK231.out 3
                    have hfz38_4 := bZ BK231.out 4
                    have p233 : 0 ≤ (x5_2 : Int) := of_decide_eq_true (by first | (with_reducible assumption) | assumption)
                    have q233 : x5_2 < (l1_4.length : Int) := of_decide_eq_true (by first | (with_reducible assumption) | assumption)
                    obtain ⟨ad233, A233_0, c233_0, e233, hx233_0, hl233_0, hi233_0⟩ := at_L1 HR1_4.out x5_2 p233 q233
                    cases e233
                    replace hx233_0 := (HB.out.cell (World.block_lt_of_cell? w _ hx233_0)).trans hx233_0
                    have HR233_0 := am hi233_0
                    have HC233_0 := am hl233_0
                    clear hi233_0 hl233_0
                    replace p233 := eq_true p233
                    replace q233 := eq_true q233
                    go_wp2
                    repeat (go_quiet (fail); try go_wp2)
                    go_ret
                    exact ⟨by first | rfl | (simp [errW_none, errW_some] <;> rfl) | (simp [*, errW_none, errW_some] <;> rfl), by repeat (first | (with_reducible first | exact HB.out | apply bA | apply bN | apply bD | refine bS ?_ GE230.out | refine bS ?_ GE231.out) | exact HB.out)⟩
                · rw [if_neg c16] at H
                  exact absurd H (by simp)
              · rw [if_neg c15] at H
                exact absurd H (by simp)
            · rw [if_neg c14] at H
              have c14b0 : decide (x5_2 < (l0_4.length : Int)) = false := decide_eq_false c14
              clear c14
              obtain rfl := Option.some.inj H
              have hnb39 := NB230_231.out
              have hnc39 := NB231_230.out
              have hcz40_0 : wr.cell? ⟨gb230, 0, none⟩ = some (.int .i64 a0_0) := (bC BK230.out 0).trans rfl
              have hcz40_1 : wr.cell? ⟨gb230, 1, none⟩ = some (.int .i64 a0_1) := (bC BK230.out 1).trans rfl
              have hcz40_2 : wr.cell? ⟨gb230, 2, none⟩ = some (.int .i64 a0_2) := (bC BK230.out 2).trans rfl
              have hcz40_3 : wr.cell? ⟨gb230, 3, none⟩ = some (.bool a0_3) := (bC BK230.out 3).trans rfl
              have hcz40_4 : wr.cell? ⟨gb230, 4, none⟩ = some (.slice A0_4 l0_4.length c0_4) := (bC BK230.out 4).trans rfl
              have hfz40_0 := bZ BK230.out 0
              have hfz40_1 := bZ BK230.out 1
              have hfz40_2 := bZ BK230.out 2
              have hfz40_3 := bZ BK230.out 3
              have hfz40_4 := bZ BK230.out 4
              go_wp2
              repeat (go_quiet (fail); try go_wp2)
              go_ret
              exact ⟨by first | rfl | (simp [errW_none, errW_some] <;> rfl) | (simp [*, errW_none, errW_some] <;> rfl), by repeat (first | (with_reducible first | exact HB.out | apply bA | apply bN | apply bD | refine bS ?_ GE230.out | refine bS ?_ GE231.out) | exact HB.out)⟩

/-! ### dailiesref06_lies: function 67 -/
def dailiesref06_lies.f (a0_0 : Int) (a0_1 : Int) (a0_2 : Int) (a0_3 : Int) (a1 : Int) (a2 : Int) : Option (Bool) := if a0_2 < 1 then (some false) else (if a0_3 < 1 then (some false) else (if a0_0 < 0 then (some false) else (if a0_1 < 0 then (some false) else (if a0_2 > a1 then (some false) else (if a0_3 > a2 then (some false) else (if a0_0 ≤ (wrap64 (a1 - a0_2)) then (some (decide (a0_1 ≤ (wrap64 (a2 - a0_3))))) else (some false)))))))
set_option maxHeartbeats 8000000 in
set_option maxRecDepth 100000 in
theorem dailiesref06_lies.calls (a0_0 : Int) (a0_1 : Int) (a0_2 : Int) (a0_3 : Int) (a1 : Int) (a2 : Int) (r : Bool) (w : World) (h : dailiesref06_lies.f a0_0 a0_1 a0_2 a0_3 a1 a2 = some r) :
    Calls Try.prog 67 #[.agg #[.int .i64 a0_0, .int .i64 a0_1, .int .i64 a0_2, .int .i64 a0_3], .int .i64 a1, .int .i64 a2] w fun e w' => e = .returned (.bool r) ∧ Below w.heap.size w w' := by
  have hu52 := Try.underlying52
  have HB := am (Below.refl w.heap.size w)
  have H : (if a0_2 < 1 then (some false) else (if a0_3 < 1 then (some false) else (if a0_0 < 0 then (some false) else (if a0_1 < 0 then (some false) else (if a0_2 > a1 then (some false) else (if a0_3 > a2 then (some false) else (if a0_0 ≤ (wrap64 (a1 - a0_2)) then (some (decide (a0_1 ≤ (wrap64 (a2 - a0_3))))) else (some false)))))))) = some r := h
  clear h
  by_cases c4 : a0_2 < 1
  · rw [if_pos c4] at H
    have c4b0 : decide (a0_2 < 1) = true := decide_eq_true c4
    clear c4
    obtain rfl := Option.some.inj H
    go_enter Try.func67, Try.ntmps67
    go_wp2_with (first | ((with_reducible refine gD (N := 3) rfl ?_); refine bE ?hg (N := 3) ?hd (cs := #[.int .i64 a0_0, .int .i64 a0_1, .int .i64 a0_2, .int .i64 a0_3]) (t := 52) ?hr ?_; (case hd => rfl); (case hg => rfl); (case hr => first | (go_simp; done) | (go_simp; rfl)); intro gb239 hg w5 hbox hb; have n0_ := am (bT (by repeat (first | (with_reducible first | exact HB.out | apply bA | apply bN | apply bD) | exact HB.out)) hb); have n1_ := am (hbox); have n2_ := am ((by rw [hg]; exact (bU (by repeat (first | (with_reducible first | exact HB.out | apply bA | apply bN | apply bD) | exact HB.out))) : w.heap.size ≤ gb239)); have n3_ := am ((by rw [hg]; exact (bU (by repeat (first | (with_reducible first | exact HB.out | apply bA | apply bN | apply bD) | exact HB.out))) : w.heap.size ≤ gb239)); clear HB; have HB := n0_; have BK239 := n1_; have GW239 := n2_; have GE239 := n3_; clear n0_ n1_ n2_ n3_; clear hb hbox hg; have hcz6_0 : w5.cell? ⟨gb239, 0, none⟩ = some (.int .i64 a0_0) := (bC BK239.out 0).trans rfl; have hcz6_1 : w5.cell? ⟨gb239, 1, none⟩ = some (.int .i64 a0_1) := (bC BK239.out 1).trans rfl; have hcz6_2 : w5.cell? ⟨gb239, 2, none⟩ = some (.int .i64 a0_2) := (bC BK239.out 2).trans rfl; have hcz6_3 : w5.cell? ⟨gb239, 3, none⟩ = some (.int .i64 a0_3) := (bC BK239.out 3).trans rfl; have hfz6_0 := bZ BK239.out 0; have hfz6_1 := bZ BK239.out 1; have hfz6_2 := bZ BK239.out 2; have hfz6_3 := bZ BK239.out 3))
    go_ret
    exact ⟨by first | rfl | (simp [errW_none, errW_some] <;> rfl) | (simp [*, errW_none, errW_some] <;> rfl), by repeat (first | (with_reducible first | exact HB.out | apply bA | apply bN | apply bD | refine bS ?_ GE239.out) | exact HB.out)⟩
  · rw [if_neg c4] at H
    have c4b0 : decide (a0_2 < 1) = false := decide_eq_false c4
    clear c4
    by_cases c7 : a0_3 < 1
    · rw [if_pos c7] at H
      have c7b0 : decide (a0_3 < 1) = true := decide_eq_true c7
      clear c7
      obtain rfl := Option.some.inj H
      go_enter Try.func67, Try.ntmps67
      go_wp2_with (first | ((with_reducible refine gD (N := 3) rfl ?_); refine bE ?hg (N := 3) ?hd (cs := #[.int .i64 a0_0, .int .i64 a0_1, .int .i64 a0_2, .int .i64 a0_3]) (t := 52) ?hr ?_; (case hd => rfl); (case hg => rfl); (case hr => first | (go_simp; done) | (go_simp; rfl)); intro gb239 hg w8 hbox hb; have n0_ := am (bT (by repeat (first | (with_reducible first | exact HB.out | apply bA | apply bN | apply bD) | exact HB.out)) hb); have n1_ := am (hbox); have n2_ := am ((by rw [hg]; exact (bU (by repeat (first | (with_reducible first | exact HB.out | apply bA | apply bN | apply bD) | exact HB.out))) : w.heap.size ≤ gb239)); have n3_ := am ((by rw [hg]; exact (bU (by repeat (first | (with_reducible first | exact HB.out | apply bA | apply bN | apply bD) | exact HB.out))) : w.heap.size ≤ gb239)); clear HB; have HB := n0_; have BK239 := n1_; have GW239 := n2_; have GE239 := n3_; clear n0_ n1_ n2_ n3_; clear hb hbox hg; have hcz9_0 : w8.cell? ⟨gb239, 0, none⟩ = some (.int .i64 a0_0) := (bC BK239.out 0).trans rfl; have hcz9_1 : w8.cell? ⟨gb239, 1, none⟩ = some (.int .i64 a0_1) := (bC BK239.out 1).trans rfl; have hcz9_2 : w8.cell? ⟨gb239, 2, none⟩ = some (.int .i64 a0_2) := (bC BK239.out 2).trans rfl; have hcz9_3 : w8.cell? ⟨gb239, 3, none⟩ = some (.int .i64 a0_3) := (bC BK239.out 3).trans rfl; have hfz9_0 := bZ BK239.out 0; have hfz9_1 := bZ BK239.out 1; have hfz9_2 := bZ BK239.out 2; have hfz9_3 := bZ BK239.out 3))
      go_ret
      exact ⟨by first | rfl | (simp [errW_none, errW_some] <;> rfl) | (simp [*, errW_none, errW_some] <;> rfl), by repeat (first | (with_reducible first | exact HB.out | apply bA | apply bN | apply bD | refine bS ?_ GE239.out) | exact HB.out)⟩
    · rw [if_neg c7] at H
      have c7b0 : decide (a0_3 < 1) = false := decide_eq_false c7
      clear c7
      by_cases c10 : a0_0 < 0
      · rw [if_pos c10] at H
        have c10b0 : decide (a0_0 < 0) = true := decide_eq_true c10
        clear c10
        obtain rfl := Option.some.inj H
        go_enter Try.func67, Try.ntmps67
        go_wp2_with (first | ((with_reducible refine gD (N := 3) rfl ?_); refine bE ?hg (N := 3) ?hd (cs := #[.int .i64 a0_0, .int .i64 a0_1, .int .i64 a0_2, .int .i64 a0_3]) (t := 52) ?hr ?_; (case hd => rfl); (case hg => rfl); (case hr => first | (go_simp; done) | (go_simp; rfl)); intro gb239 hg w11 hbox hb; have n0_ := am (bT (by repeat (first | (with_reducible first | exact HB.out | apply bA | apply bN | apply bD) | exact HB.out)) hb); have n1_ := am (hbox); have n2_ := am ((by rw [hg]; exact (bU (by repeat (first | (with_reducible first | exact HB.out | apply bA | apply bN | apply bD) | exact HB.out))) : w.heap.size ≤ gb239)); have n3_ := am ((by rw [hg]; exact (bU (by repeat (first | (with_reducible first | exact HB.out | apply bA | apply bN | apply bD) | exact HB.out))) : w.heap.size ≤ gb239)); clear HB; have HB := n0_; have BK239 := n1_; have GW239 := n2_; have GE239 := n3_; clear n0_ n1_ n2_ n3_; clear hb hbox hg; have hcz12_0 : w11.cell? ⟨gb239, 0, none⟩ = some (.int .i64 a0_0) := (bC BK239.out 0).trans rfl; have hcz12_1 : w11.cell? ⟨gb239, 1, none⟩ = some (.int .i64 a0_1) := (bC BK239.out 1).trans rfl; have hcz12_2 : w11.cell? ⟨gb239, 2, none⟩ = some (.int .i64 a0_2) := (bC BK239.out 2).trans rfl; have hcz12_3 : w11.cell? ⟨gb239, 3, none⟩ = some (.int .i64 a0_3) := (bC BK239.out 3).trans rfl; have hfz12_0 := bZ BK239.out 0; have hfz12_1 := bZ BK239.out 1; have hfz12_2 := bZ BK239.out 2; have hfz12_3 := bZ BK239.out 3))
        go_ret
        exact ⟨by first | rfl | (simp [errW_none, errW_some] <;> rfl) | (simp [*, errW_none, errW_some] <;> rfl), by repeat (first | (with_reducible first | exact HB.out | apply bA | apply bN | apply bD | refine bS ?_ GE239.out) | exact HB.out)⟩
      · rw [if_neg c10] at H
        have c10b0 : decide (a0_0 < 0) = false := decide_eq_false c10
        clear c10
        by_cases c13 : a0_1 < 0
        · rw [if_pos c13] at H
          have c13b0 : decide (a0_1 < 0) = true := decide_eq_true c13
          clear c13
          obtain rfl := Option.some.inj H
          go_enter Try.func67, Try.ntmps67
          go_wp2_with (first | ((with_reducible refine gD (N := 3) rfl ?_); refine bE ?hg (N := 3) ?hd (cs := #[.int .i64 a0_0, .int .i64 a0_1, .int .i64 a0_2, .int .i64 a0_3]) (t := 52) ?hr ?_; (case hd => rfl); (case hg => rfl); (case hr => first | (go_simp; done) | (go_simp; rfl)); intro gb239 hg w14 hbox hb; have n0_ := am (bT (by repeat (first | (with_reducible first | exact HB.out | apply bA | apply bN | apply bD) | exact HB.out)) hb); have n1_ := am (hbox); have n2_ := am ((by rw [hg]; exact (bU (by repeat (first | (with_reducible first | exact HB.out | apply bA | apply bN | apply bD) | exact HB.out))) : w.heap.size ≤ gb239)); have n3_ := am ((by rw [hg]; exact (bU (by repeat (first | (with_reducible first | exact HB.out | apply bA | apply bN | apply bD) | exact HB.out))) : w.heap.size ≤ gb239)); clear HB; have HB := n0_; have BK239 := n1_; have GW239 := n2_; have GE239 := n3_; clear n0_ n1_ n2_ n3_; clear hb hbox hg; have hcz15_0 : w14.cell? ⟨gb239, 0, none⟩ = some (.int .i64 a0_0) := (bC BK239.out 0).trans rfl; have hcz15_1 : w14.cell? ⟨gb239, 1, none⟩ = some (.int .i64 a0_1) := (bC BK239.out 1).trans rfl; have hcz15_2 : w14.cell? ⟨gb239, 2, none⟩ = some (.int .i64 a0_2) := (bC BK239.out 2).trans rfl; have hcz15_3 : w14.cell? ⟨gb239, 3, none⟩ = some (.int .i64 a0_3) := (bC BK239.out 3).trans rfl; have hfz15_0 := bZ BK239.out 0; have hfz15_1 := bZ BK239.out 1; have hfz15_2 := bZ BK239.out 2; have hfz15_3 := bZ BK239.out 3))
          go_ret
          exact ⟨by first | rfl | (simp [errW_none, errW_some] <;> rfl) | (simp [*, errW_none, errW_some] <;> rfl), by repeat (first | (with_reducible first | exact HB.out | apply bA | apply bN | apply bD | refine bS ?_ GE239.out) | exact HB.out)⟩
        · rw [if_neg c13] at H
          have c13b0 : decide (a0_1 < 0) = false := decide_eq_false c13
          clear c13
          by_cases c16 : a0_2 > a1
          · rw [if_pos c16] at H
            have c16b0 : decide (a1 < a0_2) = true := decide_eq_true c16
            clear c16
            obtain rfl := Option.some.inj H
            go_enter Try.func67, Try.ntmps67
            go_wp2_with (first | ((with_reducible refine gD (N := 3) rfl ?_); refine bE ?hg (N := 3) ?hd (cs := #[.int .i64 a0_0, .int .i64 a0_1, .int .i64 a0_2, .int .i64 a0_3]) (t := 52) ?hr ?_; (case hd => rfl); (case hg => rfl); (case hr => first | (go_simp; done) | (go_simp; rfl)); intro gb239 hg w17 hbox hb; have n0_ := am (bT (by repeat (first | (with_reducible first | exact HB.out | apply bA | apply bN | apply bD) | exact HB.out)) hb); have n1_ := am (hbox); have n2_ := am ((by rw [hg]; exact (bU (by repeat (first | (with_reducible first | exact HB.out | apply bA | apply bN | apply bD) | exact HB.out))) : w.heap.size ≤ gb239)); have n3_ := am ((by rw [hg]; exact (bU (by repeat (first | (with_reducible first | exact HB.out | apply bA | apply bN | apply bD) | exact HB.out))) : w.heap.size ≤ gb239)); clear HB; have HB := n0_; have BK239 := n1_; have GW239 := n2_; have GE239 := n3_; clear n0_ n1_ n2_ n3_; clear hb hbox hg; have hcz18_0 : w17.cell? ⟨gb239, 0, none⟩ = some (.int .i64 a0_0) := (bC BK239.out 0).trans rfl; have hcz18_1 : w17.cell? ⟨gb239, 1, none⟩ = some (.int .i64 a0_1) := (bC BK239.out 1).trans rfl; have hcz18_2 : w17.cell? ⟨gb239, 2, none⟩ = some (.int .i64 a0_2) := (bC BK239.out 2).trans rfl; have hcz18_3 : w17.cell? ⟨gb239, 3, none⟩ = some (.int .i64 a0_3) := (bC BK239.out 3).trans rfl; have hfz18_0 := bZ BK239.out 0; have hfz18_1 := bZ BK239.out 1; have hfz18_2 := bZ BK239.out 2; have hfz18_3 := bZ BK239.out 3))
            go_ret
            exact ⟨by first | rfl | (simp [errW_none, errW_some] <;> rfl) | (simp [*, errW_none, errW_some] <;> rfl), by repeat (first | (with_reducible first | exact HB.out | apply bA | apply bN | apply bD | refine bS ?_ GE239.out) | exact HB.out)⟩
          · rw [if_neg c16] at H
            have c16b0 : decide (a1 < a0_2) = false := decide_eq_false c16
            clear c16
            by_cases c19 : a0_3 > a2
            · rw [if_pos c19] at H
              have c19b0 : decide (a2 < a0_3) = true := decide_eq_true c19
              clear c19
              obtain rfl := Option.some.inj H
              go_enter Try.func67, Try.ntmps67
              go_wp2_with (first | ((with_reducible refine gD (N := 3) rfl ?_); refine bE ?hg (N := 3) ?hd (cs := #[.int .i64 a0_0, .int .i64 a0_1, .int .i64 a0_2, .int .i64 a0_3]) (t := 52) ?hr ?_; (case hd => rfl); (case hg => rfl); (case hr => first | (go_simp; done) | (go_simp; rfl)); intro gb239 hg w20 hbox hb; have n0_ := am (bT (by repeat (first | (with_reducible first | exact HB.out | apply bA | apply bN | apply bD) | exact HB.out)) hb); have n1_ := am (hbox); have n2_ := am ((by rw [hg]; exact (bU (by repeat (first | (with_reducible first | exact HB.out | apply bA | apply bN | apply bD) | exact HB.out))) : w.heap.size ≤ gb239)); have n3_ := am ((by rw [hg]; exact (bU (by repeat (first | (with_reducible first | exact HB.out | apply bA | apply bN | apply bD) | exact HB.out))) : w.heap.size ≤ gb239)); clear HB; have HB := n0_; have BK239 := n1_; have GW239 := n2_; have GE239 := n3_; clear n0_ n1_ n2_ n3_; clear hb hbox hg; have hcz21_0 : w20.cell? ⟨gb239, 0, none⟩ = some (.int .i64 a0_0) := (bC BK239.out 0).trans rfl; have hcz21_1 : w20.cell? ⟨gb239, 1, none⟩ = some (.int .i64 a0_1) := (bC BK239.out 1).trans rfl; have hcz21_2 : w20.cell? ⟨gb239, 2, none⟩ = some (.int .i64 a0_2) := (bC BK239.out 2).trans rfl; have hcz21_3 : w20.cell? ⟨gb239, 3, none⟩ = some (.int .i64 a0_3) := (bC BK239.out 3).trans rfl; have hfz21_0 := bZ BK239.out 0; have hfz21_1 := bZ BK239.out 1; have hfz21_2 := bZ BK239.out 2; have hfz21_3 := bZ BK239.out 3))
              go_ret
              exact ⟨by first | rfl | (simp [errW_none, errW_some] <;> rfl) | (simp [*, errW_none, errW_some] <;> rfl), by repeat (first | (with_reducible first | exact HB.out | apply bA | apply bN | apply bD | refine bS ?_ GE239.out) | exact HB.out)⟩
            · rw [if_neg c19] at H
              have c19b0 : decide (a2 < a0_3) = false := decide_eq_false c19
              clear c19
              by_cases c22 : a0_0 ≤ (wrap64 (a1 - a0_2))
              · rw [if_pos c22] at H
                have c22b0 : decide (a0_0 ≤ (wrap64 (a1 - a0_2))) = true := decide_eq_true c22
                clear c22
                obtain rfl := Option.some.inj H
                go_enter Try.func67, Try.ntmps67
                go_wp2_with (first | ((with_reducible refine gD (N := 3) rfl ?_); refine bE ?hg (N := 3) ?hd (cs := #[.int .i64 a0_0, .int .i64 a0_1, .int .i64 a0_2, .int .i64 a0_3]) (t := 52) ?hr ?_; (case hd => rfl); (case hg => rfl); (case hr => first | (go_simp; done) | (go_simp; rfl)); intro gb239 hg w23 hbox hb; have n0_ := am (bT (by repeat (first | (with_reducible first | exact HB.out | apply bA | apply bN | apply bD) | exact HB.out)) hb); have n1_ := am (hbox); have n2_ := am ((by rw [hg]; exact (bU (by repeat (first | (with_reducible first | exact HB.out | apply bA | apply bN | apply bD) | exact HB.out))) : w.heap.size ≤ gb239)); have n3_ := am ((by rw [hg]; exact (bU (by repeat (first | (with_reducible first | exact HB.out | apply bA | apply bN | apply bD) | exact HB.out))) : w.heap.size ≤ gb239)); clear HB; have HB := n0_; have BK239 := n1_; have GW239 := n2_; have GE239 := n3_; clear n0_ n1_ n2_ n3_; clear hb hbox hg; have hcz24_0 : w23.cell? ⟨gb239, 0, none⟩ = some (.int .i64 a0_0) := (bC BK239.out 0).trans rfl; have hcz24_1 : w23.cell? ⟨gb239, 1, none⟩ = some (.int .i64 a0_1) := (bC BK239.out 1).trans rfl; have hcz24_2 : w23.cell? ⟨gb239, 2, none⟩ = some (.int .i64 a0_2) := (bC BK239.out 2).trans rfl; have hcz24_3 : w23.cell? ⟨gb239, 3, none⟩ = some (.int .i64 a0_3) := (bC BK239.out 3).trans rfl; have hfz24_0 := bZ BK239.out 0; have hfz24_1 := bZ BK239.out 1; have hfz24_2 := bZ BK239.out 2; have hfz24_3 := bZ BK239.out 3))
                go_ret
                exact ⟨by first | rfl | (simp [errW_none, errW_some] <;> rfl) | (simp [*, errW_none, errW_some] <;> rfl), by repeat (first | (with_reducible first | exact HB.out | apply bA | apply bN | apply bD | refine bS ?_ GE239.out) | exact HB.out)⟩
              · rw [if_neg c22] at H
                have c22b0 : decide (a0_0 ≤ (wrap64 (a1 - a0_2))) = false := decide_eq_false c22
                clear c22
                obtain rfl := Option.some.inj H
                go_enter Try.func67, Try.ntmps67
                go_wp2_with (first | ((with_reducible refine gD (N := 3) rfl ?_); refine bE ?hg (N := 3) ?hd (cs := #[.int .i64 a0_0, .int .i64 a0_1, .int .i64 a0_2, .int .i64 a0_3]) (t := 52) ?hr ?_; (case hd => rfl); (case hg => rfl); (case hr => first | (go_simp; done) | (go_simp; rfl)); intro gb239 hg w25 hbox hb; have n0_ := am (bT (by repeat (first | (with_reducible first | exact HB.out | apply bA | apply bN | apply bD) | exact HB.out)) hb); have n1_ := am (hbox); have n2_ := am ((by rw [hg]; exact (bU (by repeat (first | (with_reducible first | exact HB.out | apply bA | apply bN | apply bD) | exact HB.out))) : w.heap.size ≤ gb239)); have n3_ := am ((by rw [hg]; exact (bU (by repeat (first | (with_reducible first | exact HB.out | apply bA | apply bN | apply bD) | exact HB.out))) : w.heap.size ≤ gb239)); clear HB; have HB := n0_; have BK239 := n1_; have GW239 := n2_; have GE239 := n3_; clear n0_ n1_ n2_ n3_; clear hb hbox hg; have hcz26_0 : w25.cell? ⟨gb239, 0, none⟩ = some (.int .i64 a0_0) := (bC BK239.out 0).trans rfl; have hcz26_1 : w25.cell? ⟨gb239, 1, none⟩ = some (.int .i64 a0_1) := (bC BK239.out 1).trans rfl; have hcz26_2 : w25.cell? ⟨gb239, 2, none⟩ = some (.int .i64 a0_2) := (bC BK239.out 2).trans rfl; have hcz26_3 : w25.cell? ⟨gb239, 3, none⟩ = some (.int .i64 a0_3) := (bC BK239.out 3).trans rfl; have hfz26_0 := bZ BK239.out 0; have hfz26_1 := bZ BK239.out 1; have hfz26_2 := bZ BK239.out 2; have hfz26_3 := bZ BK239.out 3))
                go_ret
                exact ⟨by first | rfl | (simp [errW_none, errW_some] <;> rfl) | (simp [*, errW_none, errW_some] <;> rfl), by repeat (first | (with_reducible first | exact HB.out | apply bA | apply bN | apply bD | refine bS ?_ GE239.out) | exact HB.out)⟩

end Go.Proofs.Ytdoikehkibefpaa.PPb
