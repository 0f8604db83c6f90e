-- Laid by a program of this session (wip/tools/prx.py), over the kit's printer of walks; Lean checks it.
import Derived.Test.YtdoikehkibefpaaPPbx0
import Derived.Test.YtdoikehkibefpaaPPbx3
namespace Go.Proofs.Ytdoikehkibefpaa.PPb
open Go.RowKit Go.Proofs.YtdoikehkibefpaaW.PrintWords Go.Proofs.YtdoikehkibefpaaW.PrintLast Go.Proofs.YtdoikehkibefpaaW.PrintMore
open Go.Proofs.YtdoikehkibefpaaW.PrintWords renaming blk_far → bF, below_set → bS, blk_frozen → bZ, below_alloc → bA, pw_below_drewN → bN, below_drew1 → bD, blk_below → bB, blk_cell → bC, blk_set → bs, blk_lt → bL, blk_put → bP, below_step → bT, below_size → bU, box_event → bE, gate_dst → gD
open Go.Proofs.YtdoikehkibefpaaW.PrintWords.Kd renaming S_far → kF, S_types → kT, S_alloc → kA, S_drewN → kN, S_drew → kD
set_option linter.unusedVariables false
set_option linter.unusedSimpArgs false

/-! ### dailiesref06_total: function 58 -/
def dailiesref06_total.l0 : Nat → Int → Int → Int → Int → Int → Bool → Option (Int)
 | 0, _, _, _, _, _, _ => none
 | k + 1, x3, x4, x125000, x125001, x125002, x125003 => (dailiesref06_count.f x125000 x125001 x125002 x125003).bind fun t125 => (if x4 < t125 then ((dailiesref06_wide.f x125000 x125001 x125002 x125003 x4).bind fun t126 => (dailiesref06_total.l0 k (wrap64 (x3 + (wrap64 (t126 * x125001)))) (wrap64 (x4 + 1)) x125000 x125001 x125002 x125003)) else (some x3))
def dailiesref06_total.f (k : Nat) (a0_0 : Int) (a0_1 : Int) (a0_2 : Int) (a0_3 : Bool) : Option (Int) := dailiesref06_total.l0 k 0 0 a0_0 a0_1 a0_2 a0_3
theorem dailiesref06_total.mono_l : ∀ k, (∀ y0 y1 y2 y3 y4 y5, LeO (dailiesref06_total.l0 k y0 y1 y2 y3 y4 y5) (dailiesref06_total.l0 (k + 1) y0 y1 y2 y3 y4 y5))
 | 0 => fun _ _ _ _ _ _ r h => by simp [dailiesref06_total.l0] at h
 | k + 1 => by
  have ih0 := dailiesref06_total.mono_l k
  ·intro y0 y1 y2 y3 y4 y5
   unfold dailiesref06_total.l0
   repeat' first
   | (with_reducible exact ih0 _ _ _ _ _ _)
   | (with_reducible exact LeO.refl _)
   | (with_reducible exact LeO.none _)
   | (with_reducible refine LeO.ite ?_ ?_)
   | (with_reducible refine LeO.bind ?_ (fun _ => ?_))
   | exact ih0 _ _ _ _ _ _
   | exact LeO.none _
   | refine LeO.ite ?_ ?_
   | refine LeO.bind ?_ (fun _ => ?_)
theorem dailiesref06_total.mono : ∀ a0 a1 a2 a3 k, LeO (dailiesref06_total.f k a0 a1 a2 a3) (dailiesref06_total.f (k + 1) a0 a1 a2 a3) := by
 intro a0 a1 a2 a3 k
 have ih0 := dailiesref06_total.mono_l k
 unfold dailiesref06_total.f
 repeat' first
   | (with_reducible exact ih0 _ _ _ _ _ _)
   | (with_reducible exact LeO.refl _)
   | (with_reducible exact LeO.none _)
   | (with_reducible refine LeO.ite ?_ ?_)
   | (with_reducible refine LeO.bind ?_ (fun _ => ?_))
   | exact ih0 _ _ _ _ _ _
   | exact LeO.none _
   | refine LeO.ite ?_ ?_
   | refine LeO.bind ?_ (fun _ => ?_)
def dailiesref06_total.T5 : Bool × List (List Nat × List Nat) := (true, [([], []), ([], []), ([], []), ([1, 2], [1, 2]), ([], []), ([4], [4]), ([3, 5], [3, 5]), ([0, 6], [0, 6]), ([7, 3, 0, 1, 2, 3, 4, 5, 6, 7], [0, 7])])
def dailiesref06_total.B5 : List Nat := [0, 0, 0, 6, 0, 16, 62, 127, 255]
theorem dailiesref06_total.tab5 : rtab .any (opsOf Try.f58 5) = dailiesref06_total.T5 := by kernel_rfl
theorem dailiesref06_total.bits5 : waitsOk dailiesref06_total.T5.2 dailiesref06_total.B5 = true := by kernel_rfl
set_option maxHeartbeats 8000000 in
set_option maxRecDepth 100000 in
theorem dailiesref06_total.calls (k : Nat) (a0_0 : Int) (a0_1 : Int) (a0_2 : Int) (a0_3 : Bool) (r : Int) (w : World) (h : dailiesref06_total.f k a0_0 a0_1 a0_2 a0_3 = some r) :
  Calls Try.prog 58 #[.agg #[.int .i64 a0_0, .int .i64 a0_1, .int .i64 a0_2, .bool a0_3]] w fun e w' => e = .returned (.int .i64 r) ∧ Below w.heap.size w w' := by
 have hu26 := Try.underlying26
 have HB := am (Below.refl w.heap.size w)
 have H : (dailiesref06_total.l0 k 0 0 a0_0 a0_1 a0_2 a0_3) = some r := h
 clear h
 have H' := am H
 clear H
 go_enter Try.func58, Try.ntmps58
 go_wp2_with (first | ((with_reducible refine gD (N := 1) rfl ?_); refine bE ?hg (N := 1) ?hd (cs := #[.int .i64 a0_0, .int .i64 a0_1, .int .i64 a0_2, .bool a0_3]) (t := 26) ?hr ?_; (case hd => rfl); (case hg => rfl); (case hr => first | (go_simp; done) | (go_simp; rfl)); intro gb124 hg w2 hbox hb; have n0_ := am (bT (by repeat (first | (with_reducible first | exact HB.out | apply bA | apply bN | apply bD) | exact HB.out)) hb); have n1_ := am (hbox); have n2_ := am ((by rw [hg]; exact (bU (by repeat (first | (with_reducible first | exact HB.out | apply bA | apply bN | apply bD) | exact HB.out))) : w.heap.size ≤ gb124)); have n3_ := am ((by rw [hg]; exact (bU (by repeat (first | (with_reducible first | exact HB.out | apply bA | apply bN | apply bD) | exact HB.out))) : w.heap.size ≤ gb124)); clear HB; have HB := n0_; have BK124 := n1_; have GW124 := n2_; have GE124 := n3_; clear n0_ n1_ n2_ n3_; clear hb hbox hg))
 go_loopg [3, 4] k (fun kq v3 v4 w' => ∃ (x3_1 : Int) (x4_1 : Int), v3 = .int .i64 x3_1 ∧ v4 = .int .i64 x4_1 ∧ Aside0 (dailiesref06_total.l0 kq x3_1 x4_1 a0_0 a0_1 a0_2 a0_3 = some r) ∧ Aside0 (kq ≤ k) ∧ Aside0 (w'.heap[gb124]? = some (.cells #[.int .i64 a0_0, .int .i64 a0_1, .int .i64 a0_2, .bool a0_3] 26 (0, 0))) ∧ Aside0 (Below w.heap.size w w'))
 case atStart => exact ⟨(0), (0), (by first | rfl | (simp; done) | (simp [*]; done)), (by first | rfl | (simp; done) | (simp [*]; done)), H', ⟨Nat.le_refl _⟩, ⟨by (with_reducible repeat apply dX); exact BK124.out⟩, ⟨by repeat (first | (with_reducible first | exact HB.out | apply bA | apply bN | apply bD | refine bS ?_ GE124.out) | exact HB.out)⟩⟩
 case round =>
  clear H'
  try clear p2
  obtain ⟨x3_1, x4_1, rfl, rfl, HA, HK1, BK124, HB⟩ := hrel
  cases gk with
  | zero => exact absurd HA.out (by simp [dailiesref06_total.l0])
  | succ k1 =>
   have H := HA.out
   clear HA
   simp only [dailiesref06_total.l0] at H
   replace H := Option.bind_eq_some_iff.mp H
   obtain ⟨t125, A30, H⟩ := H
   replace H : (if x4_1 < t125 then ((dailiesref06_wide.f a0_0 a0_1 a0_2 a0_3 x4_1).bind fun t126 => (dailiesref06_total.l0 k1 (wrap64 (x3_1 + (wrap64 (t126 * a0_1)))) (wrap64 (x4_1 + 1)) a0_0 a0_1 a0_2 a0_3)) else (some x3_1)) = some r := H
   have A3 := am A30
   clear A30
   by_cases c4 : x4_1 < t125
   ·rw [if_pos c4] at H
    have c4b0 : decide (x4_1 < t125) = true := decide_eq_true c4
    clear c4
    replace H := Option.bind_eq_some_iff.mp H
    obtain ⟨t126, A50, H⟩ := H
    replace H : (dailiesref06_total.l0 k1 (wrap64 (x3_1 + (wrap64 (t126 * a0_1)))) (wrap64 (x4_1 + 1)) a0_0 a0_1 a0_2 a0_3) = some r := H
    have A5 := am A50
    clear A50
    have H' := am H
    clear H
    have hcz6_0 : wr.cell? ⟨gb124, 0, none⟩ = some (.int .i64 a0_0) := (bC BK124.out 0).trans rfl
    have hcz6_1 : wr.cell? ⟨gb124, 1, none⟩ = some (.int .i64 a0_1) := (bC BK124.out 1).trans rfl
    have hcz6_2 : wr.cell? ⟨gb124, 2, none⟩ = some (.int .i64 a0_2) := (bC BK124.out 2).trans rfl
    have hcz6_3 : wr.cell? ⟨gb124, 3, none⟩ = some (.bool a0_3) := (bC BK124.out 3).trans rfl
    have hfz6_0 := bZ BK124.out 0
    have hfz6_1 := bZ BK124.out 1
    have hfz6_2 := bZ BK124.out 2
    have hfz6_3 := bZ BK124.out 3
    try go_wp2_with (first | ((with_reducible refine gate_callee (f := 60) rfl ?_); refine goesL_ (some 7) rfl rfl Try.func60 (by kernel_rfl) rfl #[.agg #[.int .i64 a0_0, .int .i64 a0_1, .int .i64 a0_2, .bool a0_3]] rfl (by (try simp only [List.map_toArray, List.map_cons, List.map_nil]); first | done | rfl | (simp only [List.length_drop, List.length_take]; rfl)) ?_; (with_reducible refine (dailiesref06_count.calls a0_0 a0_1 a0_2 a0_3 t125 _ A3.out).mono ?_); rintro e w7 ⟨rfl, hb⟩; refine ⟨_, rfl, ?_⟩; have n0_ := am (bB (g := gb124) (o := .cells #[.int .i64 a0_0, .int .i64 a0_1, .int .i64 a0_2, .bool a0_3] 26 (0, 0)) (by (with_reducible repeat apply dX); exact BK124.out) hb); have n1_ := am (bT (by repeat (first | (with_reducible first | exact HB.out | apply bA | apply bN | apply bD | refine bS ?_ GE124.out) | exact HB.out)) hb); clear BK124; clear HB; have BK124 := n0_; have HB := n1_; clear n0_ n1_; (try clear hb); (try clear hb2); (try clear hk); (try clear hi)))
    have n0_ := am (blk_drew BK124.out)
    have n1_ := am (bD HB.out)
    clear BK124
    clear HB
    have BK124 := n0_
    have HB := n1_
    clear n0_ n1_
    refine start_ (n := 9) (S := fun w' => w'.cell? ⟨gb124, 0, none⟩ = some (.int .i64 a0_0) ∧ w'.cell? ⟨gb124, 1, none⟩ = some (.int .i64 a0_1) ∧ w'.cell? ⟨gb124, 2, none⟩ = some (.int .i64 a0_2) ∧ w'.cell? ⟨gb124, 3, none⟩ = some (.bool a0_3)) (ds := []) #[false, false, false, false, false, false, false, false, false] (by kernel_rfl) rfl rfl ⟨(bC BK124.out 0).trans rfl, (bC BK124.out 1).trans rfl, (bC BK124.out 2).trans rfl, (bC BK124.out 3).trans rfl⟩ (fun hHeld => ?_); refine with_tabW dailiesref06_total.tab5 dailiesref06_total.bits5 (fun HT_ HW_ => ?_)
    generalize w7.drew = w8 at BK124 HB hHeld ⊢
    refine pure_ (i := 0) (N := some 11) (v := ?_) (a' := ?_) #[true, false, false, false, false, false, false, false, false] rfl rfl (any_of HT_.out (by kernel_rfl)) (fun _ _ _ h => h) (Or.inl ⟨by rfl, ?_⟩) ?_ ?_
    rotate_left
    ·intro w'
     go_simp
     with_reducible rfl
    rotate_left
    ·simp only [Act.put, List.setIfInBounds_toArray, List.set_cons_zero, List.set_cons_succ, i64_w, i32_w]
     rfl
    refine pure_ (i := 2) (N := some 13) (v := ?_) (a' := ?_) #[true, false, true, false, false, false, false, false, false] rfl rfl (any_of HT_.out (by kernel_rfl)) (fun _ _ _ h => h) (Or.inl ⟨by rfl, ?_⟩) ?_ ?_
    rotate_left
    ·intro w'
     go_simp
     with_reducible rfl
    rotate_left
    ·simp only [Act.put, List.setIfInBounds_toArray, List.set_cons_zero, List.set_cons_succ, i64_w, i32_w]
     rfl
    refine pure_ (i := 4) (N := some 15) (v := ?_) (a' := ?_) #[true, false, true, false, true, false, false, false, false] rfl rfl (any_of HT_.out (by kernel_rfl)) (fun _ _ _ h => h) (Or.inl ⟨by rfl, ?_⟩) ?_ ?_
    rotate_left
    ·intro w'
     go_simp
     with_reducible rfl
    rotate_left
    ·simp only [Act.put, List.setIfInBounds_toArray, List.set_cons_zero, List.set_cons_succ, i64_w, i32_w]
     rfl
    refine take_ (i := 1) (N := some 12) (v := ?_) (a' := ?_) #[true, true, true, false, true, false, false, false, false] rfl rfl (take_ofW HT_.out HW_.out (by kernel_rfl)) (fun _ _ _ h => h) (Or.inl ⟨by rfl, ?_⟩) hHeld ?_ ?_
    rotate_left
    ·rintro w' ⟨s0, s1, s2, s3⟩
     go_simp
     with_reducible rfl
    rotate_left
    ·simp only [Act.put, List.setIfInBounds_toArray, List.set_cons_zero, List.set_cons_succ, i64_w, i32_w]
     rfl
    refine take_ (i := 5) (N := some 16) (v := ?_) (a' := ?_) #[true, true, true, false, true, true, false, false, false] rfl rfl (take_ofW HT_.out HW_.out (by kernel_rfl)) (fun _ _ _ h => h) (Or.inl ⟨by rfl, ?_⟩) hHeld ?_ ?_
    rotate_left
    ·rintro w' ⟨s0, s1, s2, s3⟩
     go_simp
     with_reducible rfl
    rotate_left
    ·simp only [Act.put, List.setIfInBounds_toArray, List.set_cons_zero, List.set_cons_succ, i64_w, i32_w]
     rfl
    refine one_ (i := 3) (N := some 14) #[true, true, true, true, true, true, false, false, false] rfl rfl (one_of HT_.out (by kernel_rfl)) (by decide) (fun K hK => ?_)
    refine goes_ Try.func57 (by kernel_rfl) rfl #[.agg #[.int .i64 a0_0, .int .i64 a0_1, .int .i64 a0_2, .bool a0_3], .int .i64 x4_1] (by rfl) rfl rfl (by (try simp only [List.map_toArray, List.map_cons, List.map_nil]); first | done | rfl | (simp only [List.length_drop, List.length_take]; rfl)) ?_
    with_reducible refine (dailiesref06_wide.calls a0_0 a0_1 a0_2 a0_3 x4_1 t126 _ A5.out).mono ?_
    rintro e w9 ⟨rfl, hb⟩
    refine ⟨_, rfl, ?_⟩
    have n0_ := am (bB (g := gb124) (o := .cells #[.int .i64 a0_0, .int .i64 a0_1, .int .i64 a0_2, .bool a0_3] 26 (0, 0)) (by (with_reducible repeat apply dX); exact BK124.out) hb)
    have n1_ := am (bT (by repeat (first | (with_reducible first | exact HB.out | apply bA | apply bN | apply bD | refine bS ?_ GE124.out) | exact HB.out)) hb)
    clear BK124
    clear HB
    have BK124 := n0_
    have HB := n1_
    clear n0_ n1_
    (try clear hb)
    (try clear hb2)
    (try clear hk)
    (try clear hi)
    refine hK.out _ _ ⟨(bC BK124.out 0).trans rfl, (bC BK124.out 1).trans rfl, (bC BK124.out 2).trans rfl, (bC BK124.out 3).trans rfl⟩ (fun hHeld => ?_)
    clear hK K
    refine norm_ (a' := ?_) ?_ ?_
    rotate_left
    ·show Act.put _ (some 14) _ = _
     simp only [Act.put, List.setIfInBounds_toArray, List.set_cons_zero, List.set_cons_succ, i64_w, i32_w]
     rfl
    refine pure_ (i := 6) (N := some 17) (v := ?_) (a' := ?_) #[true, true, true, true, true, true, true, false, false] rfl rfl (any_of HT_.out (by kernel_rfl)) (fun _ _ _ h => h) (Or.inl ⟨by rfl, ?_⟩) ?_ ?_
    rotate_left
    ·intro w'
     go_simp
     with_reducible rfl
    rotate_left
    ·simp only [Act.put, List.setIfInBounds_toArray, List.set_cons_zero, List.set_cons_succ, i64_w, i32_w]
     rfl
    refine pure_ (i := 7) (N := some 18) (v := ?_) (a' := ?_) #[true, true, true, true, true, true, true, true, false] rfl rfl (any_of HT_.out (by kernel_rfl)) (fun _ _ _ h => h) (Or.inl ⟨by rfl, ?_⟩) ?_ ?_
    rotate_left
    ·intro w'
     go_simp
     with_reducible rfl
    rotate_left
    ·simp only [Act.put, List.setIfInBounds_toArray, List.set_cons_zero, List.set_cons_succ, i64_w, i32_w]
     rfl
    refine pure_ (i := 8) (N := some 3) (v := ?_) (a' := ?_) #[true, true, true, true, true, true, true, true, true] rfl rfl (any_of HT_.out (by kernel_rfl)) (fun _ _ _ h => h) (Or.inl ⟨by rfl, ?_⟩) ?_ ?_
    rotate_left
    ·intro w'
     go_simp
     with_reducible rfl
    rotate_left
    ·simp only [Act.put, List.setIfInBounds_toArray, List.set_cons_zero, List.set_cons_succ, i64_w, i32_w]
     rfl
    refine done_ (done_of HT_.out (by kernel_rfl)) ?_
    try go_wp2
    go_roundg k1
    case measure => have := HK1.out; omega
    case rel => exact ⟨(wrap64 (x3_1 + (wrap64 (t126 * a0_1)))), (wrap64 (x4_1 + 1)), (by first | rfl | (simp; done) | (simp [*]; done)), (by first | rfl | (simp; done) | (simp [*]; done)), H', ⟨by have := HK1.out; omega⟩, ⟨by (with_reducible repeat apply dX); exact BK124.out⟩, ⟨by repeat (first | (with_reducible first | exact HB.out | apply bA | apply bN | apply bD | refine bS ?_ GE124.out) | exact HB.out)⟩⟩
   ·rw [if_neg c4] at H
    have c4b0 : decide (x4_1 < t125) = false := decide_eq_false c4
    clear c4
    obtain rfl := Option.some.inj H
    have hcz10_0 : wr.cell? ⟨gb124, 0, none⟩ = some (.int .i64 a0_0) := (bC BK124.out 0).trans rfl
    have hcz10_1 : wr.cell? ⟨gb124, 1, none⟩ = some (.int .i64 a0_1) := (bC BK124.out 1).trans rfl
    have hcz10_2 : wr.cell? ⟨gb124, 2, none⟩ = some (.int .i64 a0_2) := (bC BK124.out 2).trans rfl
    have hcz10_3 : wr.cell? ⟨gb124, 3, none⟩ = some (.bool a0_3) := (bC BK124.out 3).trans rfl
    have hfz10_0 := bZ BK124.out 0
    have hfz10_1 := bZ BK124.out 1
    have hfz10_2 := bZ BK124.out 2
    have hfz10_3 := bZ BK124.out 3
    go_wp2_with (first | ((with_reducible refine gate_callee (f := 60) rfl ?_); refine goesL_ (some 7) rfl rfl Try.func60 (by kernel_rfl) rfl #[.agg #[.int .i64 a0_0, .int .i64 a0_1, .int .i64 a0_2, .bool a0_3]] rfl (by (try simp only [List.map_toArray, List.map_cons, List.map_nil]); first | done | rfl | (simp only [List.length_drop, List.length_take]; rfl)) ?_; (with_reducible refine (dailiesref06_count.calls a0_0 a0_1 a0_2 a0_3 t125 _ A3.out).mono ?_); rintro e w11 ⟨rfl, hb⟩; refine ⟨_, rfl, ?_⟩; have n0_ := am (bB (g := gb124) (o := .cells #[.int .i64 a0_0, .int .i64 a0_1, .int .i64 a0_2, .bool a0_3] 26 (0, 0)) (by (with_reducible repeat apply dX); exact BK124.out) hb); have n1_ := am (bT (by repeat (first | (with_reducible first | exact HB.out | apply bA | apply bN | apply bD | refine bS ?_ GE124.out) | exact HB.out)) hb); clear BK124; clear HB; have BK124 := n0_; have HB := n1_; clear n0_ n1_; (try clear hb); (try clear hb2); (try clear hk); (try clear hi)))
    go_ret
    exact ⟨by first | rfl | (simp [errW_none, errW_some] <;> rfl) | (simp [*, errW_none, errW_some] <;> rfl), by repeat (first | (with_reducible first | exact HB.out | apply bA | apply bN | apply bD | refine bS ?_ GE124.out) | exact HB.out)⟩

/-! ### dailiesref06_Shaped: function 22 -/
def dailiesref06_Shaped.j0 : Nat → Bool → Int → Int → Int → Bool → Option (Int)
 | 0, _, _, _, _, _ => none
 | k + 1, x30, x128000, x128001, x128002, x128003 => if x30 = true then (some 61) else ((dailiesref06_total.f k x128000 x128001 x128002 x128003).bind fun t128 => (if t128 > 4194304 then (some 61) else (some 0)))
def dailiesref06_Shaped.f (k : Nat) (a0_0 : Int) (a0_1 : Int) (a0_2 : Int) (a0_3 : Bool) : Option (Int) := if a0_0 < 1 then (dailiesref06_Shaped.j0 k true a0_0 a0_1 a0_2 a0_3) else (if a0_0 > 4096 then (dailiesref06_Shaped.j0 k true a0_0 a0_1 a0_2 a0_3) else (if a0_1 < 1 then (dailiesref06_Shaped.j0 k true a0_0 a0_1 a0_2 a0_3) else (if a0_1 > 4096 then (dailiesref06_Shaped.j0 k true a0_0 a0_1 a0_2 a0_3) else (if a0_2 = 10 then (dailiesref06_Shaped.j0 k false a0_0 a0_1 a0_2 a0_3) else (dailiesref06_Shaped.j0 k (a0_2 != 12) a0_0 a0_1 a0_2 a0_3)))))
theorem dailiesref06_Shaped.mono_l : ∀ k, (∀ y0 y1 y2 y3 y4, LeO (dailiesref06_Shaped.j0 k y0 y1 y2 y3 y4) (dailiesref06_Shaped.j0 (k + 1) y0 y1 y2 y3 y4))
 | 0 => fun _ _ _ _ _ r h => by simp [dailiesref06_Shaped.j0] at h
 | k + 1 => by
  have ih0 := dailiesref06_Shaped.mono_l k
  ·intro y0 y1 y2 y3 y4
   unfold dailiesref06_Shaped.j0
   repeat' first
   | (with_reducible exact ih0 _ _ _ _ _)
   | (with_reducible exact dailiesref06_total.mono _ _ _ _ _)
   | (with_reducible exact LeO.refl _)
   | (with_reducible exact LeO.none _)
   | (with_reducible refine LeO.ite ?_ ?_)
   | (with_reducible refine LeO.bind ?_ (fun _ => ?_))
   | exact ih0 _ _ _ _ _
   | exact dailiesref06_total.mono _ _ _ _ _
   | exact LeO.none _
   | refine LeO.ite ?_ ?_
   | refine LeO.bind ?_ (fun _ => ?_)
theorem dailiesref06_Shaped.mono : ∀ a0 a1 a2 a3 k, LeO (dailiesref06_Shaped.f k a0 a1 a2 a3) (dailiesref06_Shaped.f (k + 1) a0 a1 a2 a3) := by
 intro a0 a1 a2 a3 k
 have ih0 := dailiesref06_Shaped.mono_l k
 unfold dailiesref06_Shaped.f
 repeat' first
   | (with_reducible exact ih0 _ _ _ _ _)
   | (with_reducible exact dailiesref06_total.mono _ _ _ _ _)
   | (with_reducible exact LeO.refl _)
   | (with_reducible exact LeO.none _)
   | (with_reducible refine LeO.ite ?_ ?_)
   | (with_reducible refine LeO.bind ?_ (fun _ => ?_))
   | exact ih0 _ _ _ _ _
   | exact dailiesref06_total.mono _ _ _ _ _
   | exact LeO.none _
   | refine LeO.ite ?_ ?_
   | refine LeO.bind ?_ (fun _ => ?_)
set_option maxHeartbeats 8000000 in
set_option maxRecDepth 100000 in
theorem dailiesref06_Shaped.calls (k : Nat) (a0_0 : Int) (a0_1 : Int) (a0_2 : Int) (a0_3 : Bool) (r : Int) (w : World) (h : dailiesref06_Shaped.f k a0_0 a0_1 a0_2 a0_3 = some r) :
  Calls Try.prog 22 #[.agg #[.int .i64 a0_0, .int .i64 a0_1, .int .i64 a0_2, .bool a0_3]] w fun e w' => e = .returned (.int .i64 r) ∧ Below w.heap.size w w' := by
 have hu26 := Try.underlying26
 have HB := am (Below.refl w.heap.size w)
 have H : (if a0_0 < 1 then (dailiesref06_Shaped.j0 k true a0_0 a0_1 a0_2 a0_3) else (if a0_0 > 4096 then (dailiesref06_Shaped.j0 k true a0_0 a0_1 a0_2 a0_3) else (if a0_1 < 1 then (dailiesref06_Shaped.j0 k true a0_0 a0_1 a0_2 a0_3) else (if a0_1 > 4096 then (dailiesref06_Shaped.j0 k true a0_0 a0_1 a0_2 a0_3) else (if a0_2 = 10 then (dailiesref06_Shaped.j0 k false a0_0 a0_1 a0_2 a0_3) else (dailiesref06_Shaped.j0 k (a0_2 != 12) a0_0 a0_1 a0_2 a0_3)))))) = some r := h
 clear h
 have HC2 := am H
 clear H
 go_enter Try.func22, Try.ntmps22
 go_upto_region 1 with (first | ((with_reducible refine gD (N := 1) rfl ?_); refine bE ?hg (N := 1) ?hd (cs := #[.int .i64 a0_0, .int .i64 a0_1, .int .i64 a0_2, .bool a0_3]) (t := 26) ?hr ?_; (case hd => rfl); (case hg => rfl); (case hr => first | (go_simp; done) | (go_simp; rfl)); intro gb127 hg w3 hbox hb; have n0_ := am (bT (by repeat (first | (with_reducible first | exact HB.out | apply bA | apply bN | apply bD) | exact HB.out)) hb); have n1_ := am (hbox); have n2_ := am ((by rw [hg]; exact (bU (by repeat (first | (with_reducible first | exact HB.out | apply bA | apply bN | apply bD) | exact HB.out))) : w.heap.size ≤ gb127)); have n3_ := am ((by rw [hg]; exact (bU (by repeat (first | (with_reducible first | exact HB.out | apply bA | apply bN | apply bD) | exact HB.out))) : w.heap.size ≤ gb127)); clear HB; have HB := n0_; have BK127 := n1_; have GW127 := n2_; have GE127 := n3_; clear n0_ n1_ n2_ n3_; clear hb hbox hg))
 (try simp only [Act.put, List.setIfInBounds_toArray, List.set_cons_zero, List.set_cons_succ])
 go_cut [30] (fun v30 wc => ∃ (kq : Nat) (x30_1 : Bool), v30 = .bool x30_1 ∧ Aside0 (dailiesref06_Shaped.j0 kq x30_1 a0_0 a0_1 a0_2 a0_3 = some r) ∧ Aside0 (kq ≤ k) ∧ Aside0 (wc.heap[gb127]? = some (.cells #[.int .i64 a0_0, .int .i64 a0_1, .int .i64 a0_2, .bool a0_3] 26 (0, 0))) ∧ Aside0 (Below w.heap.size w wc))
 case first =>
  have H := HC2.out
  clear HC2
  by_cases c4 : a0_0 < 1
  ·rw [if_pos c4] at H
   have c4b0 : decide (a0_0 < 1) = true := decide_eq_true c4
   clear c4
   (first | rw [c4b0] | (simp only [i64_w, i32_w]; rw [c4b0]) | skip)
   have H' := am H
   clear H
   have hcz5_0 : w3.cell? ⟨gb127, 0, none⟩ = some (.int .i64 a0_0) := (bC BK127.out 0).trans rfl
   have hcz5_1 : w3.cell? ⟨gb127, 1, none⟩ = some (.int .i64 a0_1) := (bC BK127.out 1).trans rfl
   have hcz5_2 : w3.cell? ⟨gb127, 2, none⟩ = some (.int .i64 a0_2) := (bC BK127.out 2).trans rfl
   have hcz5_3 : w3.cell? ⟨gb127, 3, none⟩ = some (.bool a0_3) := (bC BK127.out 3).trans rfl
   have hfz5_0 := bZ BK127.out 0
   have hfz5_1 := bZ BK127.out 1
   have hfz5_2 := bZ BK127.out 2
   have hfz5_3 := bZ BK127.out 3
   go_wp2
   go_meet
   case rel => exact ⟨_, (true), (by first | rfl | (simp; done) | (simp [*]; done)), H', ⟨by first | omega | exact Nat.le_refl _⟩, ⟨by (with_reducible repeat apply dX); exact BK127.out⟩, ⟨by repeat (first | (with_reducible first | exact HB.out | apply bA | apply bN | apply bD | refine bS ?_ GE127.out) | exact HB.out)⟩⟩
  ·rw [if_neg c4] at H
   have c4b0 : decide (a0_0 < 1) = false := decide_eq_false c4
   clear c4
   (first | rw [c4b0] | (simp only [i64_w, i32_w]; rw [c4b0]) | skip)
   by_cases c6 : a0_0 > 4096
   ·rw [if_pos c6] at H
    have c6b0 : decide (4096 < a0_0) = true := decide_eq_true c6
    clear c6
    have H' := am H
    clear H
    have hcz7_0 : w3.cell? ⟨gb127, 0, none⟩ = some (.int .i64 a0_0) := (bC BK127.out 0).trans rfl
    have hcz7_1 : w3.cell? ⟨gb127, 1, none⟩ = some (.int .i64 a0_1) := (bC BK127.out 1).trans rfl
    have hcz7_2 : w3.cell? ⟨gb127, 2, none⟩ = some (.int .i64 a0_2) := (bC BK127.out 2).trans rfl
    have hcz7_3 : w3.cell? ⟨gb127, 3, none⟩ = some (.bool a0_3) := (bC BK127.out 3).trans rfl
    have hfz7_0 := bZ BK127.out 0
    have hfz7_1 := bZ BK127.out 1
    have hfz7_2 := bZ BK127.out 2
    have hfz7_3 := bZ BK127.out 3
    go_wp2
    go_meet
    case rel => exact ⟨_, (true), (by first | rfl | (simp; done) | (simp [*]; done)), H', ⟨by first | omega | exact Nat.le_refl _⟩, ⟨by (with_reducible repeat apply dX); exact BK127.out⟩, ⟨by repeat (first | (with_reducible first | exact HB.out | apply bA | apply bN | apply bD | refine bS ?_ GE127.out) | exact HB.out)⟩⟩
   ·rw [if_neg c6] at H
    have c6b0 : decide (4096 < a0_0) = false := decide_eq_false c6
    clear c6
    by_cases c8 : a0_1 < 1
    ·rw [if_pos c8] at H
     have c8b0 : decide (a0_1 < 1) = true := decide_eq_true c8
     clear c8
     have H' := am H
     clear H
     have hcz9_0 : w3.cell? ⟨gb127, 0, none⟩ = some (.int .i64 a0_0) := (bC BK127.out 0).trans rfl
     have hcz9_1 : w3.cell? ⟨gb127, 1, none⟩ = some (.int .i64 a0_1) := (bC BK127.out 1).trans rfl
     have hcz9_2 : w3.cell? ⟨gb127, 2, none⟩ = some (.int .i64 a0_2) := (bC BK127.out 2).trans rfl
     have hcz9_3 : w3.cell? ⟨gb127, 3, none⟩ = some (.bool a0_3) := (bC BK127.out 3).trans rfl
     have hfz9_0 := bZ BK127.out 0
     have hfz9_1 := bZ BK127.out 1
     have hfz9_2 := bZ BK127.out 2
     have hfz9_3 := bZ BK127.out 3
     go_wp2
     go_meet
     case rel => exact ⟨_, (true), (by first | rfl | (simp; done) | (simp [*]; done)), H', ⟨by first | omega | exact Nat.le_refl _⟩, ⟨by (with_reducible repeat apply dX); exact BK127.out⟩, ⟨by repeat (first | (with_reducible first | exact HB.out | apply bA | apply bN | apply bD | refine bS ?_ GE127.out) | exact HB.out)⟩⟩
    ·rw [if_neg c8] at H
     have c8b0 : decide (a0_1 < 1) = false := decide_eq_false c8
     clear c8
     by_cases c10 : a0_1 > 4096
     ·rw [if_pos c10] at H
      have c10b0 : decide (4096 < a0_1) = true := decide_eq_true c10
      clear c10
      have H' := am H
      clear H
      have hcz11_0 : w3.cell? ⟨gb127, 0, none⟩ = some (.int .i64 a0_0) := (bC BK127.out 0).trans rfl
      have hcz11_1 : w3.cell? ⟨gb127, 1, none⟩ = some (.int .i64 a0_1) := (bC BK127.out 1).trans rfl
      have hcz11_2 : w3.cell? ⟨gb127, 2, none⟩ = some (.int .i64 a0_2) := (bC BK127.out 2).trans rfl
      have hcz11_3 : w3.cell? ⟨gb127, 3, none⟩ = some (.bool a0_3) := (bC BK127.out 3).trans rfl
      have hfz11_0 := bZ BK127.out 0
      have hfz11_1 := bZ BK127.out 1
      have hfz11_2 := bZ BK127.out 2
      have hfz11_3 := bZ BK127.out 3
      go_wp2
      go_meet
      case rel => exact ⟨_, (true), (by first | rfl | (simp; done) | (simp [*]; done)), H', ⟨by first | omega | exact Nat.le_refl _⟩, ⟨by (with_reducible repeat apply dX); exact BK127.out⟩, ⟨by repeat (first | (with_reducible first | exact HB.out | apply bA | apply bN | apply bD | refine bS ?_ GE127.out) | exact HB.out)⟩⟩
     ·rw [if_neg c10] at H
      have c10b0 : decide (4096 < a0_1) = false := decide_eq_false c10
      clear c10
      by_cases c12 : a0_2 = 10
      ·rw [if_pos c12] at H
       have c12b0 : (a0_2 == 10) = true := beq_iff_eq.mpr c12
       have c12b1 : (a0_2 != 10) = false := bne_eq_false_iff_eq.mpr c12
       clear c12
       have H' := am H
       clear H
       have hcz13_0 : w3.cell? ⟨gb127, 0, none⟩ = some (.int .i64 a0_0) := (bC BK127.out 0).trans rfl
       have hcz13_1 : w3.cell? ⟨gb127, 1, none⟩ = some (.int .i64 a0_1) := (bC BK127.out 1).trans rfl
       have hcz13_2 : w3.cell? ⟨gb127, 2, none⟩ = some (.int .i64 a0_2) := (bC BK127.out 2).trans rfl
       have hcz13_3 : w3.cell? ⟨gb127, 3, none⟩ = some (.bool a0_3) := (bC BK127.out 3).trans rfl
       have hfz13_0 := bZ BK127.out 0
       have hfz13_1 := bZ BK127.out 1
       have hfz13_2 := bZ BK127.out 2
       have hfz13_3 := bZ BK127.out 3
       go_wp2
       go_meet
       case rel => exact ⟨_, (false), (by first | rfl | (simp; done) | (simp [*]; done)), H', ⟨by first | omega | exact Nat.le_refl _⟩, ⟨by (with_reducible repeat apply dX); exact BK127.out⟩, ⟨by repeat (first | (with_reducible first | exact HB.out | apply bA | apply bN | apply bD | refine bS ?_ GE127.out) | exact HB.out)⟩⟩
      ·rw [if_neg c12] at H
       have c12b0 : (a0_2 == 10) = false := beq_eq_false_iff_ne.mpr c12
       have c12b1 : (a0_2 != 10) = true := bne_iff_ne.mpr c12
       have H' := am H
       clear H
       have hcz14_0 : w3.cell? ⟨gb127, 0, none⟩ = some (.int .i64 a0_0) := (bC BK127.out 0).trans rfl
       have hcz14_1 : w3.cell? ⟨gb127, 1, none⟩ = some (.int .i64 a0_1) := (bC BK127.out 1).trans rfl
       have hcz14_2 : w3.cell? ⟨gb127, 2, none⟩ = some (.int .i64 a0_2) := (bC BK127.out 2).trans rfl
       have hcz14_3 : w3.cell? ⟨gb127, 3, none⟩ = some (.bool a0_3) := (bC BK127.out 3).trans rfl
       have hfz14_0 := bZ BK127.out 0
       have hfz14_1 := bZ BK127.out 1
       have hfz14_2 := bZ BK127.out 2
       have hfz14_3 := bZ BK127.out 3
       go_wp2
       go_meet
       case rel => exact ⟨_, ((a0_2 != 12)), (by first | rfl | (simp; done) | (simp [*]; done)), H', ⟨by first | omega | exact Nat.le_refl _⟩, ⟨by (with_reducible repeat apply dX); exact BK127.out⟩, ⟨by repeat (first | (with_reducible first | exact HB.out | apply bA | apply bN | apply bD | refine bS ?_ GE127.out) | exact HB.out)⟩⟩
 case rest =>
  clear HC2
  try clear c1
  try clear c2
  try clear p2
  try clear c4
  try clear c4b0
  try clear c6
  try clear c6b0
  try clear c8
  try clear c8b0
  try clear c10
  try clear c10b0
  try clear c12
  try clear c12b0
  try clear c12b1
  try clear hcz11_0
  try clear hcz11_1
  try clear hcz11_2
  try clear hcz11_3
  try clear hcz13_0
  try clear hcz13_1
  try clear hcz13_2
  try clear hcz13_3
  try clear hcz14_0
  try clear hcz14_1
  try clear hcz14_2
  try clear hcz14_3
  try clear hcz5_0
  try clear hcz5_1
  try clear hcz5_2
  try clear hcz5_3
  try clear hcz7_0
  try clear hcz7_1
  try clear hcz7_2
  try clear hcz7_3
  try clear hcz9_0
  try clear hcz9_1
  try clear hcz9_2
  try clear hcz9_3
  try clear hfz11_0
  try clear hfz11_1
  try clear hfz11_2
  try clear hfz11_3
  try clear hfz13_0
  try clear hfz13_1
  try clear hfz13_2
  try clear hfz13_3
  try clear hfz14_0
  try clear hfz14_1
  try clear hfz14_2
  try clear hfz14_3
  try clear hfz5_0
  try clear hfz5_1
  try clear hfz5_2
  try clear hfz5_3
  try clear hfz7_0
  try clear hfz7_1
  try clear hfz7_2
  try clear hfz7_3
  try clear hfz9_0
  try clear hfz9_1
  try clear hfz9_2
  try clear hfz9_3
  obtain ⟨kq, x30_1, rfl, HA, HJ1, BK127, HB⟩ := hcut
  cases kq with
  | zero => exact absurd HA.out (by simp [dailiesref06_Shaped.j0])
  | succ kj1 =>
   have H := HA.out
   clear HA
   simp only [dailiesref06_Shaped.j0] at H
   by_cases c15 : x30_1 = true
   ·subst c15
    have H1 : (some 61) = some r := by rw [if_pos rfl] at H; exact H
    clear H
    have H := H1
    clear H1
    obtain rfl := Option.some.inj H
    go_wp2
    go_ret
    exact ⟨by first | rfl | (simp [errW_none, errW_some] <;> rfl) | (simp [*, errW_none, errW_some] <;> rfl), by repeat (first | (with_reducible first | exact HB.out | apply bA | apply bN | apply bD | refine bS ?_ GE127.out) | exact HB.out)⟩
   ·replace c15 := Bool.eq_false_iff.mpr c15
    subst c15
    have H1 : ((dailiesref06_total.f kj1 a0_0 a0_1 a0_2 a0_3).bind fun t128 => (if t128 > 4194304 then (some 61) else (some 0))) = some r := by rw [if_neg (show ¬ (false = true) by decide)] at H; exact H
    clear H
    have H := H1
    clear H1
    replace H := Option.bind_eq_some_iff.mp H
    obtain ⟨t128, A160, H⟩ := H
    replace H : (if t128 > 4194304 then (some 61) else (some 0)) = some r := H
    have A16 := am A160
    clear A160
    by_cases c17 : t128 > 4194304
    ·rw [if_pos c17] at H
     have c17b0 : decide (4194304 < t128) = true := decide_eq_true c17
     clear c17
     obtain rfl := Option.some.inj H
     have hcz18_0 : wc.cell? ⟨gb127, 0, none⟩ = some (.int .i64 a0_0) := (bC BK127.out 0).trans rfl
     have hcz18_1 : wc.cell? ⟨gb127, 1, none⟩ = some (.int .i64 a0_1) := (bC BK127.out 1).trans rfl
     have hcz18_2 : wc.cell? ⟨gb127, 2, none⟩ = some (.int .i64 a0_2) := (bC BK127.out 2).trans rfl
     have hcz18_3 : wc.cell? ⟨gb127, 3, none⟩ = some (.bool a0_3) := (bC BK127.out 3).trans rfl
     have hfz18_0 := bZ BK127.out 0
     have hfz18_1 := bZ BK127.out 1
     have hfz18_2 := bZ BK127.out 2
     have hfz18_3 := bZ BK127.out 3
     go_wp2_with (first | ((with_reducible refine gate_callee (f := 58) rfl ?_); refine goesL_ (some 32) rfl rfl Try.func58 (by kernel_rfl) rfl #[.agg #[.int .i64 a0_0, .int .i64 a0_1, .int .i64 a0_2, .bool a0_3]] rfl (by (try simp only [List.map_toArray, List.map_cons, List.map_nil]); first | done | rfl | (simp only [List.length_drop, List.length_take]; rfl)) ?_; (with_reducible refine (dailiesref06_total.calls kj1 a0_0 a0_1 a0_2 a0_3 t128 _ A16.out).mono ?_); rintro e w19 ⟨rfl, hb⟩; refine ⟨_, rfl, ?_⟩; have n0_ := am (bB (g := gb127) (o := .cells #[.int .i64 a0_0, .int .i64 a0_1, .int .i64 a0_2, .bool a0_3] 26 (0, 0)) (by (with_reducible repeat apply dX); exact BK127.out) hb); have n1_ := am (bT (by repeat (first | (with_reducible first | exact HB.out | apply bA | apply bN | apply bD | refine bS ?_ GE127.out) | exact HB.out)) hb); clear BK127; clear HB; have BK127 := n0_; have HB := n1_; clear n0_ n1_; (try clear hb); (try clear hb2); (try clear hk); (try clear hi)))
     go_ret
     exact ⟨by first | rfl | (simp [errW_none, errW_some] <;> rfl) | (simp [*, errW_none, errW_some] <;> rfl), by repeat (first | (with_reducible first | exact HB.out | apply bA | apply bN | apply bD | refine bS ?_ GE127.out) | exact HB.out)⟩
    ·rw [if_neg c17] at H
     have c17b0 : decide (4194304 < t128) = false := decide_eq_false c17
     clear c17
     obtain rfl := Option.some.inj H
     have hcz20_0 : wc.cell? ⟨gb127, 0, none⟩ = some (.int .i64 a0_0) := (bC BK127.out 0).trans rfl
     have hcz20_1 : wc.cell? ⟨gb127, 1, none⟩ = some (.int .i64 a0_1) := (bC BK127.out 1).trans rfl
     have hcz20_2 : wc.cell? ⟨gb127, 2, none⟩ = some (.int .i64 a0_2) := (bC BK127.out 2).trans rfl
     have hcz20_3 : wc.cell? ⟨gb127, 3, none⟩ = some (.bool a0_3) := (bC BK127.out 3).trans rfl
     have hfz20_0 := bZ BK127.out 0
     have hfz20_1 := bZ BK127.out 1
     have hfz20_2 := bZ BK127.out 2
     have hfz20_3 := bZ BK127.out 3
     go_wp2_with (first | ((with_reducible refine gate_callee (f := 58) rfl ?_); refine goesL_ (some 32) rfl rfl Try.func58 (by kernel_rfl) rfl #[.agg #[.int .i64 a0_0, .int .i64 a0_1, .int .i64 a0_2, .bool a0_3]] rfl (by (try simp only [List.map_toArray, List.map_cons, List.map_nil]); first | done | rfl | (simp only [List.length_drop, List.length_take]; rfl)) ?_; (with_reducible refine (dailiesref06_total.calls kj1 a0_0 a0_1 a0_2 a0_3 t128 _ A16.out).mono ?_); rintro e w21 ⟨rfl, hb⟩; refine ⟨_, rfl, ?_⟩; have n0_ := am (bB (g := gb127) (o := .cells #[.int .i64 a0_0, .int .i64 a0_1, .int .i64 a0_2, .bool a0_3] 26 (0, 0)) (by (with_reducible repeat apply dX); exact BK127.out) hb); have n1_ := am (bT (by repeat (first | (with_reducible first | exact HB.out | apply bA | apply bN | apply bD | refine bS ?_ GE127.out) | exact HB.out)) hb); clear BK127; clear HB; have BK127 := n0_; have HB := n1_; clear n0_ n1_; (try clear hb); (try clear hb2); (try clear hk); (try clear hi)))
     go_ret
     exact ⟨by first | rfl | (simp [errW_none, errW_some] <;> rfl) | (simp [*, errW_none, errW_some] <;> rfl), by repeat (first | (with_reducible first | exact HB.out | apply bA | apply bN | apply bD | refine bS ?_ GE127.out) | exact HB.out)⟩

/-! ### dailiesref06_Top: function 82 -/
def dailiesref06_Top.f (a0 : Int) : Option (Int) := if 0 ≤ a0 then (some (wrap64 ((shl .i64 1 a0) - 1))) else (none)
set_option maxHeartbeats 8000000 in
set_option maxRecDepth 100000 in
theorem dailiesref06_Top.calls (a0 : Int) (r : Int) (w : World) (h : dailiesref06_Top.f a0 = some r) :
  Calls Try.prog 82 #[.int .i64 a0] w fun e w' => e = .returned (.int .i64 r) ∧ Drawn0 w w' := by
 have H : (if 0 ≤ a0 then (some (wrap64 ((shl .i64 1 a0) - 1))) else (none)) = some r := h
 clear h
 by_cases c2 : 0 ≤ a0
 ·rw [if_pos c2] at H
  have c2b0 := eq_true c2
  have c2b1 : decide (0 ≤ a0) = true := decide_eq_true c2
  clear c2
  obtain ⟨ji3, hji3⟩ : ∃ j_ : Int, (shl .i64 1 a0) = j_ := ⟨_, rfl⟩
  replace H : (some (wrap64 ((ji3) - 1))) = some r := by first | (rw [hji3] at H; exact H) | (simp only [hji3] at H ⊢; exact H)
  have hji3_ : (IntKind.i64.wrap (1 * 2 ^ min a0.toNat 64)) = ji3 := hji3
  have hji3z : a0 ≤ 64 → (IntKind.i64.wrap (1 * 2 ^ a0.toNat)) = ji3 := shl_small hji3
  have hji3u : (IntKind.i64.wrap (2 ^ min a0.toNat 64)) = ji3 := by have h_ := hji3_; rw [Int.one_mul] at h_; exact h_
  have hji3v : a0 ≤ 64 → (IntKind.i64.wrap (2 ^ a0.toNat)) = ji3 := fun hle_ => by have h_ := hji3z hle_; rw [Int.one_mul] at h_; exact h_
  have hji3y : (wrap64 (1 * 2 ^ min a0.toNat 64)) = ji3 := (i64_w _).symm.trans hji3_
  have hji3x : a0 ≤ 64 → (wrap64 (1 * 2 ^ a0.toNat)) = ji3 := fun h_ => (i64_w _).symm.trans (hji3z h_)
  obtain rfl := Option.some.inj H
  go_enter Try.func82, Try.ntmps82
  go_wp2
  go_ret
  exact ⟨by first | rfl | (simp; done) | (simp only [← hji3] <;> (first | rfl | simp)) | (simp [*]; done), by repeat (first | exact Drawn0.refl _ | apply Drawn0.step)⟩
 ·rw [if_neg c2] at H
  exact absurd H (by simp)

/-! ### dailiesref06_beyond: function 64 -/
def dailiesref06_beyond.l0 : Nat → List Int → Int → Int → Option (Bool)
 | 0, _, _, _ => none
 | k + 1, x0, x1, x5 => if x5 < (x0.length : Int) then (if 0 ≤ x5 then ((dailiesref06_Top.f x1).bind fun t130 => (if (wrap64 (rd x0 x5)) > t130 then (some true) else (dailiesref06_beyond.l0 k x0 x1 (wrap64 (x5 + 1))))) else (none)) else (some false)
def dailiesref06_beyond.f (k : Nat) (l0 : List Int) (a1 : Int) : Option (Bool) := dailiesref06_beyond.l0 k l0 a1 0
theorem dailiesref06_beyond.mono_l : ∀ k, (∀ y0 y1 y2, LeO (dailiesref06_beyond.l0 k y0 y1 y2) (dailiesref06_beyond.l0 (k + 1) y0 y1 y2))
 | 0 => fun _ _ _ r h => by simp [dailiesref06_beyond.l0] at h
 | k + 1 => by
  have ih0 := dailiesref06_beyond.mono_l k
  ·intro y0 y1 y2
   unfold dailiesref06_beyond.l0
   repeat' first
   | (with_reducible exact ih0 _ _ _)
   | (with_reducible exact LeO.refl _)
   | (with_reducible exact LeO.none _)
   | (with_reducible refine LeO.ite ?_ ?_)
   | (with_reducible refine LeO.bind ?_ (fun _ => ?_))
   | exact ih0 _ _ _
   | exact LeO.none _
   | refine LeO.ite ?_ ?_
   | refine LeO.bind ?_ (fun _ => ?_)
theorem dailiesref06_beyond.mono : ∀ a0 a1 k, LeO (dailiesref06_beyond.f k a0 a1) (dailiesref06_beyond.f (k + 1) a0 a1) := by
 intro a0 a1 k
 have ih0 := dailiesref06_beyond.mono_l k
 unfold dailiesref06_beyond.f
 repeat' first
   | (with_reducible exact ih0 _ _ _)
   | (with_reducible exact LeO.refl _)
   | (with_reducible exact LeO.none _)
   | (with_reducible refine LeO.ite ?_ ?_)
   | (with_reducible refine LeO.bind ?_ (fun _ => ?_))
   | exact ih0 _ _ _
   | exact LeO.none _
   | refine LeO.ite ?_ ?_
   | refine LeO.bind ?_ (fun _ => ?_)
set_option maxHeartbeats 8000000 in
set_option maxRecDepth 100000 in
theorem dailiesref06_beyond.calls (k : Nat) (A0 : Option Addr) (c0 : Nat) (l0 : List Int) (a1 : Int) (r : Bool) (w : World) (hr0 : Kd.C (Kd.int .u16) w A0 l0.length l0) (hc0 : l0.length ≤ c0) (h : dailiesref06_beyond.f k l0 a1 = some r) :
  Calls Try.prog 64 #[.slice A0 l0.length c0, .int .i64 a1] w fun e w' => e = .returned (.bool r) ∧ Drawn0 w w' := by
 have HR0 := am hr0
 have HC0 := am hc0
 clear hr0 hc0
 have H : (dailiesref06_beyond.l0 k l0 a1 0) = some r := h
 clear h
 have H' := am H
 clear H
 go_enter Try.func64, Try.ntmps64
 go_wp2
 repeat (go_quiet (fail); try go_wp2)
 go_loopg [5] k (fun kq v5 w' => ∃ (x5_1 : Int), v5 = .int .i64 x5_1 ∧ Aside0 (dailiesref06_beyond.l0 kq l0 a1 x5_1 = some r) ∧ Aside0 (kq ≤ k) ∧ Drawn0 w w')
 case atStart => exact ⟨(0), (by first | rfl | (simp; done) | (simp [*]; done)), H', ⟨Nat.le_refl _⟩, by repeat (first | exact Drawn0.refl _ | apply Drawn0.step)⟩
 case round =>
  clear H'
  try clear p2
  obtain ⟨x5_1, rfl, HA, HK1, ⟨m1, rfl⟩⟩ := hrel
  cases gk with
  | zero => exact absurd HA.out (by simp [dailiesref06_beyond.l0])
  | succ k1 =>
   have H := HA.out
   clear HA
   simp only [dailiesref06_beyond.l0] at H
   by_cases c3 : x5_1 < (l0.length : Int)
   ·rw [if_pos c3] at H
    have c3b0 : decide (x5_1 < (l0.length : Int)) = true := decide_eq_true c3
    clear c3
    by_cases c4 : 0 ≤ x5_1
    ·rw [if_pos c4] at H
     have c4b0 : decide (0 ≤ x5_1) = true := decide_eq_true c4
     clear c4
     replace H := Option.bind_eq_some_iff.mp H
     obtain ⟨t130, A50, H⟩ := H
     replace H : (if (wrap64 (rd l0 x5_1)) > t130 then (some true) else (dailiesref06_beyond.l0 k1 l0 a1 (wrap64 (x5_1 + 1)))) = some r := H
     have A5 := am A50
     clear A50
     by_cases c6 : (wrap64 (rd l0 x5_1)) > t130
     ·rw [if_pos c6] at H
      have c6b0 : decide (t130 < (wrap64 (rd l0 x5_1))) = true := decide_eq_true c6
      clear c6
      obtain rfl := Option.some.inj H
      have p129 : 0 ≤ (x5_1 : Int) := of_decide_eq_true (by first | (with_reducible assumption) | assumption)
      have q129 : x5_1 < (l0.length : Int) := of_decide_eq_true (by first | (with_reducible assumption) | assumption)
      obtain ⟨ad129, e129, hx129_0⟩ := Kd.at_int HR0.out x5_1 p129 q129
      cases e129
      replace p129 := eq_true p129
      replace q129 := eq_true q129
      go_wp2_with (first | (go_at_call 82; (with_reducible refine (dailiesref06_Top.calls a1 t130 _ A5.out).mono ?_); rintro e w' ⟨rfl, ⟨nd, rfl⟩⟩; (try first | exact ⟨rfl, _, World.drewN_drewN _ _ _⟩ | exact ⟨rfl, _, Eq.trans (World.drewN_drewN _ _ _) (congrArg (World.drewN _) (Nat.add_assoc _ _ _))⟩)))
      repeat (go_quiet (first | (go_at_call 82; (with_reducible refine (dailiesref06_Top.calls a1 t130 _ A5.out).mono ?_); rintro e w' ⟨rfl, ⟨nd, rfl⟩⟩; (try first | exact ⟨rfl, _, World.drewN_drewN _ _ _⟩ | exact ⟨rfl, _, Eq.trans (World.drewN_drewN _ _ _) (congrArg (World.drewN _) (Nat.add_assoc _ _ _))⟩))); try go_wp2_with (first | (go_at_call 82; (with_reducible refine (dailiesref06_Top.calls a1 t130 _ A5.out).mono ?_); rintro e w' ⟨rfl, ⟨nd, rfl⟩⟩; (try first | exact ⟨rfl, _, World.drewN_drewN _ _ _⟩ | exact ⟨rfl, _, Eq.trans (World.drewN_drewN _ _ _) (congrArg (World.drewN _) (Nat.add_assoc _ _ _))⟩))))
      go_ret
      exact ⟨by first | rfl | (simp; done) | (simp [*]; done), by repeat (first | exact Drawn0.refl _ | apply Drawn0.step)⟩
     ·rw [if_neg c6] at H
      have c6b0 : decide (t130 < (wrap64 (rd l0 x5_1))) = false := decide_eq_false c6
      clear c6
      have H' := am H
      clear H
      have p129 : 0 ≤ (x5_1 : Int) := of_decide_eq_true (by first | (with_reducible assumption) | assumption)
      have q129 : x5_1 < (l0.length : Int) := of_decide_eq_true (by first | (with_reducible assumption) | assumption)
      obtain ⟨ad129, e129, hx129_0⟩ := Kd.at_int HR0.out x5_1 p129 q129
      cases e129
      replace p129 := eq_true p129
      replace q129 := eq_true q129
      go_wp2_with (first | (go_at_call 82; (with_reducible refine (dailiesref06_Top.calls a1 t130 _ A5.out).mono ?_); rintro e w' ⟨rfl, ⟨nd, rfl⟩⟩; (try first | exact ⟨rfl, _, World.drewN_drewN _ _ _⟩ | exact ⟨rfl, _, Eq.trans (World.drewN_drewN _ _ _) (congrArg (World.drewN _) (Nat.add_assoc _ _ _))⟩)))
      repeat (go_quiet (first | (go_at_call 82; (with_reducible refine (dailiesref06_Top.calls a1 t130 _ A5.out).mono ?_); rintro e w' ⟨rfl, ⟨nd, rfl⟩⟩; (try first | exact ⟨rfl, _, World.drewN_drewN _ _ _⟩ | exact ⟨rfl, _, Eq.trans (World.drewN_drewN _ _ _) (congrArg (World.drewN _) (Nat.add_assoc _ _ _))⟩))); try go_wp2_with (first | (go_at_call 82; (with_reducible refine (dailiesref06_Top.calls a1 t130 _ A5.out).mono ?_); rintro e w' ⟨rfl, ⟨nd, rfl⟩⟩; (try first | exact ⟨rfl, _, World.drewN_drewN _ _ _⟩ | exact ⟨rfl, _, Eq.trans (World.drewN_drewN _ _ _) (congrArg (World.drewN _) (Nat.add_assoc _ _ _))⟩))))
      go_roundg k1
      case measure => have := HK1.out; omega
      case rel => exact ⟨(wrap64 (x5_1 + 1)), (by first | rfl | (simp; done) | (simp [*]; done)), H', ⟨by have := HK1.out; omega⟩, by repeat (first | exact Drawn0.refl _ | apply Drawn0.step)⟩
    ·rw [if_neg c4] at H
     exact absurd H (by simp)
   ·rw [if_neg c3] at H
    have c3b0 : decide (x5_1 < (l0.length : Int)) = false := decide_eq_false c3
    clear c3
    obtain rfl := Option.some.inj H
    go_wp2
    repeat (go_quiet (fail); try go_wp2)
    go_ret
    exact ⟨by first | rfl | (simp; done) | (simp [*]; done), by repeat (first | exact Drawn0.refl _ | apply Drawn0.step)⟩

end Go.Proofs.Ytdoikehkibefpaa.PPb
