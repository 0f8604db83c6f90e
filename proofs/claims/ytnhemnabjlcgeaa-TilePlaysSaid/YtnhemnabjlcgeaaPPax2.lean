-- Laid by a program of this session (wip/tools/prx.py), over the kit's printer of walks; Lean checks it.
import Derived.Test.YtnhemnabjlcgeaaPPax0
import Derived.Test.YtnhemnabjlcgeaaPPax1
namespace Go.Proofs.Ytnhemnabjlcgeaa.PPa
open Go.RowKit Go.Proofs.YtnhemnabjlcgeaaW.PrintWords Go.Proofs.YtnhemnabjlcgeaaW.PrintLast Go.Proofs.YtnhemnabjlcgeaaW.PrintMore
open Go.Proofs.YtnhemnabjlcgeaaW.PrintWords renaming blk_far → bF, below_set → bS, blk_frozen → bZ, below_alloc → bA, pw_below_drewN → bN, below_drew1 → bD, blk_below → bB, blk_cell → bC, blk_set → bs, blk_lt → bL, blk_put → bP, below_step → bT, below_size → bU, box_event → bE, gate_dst → gD
open Go.Proofs.YtnhemnabjlcgeaaW.PrintWords.Kd renaming S_far → kF, S_types → kT, S_alloc → kA, S_drewN → kN, S_drew → kD
attribute [local go_sem] max2_int min2_int max_two min_two max_three min_three max_four min_four   -- for this text's walks alone
set_option linter.unusedVariables false
set_option linter.unusedSimpArgs false

/-! ### dailiesref06_Shaped: function 37 -/
def dailiesref06_Shaped.j0 : Nat → Bool → Int → Int → Int → Bool → Option (Int)
 | 0, _, _, _, _, _ => none
 | k + 1, x30, x122000, x122001, x122002, x122003 => if x30 = true then (some 61) else ((dailiesref06_total.f k x122000 x122001 x122002 x122003).bind fun t122 => (if t122 > 4194304 then (some 61) else (some 0)))
def dailiesref06_Shaped.f (k : Nat) (a0_0 : Int) (a0_1 : Int) (a0_2 : Int) (a0_3 : Bool) : Option (Int) := if a0_0 < 1 then (dailiesref06_Shaped.j0 k true a0_0 a0_1 a0_2 a0_3) else (if a0_0 > 4096 then (dailiesref06_Shaped.j0 k true a0_0 a0_1 a0_2 a0_3) else (if a0_1 < 1 then (dailiesref06_Shaped.j0 k true a0_0 a0_1 a0_2 a0_3) else (if a0_1 > 4096 then (dailiesref06_Shaped.j0 k true a0_0 a0_1 a0_2 a0_3) else (if a0_2 = 10 then (dailiesref06_Shaped.j0 k false a0_0 a0_1 a0_2 a0_3) else (dailiesref06_Shaped.j0 k (a0_2 != 12) a0_0 a0_1 a0_2 a0_3)))))
theorem dailiesref06_Shaped.mono_l : ∀ k, (∀ y0 y1 y2 y3 y4, LeO (dailiesref06_Shaped.j0 k y0 y1 y2 y3 y4) (dailiesref06_Shaped.j0 (k + 1) y0 y1 y2 y3 y4))
 | 0 => fun _ _ _ _ _ r h => by simp [dailiesref06_Shaped.j0] at h
 | k + 1 => by
  have ih0 := dailiesref06_Shaped.mono_l k
  ·intro y0 y1 y2 y3 y4
   unfold dailiesref06_Shaped.j0
   repeat' first
   | (with_reducible exact ih0 _ _ _ _ _)
   | (with_reducible exact dailiesref06_total.mono _ _ _ _ _)
   | (with_reducible exact LeO.refl _)
   | (with_reducible exact LeO.none _)
   | (with_reducible refine LeO.ite ?_ ?_)
   | (with_reducible refine LeO.bind ?_ (fun _ => ?_))
   | exact ih0 _ _ _ _ _
   | exact dailiesref06_total.mono _ _ _ _ _
   | exact LeO.none _
   | refine LeO.ite ?_ ?_
   | refine LeO.bind ?_ (fun _ => ?_)
theorem dailiesref06_Shaped.mono : ∀ a0 a1 a2 a3 k, LeO (dailiesref06_Shaped.f k a0 a1 a2 a3) (dailiesref06_Shaped.f (k + 1) a0 a1 a2 a3) := by
 intro a0 a1 a2 a3 k
 have ih0 := dailiesref06_Shaped.mono_l k
 unfold dailiesref06_Shaped.f
 repeat' first
   | (with_reducible exact ih0 _ _ _ _ _)
   | (with_reducible exact dailiesref06_total.mono _ _ _ _ _)
   | (with_reducible exact LeO.refl _)
   | (with_reducible exact LeO.none _)
   | (with_reducible refine LeO.ite ?_ ?_)
   | (with_reducible refine LeO.bind ?_ (fun _ => ?_))
   | exact ih0 _ _ _ _ _
   | exact dailiesref06_total.mono _ _ _ _ _
   | exact LeO.none _
   | refine LeO.ite ?_ ?_
   | refine LeO.bind ?_ (fun _ => ?_)
set_option maxHeartbeats 8000000 in
set_option maxRecDepth 100000 in
theorem dailiesref06_Shaped.calls (k : Nat) (a0_0 : Int) (a0_1 : Int) (a0_2 : Int) (a0_3 : Bool) (r : Int) (w : World) (h : dailiesref06_Shaped.f k a0_0 a0_1 a0_2 a0_3 = some r) :
  Calls Try.prog 37 #[.agg #[.int .i64 a0_0, .int .i64 a0_1, .int .i64 a0_2, .bool a0_3]] w fun e w' => e = .returned (.int .i64 r) ∧ Below w.heap.size w w' := by
 have hu28 := Try.underlying28
 have HB := am (Below.refl w.heap.size w)
 have H : (if a0_0 < 1 then (dailiesref06_Shaped.j0 k true a0_0 a0_1 a0_2 a0_3) else (if a0_0 > 4096 then (dailiesref06_Shaped.j0 k true a0_0 a0_1 a0_2 a0_3) else (if a0_1 < 1 then (dailiesref06_Shaped.j0 k true a0_0 a0_1 a0_2 a0_3) else (if a0_1 > 4096 then (dailiesref06_Shaped.j0 k true a0_0 a0_1 a0_2 a0_3) else (if a0_2 = 10 then (dailiesref06_Shaped.j0 k false a0_0 a0_1 a0_2 a0_3) else (dailiesref06_Shaped.j0 k (a0_2 != 12) a0_0 a0_1 a0_2 a0_3)))))) = some r := h
 clear h
 have HC2 := am H
 clear H
 go_enter Try.func37, Try.ntmps37
 go_upto_region 1 with (first | ((with_reducible refine gD (N := 1) rfl ?_); refine bE ?hg (N := 1) ?hd (cs := #[.int .i64 a0_0, .int .i64 a0_1, .int .i64 a0_2, .bool a0_3]) (t := 28) ?hr ?_; (case hd => rfl); (case hg => rfl); (case hr => first | (go_simp; done) | (go_simp; rfl)); intro gb121 hg w3 hbox hb; have n0_ := am (bT (by repeat (first | (with_reducible first | exact HB.out | apply bA | apply bN | apply bD) | exact HB.out)) hb); have n1_ := am (hbox); have n2_ := am ((by rw [hg]; exact (bU (by repeat (first | (with_reducible first | exact HB.out | apply bA | apply bN | apply bD) | exact HB.out))) : w.heap.size ≤ gb121)); have n3_ := am ((by rw [hg]; exact (bU (by repeat (first | (with_reducible first | exact HB.out | apply bA | apply bN | apply bD) | exact HB.out))) : w.heap.size ≤ gb121)); clear HB; have HB := n0_; have BK121 := n1_; have GW121 := n2_; have GE121 := n3_; clear n0_ n1_ n2_ n3_; clear hb hbox hg))
 (try simp only [Act.put, List.setIfInBounds_toArray, List.set_cons_zero, List.set_cons_succ])
 go_cut [30] (fun v30 wc => ∃ (kq : Nat) (x30_1 : Bool), v30 = .bool x30_1 ∧ Aside0 (dailiesref06_Shaped.j0 kq x30_1 a0_0 a0_1 a0_2 a0_3 = some r) ∧ Aside0 (kq ≤ k) ∧ Aside0 (wc.heap[gb121]? = some (.cells #[.int .i64 a0_0, .int .i64 a0_1, .int .i64 a0_2, .bool a0_3] 28 (0, 0))) ∧ Aside0 (Below w.heap.size w wc))
 case first =>
  have H := HC2.out
  clear HC2
  by_cases c4 : a0_0 < 1
  ·rw [if_pos c4] at H
   have c4b0 : decide (a0_0 < 1) = true := decide_eq_true c4
   clear c4
   (first | rw [c4b0] | (simp only [i64_w, i32_w]; rw [c4b0]) | skip)
   have H' := am H
   clear H
   have hcz5_0 : w3.cell? ⟨gb121, 0, none⟩ = some (.int .i64 a0_0) := (bC BK121.out 0).trans rfl
   have hcz5_1 : w3.cell? ⟨gb121, 1, none⟩ = some (.int .i64 a0_1) := (bC BK121.out 1).trans rfl
   have hcz5_2 : w3.cell? ⟨gb121, 2, none⟩ = some (.int .i64 a0_2) := (bC BK121.out 2).trans rfl
   have hcz5_3 : w3.cell? ⟨gb121, 3, none⟩ = some (.bool a0_3) := (bC BK121.out 3).trans rfl
   have hfz5_0 := bZ BK121.out 0
   have hfz5_1 := bZ BK121.out 1
   have hfz5_2 := bZ BK121.out 2
   have hfz5_3 := bZ BK121.out 3
   go_wp2
   go_meet
   case rel => exact ⟨_, (true), (by first | rfl | (simp; done) | (simp [*]; done)), H', ⟨by first | omega | exact Nat.le_refl _⟩, ⟨by (with_reducible repeat apply dX); exact BK121.out⟩, ⟨by repeat (first | (with_reducible first | exact HB.out | apply bA | apply bN | apply bD | refine bS ?_ GE121.out) | exact HB.out)⟩⟩
  ·rw [if_neg c4] at H
   have c4b0 : decide (a0_0 < 1) = false := decide_eq_false c4
   clear c4
   (first | rw [c4b0] | (simp only [i64_w, i32_w]; rw [c4b0]) | skip)
   by_cases c6 : a0_0 > 4096
   ·rw [if_pos c6] at H
    have c6b0 : decide (4096 < a0_0) = true := decide_eq_true c6
    clear c6
    have H' := am H
    clear H
    have hcz7_0 : w3.cell? ⟨gb121, 0, none⟩ = some (.int .i64 a0_0) := (bC BK121.out 0).trans rfl
    have hcz7_1 : w3.cell? ⟨gb121, 1, none⟩ = some (.int .i64 a0_1) := (bC BK121.out 1).trans rfl
    have hcz7_2 : w3.cell? ⟨gb121, 2, none⟩ = some (.int .i64 a0_2) := (bC BK121.out 2).trans rfl
    have hcz7_3 : w3.cell? ⟨gb121, 3, none⟩ = some (.bool a0_3) := (bC BK121.out 3).trans rfl
    have hfz7_0 := bZ BK121.out 0
    have hfz7_1 := bZ BK121.out 1
    have hfz7_2 := bZ BK121.out 2
    have hfz7_3 := bZ BK121.out 3
    go_wp2
    go_meet
    case rel => exact ⟨_, (true), (by first | rfl | (simp; done) | (simp [*]; done)), H', ⟨by first | omega | exact Nat.le_refl _⟩, ⟨by (with_reducible repeat apply dX); exact BK121.out⟩, ⟨by repeat (first | (with_reducible first | exact HB.out | apply bA | apply bN | apply bD | refine bS ?_ GE121.out) | exact HB.out)⟩⟩
   ·rw [if_neg c6] at H
    have c6b0 : decide (4096 < a0_0) = false := decide_eq_false c6
    clear c6
    by_cases c8 : a0_1 < 1
    ·rw [if_pos c8] at H
     have c8b0 : decide (a0_1 < 1) = true := decide_eq_true c8
     clear c8
     have H' := am H
     clear H
     have hcz9_0 : w3.cell? ⟨gb121, 0, none⟩ = some (.int .i64 a0_0) := (bC BK121.out 0).trans rfl
     have hcz9_1 : w3.cell? ⟨gb121, 1, none⟩ = some (.int .i64 a0_1) := (bC BK121.out 1).trans rfl
     have hcz9_2 : w3.cell? ⟨gb121, 2, none⟩ = some (.int .i64 a0_2) := (bC BK121.out 2).trans rfl
     have hcz9_3 : w3.cell? ⟨gb121, 3, none⟩ = some (.bool a0_3) := (bC BK121.out 3).trans rfl
     have hfz9_0 := bZ BK121.out 0
     have hfz9_1 := bZ BK121.out 1
     have hfz9_2 := bZ BK121.out 2
     have hfz9_3 := bZ BK121.out 3
     go_wp2
     go_meet
     case rel => exact ⟨_, (true), (by first | rfl | (simp; done) | (simp [*]; done)), H', ⟨by first | omega | exact Nat.le_refl _⟩, ⟨by (with_reducible repeat apply dX); exact BK121.out⟩, ⟨by repeat (first | (with_reducible first | exact HB.out | apply bA | apply bN | apply bD | refine bS ?_ GE121.out) | exact HB.out)⟩⟩
    ·rw [if_neg c8] at H
     have c8b0 : decide (a0_1 < 1) = false := decide_eq_false c8
     clear c8
     by_cases c10 : a0_1 > 4096
     ·rw [if_pos c10] at H
      have c10b0 : decide (4096 < a0_1) = true := decide_eq_true c10
      clear c10
      have H' := am H
      clear H
      have hcz11_0 : w3.cell? ⟨gb121, 0, none⟩ = some (.int .i64 a0_0) := (bC BK121.out 0).trans rfl
      have hcz11_1 : w3.cell? ⟨gb121, 1, none⟩ = some (.int .i64 a0_1) := (bC BK121.out 1).trans rfl
      have hcz11_2 : w3.cell? ⟨gb121, 2, none⟩ = some (.int .i64 a0_2) := (bC BK121.out 2).trans rfl
      have hcz11_3 : w3.cell? ⟨gb121, 3, none⟩ = some (.bool a0_3) := (bC BK121.out 3).trans rfl
      have hfz11_0 := bZ BK121.out 0
      have hfz11_1 := bZ BK121.out 1
      have hfz11_2 := bZ BK121.out 2
      have hfz11_3 := bZ BK121.out 3
      go_wp2
      go_meet
      case rel => exact ⟨_, (true), (by first | rfl | (simp; done) | (simp [*]; done)), H', ⟨by first | omega | exact Nat.le_refl _⟩, ⟨by (with_reducible repeat apply dX); exact BK121.out⟩, ⟨by repeat (first | (with_reducible first | exact HB.out | apply bA | apply bN | apply bD | refine bS ?_ GE121.out) | exact HB.out)⟩⟩
     ·rw [if_neg c10] at H
      have c10b0 : decide (4096 < a0_1) = false := decide_eq_false c10
      clear c10
      by_cases c12 : a0_2 = 10
      ·rw [if_pos c12] at H
       have c12b0 : (a0_2 == 10) = true := beq_iff_eq.mpr c12
       have c12b1 : (a0_2 != 10) = false := bne_eq_false_iff_eq.mpr c12
       clear c12
       have H' := am H
       clear H
       have hcz13_0 : w3.cell? ⟨gb121, 0, none⟩ = some (.int .i64 a0_0) := (bC BK121.out 0).trans rfl
       have hcz13_1 : w3.cell? ⟨gb121, 1, none⟩ = some (.int .i64 a0_1) := (bC BK121.out 1).trans rfl
       have hcz13_2 : w3.cell? ⟨gb121, 2, none⟩ = some (.int .i64 a0_2) := (bC BK121.out 2).trans rfl
       have hcz13_3 : w3.cell? ⟨gb121, 3, none⟩ = some (.bool a0_3) := (bC BK121.out 3).trans rfl
       have hfz13_0 := bZ BK121.out 0
       have hfz13_1 := bZ BK121.out 1
       have hfz13_2 := bZ BK121.out 2
       have hfz13_3 := bZ BK121.out 3
       go_wp2
       go_meet
       case rel => exact ⟨_, (false), (by first | rfl | (simp; done) | (simp [*]; done)), H', ⟨by first | omega | exact Nat.le_refl _⟩, ⟨by (with_reducible repeat apply dX); exact BK121.out⟩, ⟨by repeat (first | (with_reducible first | exact HB.out | apply bA | apply bN | apply bD | refine bS ?_ GE121.out) | exact HB.out)⟩⟩
      ·rw [if_neg c12] at H
       have c12b0 : (a0_2 == 10) = false := beq_eq_false_iff_ne.mpr c12
       have c12b1 : (a0_2 != 10) = true := bne_iff_ne.mpr c12
       have H' := am H
       clear H
       have hcz14_0 : w3.cell? ⟨gb121, 0, none⟩ = some (.int .i64 a0_0) := (bC BK121.out 0).trans rfl
       have hcz14_1 : w3.cell? ⟨gb121, 1, none⟩ = some (.int .i64 a0_1) := (bC BK121.out 1).trans rfl
       have hcz14_2 : w3.cell? ⟨gb121, 2, none⟩ = some (.int .i64 a0_2) := (bC BK121.out 2).trans rfl
       have hcz14_3 : w3.cell? ⟨gb121, 3, none⟩ = some (.bool a0_3) := (bC BK121.out 3).trans rfl
       have hfz14_0 := bZ BK121.out 0
       have hfz14_1 := bZ BK121.out 1
       have hfz14_2 := bZ BK121.out 2
       have hfz14_3 := bZ BK121.out 3
       go_wp2
       go_meet
       case rel => exact ⟨_, ((a0_2 != 12)), (by first | rfl | (simp; done) | (simp [*]; done)), H', ⟨by first | omega | exact Nat.le_refl _⟩, ⟨by (with_reducible repeat apply dX); exact BK121.out⟩, ⟨by repeat (first | (with_reducible first | exact HB.out | apply bA | apply bN | apply bD | refine bS ?_ GE121.out) | exact HB.out)⟩⟩
 case rest =>
  clear HC2
  try clear c1
  try clear p2
  try clear c3
  try clear c4
  try clear c4b0
  try clear c6
  try clear c6b0
  try clear c8
  try clear c8b0
  try clear c10
  try clear c10b0
  try clear c12
  try clear c12b0
  try clear c12b1
  try clear hcz11_0
  try clear hcz11_1
  try clear hcz11_2
  try clear hcz11_3
  try clear hcz13_0
  try clear hcz13_1
  try clear hcz13_2
  try clear hcz13_3
  try clear hcz14_0
  try clear hcz14_1
  try clear hcz14_2
  try clear hcz14_3
  try clear hcz5_0
  try clear hcz5_1
  try clear hcz5_2
  try clear hcz5_3
  try clear hcz7_0
  try clear hcz7_1
  try clear hcz7_2
  try clear hcz7_3
  try clear hcz9_0
  try clear hcz9_1
  try clear hcz9_2
  try clear hcz9_3
  try clear hfz11_0
  try clear hfz11_1
  try clear hfz11_2
  try clear hfz11_3
  try clear hfz13_0
  try clear hfz13_1
  try clear hfz13_2
  try clear hfz13_3
  try clear hfz14_0
  try clear hfz14_1
  try clear hfz14_2
  try clear hfz14_3
  try clear hfz5_0
  try clear hfz5_1
  try clear hfz5_2
  try clear hfz5_3
  try clear hfz7_0
  try clear hfz7_1
  try clear hfz7_2
  try clear hfz7_3
  try clear hfz9_0
  try clear hfz9_1
  try clear hfz9_2
  try clear hfz9_3
  obtain ⟨kq, x30_1, rfl, HA, HJ1, BK121, HB⟩ := hcut
  cases kq with
  | zero => exact absurd HA.out (by simp [dailiesref06_Shaped.j0])
  | succ kj1 =>
   have H := HA.out
   clear HA
   simp only [dailiesref06_Shaped.j0] at H
   by_cases c15 : x30_1 = true
   ·subst c15
    have H1 : (some 61) = some r := by rw [if_pos rfl] at H; exact H
    clear H
    have H := H1
    clear H1
    obtain rfl := Option.some.inj H
    go_wp2
    go_ret
    exact ⟨by first | rfl | (simp [errW_none, errW_some] <;> rfl) | (simp [*, errW_none, errW_some] <;> rfl), by repeat (first | (with_reducible first | exact HB.out | apply bA | apply bN | apply bD | refine bS ?_ GE121.out) | exact HB.out)⟩
   ·replace c15 := Bool.eq_false_iff.mpr c15
    subst c15
    have H1 : ((dailiesref06_total.f kj1 a0_0 a0_1 a0_2 a0_3).bind fun t122 => (if t122 > 4194304 then (some 61) else (some 0))) = some r := by rw [if_neg (show ¬ (false = true) by decide)] at H; exact H
    clear H
    have H := H1
    clear H1
    replace H := Option.bind_eq_some_iff.mp H
    obtain ⟨t122, A160, H⟩ := H
    replace H : (if t122 > 4194304 then (some 61) else (some 0)) = some r := H
    have A16 := am A160
    clear A160
    by_cases c17 : t122 > 4194304
    ·rw [if_pos c17] at H
     have c17b0 : decide (4194304 < t122) = true := decide_eq_true c17
     clear c17
     obtain rfl := Option.some.inj H
     have hcz18_0 : wc.cell? ⟨gb121, 0, none⟩ = some (.int .i64 a0_0) := (bC BK121.out 0).trans rfl
     have hcz18_1 : wc.cell? ⟨gb121, 1, none⟩ = some (.int .i64 a0_1) := (bC BK121.out 1).trans rfl
     have hcz18_2 : wc.cell? ⟨gb121, 2, none⟩ = some (.int .i64 a0_2) := (bC BK121.out 2).trans rfl
     have hcz18_3 : wc.cell? ⟨gb121, 3, none⟩ = some (.bool a0_3) := (bC BK121.out 3).trans rfl
     have hfz18_0 := bZ BK121.out 0
     have hfz18_1 := bZ BK121.out 1
     have hfz18_2 := bZ BK121.out 2
     have hfz18_3 := bZ BK121.out 3
     go_wp2_with (first | ((with_reducible refine gate_callee (f := 44) rfl ?_); refine goesL_ (some 32) rfl rfl Try.func44 (by kernel_rfl) rfl #[.agg #[.int .i64 a0_0, .int .i64 a0_1, .int .i64 a0_2, .bool a0_3]] rfl (by (try simp only [List.map_toArray, List.map_cons, List.map_nil]); first | done | rfl | (simp only [List.length_drop, List.length_take]; rfl)) ?_; (with_reducible refine (dailiesref06_total.calls kj1 a0_0 a0_1 a0_2 a0_3 t122 _ A16.out).mono ?_); rintro e w19 ⟨rfl, hb⟩; refine ⟨_, rfl, ?_⟩; have n0_ := am (bB (g := gb121) (o := .cells #[.int .i64 a0_0, .int .i64 a0_1, .int .i64 a0_2, .bool a0_3] 28 (0, 0)) (by (with_reducible repeat apply dX); exact BK121.out) hb); have n1_ := am (bT (by repeat (first | (with_reducible first | exact HB.out | apply bA | apply bN | apply bD | refine bS ?_ GE121.out) | exact HB.out)) hb); clear BK121; clear HB; have BK121 := n0_; have HB := n1_; clear n0_ n1_; (try clear hb); (try clear hb2); (try clear hk); (try clear hi)))
     go_ret
     exact ⟨by first | rfl | (simp [errW_none, errW_some] <;> rfl) | (simp [*, errW_none, errW_some] <;> rfl), by repeat (first | (with_reducible first | exact HB.out | apply bA | apply bN | apply bD | refine bS ?_ GE121.out) | exact HB.out)⟩
    ·rw [if_neg c17] at H
     have c17b0 : decide (4194304 < t122) = false := decide_eq_false c17
     clear c17
     obtain rfl := Option.some.inj H
     have hcz20_0 : wc.cell? ⟨gb121, 0, none⟩ = some (.int .i64 a0_0) := (bC BK121.out 0).trans rfl
     have hcz20_1 : wc.cell? ⟨gb121, 1, none⟩ = some (.int .i64 a0_1) := (bC BK121.out 1).trans rfl
     have hcz20_2 : wc.cell? ⟨gb121, 2, none⟩ = some (.int .i64 a0_2) := (bC BK121.out 2).trans rfl
     have hcz20_3 : wc.cell? ⟨gb121, 3, none⟩ = some (.bool a0_3) := (bC BK121.out 3).trans rfl
     have hfz20_0 := bZ BK121.out 0
     have hfz20_1 := bZ BK121.out 1
     have hfz20_2 := bZ BK121.out 2
     have hfz20_3 := bZ BK121.out 3
     go_wp2_with (first | ((with_reducible refine gate_callee (f := 44) rfl ?_); refine goesL_ (some 32) rfl rfl Try.func44 (by kernel_rfl) rfl #[.agg #[.int .i64 a0_0, .int .i64 a0_1, .int .i64 a0_2, .bool a0_3]] rfl (by (try simp only [List.map_toArray, List.map_cons, List.map_nil]); first | done | rfl | (simp only [List.length_drop, List.length_take]; rfl)) ?_; (with_reducible refine (dailiesref06_total.calls kj1 a0_0 a0_1 a0_2 a0_3 t122 _ A16.out).mono ?_); rintro e w21 ⟨rfl, hb⟩; refine ⟨_, rfl, ?_⟩; have n0_ := am (bB (g := gb121) (o := .cells #[.int .i64 a0_0, .int .i64 a0_1, .int .i64 a0_2, .bool a0_3] 28 (0, 0)) (by (with_reducible repeat apply dX); exact BK121.out) hb); have n1_ := am (bT (by repeat (first | (with_reducible first | exact HB.out | apply bA | apply bN | apply bD | refine bS ?_ GE121.out) | exact HB.out)) hb); clear BK121; clear HB; have BK121 := n0_; have HB := n1_; clear n0_ n1_; (try clear hb); (try clear hb2); (try clear hk); (try clear hi)))
     go_ret
     exact ⟨by first | rfl | (simp [errW_none, errW_some] <;> rfl) | (simp [*, errW_none, errW_some] <;> rfl), by repeat (first | (with_reducible first | exact HB.out | apply bA | apply bN | apply bD | refine bS ?_ GE121.out) | exact HB.out)⟩

/-! ### dailiesref08_New: function 28 -/
def dailiesref08_New.f (k : Nat) (a0_0 : Int) (a0_1 : Int) (a0_2 : Int) (a0_3 : Bool) (a1 : Int) (a2 : Int) : Option (Int) := (dailiesref06_Shaped.f k a0_0 a0_1 a0_2 a0_3).bind fun t124 => (if t124 = 0 then (if a1 < 16 then (some 81) else (if a1 > 4096 then (some 81) else (if (Int.tmod a1 2) = 0 then (if a2 < 16 then (some 81) else (if a2 > 4096 then (some 81) else (some 0))) else (some 81)))) else (some t124))
theorem dailiesref08_New.mono : ∀ a0 a1 a2 a3 a4 a5 k, LeO (dailiesref08_New.f k a0 a1 a2 a3 a4 a5) (dailiesref08_New.f (k + 1) a0 a1 a2 a3 a4 a5) := by
 intro a0 a1 a2 a3 a4 a5 k
 unfold dailiesref08_New.f
 repeat' first
   | (with_reducible exact dailiesref06_Shaped.mono _ _ _ _ _)
   | (with_reducible exact LeO.refl _)
   | (with_reducible exact LeO.none _)
   | (with_reducible refine LeO.ite ?_ ?_)
   | (with_reducible refine LeO.bind ?_ (fun _ => ?_))
   | exact dailiesref06_Shaped.mono _ _ _ _ _
   | exact LeO.none _
   | refine LeO.ite ?_ ?_
   | refine LeO.bind ?_ (fun _ => ?_)
set_option maxHeartbeats 8000000 in
set_option maxRecDepth 100000 in
theorem dailiesref08_New.calls (k : Nat) (a0_0 : Int) (a0_1 : Int) (a0_2 : Int) (a0_3 : Bool) (a1 : Int) (a2 : Int) (r : Int) (w : World) (h : dailiesref08_New.f k a0_0 a0_1 a0_2 a0_3 a1 a2 = some r) :
  Calls Try.prog 28 #[.agg #[.int .i64 a0_0, .int .i64 a0_1, .int .i64 a0_2, .bool a0_3], .int .i64 a1, .int .i64 a2] w fun e w' => e = .returned (.int .i64 r) ∧ Below w.heap.size w w' := by
 have hu28 := Try.underlying28
 have HB := am (Below.refl w.heap.size w)
 have H : ((dailiesref06_Shaped.f k a0_0 a0_1 a0_2 a0_3).bind fun t124 => (if t124 = 0 then (if a1 < 16 then (some 81) else (if a1 > 4096 then (some 81) else (if (Int.tmod a1 2) = 0 then (if a2 < 16 then (some 81) else (if a2 > 4096 then (some 81) else (some 0))) else (some 81)))) else (some t124))) = some r := h
 clear h
 replace H := Option.bind_eq_some_iff.mp H
 obtain ⟨t124, A40, H⟩ := H
 replace H : (if t124 = 0 then (if a1 < 16 then (some 81) else (if a1 > 4096 then (some 81) else (if (Int.tmod a1 2) = 0 then (if a2 < 16 then (some 81) else (if a2 > 4096 then (some 81) else (some 0))) else (some 81)))) else (some t124)) = some r := H
 have A4 := am A40
 clear A40
 by_cases c5 : t124 = 0
 ·rw [if_pos c5] at H
  have c5b0 : (t124 == 0) = true := beq_iff_eq.mpr c5
  have c5b1 : (t124 != 0) = false := bne_eq_false_iff_eq.mpr c5
  clear c5
  by_cases c6 : a1 < 16
  ·rw [if_pos c6] at H
   have c6b0 : decide (a1 < 16) = true := decide_eq_true c6
   clear c6
   obtain rfl := Option.some.inj H
   go_enter Try.func28, Try.ntmps28
   go_wp2_with (first | ((with_reducible refine gD (N := 3) rfl ?_); refine bE ?hg (N := 3) ?hd (cs := #[.int .i64 a0_0, .int .i64 a0_1, .int .i64 a0_2, .bool a0_3]) (t := 28) ?hr ?_; (case hd => rfl); (case hg => rfl); (case hr => first | (go_simp; done) | (go_simp; rfl)); intro gb123 hg w7 hbox hb; have n0_ := am (bT (by repeat (first | (with_reducible first | exact HB.out | apply bA | apply bN | apply bD) | exact HB.out)) hb); have n1_ := am (hbox); have n2_ := am ((by rw [hg]; exact (bU (by repeat (first | (with_reducible first | exact HB.out | apply bA | apply bN | apply bD) | exact HB.out))) : w.heap.size ≤ gb123)); have n3_ := am ((by rw [hg]; exact (bU (by repeat (first | (with_reducible first | exact HB.out | apply bA | apply bN | apply bD) | exact HB.out))) : w.heap.size ≤ gb123)); clear HB; have HB := n0_; have BK123 := n1_; have GW123 := n2_; have GE123 := n3_; clear n0_ n1_ n2_ n3_; clear hb hbox hg; have hcz8_0 : w7.cell? ⟨gb123, 0, none⟩ = some (.int .i64 a0_0) := (bC BK123.out 0).trans rfl; have hcz8_1 : w7.cell? ⟨gb123, 1, none⟩ = some (.int .i64 a0_1) := (bC BK123.out 1).trans rfl; have hcz8_2 : w7.cell? ⟨gb123, 2, none⟩ = some (.int .i64 a0_2) := (bC BK123.out 2).trans rfl; have hcz8_3 : w7.cell? ⟨gb123, 3, none⟩ = some (.bool a0_3) := (bC BK123.out 3).trans rfl; have hfz8_0 := bZ BK123.out 0; have hfz8_1 := bZ BK123.out 1; have hfz8_2 := bZ BK123.out 2; have hfz8_3 := bZ BK123.out 3) | ((with_reducible refine gate_callee (f := 37) rfl ?_); refine goesL_ (some 9) rfl rfl Try.func37 (by kernel_rfl) rfl #[.agg #[.int .i64 a0_0, .int .i64 a0_1, .int .i64 a0_2, .bool a0_3]] rfl (by (try simp only [List.map_toArray, List.map_cons, List.map_nil]); first | done | rfl | (simp only [List.length_drop, List.length_take]; rfl)) ?_; (with_reducible refine (dailiesref06_Shaped.calls k a0_0 a0_1 a0_2 a0_3 t124 _ A4.out).mono ?_); rintro e w9 ⟨rfl, hb⟩; refine ⟨_, rfl, ?_⟩; have n0_ := am (bB (g := gb123) (o := .cells #[.int .i64 a0_0, .int .i64 a0_1, .int .i64 a0_2, .bool a0_3] 28 (0, 0)) (by (with_reducible repeat apply dX); exact BK123.out) hb); have n1_ := am (bT (by repeat (first | (with_reducible first | exact HB.out | apply bA | apply bN | apply bD | refine bS ?_ GE123.out) | exact HB.out)) hb); clear BK123; clear HB; have BK123 := n0_; have HB := n1_; clear n0_ n1_; (try clear hb); (try clear hb2); (try clear hk); (try clear hi)))
   go_ret
   exact ⟨by first | rfl | (simp [errW_none, errW_some] <;> rfl) | (simp [*, errW_none, errW_some] <;> rfl), by repeat (first | (with_reducible first | exact HB.out | apply bA | apply bN | apply bD | refine bS ?_ GE123.out) | exact HB.out)⟩
  ·rw [if_neg c6] at H
   have c6b0 : decide (a1 < 16) = false := decide_eq_false c6
   clear c6
   by_cases c10 : a1 > 4096
   ·rw [if_pos c10] at H
    have c10b0 : decide (4096 < a1) = true := decide_eq_true c10
    clear c10
    obtain rfl := Option.some.inj H
    go_enter Try.func28, Try.ntmps28
    go_wp2_with (first | ((with_reducible refine gD (N := 3) rfl ?_); refine bE ?hg (N := 3) ?hd (cs := #[.int .i64 a0_0, .int .i64 a0_1, .int .i64 a0_2, .bool a0_3]) (t := 28) ?hr ?_; (case hd => rfl); (case hg => rfl); (case hr => first | (go_simp; done) | (go_simp; rfl)); intro gb123 hg w11 hbox hb; have n0_ := am (bT (by repeat (first | (with_reducible first | exact HB.out | apply bA | apply bN | apply bD) | exact HB.out)) hb); have n1_ := am (hbox); have n2_ := am ((by rw [hg]; exact (bU (by repeat (first | (with_reducible first | exact HB.out | apply bA | apply bN | apply bD) | exact HB.out))) : w.heap.size ≤ gb123)); have n3_ := am ((by rw [hg]; exact (bU (by repeat (first | (with_reducible first | exact HB.out | apply bA | apply bN | apply bD) | exact HB.out))) : w.heap.size ≤ gb123)); clear HB; have HB := n0_; have BK123 := n1_; have GW123 := n2_; have GE123 := n3_; clear n0_ n1_ n2_ n3_; clear hb hbox hg; have hcz12_0 : w11.cell? ⟨gb123, 0, none⟩ = some (.int .i64 a0_0) := (bC BK123.out 0).trans rfl; have hcz12_1 : w11.cell? ⟨gb123, 1, none⟩ = some (.int .i64 a0_1) := (bC BK123.out 1).trans rfl; have hcz12_2 : w11.cell? ⟨gb123, 2, none⟩ = some (.int .i64 a0_2) := (bC BK123.out 2).trans rfl; have hcz12_3 : w11.cell? ⟨gb123, 3, none⟩ = some (.bool a0_3) := (bC BK123.out 3).trans rfl; have hfz12_0 := bZ BK123.out 0; have hfz12_1 := bZ BK123.out 1; have hfz12_2 := bZ BK123.out 2; have hfz12_3 := bZ BK123.out 3) | ((with_reducible refine gate_callee (f := 37) rfl ?_); refine goesL_ (some 9) rfl rfl Try.func37 (by kernel_rfl) rfl #[.agg #[.int .i64 a0_0, .int .i64 a0_1, .int .i64 a0_2, .bool a0_3]] rfl (by (try simp only [List.map_toArray, List.map_cons, List.map_nil]); first | done | rfl | (simp only [List.length_drop, List.length_take]; rfl)) ?_; (with_reducible refine (dailiesref06_Shaped.calls k a0_0 a0_1 a0_2 a0_3 t124 _ A4.out).mono ?_); rintro e w13 ⟨rfl, hb⟩; refine ⟨_, rfl, ?_⟩; have n0_ := am (bB (g := gb123) (o := .cells #[.int .i64 a0_0, .int .i64 a0_1, .int .i64 a0_2, .bool a0_3] 28 (0, 0)) (by (with_reducible repeat apply dX); exact BK123.out) hb); have n1_ := am (bT (by repeat (first | (with_reducible first | exact HB.out | apply bA | apply bN | apply bD | refine bS ?_ GE123.out) | exact HB.out)) hb); clear BK123; clear HB; have BK123 := n0_; have HB := n1_; clear n0_ n1_; (try clear hb); (try clear hb2); (try clear hk); (try clear hi)))
    go_ret
    exact ⟨by first | rfl | (simp [errW_none, errW_some] <;> rfl) | (simp [*, errW_none, errW_some] <;> rfl), by repeat (first | (with_reducible first | exact HB.out | apply bA | apply bN | apply bD | refine bS ?_ GE123.out) | exact HB.out)⟩
   ·rw [if_neg c10] at H
    have c10b0 : decide (4096 < a1) = false := decide_eq_false c10
    clear c10
    by_cases c14 : (Int.tmod a1 2) = 0
    ·rw [if_pos c14] at H
     have c14b0 : ((Int.tmod a1 2) == 0) = true := beq_iff_eq.mpr c14
     have c14b1 : ((Int.tmod a1 2) != 0) = false := bne_eq_false_iff_eq.mpr c14
     clear c14
     by_cases c15 : a2 < 16
     ·rw [if_pos c15] at H
      have c15b0 : decide (a2 < 16) = true := decide_eq_true c15
      clear c15
      obtain rfl := Option.some.inj H
      go_enter Try.func28, Try.ntmps28
      go_wp2_with (first | ((with_reducible refine gD (N := 3) rfl ?_); refine bE ?hg (N := 3) ?hd (cs := #[.int .i64 a0_0, .int .i64 a0_1, .int .i64 a0_2, .bool a0_3]) (t := 28) ?hr ?_; (case hd => rfl); (case hg => rfl); (case hr => first | (go_simp; done) | (go_simp; rfl)); intro gb123 hg w16 hbox hb; have n0_ := am (bT (by repeat (first | (with_reducible first | exact HB.out | apply bA | apply bN | apply bD) | exact HB.out)) hb); have n1_ := am (hbox); have n2_ := am ((by rw [hg]; exact (bU (by repeat (first | (with_reducible first | exact HB.out | apply bA | apply bN | apply bD) | exact HB.out))) : w.heap.size ≤ gb123)); have n3_ := am ((by rw [hg]; exact (bU (by repeat (first | (with_reducible first | exact HB.out | apply bA | apply bN | apply bD) | exact HB.out))) : w.heap.size ≤ gb123)); clear HB; have HB := n0_; have BK123 := n1_; have GW123 := n2_; have GE123 := n3_; clear n0_ n1_ n2_ n3_; clear hb hbox hg; have hcz17_0 : w16.cell? ⟨gb123, 0, none⟩ = some (.int .i64 a0_0) := (bC BK123.out 0).trans rfl; have hcz17_1 : w16.cell? ⟨gb123, 1, none⟩ = some (.int .i64 a0_1) := (bC BK123.out 1).trans rfl; have hcz17_2 : w16.cell? ⟨gb123, 2, none⟩ = some (.int .i64 a0_2) := (bC BK123.out 2).trans rfl; have hcz17_3 : w16.cell? ⟨gb123, 3, none⟩ = some (.bool a0_3) := (bC BK123.out 3).trans rfl; have hfz17_0 := bZ BK123.out 0; have hfz17_1 := bZ BK123.out 1; have hfz17_2 := bZ BK123.out 2; have hfz17_3 := bZ BK123.out 3) | ((with_reducible refine gate_callee (f := 37) rfl ?_); refine goesL_ (some 9) rfl rfl Try.func37 (by kernel_rfl) rfl #[.agg #[.int .i64 a0_0, .int .i64 a0_1, .int .i64 a0_2, .bool a0_3]] rfl (by (try simp only [List.map_toArray, List.map_cons, List.map_nil]); first | done | rfl | (simp only [List.length_drop, List.length_take]; rfl)) ?_; (with_reducible refine (dailiesref06_Shaped.calls k a0_0 a0_1 a0_2 a0_3 t124 _ A4.out).mono ?_); rintro e w18 ⟨rfl, hb⟩; refine ⟨_, rfl, ?_⟩; have n0_ := am (bB (g := gb123) (o := .cells #[.int .i64 a0_0, .int .i64 a0_1, .int .i64 a0_2, .bool a0_3] 28 (0, 0)) (by (with_reducible repeat apply dX); exact BK123.out) hb); have n1_ := am (bT (by repeat (first | (with_reducible first | exact HB.out | apply bA | apply bN | apply bD | refine bS ?_ GE123.out) | exact HB.out)) hb); clear BK123; clear HB; have BK123 := n0_; have HB := n1_; clear n0_ n1_; (try clear hb); (try clear hb2); (try clear hk); (try clear hi)))
      go_ret
      exact ⟨by first | rfl | (simp [errW_none, errW_some] <;> rfl) | (simp [*, errW_none, errW_some] <;> rfl), by repeat (first | (with_reducible first | exact HB.out | apply bA | apply bN | apply bD | refine bS ?_ GE123.out) | exact HB.out)⟩
     ·rw [if_neg c15] at H
      have c15b0 : decide (a2 < 16) = false := decide_eq_false c15
      clear c15
      by_cases c19 : a2 > 4096
      ·rw [if_pos c19] at H
       have c19b0 : decide (4096 < a2) = true := decide_eq_true c19
       clear c19
       obtain rfl := Option.some.inj H
       go_enter Try.func28, Try.ntmps28
       go_wp2_with (first | ((with_reducible refine gD (N := 3) rfl ?_); refine bE ?hg (N := 3) ?hd (cs := #[.int .i64 a0_0, .int .i64 a0_1, .int .i64 a0_2, .bool a0_3]) (t := 28) ?hr ?_; (case hd => rfl); (case hg => rfl); (case hr => first | (go_simp; done) | (go_simp; rfl)); intro gb123 hg w20 hbox hb; have n0_ := am (bT (by repeat (first | (with_reducible first | exact HB.out | apply bA | apply bN | apply bD) | exact HB.out)) hb); have n1_ := am (hbox); have n2_ := am ((by rw [hg]; exact (bU (by repeat (first | (with_reducible first | exact HB.out | apply bA | apply bN | apply bD) | exact HB.out))) : w.heap.size ≤ gb123)); have n3_ := am ((by rw [hg]; exact (bU (by repeat (first | (with_reducible first | exact HB.out | apply bA | apply bN | apply bD) | exact HB.out))) : w.heap.size ≤ gb123)); clear HB; have HB := n0_; have BK123 := n1_; have GW123 := n2_; have GE123 := n3_; clear n0_ n1_ n2_ n3_; clear hb hbox hg; have hcz21_0 : w20.cell? ⟨gb123, 0, none⟩ = some (.int .i64 a0_0) := (bC BK123.out 0).trans rfl; have hcz21_1 : w20.cell? ⟨gb123, 1, none⟩ = some (.int .i64 a0_1) := (bC BK123.out 1).trans rfl; have hcz21_2 : w20.cell? ⟨gb123, 2, none⟩ = some (.int .i64 a0_2) := (bC BK123.out 2).trans rfl; have hcz21_3 : w20.cell? ⟨gb123, 3, none⟩ = some (.bool a0_3) := (bC BK123.out 3).trans rfl; have hfz21_0 := bZ BK123.out 0; have hfz21_1 := bZ BK123.out 1; have hfz21_2 := bZ BK123.out 2; have hfz21_3 := bZ BK123.out 3) | ((with_reducible refine gate_callee (f := 37) rfl ?_); refine goesL_ (some 9) rfl rfl Try.func37 (by kernel_rfl) rfl #[.agg #[.int .i64 a0_0, .int .i64 a0_1, .int .i64 a0_2, .bool a0_3]] rfl (by (try simp only [List.map_toArray, List.map_cons, List.map_nil]); first | done | rfl | (simp only [List.length_drop, List.length_take]; rfl)) ?_; (with_reducible refine (dailiesref06_Shaped.calls k a0_0 a0_1 a0_2 a0_3 t124 _ A4.out).mono ?_); rintro e w22 ⟨rfl, hb⟩; refine ⟨_, rfl, ?_⟩; have n0_ := am (bB (g := gb123) (o := .cells #[.int .i64 a0_0, .int .i64 a0_1, .int .i64 a0_2, .bool a0_3] 28 (0, 0)) (by (with_reducible repeat apply dX); exact BK123.out) hb); have n1_ := am (bT (by repeat (first | (with_reducible first | exact HB.out | apply bA | apply bN | apply bD | refine bS ?_ GE123.out) | exact HB.out)) hb); clear BK123; clear HB; have BK123 := n0_; have HB := n1_; clear n0_ n1_; (try clear hb); (try clear hb2); (try clear hk); (try clear hi)))
       go_ret
       exact ⟨by first | rfl | (simp [errW_none, errW_some] <;> rfl) | (simp [*, errW_none, errW_some] <;> rfl), by repeat (first | (with_reducible first | exact HB.out | apply bA | apply bN | apply bD | refine bS ?_ GE123.out) | exact HB.out)⟩
      ·rw [if_neg c19] at H
       have c19b0 : decide (4096 < a2) = false := decide_eq_false c19
       clear c19
       obtain rfl := Option.some.inj H
       go_enter Try.func28, Try.ntmps28
       go_wp2_with (first | ((with_reducible refine gD (N := 3) rfl ?_); refine bE ?hg (N := 3) ?hd (cs := #[.int .i64 a0_0, .int .i64 a0_1, .int .i64 a0_2, .bool a0_3]) (t := 28) ?hr ?_; (case hd => rfl); (case hg => rfl); (case hr => first | (go_simp; done) | (go_simp; rfl)); intro gb123 hg w23 hbox hb; have n0_ := am (bT (by repeat (first | (with_reducible first | exact HB.out | apply bA | apply bN | apply bD) | exact HB.out)) hb); have n1_ := am (hbox); have n2_ := am ((by rw [hg]; exact (bU (by repeat (first | (with_reducible first | exact HB.out | apply bA | apply bN | apply bD) | exact HB.out))) : w.heap.size ≤ gb123)); have n3_ := am ((by rw [hg]; exact (bU (by repeat (first | (with_reducible first | exact HB.out | apply bA | apply bN | apply bD) | exact HB.out))) : w.heap.size ≤ gb123)); clear HB; have HB := n0_; have BK123 := n1_; have GW123 := n2_; have GE123 := n3_; clear n0_ n1_ n2_ n3_; clear hb hbox hg; have hcz24_0 : w23.cell? ⟨gb123, 0, none⟩ = some (.int .i64 a0_0) := (bC BK123.out 0).trans rfl; have hcz24_1 : w23.cell? ⟨gb123, 1, none⟩ = some (.int .i64 a0_1) := (bC BK123.out 1).trans rfl; have hcz24_2 : w23.cell? ⟨gb123, 2, none⟩ = some (.int .i64 a0_2) := (bC BK123.out 2).trans rfl; have hcz24_3 : w23.cell? ⟨gb123, 3, none⟩ = some (.bool a0_3) := (bC BK123.out 3).trans rfl; have hfz24_0 := bZ BK123.out 0; have hfz24_1 := bZ BK123.out 1; have hfz24_2 := bZ BK123.out 2; have hfz24_3 := bZ BK123.out 3) | ((with_reducible refine gate_callee (f := 37) rfl ?_); refine goesL_ (some 9) rfl rfl Try.func37 (by kernel_rfl) rfl #[.agg #[.int .i64 a0_0, .int .i64 a0_1, .int .i64 a0_2, .bool a0_3]] rfl (by (try simp only [List.map_toArray, List.map_cons, List.map_nil]); first | done | rfl | (simp only [List.length_drop, List.length_take]; rfl)) ?_; (with_reducible refine (dailiesref06_Shaped.calls k a0_0 a0_1 a0_2 a0_3 t124 _ A4.out).mono ?_); rintro e w25 ⟨rfl, hb⟩; refine ⟨_, rfl, ?_⟩; have n0_ := am (bB (g := gb123) (o := .cells #[.int .i64 a0_0, .int .i64 a0_1, .int .i64 a0_2, .bool a0_3] 28 (0, 0)) (by (with_reducible repeat apply dX); exact BK123.out) hb); have n1_ := am (bT (by repeat (first | (with_reducible first | exact HB.out | apply bA | apply bN | apply bD | refine bS ?_ GE123.out) | exact HB.out)) hb); clear BK123; clear HB; have BK123 := n0_; have HB := n1_; clear n0_ n1_; (try clear hb); (try clear hb2); (try clear hk); (try clear hi)))
       go_ret
       exact ⟨by first | rfl | (simp [errW_none, errW_some] <;> rfl) | (simp [*, errW_none, errW_some] <;> rfl), by repeat (first | (with_reducible first | exact HB.out | apply bA | apply bN | apply bD | refine bS ?_ GE123.out) | exact HB.out)⟩
    ·rw [if_neg c14] at H
     have c14b0 : ((Int.tmod a1 2) == 0) = false := beq_eq_false_iff_ne.mpr c14
     have c14b1 : ((Int.tmod a1 2) != 0) = true := bne_iff_ne.mpr c14
     obtain rfl := Option.some.inj H
     go_enter Try.func28, Try.ntmps28
     go_wp2_with (first | ((with_reducible refine gD (N := 3) rfl ?_); refine bE ?hg (N := 3) ?hd (cs := #[.int .i64 a0_0, .int .i64 a0_1, .int .i64 a0_2, .bool a0_3]) (t := 28) ?hr ?_; (case hd => rfl); (case hg => rfl); (case hr => first | (go_simp; done) | (go_simp; rfl)); intro gb123 hg w26 hbox hb; have n0_ := am (bT (by repeat (first | (with_reducible first | exact HB.out | apply bA | apply bN | apply bD) | exact HB.out)) hb); have n1_ := am (hbox); have n2_ := am ((by rw [hg]; exact (bU (by repeat (first | (with_reducible first | exact HB.out | apply bA | apply bN | apply bD) | exact HB.out))) : w.heap.size ≤ gb123)); have n3_ := am ((by rw [hg]; exact (bU (by repeat (first | (with_reducible first | exact HB.out | apply bA | apply bN | apply bD) | exact HB.out))) : w.heap.size ≤ gb123)); clear HB; have HB := n0_; have BK123 := n1_; have GW123 := n2_; have GE123 := n3_; clear n0_ n1_ n2_ n3_; clear hb hbox hg; have hcz27_0 : w26.cell? ⟨gb123, 0, none⟩ = some (.int .i64 a0_0) := (bC BK123.out 0).trans rfl; have hcz27_1 : w26.cell? ⟨gb123, 1, none⟩ = some (.int .i64 a0_1) := (bC BK123.out 1).trans rfl; have hcz27_2 : w26.cell? ⟨gb123, 2, none⟩ = some (.int .i64 a0_2) := (bC BK123.out 2).trans rfl; have hcz27_3 : w26.cell? ⟨gb123, 3, none⟩ = some (.bool a0_3) := (bC BK123.out 3).trans rfl; have hfz27_0 := bZ BK123.out 0; have hfz27_1 := bZ BK123.out 1; have hfz27_2 := bZ BK123.out 2; have hfz27_3 := bZ BK123.out 3) | ((with_reducible refine gate_callee (f := 37) rfl ?_); refine goesL_ (some 9) rfl rfl Try.func37 (by kernel_rfl) rfl #[.agg #[.int .i64 a0_0, .int .i64 a0_1, .int .i64 a0_2, .bool a0_3]] rfl (by (try simp only [List.map_toArray, List.map_cons, List.map_nil]); first | done | rfl | (simp only [List.length_drop, List.length_take]; rfl)) ?_; (with_reducible refine (dailiesref06_Shaped.calls k a0_0 a0_1 a0_2 a0_3 t124 _ A4.out).mono ?_); rintro e w28 ⟨rfl, hb⟩; refine ⟨_, rfl, ?_⟩; have n0_ := am (bB (g := gb123) (o := .cells #[.int .i64 a0_0, .int .i64 a0_1, .int .i64 a0_2, .bool a0_3] 28 (0, 0)) (by (with_reducible repeat apply dX); exact BK123.out) hb); have n1_ := am (bT (by repeat (first | (with_reducible first | exact HB.out | apply bA | apply bN | apply bD | refine bS ?_ GE123.out) | exact HB.out)) hb); clear BK123; clear HB; have BK123 := n0_; have HB := n1_; clear n0_ n1_; (try clear hb); (try clear hb2); (try clear hk); (try clear hi)))
     go_ret
     exact ⟨by first | rfl | (simp [errW_none, errW_some] <;> rfl) | (simp [*, errW_none, errW_some] <;> rfl), by repeat (first | (with_reducible first | exact HB.out | apply bA | apply bN | apply bD | refine bS ?_ GE123.out) | exact HB.out)⟩
 ·rw [if_neg c5] at H
  have c5b0 : (t124 == 0) = false := beq_eq_false_iff_ne.mpr c5
  have c5b1 : (t124 != 0) = true := bne_iff_ne.mpr c5
  obtain rfl := Option.some.inj H
  go_enter Try.func28, Try.ntmps28
  go_wp2_with (first | ((with_reducible refine gD (N := 3) rfl ?_); refine bE ?hg (N := 3) ?hd (cs := #[.int .i64 a0_0, .int .i64 a0_1, .int .i64 a0_2, .bool a0_3]) (t := 28) ?hr ?_; (case hd => rfl); (case hg => rfl); (case hr => first | (go_simp; done) | (go_simp; rfl)); intro gb123 hg w29 hbox hb; have n0_ := am (bT (by repeat (first | (with_reducible first | exact HB.out | apply bA | apply bN | apply bD) | exact HB.out)) hb); have n1_ := am (hbox); have n2_ := am ((by rw [hg]; exact (bU (by repeat (first | (with_reducible first | exact HB.out | apply bA | apply bN | apply bD) | exact HB.out))) : w.heap.size ≤ gb123)); have n3_ := am ((by rw [hg]; exact (bU (by repeat (first | (with_reducible first | exact HB.out | apply bA | apply bN | apply bD) | exact HB.out))) : w.heap.size ≤ gb123)); clear HB; have HB := n0_; have BK123 := n1_; have GW123 := n2_; have GE123 := n3_; clear n0_ n1_ n2_ n3_; clear hb hbox hg; have hcz30_0 : w29.cell? ⟨gb123, 0, none⟩ = some (.int .i64 a0_0) := (bC BK123.out 0).trans rfl; have hcz30_1 : w29.cell? ⟨gb123, 1, none⟩ = some (.int .i64 a0_1) := (bC BK123.out 1).trans rfl; have hcz30_2 : w29.cell? ⟨gb123, 2, none⟩ = some (.int .i64 a0_2) := (bC BK123.out 2).trans rfl; have hcz30_3 : w29.cell? ⟨gb123, 3, none⟩ = some (.bool a0_3) := (bC BK123.out 3).trans rfl; have hfz30_0 := bZ BK123.out 0; have hfz30_1 := bZ BK123.out 1; have hfz30_2 := bZ BK123.out 2; have hfz30_3 := bZ BK123.out 3) | ((with_reducible refine gate_callee (f := 37) rfl ?_); refine goesL_ (some 9) rfl rfl Try.func37 (by kernel_rfl) rfl #[.agg #[.int .i64 a0_0, .int .i64 a0_1, .int .i64 a0_2, .bool a0_3]] rfl (by (try simp only [List.map_toArray, List.map_cons, List.map_nil]); first | done | rfl | (simp only [List.length_drop, List.length_take]; rfl)) ?_; (with_reducible refine (dailiesref06_Shaped.calls k a0_0 a0_1 a0_2 a0_3 t124 _ A4.out).mono ?_); rintro e w31 ⟨rfl, hb⟩; refine ⟨_, rfl, ?_⟩; have n0_ := am (bB (g := gb123) (o := .cells #[.int .i64 a0_0, .int .i64 a0_1, .int .i64 a0_2, .bool a0_3] 28 (0, 0)) (by (with_reducible repeat apply dX); exact BK123.out) hb); have n1_ := am (bT (by repeat (first | (with_reducible first | exact HB.out | apply bA | apply bN | apply bD | refine bS ?_ GE123.out) | exact HB.out)) hb); clear BK123; clear HB; have BK123 := n0_; have HB := n1_; clear n0_ n1_; (try clear hb); (try clear hb2); (try clear hk); (try clear hi)))
  go_ret
  exact ⟨by first | rfl | (simp [errW_none, errW_some] <;> rfl) | (simp [*, errW_none, errW_some] <;> rfl), by repeat (first | (with_reducible first | exact HB.out | apply bA | apply bN | apply bD | refine bS ?_ GE123.out) | exact HB.out)⟩

end Go.Proofs.Ytnhemnabjlcgeaa.PPa
