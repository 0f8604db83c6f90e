-- Laid by a program of this session (wip/tools/prx.py), over the kit's printer of walks; Lean checks it.
import Derived.Test.YtdoikehkibefpaaPPbx0
import Derived.Test.YtdoikehkibefpaaPPbx3
import Derived.Test.YtdoikehkibefpaaPPbx4
import Derived.Test.YtdoikehkibefpaaPPbx7
namespace Go.Proofs.Ytdoikehkibefpaa.PPb
open Go.RowKit Go.Proofs.YtdoikehkibefpaaW.PrintWords Go.Proofs.YtdoikehkibefpaaW.PrintLast Go.Proofs.YtdoikehkibefpaaW.PrintMore
open Go.Proofs.YtdoikehkibefpaaW.PrintWords renaming blk_far → bF, below_set → bS, blk_frozen → bZ, below_alloc → bA, pw_below_drewN → bN, below_drew1 → bD, blk_below → bB, blk_cell → bC, blk_set → bs, blk_lt → bL, blk_put → bP, below_step → bT, below_size → bU, box_event → bE, gate_dst → gD
open Go.Proofs.YtdoikehkibefpaaW.PrintWords.Kd renaming S_far → kF, S_types → kT, S_alloc → kA, S_drewN → kN, S_drew → kD
set_option linter.unusedVariables false
set_option linter.unusedSimpArgs false

/-! ### dailiesref06_Whole: function 70 -/
def dailiesref06_Whole.f (a0_0 : Int) (a0_1 : Int) (a0_2 : Int) (a0_3 : Bool) (a1_0 : Int) (a1_1 : Int) (a1_2 : Int) (a1_3 : Int) : Option (Bool) := (dailiesref06_lies.f a1_0 a1_1 a1_2 a1_3 a0_0 a0_1).bind fun t202 => (if t202 = true then (if (Int.tmod a1_0 2) = 0 then (if (Int.tmod a1_2 2) = 0 then (some true) else (some ((wrap64 (a1_0 + a1_2)) == a0_0))) else (some false)) else (some false))
set_option maxHeartbeats 8000000 in
set_option maxRecDepth 100000 in
theorem dailiesref06_Whole.calls (a0_0 : Int) (a0_1 : Int) (a0_2 : Int) (a0_3 : Bool) (a1_0 : Int) (a1_1 : Int) (a1_2 : Int) (a1_3 : Int) (r : Bool) (w : World) (h : dailiesref06_Whole.f a0_0 a0_1 a0_2 a0_3 a1_0 a1_1 a1_2 a1_3 = some r) :
  Calls Try.prog 70 #[.agg #[.int .i64 a0_0, .int .i64 a0_1, .int .i64 a0_2, .bool a0_3], .agg #[.int .i64 a1_0, .int .i64 a1_1, .int .i64 a1_2, .int .i64 a1_3]] w fun e w' => e = .returned (.bool r) ∧ Below w.heap.size w w' := by
 have hu26 := Try.underlying26
 have hu52 := Try.underlying52
 have HB := am (Below.refl w.heap.size w)
 have H : ((dailiesref06_lies.f a1_0 a1_1 a1_2 a1_3 a0_0 a0_1).bind fun t202 => (if t202 = true then (if (Int.tmod a1_0 2) = 0 then (if (Int.tmod a1_2 2) = 0 then (some true) else (some ((wrap64 (a1_0 + a1_2)) == a0_0))) else (some false)) else (some false))) = some r := h
 clear h
 replace H := Option.bind_eq_some_iff.mp H
 obtain ⟨t202, A30, H⟩ := H
 replace H : (if t202 = true then (if (Int.tmod a1_0 2) = 0 then (if (Int.tmod a1_2 2) = 0 then (some true) else (some ((wrap64 (a1_0 + a1_2)) == a0_0))) else (some false)) else (some false)) = some r := H
 have A3 := am A30
 clear A30
 by_cases c4 : t202 = true
 ·subst c4
  have H1 : (if (Int.tmod a1_0 2) = 0 then (if (Int.tmod a1_2 2) = 0 then (some true) else (some ((wrap64 (a1_0 + a1_2)) == a0_0))) else (some false)) = some r := by rw [if_pos rfl] at H; exact H
  clear H
  have H := H1
  clear H1
  by_cases c5 : (Int.tmod a1_0 2) = 0
  ·rw [if_pos c5] at H
   have c5b0 : ((Int.tmod a1_0 2) == 0) = true := beq_iff_eq.mpr c5
   have c5b1 : ((Int.tmod a1_0 2) != 0) = false := bne_eq_false_iff_eq.mpr c5
   clear c5
   by_cases c6 : (Int.tmod a1_2 2) = 0
   ·rw [if_pos c6] at H
    have c6b0 : ((Int.tmod a1_2 2) == 0) = true := beq_iff_eq.mpr c6
    have c6b1 : ((Int.tmod a1_2 2) != 0) = false := bne_eq_false_iff_eq.mpr c6
    clear c6
    obtain rfl := Option.some.inj H
    go_enter Try.func70, Try.ntmps70
    go_wp2_with (first | ((with_reducible refine gD (N := 2) rfl ?_); refine bE ?hg (N := 2) ?hd (cs := #[.int .i64 a0_0, .int .i64 a0_1, .int .i64 a0_2, .bool a0_3]) (t := 26) ?hr ?_; (case hd => rfl); (case hg => rfl); (case hr => first | (go_simp; done) | (go_simp; rfl)); intro gb200 hg w7 hbox hb; have n0_ := am (bT (by repeat (first | (with_reducible first | exact HB.out | apply bA | apply bN | apply bD) | exact HB.out)) hb); have n1_ := am (hbox); have n2_ := am ((by rw [hg]; exact (bU (by repeat (first | (with_reducible first | exact HB.out | apply bA | apply bN | apply bD) | exact HB.out))) : w.heap.size ≤ gb200)); have n3_ := am ((by rw [hg]; exact (bU (by repeat (first | (with_reducible first | exact HB.out | apply bA | apply bN | apply bD) | exact HB.out))) : w.heap.size ≤ gb200)); clear HB; have HB := n0_; have BK200 := n1_; have GW200 := n2_; have GE200 := n3_; clear n0_ n1_ n2_ n3_; clear hb hbox hg) | ((with_reducible refine gD (N := 3) rfl ?_); refine bE ?hg (N := 3) ?hd (cs := #[.int .i64 a1_0, .int .i64 a1_1, .int .i64 a1_2, .int .i64 a1_3]) (t := 52) ?hr ?_; (case hd => rfl); (case hg => rfl); (case hr => first | (go_simp; done) | (go_simp; rfl)); intro gb201 hg w8 hbox hb; have n0_ := am (bB (g := gb200) (o := .cells #[.int .i64 a0_0, .int .i64 a0_1, .int .i64 a0_2, .bool a0_3] 26 (0, 0)) (by (with_reducible repeat apply dX); exact BK200.out) hb); have n1_ := am (bT (by repeat (first | (with_reducible first | exact HB.out | apply bA | apply bN | apply bD | refine bS ?_ GE200.out) | exact HB.out)) hb); have n2_ := am (hbox); have n3_ := am ((by rw [hg]; exact (bU (by repeat (first | (with_reducible first | exact HB.out | apply bA | apply bN | apply bD | refine bS ?_ GE200.out) | exact HB.out))) : w.heap.size ≤ gb201)); have n4_ := am ((by rw [hg]; exact (bU (by repeat (first | (with_reducible first | exact HB.out | apply bA | apply bN | apply bD | refine bS ?_ GE200.out) | exact HB.out))) : w.heap.size ≤ gb201)); have n5_ := am ((by rw [hg]; exact nL (bL (g := gb200) (o := .cells #[.int .i64 a0_0, .int .i64 a0_1, .int .i64 a0_2, .bool a0_3] 26 (0, 0)) (by (with_reducible repeat apply dX); exact BK200.out)) : gb200 ≠ gb201)); have n6_ := am ((by rw [hg]; exact nG (bL (g := gb200) (o := .cells #[.int .i64 a0_0, .int .i64 a0_1, .int .i64 a0_2, .bool a0_3] 26 (0, 0)) (by (with_reducible repeat apply dX); exact BK200.out)) : gb201 ≠ gb200)); clear BK200; clear HB; have BK200 := n0_; have HB := n1_; have BK201 := n2_; have GW201 := n3_; have GE201 := n4_; have NB200_201 := n5_; have NB201_200 := n6_; clear n0_ n1_ n2_ n3_ n4_ n5_ n6_; clear hb hbox hg; have hnb9 := NB201_200.out; have hnc9 := NB200_201.out; have hcz10_0 : w8.cell? ⟨gb201, 0, none⟩ = some (.int .i64 a1_0) := (bC BK201.out 0).trans rfl; have hcz10_1 : w8.cell? ⟨gb201, 1, none⟩ = some (.int .i64 a1_1) := (bC BK201.out 1).trans rfl; have hcz10_2 : w8.cell? ⟨gb201, 2, none⟩ = some (.int .i64 a1_2) := (bC BK201.out 2).trans rfl; have hcz10_3 : w8.cell? ⟨gb201, 3, none⟩ = some (.int .i64 a1_3) := (bC BK201.out 3).trans rfl; have hfz10_0 := bZ BK201.out 0; have hfz10_1 := bZ BK201.out 1; have hfz10_2 := bZ BK201.out 2; have hfz10_3 := bZ BK201.out 3; have hcz11_0 : w8.cell? ⟨gb200, 0, none⟩ = some (.int .i64 a0_0) := (bC BK200.out 0).trans rfl; have hcz11_1 : w8.cell? ⟨gb200, 1, none⟩ = some (.int .i64 a0_1) := (bC BK200.out 1).trans rfl; have hcz11_2 : w8.cell? ⟨gb200, 2, none⟩ = some (.int .i64 a0_2) := (bC BK200.out 2).trans rfl; have hcz11_3 : w8.cell? ⟨gb200, 3, none⟩ = some (.bool a0_3) := (bC BK200.out 3).trans rfl; have hfz11_0 := bZ BK200.out 0; have hfz11_1 := bZ BK200.out 1; have hfz11_2 := bZ BK200.out 2; have hfz11_3 := bZ BK200.out 3) | ((with_reducible refine gate_callee (f := 67) rfl ?_); refine goesL_ (some 11) rfl rfl Try.func67 (by kernel_rfl) rfl #[.agg #[.int .i64 a1_0, .int .i64 a1_1, .int .i64 a1_2, .int .i64 a1_3], .int .i64 a0_0, .int .i64 a0_1] rfl (by (try simp only [List.map_toArray, List.map_cons, List.map_nil]); first | done | rfl | (simp only [List.length_drop, List.length_take]; rfl)) ?_; (with_reducible refine (dailiesref06_lies.calls a1_0 a1_1 a1_2 a1_3 a0_0 a0_1 true _ A3.out).mono ?_); rintro e w12 ⟨rfl, hb⟩; refine ⟨_, rfl, ?_⟩; have n0_ := am (bB (g := gb200) (o := .cells #[.int .i64 a0_0, .int .i64 a0_1, .int .i64 a0_2, .bool a0_3] 26 (0, 0)) (by (with_reducible repeat apply dX); exact BK200.out) hb); have n1_ := am (bB (g := gb201) (o := .cells #[.int .i64 a1_0, .int .i64 a1_1, .int .i64 a1_2, .int .i64 a1_3] 52 (0, 0)) (by (with_reducible repeat apply dX); exact BK201.out) hb); have n2_ := am (bT (by repeat (first | (with_reducible first | exact HB.out | apply bA | apply bN | apply bD | refine bS ?_ GE200.out | refine bS ?_ GE201.out) | exact HB.out)) hb); clear BK200; clear BK201; clear HB; have BK200 := n0_; have BK201 := n1_; have HB := n2_; clear n0_ n1_ n2_; (try clear hb); (try clear hb2); (try clear hk); (try clear hi); have hcz13_0 : w12.cell? ⟨gb201, 0, none⟩ = some (.int .i64 a1_0) := (bC BK201.out 0).trans rfl; have hcz13_1 : w12.cell? ⟨gb201, 1, none⟩ = some (.int .i64 a1_1) := (bC BK201.out 1).trans rfl; have hcz13_2 : w12.cell? ⟨gb201, 2, none⟩ = some (.int .i64 a1_2) := (bC BK201.out 2).trans rfl; have hcz13_3 : w12.cell? ⟨gb201, 3, none⟩ = some (.int .i64 a1_3) := (bC BK201.out 3).trans rfl; have hfz13_0 := bZ BK201.out 0; have hfz13_1 := bZ BK201.out 1; have hfz13_2 := bZ BK201.out 2; have hfz13_3 := bZ BK201.out 3))
    go_ret
    exact ⟨by first | rfl | (simp [errW_none, errW_some] <;> rfl) | (simp [*, errW_none, errW_some] <;> rfl), by repeat (first | (with_reducible first | exact HB.out | apply bA | apply bN | apply bD | refine bS ?_ GE200.out | refine bS ?_ GE201.out) | exact HB.out)⟩
   ·rw [if_neg c6] at H
    have c6b0 : ((Int.tmod a1_2 2) == 0) = false := beq_eq_false_iff_ne.mpr c6
    have c6b1 : ((Int.tmod a1_2 2) != 0) = true := bne_iff_ne.mpr c6
    obtain rfl := Option.some.inj H
    go_enter Try.func70, Try.ntmps70
    go_wp2_with (first | ((with_reducible refine gD (N := 2) rfl ?_); refine bE ?hg (N := 2) ?hd (cs := #[.int .i64 a0_0, .int .i64 a0_1, .int .i64 a0_2, .bool a0_3]) (t := 26) ?hr ?_; (case hd => rfl); (case hg => rfl); (case hr => first | (go_simp; done) | (go_simp; rfl)); intro gb200 hg w14 hbox hb; have n0_ := am (bT (by repeat (first | (with_reducible first | exact HB.out | apply bA | apply bN | apply bD) | exact HB.out)) hb); have n1_ := am (hbox); have n2_ := am ((by rw [hg]; exact (bU (by repeat (first | (with_reducible first | exact HB.out | apply bA | apply bN | apply bD) | exact HB.out))) : w.heap.size ≤ gb200)); have n3_ := am ((by rw [hg]; exact (bU (by repeat (first | (with_reducible first | exact HB.out | apply bA | apply bN | apply bD) | exact HB.out))) : w.heap.size ≤ gb200)); clear HB; have HB := n0_; have BK200 := n1_; have GW200 := n2_; have GE200 := n3_; clear n0_ n1_ n2_ n3_; clear hb hbox hg) | ((with_reducible refine gD (N := 3) rfl ?_); refine bE ?hg (N := 3) ?hd (cs := #[.int .i64 a1_0, .int .i64 a1_1, .int .i64 a1_2, .int .i64 a1_3]) (t := 52) ?hr ?_; (case hd => rfl); (case hg => rfl); (case hr => first | (go_simp; done) | (go_simp; rfl)); intro gb201 hg w15 hbox hb; have n0_ := am (bB (g := gb200) (o := .cells #[.int .i64 a0_0, .int .i64 a0_1, .int .i64 a0_2, .bool a0_3] 26 (0, 0)) (by (with_reducible repeat apply dX); exact BK200.out) hb); have n1_ := am (bT (by repeat (first | (with_reducible first | exact HB.out | apply bA | apply bN | apply bD | refine bS ?_ GE200.out) | exact HB.out)) hb); have n2_ := am (hbox); have n3_ := am ((by rw [hg]; exact (bU (by repeat (first | (with_reducible first | exact HB.out | apply bA | apply bN | apply bD | refine bS ?_ GE200.out) | exact HB.out))) : w.heap.size ≤ gb201)); have n4_ := am ((by rw [hg]; exact (bU (by repeat (first | (with_reducible first | exact HB.out | apply bA | apply bN | apply bD | refine bS ?_ GE200.out) | exact HB.out))) : w.heap.size ≤ gb201)); have n5_ := am ((by rw [hg]; exact nL (bL (g := gb200) (o := .cells #[.int .i64 a0_0, .int .i64 a0_1, .int .i64 a0_2, .bool a0_3] 26 (0, 0)) (by (with_reducible repeat apply dX); exact BK200.out)) : gb200 ≠ gb201)); have n6_ := am ((by rw [hg]; exact nG (bL (g := gb200) (o := .cells #[.int .i64 a0_0, .int .i64 a0_1, .int .i64 a0_2, .bool a0_3] 26 (0, 0)) (by (with_reducible repeat apply dX); exact BK200.out)) : gb201 ≠ gb200)); clear BK200; clear HB; have BK200 := n0_; have HB := n1_; have BK201 := n2_; have GW201 := n3_; have GE201 := n4_; have NB200_201 := n5_; have NB201_200 := n6_; clear n0_ n1_ n2_ n3_ n4_ n5_ n6_; clear hb hbox hg; have hnb16 := NB201_200.out; have hnc16 := NB200_201.out; have hcz17_0 : w15.cell? ⟨gb201, 0, none⟩ = some (.int .i64 a1_0) := (bC BK201.out 0).trans rfl; have hcz17_1 : w15.cell? ⟨gb201, 1, none⟩ = some (.int .i64 a1_1) := (bC BK201.out 1).trans rfl; have hcz17_2 : w15.cell? ⟨gb201, 2, none⟩ = some (.int .i64 a1_2) := (bC BK201.out 2).trans rfl; have hcz17_3 : w15.cell? ⟨gb201, 3, none⟩ = some (.int .i64 a1_3) := (bC BK201.out 3).trans rfl; have hfz17_0 := bZ BK201.out 0; have hfz17_1 := bZ BK201.out 1; have hfz17_2 := bZ BK201.out 2; have hfz17_3 := bZ BK201.out 3; have hcz18_0 : w15.cell? ⟨gb200, 0, none⟩ = some (.int .i64 a0_0) := (bC BK200.out 0).trans rfl; have hcz18_1 : w15.cell? ⟨gb200, 1, none⟩ = some (.int .i64 a0_1) := (bC BK200.out 1).trans rfl; have hcz18_2 : w15.cell? ⟨gb200, 2, none⟩ = some (.int .i64 a0_2) := (bC BK200.out 2).trans rfl; have hcz18_3 : w15.cell? ⟨gb200, 3, none⟩ = some (.bool a0_3) := (bC BK200.out 3).trans rfl; have hfz18_0 := bZ BK200.out 0; have hfz18_1 := bZ BK200.out 1; have hfz18_2 := bZ BK200.out 2; have hfz18_3 := bZ BK200.out 3) | ((with_reducible refine gate_callee (f := 67) rfl ?_); refine goesL_ (some 11) rfl rfl Try.func67 (by kernel_rfl) rfl #[.agg #[.int .i64 a1_0, .int .i64 a1_1, .int .i64 a1_2, .int .i64 a1_3], .int .i64 a0_0, .int .i64 a0_1] rfl (by (try simp only [List.map_toArray, List.map_cons, List.map_nil]); first | done | rfl | (simp only [List.length_drop, List.length_take]; rfl)) ?_; (with_reducible refine (dailiesref06_lies.calls a1_0 a1_1 a1_2 a1_3 a0_0 a0_1 true _ A3.out).mono ?_); rintro e w19 ⟨rfl, hb⟩; refine ⟨_, rfl, ?_⟩; have n0_ := am (bB (g := gb200) (o := .cells #[.int .i64 a0_0, .int .i64 a0_1, .int .i64 a0_2, .bool a0_3] 26 (0, 0)) (by (with_reducible repeat apply dX); exact BK200.out) hb); have n1_ := am (bB (g := gb201) (o := .cells #[.int .i64 a1_0, .int .i64 a1_1, .int .i64 a1_2, .int .i64 a1_3] 52 (0, 0)) (by (with_reducible repeat apply dX); exact BK201.out) hb); have n2_ := am (bT (by repeat (first | (with_reducible first | exact HB.out | apply bA | apply bN | apply bD | refine bS ?_ GE200.out | refine bS ?_ GE201.out) | exact HB.out)) hb); clear BK200; clear BK201; clear HB; have BK200 := n0_; have BK201 := n1_; have HB := n2_; clear n0_ n1_ n2_; (try clear hb); (try clear hb2); (try clear hk); (try clear hi); have hcz20_0 : w19.cell? ⟨gb201, 0, none⟩ = some (.int .i64 a1_0) := (bC BK201.out 0).trans rfl; have hcz20_1 : w19.cell? ⟨gb201, 1, none⟩ = some (.int .i64 a1_1) := (bC BK201.out 1).trans rfl; have hcz20_2 : w19.cell? ⟨gb201, 2, none⟩ = some (.int .i64 a1_2) := (bC BK201.out 2).trans rfl; have hcz20_3 : w19.cell? ⟨gb201, 3, none⟩ = some (.int .i64 a1_3) := (bC BK201.out 3).trans rfl; have hfz20_0 := bZ BK201.out 0; have hfz20_1 := bZ BK201.out 1; have hfz20_2 := bZ BK201.out 2; have hfz20_3 := bZ BK201.out 3; have hcz21_0 : w19.cell? ⟨gb200, 0, none⟩ = some (.int .i64 a0_0) := (bC BK200.out 0).trans rfl; have hcz21_1 : w19.cell? ⟨gb200, 1, none⟩ = some (.int .i64 a0_1) := (bC BK200.out 1).trans rfl; have hcz21_2 : w19.cell? ⟨gb200, 2, none⟩ = some (.int .i64 a0_2) := (bC BK200.out 2).trans rfl; have hcz21_3 : w19.cell? ⟨gb200, 3, none⟩ = some (.bool a0_3) := (bC BK200.out 3).trans rfl; have hfz21_0 := bZ BK200.out 0; have hfz21_1 := bZ BK200.out 1; have hfz21_2 := bZ BK200.out 2; have hfz21_3 := bZ BK200.out 3))
    go_ret
    exact ⟨by first | rfl | (simp [errW_none, errW_some] <;> rfl) | (simp [*, errW_none, errW_some] <;> rfl), by repeat (first | (with_reducible first | exact HB.out | apply bA | apply bN | apply bD | refine bS ?_ GE200.out | refine bS ?_ GE201.out) | exact HB.out)⟩
  ·rw [if_neg c5] at H
   have c5b0 : ((Int.tmod a1_0 2) == 0) = false := beq_eq_false_iff_ne.mpr c5
   have c5b1 : ((Int.tmod a1_0 2) != 0) = true := bne_iff_ne.mpr c5
   obtain rfl := Option.some.inj H
   go_enter Try.func70, Try.ntmps70
   go_wp2_with (first | ((with_reducible refine gD (N := 2) rfl ?_); refine bE ?hg (N := 2) ?hd (cs := #[.int .i64 a0_0, .int .i64 a0_1, .int .i64 a0_2, .bool a0_3]) (t := 26) ?hr ?_; (case hd => rfl); (case hg => rfl); (case hr => first | (go_simp; done) | (go_simp; rfl)); intro gb200 hg w22 hbox hb; have n0_ := am (bT (by repeat (first | (with_reducible first | exact HB.out | apply bA | apply bN | apply bD) | exact HB.out)) hb); have n1_ := am (hbox); have n2_ := am ((by rw [hg]; exact (bU (by repeat (first | (with_reducible first | exact HB.out | apply bA | apply bN | apply bD) | exact HB.out))) : w.heap.size ≤ gb200)); have n3_ := am ((by rw [hg]; exact (bU (by repeat (first | (with_reducible first | exact HB.out | apply bA | apply bN | apply bD) | exact HB.out))) : w.heap.size ≤ gb200)); clear HB; have HB := n0_; have BK200 := n1_; have GW200 := n2_; have GE200 := n3_; clear n0_ n1_ n2_ n3_; clear hb hbox hg) | ((with_reducible refine gD (N := 3) rfl ?_); refine bE ?hg (N := 3) ?hd (cs := #[.int .i64 a1_0, .int .i64 a1_1, .int .i64 a1_2, .int .i64 a1_3]) (t := 52) ?hr ?_; (case hd => rfl); (case hg => rfl); (case hr => first | (go_simp; done) | (go_simp; rfl)); intro gb201 hg w23 hbox hb; have n0_ := am (bB (g := gb200) (o := .cells #[.int .i64 a0_0, .int .i64 a0_1, .int .i64 a0_2, .bool a0_3] 26 (0, 0)) (by (with_reducible repeat apply dX); exact BK200.out) hb); have n1_ := am (bT (by repeat (first | (with_reducible first | exact HB.out | apply bA | apply bN | apply bD | refine bS ?_ GE200.out) | exact HB.out)) hb); have n2_ := am (hbox); have n3_ := am ((by rw [hg]; exact (bU (by repeat (first | (with_reducible first | exact HB.out | apply bA | apply bN | apply bD | refine bS ?_ GE200.out) | exact HB.out))) : w.heap.size ≤ gb201)); have n4_ := am ((by rw [hg]; exact (bU (by repeat (first | (with_reducible first | exact HB.out | apply bA | apply bN | apply bD | refine bS ?_ GE200.out) | exact HB.out))) : w.heap.size ≤ gb201)); have n5_ := am ((by rw [hg]; exact nL (bL (g := gb200) (o := .cells #[.int .i64 a0_0, .int .i64 a0_1, .int .i64 a0_2, .bool a0_3] 26 (0, 0)) (by (with_reducible repeat apply dX); exact BK200.out)) : gb200 ≠ gb201)); have n6_ := am ((by rw [hg]; exact nG (bL (g := gb200) (o := .cells #[.int .i64 a0_0, .int .i64 a0_1, .int .i64 a0_2, .bool a0_3] 26 (0, 0)) (by (with_reducible repeat apply dX); exact BK200.out)) : gb201 ≠ gb200)); clear BK200; clear HB; have BK200 := n0_; have HB := n1_; have BK201 := n2_; have GW201 := n3_; have GE201 := n4_; have NB200_201 := n5_; have NB201_200 := n6_; clear n0_ n1_ n2_ n3_ n4_ n5_ n6_; clear hb hbox hg; have hnb24 := NB201_200.out; have hnc24 := NB200_201.out; have hcz25_0 : w23.cell? ⟨gb201, 0, none⟩ = some (.int .i64 a1_0) := (bC BK201.out 0).trans rfl; have hcz25_1 : w23.cell? ⟨gb201, 1, none⟩ = some (.int .i64 a1_1) := (bC BK201.out 1).trans rfl; have hcz25_2 : w23.cell? ⟨gb201, 2, none⟩ = some (.int .i64 a1_2) := (bC BK201.out 2).trans rfl; have hcz25_3 : w23.cell? ⟨gb201, 3, none⟩ = some (.int .i64 a1_3) := (bC BK201.out 3).trans rfl; have hfz25_0 := bZ BK201.out 0; have hfz25_1 := bZ BK201.out 1; have hfz25_2 := bZ BK201.out 2; have hfz25_3 := bZ BK201.out 3; have hcz26_0 : w23.cell? ⟨gb200, 0, none⟩ = some (.int .i64 a0_0) := (bC BK200.out 0).trans rfl; have hcz26_1 : w23.cell? ⟨gb200, 1, none⟩ = some (.int .i64 a0_1) := (bC BK200.out 1).trans rfl; have hcz26_2 : w23.cell? ⟨gb200, 2, none⟩ = some (.int .i64 a0_2) := (bC BK200.out 2).trans rfl; have hcz26_3 : w23.cell? ⟨gb200, 3, none⟩ = some (.bool a0_3) := (bC BK200.out 3).trans rfl; have hfz26_0 := bZ BK200.out 0; have hfz26_1 := bZ BK200.out 1; have hfz26_2 := bZ BK200.out 2; have hfz26_3 := bZ BK200.out 3) | ((with_reducible refine gate_callee (f := 67) rfl ?_); refine goesL_ (some 11) rfl rfl Try.func67 (by kernel_rfl) rfl #[.agg #[.int .i64 a1_0, .int .i64 a1_1, .int .i64 a1_2, .int .i64 a1_3], .int .i64 a0_0, .int .i64 a0_1] rfl (by (try simp only [List.map_toArray, List.map_cons, List.map_nil]); first | done | rfl | (simp only [List.length_drop, List.length_take]; rfl)) ?_; (with_reducible refine (dailiesref06_lies.calls a1_0 a1_1 a1_2 a1_3 a0_0 a0_1 true _ A3.out).mono ?_); rintro e w27 ⟨rfl, hb⟩; refine ⟨_, rfl, ?_⟩; have n0_ := am (bB (g := gb200) (o := .cells #[.int .i64 a0_0, .int .i64 a0_1, .int .i64 a0_2, .bool a0_3] 26 (0, 0)) (by (with_reducible repeat apply dX); exact BK200.out) hb); have n1_ := am (bB (g := gb201) (o := .cells #[.int .i64 a1_0, .int .i64 a1_1, .int .i64 a1_2, .int .i64 a1_3] 52 (0, 0)) (by (with_reducible repeat apply dX); exact BK201.out) hb); have n2_ := am (bT (by repeat (first | (with_reducible first | exact HB.out | apply bA | apply bN | apply bD | refine bS ?_ GE200.out | refine bS ?_ GE201.out) | exact HB.out)) hb); clear BK200; clear BK201; clear HB; have BK200 := n0_; have BK201 := n1_; have HB := n2_; clear n0_ n1_ n2_; (try clear hb); (try clear hb2); (try clear hk); (try clear hi); have hcz28_0 : w27.cell? ⟨gb201, 0, none⟩ = some (.int .i64 a1_0) := (bC BK201.out 0).trans rfl; have hcz28_1 : w27.cell? ⟨gb201, 1, none⟩ = some (.int .i64 a1_1) := (bC BK201.out 1).trans rfl; have hcz28_2 : w27.cell? ⟨gb201, 2, none⟩ = some (.int .i64 a1_2) := (bC BK201.out 2).trans rfl; have hcz28_3 : w27.cell? ⟨gb201, 3, none⟩ = some (.int .i64 a1_3) := (bC BK201.out 3).trans rfl; have hfz28_0 := bZ BK201.out 0; have hfz28_1 := bZ BK201.out 1; have hfz28_2 := bZ BK201.out 2; have hfz28_3 := bZ BK201.out 3))
   go_ret
   exact ⟨by first | rfl | (simp [errW_none, errW_some] <;> rfl) | (simp [*, errW_none, errW_some] <;> rfl), by repeat (first | (with_reducible first | exact HB.out | apply bA | apply bN | apply bD | refine bS ?_ GE200.out | refine bS ?_ GE201.out) | exact HB.out)⟩
 ·replace c4 := Bool.eq_false_iff.mpr c4
  subst c4
  have H1 : (some false) = some r := by rw [if_neg (show ¬ (false = true) by decide)] at H; exact H
  clear H
  have H := H1
  clear H1
  obtain rfl := Option.some.inj H
  go_enter Try.func70, Try.ntmps70
  go_wp2_with (first | ((with_reducible refine gD (N := 2) rfl ?_); refine bE ?hg (N := 2) ?hd (cs := #[.int .i64 a0_0, .int .i64 a0_1, .int .i64 a0_2, .bool a0_3]) (t := 26) ?hr ?_; (case hd => rfl); (case hg => rfl); (case hr => first | (go_simp; done) | (go_simp; rfl)); intro gb200 hg w29 hbox hb; have n0_ := am (bT (by repeat (first | (with_reducible first | exact HB.out | apply bA | apply bN | apply bD) | exact HB.out)) hb); have n1_ := am (hbox); have n2_ := am ((by rw [hg]; exact (bU (by repeat (first | (with_reducible first | exact HB.out | apply bA | apply bN | apply bD) | exact HB.out))) : w.heap.size ≤ gb200)); have n3_ := am ((by rw [hg]; exact (bU (by repeat (first | (with_reducible first | exact HB.out | apply bA | apply bN | apply bD) | exact HB.out))) : w.heap.size ≤ gb200)); clear HB; have HB := n0_; have BK200 := n1_; have GW200 := n2_; have GE200 := n3_; clear n0_ n1_ n2_ n3_; clear hb hbox hg) | ((with_reducible refine gD (N := 3) rfl ?_); refine bE ?hg (N := 3) ?hd (cs := #[.int .i64 a1_0, .int .i64 a1_1, .int .i64 a1_2, .int .i64 a1_3]) (t := 52) ?hr ?_; (case hd => rfl); (case hg => rfl); (case hr => first | (go_simp; done) | (go_simp; rfl)); intro gb201 hg w30 hbox hb; have n0_ := am (bB (g := gb200) (o := .cells #[.int .i64 a0_0, .int .i64 a0_1, .int .i64 a0_2, .bool a0_3] 26 (0, 0)) (by (with_reducible repeat apply dX); exact BK200.out) hb); have n1_ := am (bT (by repeat (first | (with_reducible first | exact HB.out | apply bA | apply bN | apply bD | refine bS ?_ GE200.out) | exact HB.out)) hb); have n2_ := am (hbox); have n3_ := am ((by rw [hg]; exact (bU (by repeat (first | (with_reducible first | exact HB.out | apply bA | apply bN | apply bD | refine bS ?_ GE200.out) | exact HB.out))) : w.heap.size ≤ gb201)); have n4_ := am ((by rw [hg]; exact (bU (by repeat (first | (with_reducible first | exact HB.out | apply bA | apply bN | apply bD | refine bS ?_ GE200.out) | exact HB.out))) : w.heap.size ≤ gb201)); have n5_ := am ((by rw [hg]; exact nL (bL (g := gb200) (o := .cells #[.int .i64 a0_0, .int .i64 a0_1, .int .i64 a0_2, .bool a0_3] 26 (0, 0)) (by (with_reducible repeat apply dX); exact BK200.out)) : gb200 ≠ gb201)); have n6_ := am ((by rw [hg]; exact nG (bL (g := gb200) (o := .cells #[.int .i64 a0_0, .int .i64 a0_1, .int .i64 a0_2, .bool a0_3] 26 (0, 0)) (by (with_reducible repeat apply dX); exact BK200.out)) : gb201 ≠ gb200)); clear BK200; clear HB; have BK200 := n0_; have HB := n1_; have BK201 := n2_; have GW201 := n3_; have GE201 := n4_; have NB200_201 := n5_; have NB201_200 := n6_; clear n0_ n1_ n2_ n3_ n4_ n5_ n6_; clear hb hbox hg; have hnb31 := NB201_200.out; have hnc31 := NB200_201.out; have hcz32_0 : w30.cell? ⟨gb201, 0, none⟩ = some (.int .i64 a1_0) := (bC BK201.out 0).trans rfl; have hcz32_1 : w30.cell? ⟨gb201, 1, none⟩ = some (.int .i64 a1_1) := (bC BK201.out 1).trans rfl; have hcz32_2 : w30.cell? ⟨gb201, 2, none⟩ = some (.int .i64 a1_2) := (bC BK201.out 2).trans rfl; have hcz32_3 : w30.cell? ⟨gb201, 3, none⟩ = some (.int .i64 a1_3) := (bC BK201.out 3).trans rfl; have hfz32_0 := bZ BK201.out 0; have hfz32_1 := bZ BK201.out 1; have hfz32_2 := bZ BK201.out 2; have hfz32_3 := bZ BK201.out 3; have hcz33_0 : w30.cell? ⟨gb200, 0, none⟩ = some (.int .i64 a0_0) := (bC BK200.out 0).trans rfl; have hcz33_1 : w30.cell? ⟨gb200, 1, none⟩ = some (.int .i64 a0_1) := (bC BK200.out 1).trans rfl; have hcz33_2 : w30.cell? ⟨gb200, 2, none⟩ = some (.int .i64 a0_2) := (bC BK200.out 2).trans rfl; have hcz33_3 : w30.cell? ⟨gb200, 3, none⟩ = some (.bool a0_3) := (bC BK200.out 3).trans rfl; have hfz33_0 := bZ BK200.out 0; have hfz33_1 := bZ BK200.out 1; have hfz33_2 := bZ BK200.out 2; have hfz33_3 := bZ BK200.out 3) | ((with_reducible refine gate_callee (f := 67) rfl ?_); refine goesL_ (some 11) rfl rfl Try.func67 (by kernel_rfl) rfl #[.agg #[.int .i64 a1_0, .int .i64 a1_1, .int .i64 a1_2, .int .i64 a1_3], .int .i64 a0_0, .int .i64 a0_1] rfl (by (try simp only [List.map_toArray, List.map_cons, List.map_nil]); first | done | rfl | (simp only [List.length_drop, List.length_take]; rfl)) ?_; (with_reducible refine (dailiesref06_lies.calls a1_0 a1_1 a1_2 a1_3 a0_0 a0_1 false _ A3.out).mono ?_); rintro e w34 ⟨rfl, hb⟩; refine ⟨_, rfl, ?_⟩; have n0_ := am (bB (g := gb200) (o := .cells #[.int .i64 a0_0, .int .i64 a0_1, .int .i64 a0_2, .bool a0_3] 26 (0, 0)) (by (with_reducible repeat apply dX); exact BK200.out) hb); have n1_ := am (bB (g := gb201) (o := .cells #[.int .i64 a1_0, .int .i64 a1_1, .int .i64 a1_2, .int .i64 a1_3] 52 (0, 0)) (by (with_reducible repeat apply dX); exact BK201.out) hb); have n2_ := am (bT (by repeat (first | (with_reducible first | exact HB.out | apply bA | apply bN | apply bD | refine bS ?_ GE200.out | refine bS ?_ GE201.out) | exact HB.out)) hb); clear BK200; clear BK201; clear HB; have BK200 := n0_; have BK201 := n1_; have HB := n2_; clear n0_ n1_ n2_; (try clear hb); (try clear hb2); (try clear hk); (try clear hi)))
  go_ret
  exact ⟨by first | rfl | (simp [errW_none, errW_some] <;> rfl) | (simp [*, errW_none, errW_some] <;> rfl), by repeat (first | (with_reducible first | exact HB.out | apply bA | apply bN | apply bD | refine bS ?_ GE200.out | refine bS ?_ GE201.out) | exact HB.out)⟩

/-! ### dailiesref06_Half: function 38 -/
def dailiesref06_Half.j0 : Nat → Int → Bool → Int → Int → Int → Int → Option (Int × Int × Int × Int × Int)
 | 0, _, _, _, _, _, _ => none
 | k + 1, x1, x28, x205000, x205001, x205002, x205003 => if x28 = true then (some (0, 0, 0, 0, 65)) else (if x1 = 1 then ((dailiesref06_half.f x205002).bind fun t209 => (some (wrap64 (Int.tdiv x205000 2), x205001, t209, x205003, 0))) else (if x1 = 2 then ((dailiesref06_half.f x205002).bind fun t210 => (some (wrap64 (Int.tdiv x205000 2), x205001, t210, x205003, 0))) else (some (x205000, x205001, x205002, x205003, 0))))
def dailiesref06_Half.f (k : Nat) (a0_0 : Int) (a0_1 : Int) (a0_2 : Int) (a0_3 : Bool) (a1 : Int) (a2_0 : Int) (a2_1 : Int) (a2_2 : Int) (a2_3 : Int) : Option (Int × Int × Int × Int × Int) := (dailiesref06_Shaped.f k a0_0 a0_1 a0_2 a0_3).bind fun t206 => (if t206 = 0 then ((dailiesref06_there.f a0_0 a0_1 a0_2 a0_3 a1).bind fun t207 => ((dailiesref06_Whole.f a0_0 a0_1 a0_2 a0_3 a2_0 a2_1 a2_2 a2_3).bind fun t208 => (if t207 = true then (dailiesref06_Half.j0 k a1 (!t208) a2_0 a2_1 a2_2 a2_3) else (dailiesref06_Half.j0 k a1 true a2_0 a2_1 a2_2 a2_3)))) else (some (0, 0, 0, 0, t206)))
theorem dailiesref06_Half.mono_l : ∀ k, (∀ y0 y1 y2 y3 y4 y5, LeO (dailiesref06_Half.j0 k y0 y1 y2 y3 y4 y5) (dailiesref06_Half.j0 (k + 1) y0 y1 y2 y3 y4 y5))
 | 0 => fun _ _ _ _ _ _ r h => by simp [dailiesref06_Half.j0] at h
 | k + 1 => by
  have ih0 := dailiesref06_Half.mono_l k
  ·intro y0 y1 y2 y3 y4 y5
   unfold dailiesref06_Half.j0
   repeat' first
   | (with_reducible exact ih0 _ _ _ _ _ _)
   | (with_reducible exact dailiesref06_Shaped.mono _ _ _ _ _)
   | (with_reducible exact LeO.refl _)
   | (with_reducible exact LeO.none _)
   | (with_reducible refine LeO.ite ?_ ?_)
   | (with_reducible refine LeO.bind ?_ (fun _ => ?_))
   | exact ih0 _ _ _ _ _ _
   | exact dailiesref06_Shaped.mono _ _ _ _ _
   | exact LeO.none _
   | refine LeO.ite ?_ ?_
   | refine LeO.bind ?_ (fun _ => ?_)
theorem dailiesref06_Half.mono : ∀ a0 a1 a2 a3 a4 a5 a6 a7 a8 k, LeO (dailiesref06_Half.f k a0 a1 a2 a3 a4 a5 a6 a7 a8) (dailiesref06_Half.f (k + 1) a0 a1 a2 a3 a4 a5 a6 a7 a8) := by
 intro a0 a1 a2 a3 a4 a5 a6 a7 a8 k
 have ih0 := dailiesref06_Half.mono_l k
 unfold dailiesref06_Half.f
 repeat' first
   | (with_reducible exact ih0 _ _ _ _ _ _)
   | (with_reducible exact dailiesref06_Shaped.mono _ _ _ _ _)
   | (with_reducible exact LeO.refl _)
   | (with_reducible exact LeO.none _)
   | (with_reducible refine LeO.ite ?_ ?_)
   | (with_reducible refine LeO.bind ?_ (fun _ => ?_))
   | exact ih0 _ _ _ _ _ _
   | exact dailiesref06_Shaped.mono _ _ _ _ _
   | exact LeO.none _
   | refine LeO.ite ?_ ?_
   | refine LeO.bind ?_ (fun _ => ?_)
def dailiesref06_Half.T9 : Bool × List (List Nat × List Nat) := (true, [([], []), ([0], [0]), ([1], [1]), ([], []), ([3], [3]), ([], []), ([5], [5]), ([6], [6]), ([], []), ([8], [8]), ([2, 4, 7, 9], [2, 4, 7, 9]), ([10, 7, 0, 1, 2, 3, 4, 5, 6, 7, 8, 9, 10], [10]), ([11, 0, 1, 2, 3, 4, 5, 6, 7, 8, 9, 10, 11], [])])
def dailiesref06_Half.B9 : List Nat := [0, 1, 3, 0, 8, 0, 32, 96, 0, 256, 1023, 2047, 4095]
theorem dailiesref06_Half.tab9 : rtab .any (opsOf Try.f38 9) = dailiesref06_Half.T9 := by kernel_rfl
theorem dailiesref06_Half.bits9 : waitsOk dailiesref06_Half.T9.2 dailiesref06_Half.B9 = true := by kernel_rfl
set_option maxHeartbeats 8000000 in
set_option maxRecDepth 100000 in
theorem dailiesref06_Half.calls (k : Nat) (a0_0 : Int) (a0_1 : Int) (a0_2 : Int) (a0_3 : Bool) (a1 : Int) (a2_0 : Int) (a2_1 : Int) (a2_2 : Int) (a2_3 : Int) (r1 : Int) (r2 : Int) (r3 : Int) (r4 : Int) (r5 : Int) (w : World) (h : dailiesref06_Half.f k a0_0 a0_1 a0_2 a0_3 a1 a2_0 a2_1 a2_2 a2_3 = some (r1, r2, r3, r4, r5)) :
  Calls Try.prog 38 #[.agg #[.int .i64 a0_0, .int .i64 a0_1, .int .i64 a0_2, .bool a0_3], .int .i64 a1, .agg #[.int .i64 a2_0, .int .i64 a2_1, .int .i64 a2_2, .int .i64 a2_3]] w fun e w' => e = .returned (.tuple #[.agg #[.int .i64 r1, .int .i64 r2, .int .i64 r3, .int .i64 r4], .int .i64 r5]) ∧ Below w.heap.size w w' := by
 have hu26 := Try.underlying26
 have hu52 := Try.underlying52
 have HB := am (Below.refl w.heap.size w)
 have H : ((dailiesref06_Shaped.f k a0_0 a0_1 a0_2 a0_3).bind fun t206 => (if t206 = 0 then ((dailiesref06_there.f a0_0 a0_1 a0_2 a0_3 a1).bind fun t207 => ((dailiesref06_Whole.f a0_0 a0_1 a0_2 a0_3 a2_0 a2_1 a2_2 a2_3).bind fun t208 => (if t207 = true then (dailiesref06_Half.j0 k a1 (!t208) a2_0 a2_1 a2_2 a2_3) else (dailiesref06_Half.j0 k a1 true a2_0 a2_1 a2_2 a2_3)))) else (some (0, 0, 0, 0, t206)))) = some (r1, r2, r3, r4, r5) := h
 clear h
 replace H := Option.bind_eq_some_iff.mp H
 obtain ⟨t206, A40, H⟩ := H
 replace H : (if t206 = 0 then ((dailiesref06_there.f a0_0 a0_1 a0_2 a0_3 a1).bind fun t207 => ((dailiesref06_Whole.f a0_0 a0_1 a0_2 a0_3 a2_0 a2_1 a2_2 a2_3).bind fun t208 => (if t207 = true then (dailiesref06_Half.j0 k a1 (!t208) a2_0 a2_1 a2_2 a2_3) else (dailiesref06_Half.j0 k a1 true a2_0 a2_1 a2_2 a2_3)))) else (some (0, 0, 0, 0, t206))) = some (r1, r2, r3, r4, r5) := H
 have A4 := am A40
 clear A40
 by_cases c5 : t206 = 0
 ·rw [if_pos c5] at H
  have c5b0 : (t206 == 0) = true := beq_iff_eq.mpr c5
  have c5b1 : (t206 != 0) = false := bne_eq_false_iff_eq.mpr c5
  clear c5
  replace H := Option.bind_eq_some_iff.mp H
  obtain ⟨t207, A60, H⟩ := H
  replace H : ((dailiesref06_Whole.f a0_0 a0_1 a0_2 a0_3 a2_0 a2_1 a2_2 a2_3).bind fun t208 => (if t207 = true then (dailiesref06_Half.j0 k a1 (!t208) a2_0 a2_1 a2_2 a2_3) else (dailiesref06_Half.j0 k a1 true a2_0 a2_1 a2_2 a2_3))) = some (r1, r2, r3, r4, r5) := H
  have A6 := am A60
  clear A60
  replace H := Option.bind_eq_some_iff.mp H
  obtain ⟨t208, A70, H⟩ := H
  replace H : (if t207 = true then (dailiesref06_Half.j0 k a1 (!t208) a2_0 a2_1 a2_2 a2_3) else (dailiesref06_Half.j0 k a1 true a2_0 a2_1 a2_2 a2_3)) = some (r1, r2, r3, r4, r5) := H
  have A7 := am A70
  clear A70
  have HC8 := am H
  clear H
  go_enter Try.func38, Try.ntmps38
  go_upto_region 6 with (first | ((with_reducible refine gD (N := 3) rfl ?_); refine bE ?hg (N := 3) ?hd (cs := #[.int .i64 a0_0, .int .i64 a0_1, .int .i64 a0_2, .bool a0_3]) (t := 26) ?hr ?_; (case hd => rfl); (case hg => rfl); (case hr => first | (go_simp; done) | (go_simp; rfl)); intro gb203 hg w9 hbox hb; have n0_ := am (bT (by repeat (first | (with_reducible first | exact HB.out | apply bA | apply bN | apply bD) | exact HB.out)) hb); have n1_ := am (hbox); have n2_ := am ((by rw [hg]; exact (bU (by repeat (first | (with_reducible first | exact HB.out | apply bA | apply bN | apply bD) | exact HB.out))) : w.heap.size ≤ gb203)); have n3_ := am ((by rw [hg]; exact (bU (by repeat (first | (with_reducible first | exact HB.out | apply bA | apply bN | apply bD) | exact HB.out))) : w.heap.size ≤ gb203)); clear HB; have HB := n0_; have BK203 := n1_; have GW203 := n2_; have GE203 := n3_; clear n0_ n1_ n2_ n3_; clear hb hbox hg) | ((with_reducible refine gD (N := 5) rfl ?_); refine bE ?hg (N := 5) ?hd (cs := #[.int .i64 a2_0, .int .i64 a2_1, .int .i64 a2_2, .int .i64 a2_3]) (t := 52) ?hr ?_; (case hd => rfl); (case hg => rfl); (case hr => first | (go_simp; done) | (go_simp; rfl)); intro gb204 hg w10 hbox hb; have n0_ := am (bB (g := gb203) (o := .cells #[.int .i64 a0_0, .int .i64 a0_1, .int .i64 a0_2, .bool a0_3] 26 (0, 0)) (by (with_reducible repeat apply dX); exact BK203.out) hb); have n1_ := am (bT (by repeat (first | (with_reducible first | exact HB.out | apply bA | apply bN | apply bD | refine bS ?_ GE203.out) | exact HB.out)) hb); have n2_ := am (hbox); have n3_ := am ((by rw [hg]; exact (bU (by repeat (first | (with_reducible first | exact HB.out | apply bA | apply bN | apply bD | refine bS ?_ GE203.out) | exact HB.out))) : w.heap.size ≤ gb204)); have n4_ := am ((by rw [hg]; exact (bU (by repeat (first | (with_reducible first | exact HB.out | apply bA | apply bN | apply bD | refine bS ?_ GE203.out) | exact HB.out))) : w.heap.size ≤ gb204)); have n5_ := am ((by rw [hg]; exact nL (bL (g := gb203) (o := .cells #[.int .i64 a0_0, .int .i64 a0_1, .int .i64 a0_2, .bool a0_3] 26 (0, 0)) (by (with_reducible repeat apply dX); exact BK203.out)) : gb203 ≠ gb204)); have n6_ := am ((by rw [hg]; exact nG (bL (g := gb203) (o := .cells #[.int .i64 a0_0, .int .i64 a0_1, .int .i64 a0_2, .bool a0_3] 26 (0, 0)) (by (with_reducible repeat apply dX); exact BK203.out)) : gb204 ≠ gb203)); clear BK203; clear HB; have BK203 := n0_; have HB := n1_; have BK204 := n2_; have GW204 := n3_; have GE204 := n4_; have NB203_204 := n5_; have NB204_203 := n6_; clear n0_ n1_ n2_ n3_ n4_ n5_ n6_; clear hb hbox hg) | ((with_reducible refine gD (N := 6) rfl ?_); refine bE ?hg (N := 6) ?hd (cs := #[.int .i64 0, .int .i64 0, .int .i64 0, .int .i64 0]) (t := 52) ?hr ?_; (case hd => rfl); (case hg => rfl); (case hr => first | (go_simp; done) | (go_simp; rfl)); intro gb205 hg w11 hbox hb; have n0_ := am (bB (g := gb203) (o := .cells #[.int .i64 a0_0, .int .i64 a0_1, .int .i64 a0_2, .bool a0_3] 26 (0, 0)) (by (with_reducible repeat apply dX); exact BK203.out) hb); have n1_ := am (bB (g := gb204) (o := .cells #[.int .i64 a2_0, .int .i64 a2_1, .int .i64 a2_2, .int .i64 a2_3] 52 (0, 0)) (by (with_reducible repeat apply dX); exact BK204.out) hb); have n2_ := am (bT (by repeat (first | (with_reducible first | exact HB.out | apply bA | apply bN | apply bD | refine bS ?_ GE203.out | refine bS ?_ GE204.out) | exact HB.out)) hb); have n3_ := am (hbox); have n4_ := am ((by rw [hg]; exact (bU (by repeat (first | (with_reducible first | exact HB.out | apply bA | apply bN | apply bD | refine bS ?_ GE203.out | refine bS ?_ GE204.out) | exact HB.out))) : w.heap.size ≤ gb205)); have n5_ := am ((by rw [hg]; exact (bU (by repeat (first | (with_reducible first | exact HB.out | apply bA | apply bN | apply bD | refine bS ?_ GE203.out | refine bS ?_ GE204.out) | exact HB.out))) : w.heap.size ≤ gb205)); have n6_ := am ((by rw [hg]; exact nL (bL (g := gb203) (o := .cells #[.int .i64 a0_0, .int .i64 a0_1, .int .i64 a0_2, .bool a0_3] 26 (0, 0)) (by (with_reducible repeat apply dX); exact BK203.out)) : gb203 ≠ gb205)); have n7_ := am ((by rw [hg]; exact nG (bL (g := gb203) (o := .cells #[.int .i64 a0_0, .int .i64 a0_1, .int .i64 a0_2, .bool a0_3] 26 (0, 0)) (by (with_reducible repeat apply dX); exact BK203.out)) : gb205 ≠ gb203)); have n8_ := am ((by rw [hg]; exact nL (bL (g := gb204) (o := .cells #[.int .i64 a2_0, .int .i64 a2_1, .int .i64 a2_2, .int .i64 a2_3] 52 (0, 0)) (by (with_reducible repeat apply dX); exact BK204.out)) : gb204 ≠ gb205)); have n9_ := am ((by rw [hg]; exact nG (bL (g := gb204) (o := .cells #[.int .i64 a2_0, .int .i64 a2_1, .int .i64 a2_2, .int .i64 a2_3] 52 (0, 0)) (by (with_reducible repeat apply dX); exact BK204.out)) : gb205 ≠ gb204)); clear BK203; clear BK204; clear HB; have BK203 := n0_; have BK204 := n1_; have HB := n2_; have BK205 := n3_; have GW205 := n4_; have GE205 := n5_; have NB203_205 := n6_; have NB205_203 := n7_; have NB204_205 := n8_; have NB205_204 := n9_; clear n0_ n1_ n2_ n3_ n4_ n5_ n6_ n7_ n8_ n9_; clear hb hbox hg; have hnb12 := NB203_204.out; have hnc12 := NB204_203.out; have hnb13 := NB203_205.out; have hnc13 := NB205_203.out; have hcz14_0 : w11.cell? ⟨gb203, 0, none⟩ = some (.int .i64 a0_0) := (bC BK203.out 0).trans rfl; have hcz14_1 : w11.cell? ⟨gb203, 1, none⟩ = some (.int .i64 a0_1) := (bC BK203.out 1).trans rfl; have hcz14_2 : w11.cell? ⟨gb203, 2, none⟩ = some (.int .i64 a0_2) := (bC BK203.out 2).trans rfl; have hcz14_3 : w11.cell? ⟨gb203, 3, none⟩ = some (.bool a0_3) := (bC BK203.out 3).trans rfl; have hfz14_0 := bZ BK203.out 0; have hfz14_1 := bZ BK203.out 1; have hfz14_2 := bZ BK203.out 2; have hfz14_3 := bZ BK203.out 3) | ((with_reducible refine gate_callee (f := 22) rfl ?_); refine goesL_ (some 12) rfl rfl Try.func22 (by kernel_rfl) rfl #[.agg #[.int .i64 a0_0, .int .i64 a0_1, .int .i64 a0_2, .bool a0_3]] rfl (by (try simp only [List.map_toArray, List.map_cons, List.map_nil]); first | done | rfl | (simp only [List.length_drop, List.length_take]; rfl)) ?_; (with_reducible refine (dailiesref06_Shaped.calls k a0_0 a0_1 a0_2 a0_3 t206 _ A4.out).mono ?_); rintro e w15 ⟨rfl, hb⟩; refine ⟨_, rfl, ?_⟩; have n0_ := am (bB (g := gb203) (o := .cells #[.int .i64 a0_0, .int .i64 a0_1, .int .i64 a0_2, .bool a0_3] 26 (0, 0)) (by (with_reducible repeat apply dX); exact BK203.out) hb); have n1_ := am (bB (g := gb204) (o := .cells #[.int .i64 a2_0, .int .i64 a2_1, .int .i64 a2_2, .int .i64 a2_3] 52 (0, 0)) (by (with_reducible repeat apply dX); exact BK204.out) hb); have n2_ := am (bB (g := gb205) (o := .cells #[.int .i64 0, .int .i64 0, .int .i64 0, .int .i64 0] 52 (0, 0)) (by (with_reducible repeat apply dX); exact BK205.out) hb); have n3_ := am (bT (by repeat (first | (with_reducible first | exact HB.out | apply bA | apply bN | apply bD | refine bS ?_ GE203.out | refine bS ?_ GE204.out | refine bS ?_ GE205.out) | exact HB.out)) hb); clear BK203; clear BK204; clear BK205; clear HB; have BK203 := n0_; have BK204 := n1_; have BK205 := n2_; have HB := n3_; clear n0_ n1_ n2_ n3_; (try clear hb); (try clear hb2); (try clear hk); (try clear hi); have hcz16_0 : w15.cell? ⟨gb203, 0, none⟩ = some (.int .i64 a0_0) := (bC BK203.out 0).trans rfl; have hcz16_1 : w15.cell? ⟨gb203, 1, none⟩ = some (.int .i64 a0_1) := (bC BK203.out 1).trans rfl; have hcz16_2 : w15.cell? ⟨gb203, 2, none⟩ = some (.int .i64 a0_2) := (bC BK203.out 2).trans rfl; have hcz16_3 : w15.cell? ⟨gb203, 3, none⟩ = some (.bool a0_3) := (bC BK203.out 3).trans rfl; have hfz16_0 := bZ BK203.out 0; have hfz16_1 := bZ BK203.out 1; have hfz16_2 := bZ BK203.out 2; have hfz16_3 := bZ BK203.out 3) | ((with_reducible refine gate_callee (f := 56) rfl ?_); refine goesL_ (some 19) rfl rfl Try.func56 (by kernel_rfl) rfl #[.agg #[.int .i64 a0_0, .int .i64 a0_1, .int .i64 a0_2, .bool a0_3], .int .i64 a1] rfl (by (try simp only [List.map_toArray, List.map_cons, List.map_nil]); first | done | rfl | (simp only [List.length_drop, List.length_take]; rfl)) ?_; (with_reducible refine (dailiesref06_there.calls a0_0 a0_1 a0_2 a0_3 a1 t207 _ A6.out).mono ?_); rintro e w17 ⟨rfl, hb⟩; refine ⟨_, rfl, ?_⟩; have n0_ := am (bB (g := gb203) (o := .cells #[.int .i64 a0_0, .int .i64 a0_1, .int .i64 a0_2, .bool a0_3] 26 (0, 0)) (by (with_reducible repeat apply dX); exact BK203.out) hb); have n1_ := am (bB (g := gb204) (o := .cells #[.int .i64 a2_0, .int .i64 a2_1, .int .i64 a2_2, .int .i64 a2_3] 52 (0, 0)) (by (with_reducible repeat apply dX); exact BK204.out) hb); have n2_ := am (bB (g := gb205) (o := .cells #[.int .i64 0, .int .i64 0, .int .i64 0, .int .i64 0] 52 (0, 0)) (by (with_reducible repeat apply dX); exact BK205.out) hb); have n3_ := am (bT (by repeat (first | (with_reducible first | exact HB.out | apply bA | apply bN | apply bD | refine bS ?_ GE203.out | refine bS ?_ GE204.out | refine bS ?_ GE205.out) | exact HB.out)) hb); clear BK203; clear BK204; clear BK205; clear HB; have BK203 := n0_; have BK204 := n1_; have BK205 := n2_; have HB := n3_; clear n0_ n1_ n2_ n3_; (try clear hb); (try clear hb2); (try clear hk); (try clear hi); have hcz18_0 : w17.cell? ⟨gb203, 0, none⟩ = some (.int .i64 a0_0) := (bC BK203.out 0).trans rfl; have hcz18_1 : w17.cell? ⟨gb203, 1, none⟩ = some (.int .i64 a0_1) := (bC BK203.out 1).trans rfl; have hcz18_2 : w17.cell? ⟨gb203, 2, none⟩ = some (.int .i64 a0_2) := (bC BK203.out 2).trans rfl; have hcz18_3 : w17.cell? ⟨gb203, 3, none⟩ = some (.bool a0_3) := (bC BK203.out 3).trans rfl; have hfz18_0 := bZ BK203.out 0; have hfz18_1 := bZ BK203.out 1; have hfz18_2 := bZ BK203.out 2; have hfz18_3 := bZ BK203.out 3; have hnb19 := NB204_205.out; have hnc19 := NB205_204.out; have hcz20_0 : w17.cell? ⟨gb204, 0, none⟩ = some (.int .i64 a2_0) := (bC BK204.out 0).trans rfl; have hcz20_1 : w17.cell? ⟨gb204, 1, none⟩ = some (.int .i64 a2_1) := (bC BK204.out 1).trans rfl; have hcz20_2 : w17.cell? ⟨gb204, 2, none⟩ = some (.int .i64 a2_2) := (bC BK204.out 2).trans rfl; have hcz20_3 : w17.cell? ⟨gb204, 3, none⟩ = some (.int .i64 a2_3) := (bC BK204.out 3).trans rfl; have hfz20_0 := bZ BK204.out 0; have hfz20_1 := bZ BK204.out 1; have hfz20_2 := bZ BK204.out 2; have hfz20_3 := bZ BK204.out 3) | ((with_reducible refine gate_callee (f := 70) rfl ?_); refine goesL_ (some 22) rfl rfl Try.func70 (by kernel_rfl) rfl #[.agg #[.int .i64 a0_0, .int .i64 a0_1, .int .i64 a0_2, .bool a0_3], .agg #[.int .i64 a2_0, .int .i64 a2_1, .int .i64 a2_2, .int .i64 a2_3]] rfl (by (try simp only [List.map_toArray, List.map_cons, List.map_nil]); first | done | rfl | (simp only [List.length_drop, List.length_take]; rfl)) ?_; (with_reducible refine (dailiesref06_Whole.calls a0_0 a0_1 a0_2 a0_3 a2_0 a2_1 a2_2 a2_3 t208 _ A7.out).mono ?_); rintro e w21 ⟨rfl, hb⟩; refine ⟨_, rfl, ?_⟩; have n0_ := am (bB (g := gb203) (o := .cells #[.int .i64 a0_0, .int .i64 a0_1, .int .i64 a0_2, .bool a0_3] 26 (0, 0)) (by (with_reducible repeat apply dX); exact BK203.out) hb); have n1_ := am (bB (g := gb204) (o := .cells #[.int .i64 a2_0, .int .i64 a2_1, .int .i64 a2_2, .int .i64 a2_3] 52 (0, 0)) (by (with_reducible repeat apply dX); exact BK204.out) hb); have n2_ := am (bB (g := gb205) (o := .cells #[.int .i64 0, .int .i64 0, .int .i64 0, .int .i64 0] 52 (0, 0)) (by (with_reducible repeat apply dX); exact BK205.out) hb); have n3_ := am (bT (by repeat (first | (with_reducible first | exact HB.out | apply bA | apply bN | apply bD | refine bS ?_ GE203.out | refine bS ?_ GE204.out | refine bS ?_ GE205.out) | exact HB.out)) hb); clear BK203; clear BK204; clear BK205; clear HB; have BK203 := n0_; have BK204 := n1_; have BK205 := n2_; have HB := n3_; clear n0_ n1_ n2_ n3_; (try clear hb); (try clear hb2); (try clear hk); (try clear hi)))
  (try simp only [Act.put, List.setIfInBounds_toArray, List.set_cons_zero, List.set_cons_succ])
  go_cut [28] (fun v28 wc => ∃ (kq : Nat) (x28_7 : Bool), v28 = .bool x28_7 ∧ Aside0 (dailiesref06_Half.j0 kq a1 x28_7 a2_0 a2_1 a2_2 a2_3 = some (r1, r2, r3, r4, r5)) ∧ Aside0 (kq ≤ k) ∧ Aside0 (wc.heap[gb203]? = some (.cells #[.int .i64 a0_0, .int .i64 a0_1, .int .i64 a0_2, .bool a0_3] 26 (0, 0))) ∧ Aside0 (wc.heap[gb204]? = some (.cells #[.int .i64 a2_0, .int .i64 a2_1, .int .i64 a2_2, .int .i64 a2_3] 52 (0, 0))) ∧ Aside0 (wc.heap[gb205]? = some (.cells #[.int .i64 0, .int .i64 0, .int .i64 0, .int .i64 0] 52 (0, 0))) ∧ Aside0 (Below w.heap.size w wc))
  case first =>
   have H := HC8.out
   clear HC8
   by_cases c22 : t207 = true
   ·subst c22
    have H1 : (dailiesref06_Half.j0 k a1 (!t208) a2_0 a2_1 a2_2 a2_3) = some (r1, r2, r3, r4, r5) := by rw [if_pos rfl] at H; exact H
    clear H
    have H := H1
    clear H1
    have H' := am H
    clear H
    go_wp2
    go_meet
    case rel => exact ⟨_, (!t208), (by first | rfl | (simp; done) | (simp [*]; done)), H', ⟨by first | omega | exact Nat.le_refl _⟩, ⟨by (with_reducible repeat apply dX); exact BK203.out⟩, ⟨by (with_reducible repeat apply dX); exact BK204.out⟩, ⟨by (with_reducible repeat apply dX); exact BK205.out⟩, ⟨by repeat (first | (with_reducible first | exact HB.out | apply bA | apply bN | apply bD | refine bS ?_ GE203.out | refine bS ?_ GE204.out | refine bS ?_ GE205.out) | exact HB.out)⟩⟩
   ·replace c22 := Bool.eq_false_iff.mpr c22
    subst c22
    have H1 : (dailiesref06_Half.j0 k a1 true a2_0 a2_1 a2_2 a2_3) = some (r1, r2, r3, r4, r5) := by rw [if_neg (show ¬ (false = true) by decide)] at H; exact H
    clear H
    have H := H1
    clear H1
    have H' := am H
    clear H
    go_wp2
    go_meet
    case rel => exact ⟨_, (true), (by first | rfl | (simp; done) | (simp [*]; done)), H', ⟨by first | omega | exact Nat.le_refl _⟩, ⟨by (with_reducible repeat apply dX); exact BK203.out⟩, ⟨by (with_reducible repeat apply dX); exact BK204.out⟩, ⟨by (with_reducible repeat apply dX); exact BK205.out⟩, ⟨by repeat (first | (with_reducible first | exact HB.out | apply bA | apply bN | apply bD | refine bS ?_ GE203.out | refine bS ?_ GE204.out | refine bS ?_ GE205.out) | exact HB.out)⟩⟩
  case rest =>
   clear HC8
   try clear c1
   try clear c2
   try clear p2
   try clear c3
   try clear c5
   try clear c5b0
   try clear c5b1
   try clear c7
   try clear c12
   try clear c13
   try clear c19
   try clear c22
   try clear hcz14_0
   try clear hcz14_1
   try clear hcz14_2
   try clear hcz14_3
   try clear hcz16_0
   try clear hcz16_1
   try clear hcz16_2
   try clear hcz16_3
   try clear hcz18_0
   try clear hcz18_1
   try clear hcz18_2
   try clear hcz18_3
   try clear hcz20_0
   try clear hcz20_1
   try clear hcz20_2
   try clear hcz20_3
   try clear hfz14_0
   try clear hfz14_1
   try clear hfz14_2
   try clear hfz14_3
   try clear hfz16_0
   try clear hfz16_1
   try clear hfz16_2
   try clear hfz16_3
   try clear hfz18_0
   try clear hfz18_1
   try clear hfz18_2
   try clear hfz18_3
   try clear hfz20_0
   try clear hfz20_1
   try clear hfz20_2
   try clear hfz20_3
   obtain ⟨kq, x28_7, rfl, HA, HJ7, BK203, BK204, BK205, HB⟩ := hcut
   cases kq with
   | zero => exact absurd HA.out (by simp [dailiesref06_Half.j0])
   | succ kj7 =>
    have H := HA.out
    clear HA
    simp only [dailiesref06_Half.j0] at H
    by_cases c23 : x28_7 = true
    ·subst c23
     have H1 : (some (0, 0, 0, 0, 65)) = some (r1, r2, r3, r4, r5) := by rw [if_pos rfl] at H; exact H
     clear H
     have H := H1
     clear H1
     simp only [Option.some.injEq, Prod.mk.injEq] at H
     obtain ⟨rfl, rfl, rfl, rfl, rfl⟩ := H
     have hnb24 := NB205_203.out
     have hnc24 := NB203_205.out
     have hnb25 := NB205_204.out
     have hnc25 := NB204_205.out
     have hcz26_0 : wc.cell? ⟨gb205, 0, none⟩ = some (.int .i64 0) := (bC BK205.out 0).trans rfl
     have hcz26_1 : wc.cell? ⟨gb205, 1, none⟩ = some (.int .i64 0) := (bC BK205.out 1).trans rfl
     have hcz26_2 : wc.cell? ⟨gb205, 2, none⟩ = some (.int .i64 0) := (bC BK205.out 2).trans rfl
     have hcz26_3 : wc.cell? ⟨gb205, 3, none⟩ = some (.int .i64 0) := (bC BK205.out 3).trans rfl
     have hfz26_0 := bZ BK205.out 0
     have hfz26_1 := bZ BK205.out 1
     have hfz26_2 := bZ BK205.out 2
     have hfz26_3 := bZ BK205.out 3
     go_wp2
     refine bodyPost_ret (results_ct rfl _ _ gb205 52 #[.int .i64 0, .int .i64 0, .int .i64 0, .int .i64 0] (0, 0) _ rfl (by (with_reducible repeat apply dX); refine bP (cs := #[.int .i64 0, .int .i64 0, .int .i64 0, .int .i64 0]) ?_ 3 _ rfl; (with_reducible repeat apply dX); refine bP (cs := #[.int .i64 0, .int .i64 0, .int .i64 0, .int .i64 0]) ?_ 2 _ rfl; (with_reducible repeat apply dX); refine bP (cs := #[.int .i64 0, .int .i64 0, .int .i64 0, .int .i64 0]) ?_ 1 _ rfl; (with_reducible repeat apply dX); refine bP (cs := #[.int .i64 0, .int .i64 0, .int .i64 0, .int .i64 0]) ?_ 0 _ rfl; (with_reducible repeat apply dX); exact BK205.out) Try.underlying52 rfl (by kernel_rfl)) rfl ?_
     exact ⟨by first | rfl | (simp [errW_none, errW_some] <;> rfl) | (simp [*, errW_none, errW_some] <;> rfl), by repeat (first | (with_reducible first | exact HB.out | apply bA | apply bN | apply bD | refine bS ?_ GE203.out | refine bS ?_ GE204.out | refine bS ?_ GE205.out) | exact HB.out)⟩
    ·replace c23 := Bool.eq_false_iff.mpr c23
     subst c23
     have H1 : (if a1 = 1 then ((dailiesref06_half.f a2_2).bind fun t209 => (some (wrap64 (Int.tdiv a2_0 2), a2_1, t209, a2_3, 0))) else (if a1 = 2 then ((dailiesref06_half.f a2_2).bind fun t210 => (some (wrap64 (Int.tdiv a2_0 2), a2_1, t210, a2_3, 0))) else (some (a2_0, a2_1, a2_2, a2_3, 0)))) = some (r1, r2, r3, r4, r5) := by rw [if_neg (show ¬ (false = true) by decide)] at H; exact H
     clear H
     have H := H1
     clear H1
     by_cases c27 : a1 = 1
     ·rw [if_pos c27] at H
      have c27b0 : (a1 == 1) = true := beq_iff_eq.mpr c27
      have c27b1 : (a1 != 1) = false := bne_eq_false_iff_eq.mpr c27
      clear c27
      replace H := Option.bind_eq_some_iff.mp H
      obtain ⟨t209, A280, H⟩ := H
      replace H : (some (wrap64 (Int.tdiv a2_0 2), a2_1, t209, a2_3, 0)) = some (r1, r2, r3, r4, r5) := H
      have A28 := am A280
      clear A280
      simp only [Option.some.injEq, Prod.mk.injEq] at H
      obtain ⟨rfl, rfl, rfl, rfl, rfl⟩ := H
      try go_wp2
      have n0_ := am (blk_drew BK203.out)
      have n1_ := am (blk_drew BK204.out)
      have n2_ := am (blk_drew BK205.out)
      have n3_ := am (bD HB.out)
      clear BK203
      clear BK204
      clear BK205
      clear HB
      have BK203 := n0_
      have BK204 := n1_
      have BK205 := n2_
      have HB := n3_
      clear n0_ n1_ n2_ n3_
      refine start_ (n := 13) (S := fun w' => w'.cell? ⟨gb204, 0, none⟩ = some (.int .i64 a2_0) ∧ w'.cell? ⟨gb204, 1, none⟩ = some (.int .i64 a2_1) ∧ w'.cell? ⟨gb204, 2, none⟩ = some (.int .i64 a2_2) ∧ w'.cell? ⟨gb204, 3, none⟩ = some (.int .i64 a2_3)) (ds := []) #[false, false, false, false, false, false, false, false, false, false, false, false, false] (by kernel_rfl) rfl rfl ⟨(bC BK204.out 0).trans rfl, (bC BK204.out 1).trans rfl, (bC BK204.out 2).trans rfl, (bC BK204.out 3).trans rfl⟩ (fun hHeld => ?_); refine with_tabW dailiesref06_Half.tab9 dailiesref06_Half.bits9 (fun HT_ HW_ => ?_)
      generalize wc.drew = w29 at BK203 BK204 BK205 HB hHeld ⊢
      refine pure_ (i := 0) (N := some 36) (v := ?_) (a' := ?_) #[true, false, false, false, false, false, false, false, false, false, false, false, false] rfl rfl (any_of HT_.out (by kernel_rfl)) (fun _ _ _ h => h) (Or.inl ⟨by rfl, ?_⟩) ?_ ?_
      rotate_left
      ·intro w'
       go_simp
       with_reducible rfl
      rotate_left
      ·simp only [Act.put, List.setIfInBounds_toArray, List.set_cons_zero, List.set_cons_succ, i64_w, i32_w]
       rfl
      refine pure_ (i := 3) (N := some 39) (v := ?_) (a' := ?_) #[true, false, false, true, false, false, false, false, false, false, false, false, false] rfl rfl (any_of HT_.out (by kernel_rfl)) (fun _ _ _ h => h) (Or.inl ⟨by rfl, ?_⟩) ?_ ?_
      rotate_left
      ·intro w'
       go_simp
       with_reducible rfl
      rotate_left
      ·simp only [Act.put, List.setIfInBounds_toArray, List.set_cons_zero, List.set_cons_succ, i64_w, i32_w]
       rfl
      refine pure_ (i := 5) (N := some 41) (v := ?_) (a' := ?_) #[true, false, false, true, false, true, false, false, false, false, false, false, false] rfl rfl (any_of HT_.out (by kernel_rfl)) (fun _ _ _ h => h) (Or.inl ⟨by rfl, ?_⟩) ?_ ?_
      rotate_left
      ·intro w'
       go_simp
       with_reducible rfl
      rotate_left
      ·simp only [Act.put, List.setIfInBounds_toArray, List.set_cons_zero, List.set_cons_succ, i64_w, i32_w]
       rfl
      refine pure_ (i := 8) (N := some 44) (v := ?_) (a' := ?_) #[true, false, false, true, false, true, false, false, true, false, false, false, false] rfl rfl (any_of HT_.out (by kernel_rfl)) (fun _ _ _ h => h) (Or.inl ⟨by rfl, ?_⟩) ?_ ?_
      rotate_left
      ·intro w'
       go_simp
       with_reducible rfl
      rotate_left
      ·simp only [Act.put, List.setIfInBounds_toArray, List.set_cons_zero, List.set_cons_succ, i64_w, i32_w]
       rfl
      refine take_ (i := 1) (N := some 37) (v := ?_) (a' := ?_) #[true, true, false, true, false, true, false, false, true, false, false, false, false] rfl rfl (take_ofW HT_.out HW_.out (by kernel_rfl)) (fun _ _ _ h => h) (Or.inl ⟨by rfl, ?_⟩) hHeld ?_ ?_
      rotate_left
      ·rintro w' ⟨s0, s1, s2, s3⟩
       go_simp
       with_reducible rfl
      rotate_left
      ·simp only [Act.put, List.setIfInBounds_toArray, List.set_cons_zero, List.set_cons_succ, i64_w, i32_w]
       rfl
      refine pure_ (i := 2) (N := some 38) (v := ?_) (a' := ?_) #[true, true, true, true, false, true, false, false, true, false, false, false, false] rfl rfl (any_of HT_.out (by kernel_rfl)) (fun _ _ _ h => h) (Or.inl ⟨by rfl, ?_⟩) ?_ ?_
      rotate_left
      ·intro w'
       go_simp
       with_reducible rfl
      rotate_left
      ·simp only [Act.put, List.setIfInBounds_toArray, List.set_cons_zero, List.set_cons_succ, i64_w, i32_w]
       rfl
      refine take_ (i := 4) (N := some 40) (v := ?_) (a' := ?_) #[true, true, true, true, true, true, false, false, true, false, false, false, false] rfl rfl (take_ofW HT_.out HW_.out (by kernel_rfl)) (fun _ _ _ h => h) (Or.inl ⟨by rfl, ?_⟩) hHeld ?_ ?_
      rotate_left
      ·rintro w' ⟨s0, s1, s2, s3⟩
       go_simp
       with_reducible rfl
      rotate_left
      ·simp only [Act.put, List.setIfInBounds_toArray, List.set_cons_zero, List.set_cons_succ, i64_w, i32_w]
       rfl
      refine take_ (i := 6) (N := some 42) (v := ?_) (a' := ?_) #[true, true, true, true, true, true, true, false, true, false, false, false, false] rfl rfl (take_ofW HT_.out HW_.out (by kernel_rfl)) (fun _ _ _ h => h) (Or.inl ⟨by rfl, ?_⟩) hHeld ?_ ?_
      rotate_left
      ·rintro w' ⟨s0, s1, s2, s3⟩
       go_simp
       with_reducible rfl
      rotate_left
      ·simp only [Act.put, List.setIfInBounds_toArray, List.set_cons_zero, List.set_cons_succ, i64_w, i32_w]
       rfl
      refine take_ (i := 9) (N := some 45) (v := ?_) (a' := ?_) #[true, true, true, true, true, true, true, false, true, true, false, false, false] rfl rfl (take_ofW HT_.out HW_.out (by kernel_rfl)) (fun _ _ _ h => h) (Or.inl ⟨by rfl, ?_⟩) hHeld ?_ ?_
      rotate_left
      ·rintro w' ⟨s0, s1, s2, s3⟩
       go_simp
       with_reducible rfl
      rotate_left
      ·simp only [Act.put, List.setIfInBounds_toArray, List.set_cons_zero, List.set_cons_succ, i64_w, i32_w]
       rfl
      refine one_ (i := 7) (N := some 43) #[true, true, true, true, true, true, true, true, true, true, false, false, false] rfl rfl (one_of HT_.out (by kernel_rfl)) (by decide) (fun K hK => ?_)
      refine goes_ Try.func71 (by kernel_rfl) rfl #[.int .i64 a2_2] (by rfl) rfl rfl (by (try simp only [List.map_toArray, List.map_cons, List.map_nil]); first | done | rfl | (simp only [List.length_drop, List.length_take]; rfl)) ?_
      with_reducible refine (dailiesref06_half.calls a2_2 t209 _ A28.out).mono ?_
      rintro e w' ⟨rfl, ⟨nd, rfl⟩⟩
      refine ⟨_, rfl, ?_⟩
      refine hK.out _ _ ⟨(bC BK204.out 0).trans rfl, (bC BK204.out 1).trans rfl, (bC BK204.out 2).trans rfl, (bC BK204.out 3).trans rfl⟩ (fun hHeld => ?_)
      clear hK K
      refine norm_ (a' := ?_) ?_ ?_
      rotate_left
      ·show Act.put _ (some 43) _ = _
       simp only [Act.put, List.setIfInBounds_toArray, List.set_cons_zero, List.set_cons_succ, i64_w, i32_w]
       rfl
      refine pure_ (i := 10) (N := some 46) (v := ?_) (a' := ?_) #[true, true, true, true, true, true, true, true, true, true, true, false, false] rfl rfl (any_of HT_.out (by kernel_rfl)) (fun _ _ _ h => h) (Or.inl ⟨by rfl, ?_⟩) ?_ ?_
      rotate_left
      ·intro w'
       go_simp
       with_reducible rfl
      rotate_left
      ·simp only [Act.put, List.setIfInBounds_toArray, List.set_cons_zero, List.set_cons_succ, i64_w, i32_w]
       rfl
      refine one_ (i := 11) (N := none) #[true, true, true, true, true, true, true, true, true, true, true, true, false] rfl rfl (one_of HT_.out (by kernel_rfl)) (by decide) (fun K hK => ?_)
      have hs30 : w29.cell? ⟨gb205, 0, none⟩ = some (.int .i64 0) := (bC BK205.out 0).trans rfl
      have hfs30 := bZ BK205.out 0
      have hns30_0 := NB203_205.out
      have hns30_1 := NB204_205.out
      have hms30_0 := NB205_203.out
      have hms30_1 := NB205_204.out
      have hs31 : w29.cell? ⟨gb205, 1, none⟩ = some (.int .i64 0) := (bC BK205.out 1).trans rfl
      have hfs31 := bZ BK205.out 1
      have hns31_0 := NB203_205.out
      have hns31_1 := NB204_205.out
      have hms31_0 := NB205_203.out
      have hms31_1 := NB205_204.out
      have hs32 : w29.cell? ⟨gb205, 2, none⟩ = some (.int .i64 0) := (bC BK205.out 2).trans rfl
      have hfs32 := bZ BK205.out 2
      have hns32_0 := NB203_205.out
      have hns32_1 := NB204_205.out
      have hms32_0 := NB205_203.out
      have hms32_1 := NB205_204.out
      have hs33 : w29.cell? ⟨gb205, 3, none⟩ = some (.int .i64 0) := (bC BK205.out 3).trans rfl
      have hfs33 := bZ BK205.out 3
      have hns33_0 := NB203_205.out
      have hns33_1 := NB204_205.out
      have hms33_0 := NB205_203.out
      have hms33_1 := NB205_204.out
      refine skip_ (w1 := ?_) (by rfl) rfl ?_ ?_
      rotate_left
      ·go_simp
       rfl
      refine hK.out _ _ ⟨((cell_far (p := ⟨gb205, _, none⟩) NB204_205.out _).trans (((cell_far (p := ⟨gb205, _, none⟩) NB204_205.out _).trans (((cell_far (p := ⟨gb205, _, none⟩) NB204_205.out _).trans (((cell_far (p := ⟨gb205, _, none⟩) NB204_205.out _).trans (hHeld.1)))))))), ((cell_far (p := ⟨gb205, _, none⟩) NB204_205.out _).trans (((cell_far (p := ⟨gb205, _, none⟩) NB204_205.out _).trans (((cell_far (p := ⟨gb205, _, none⟩) NB204_205.out _).trans (((cell_far (p := ⟨gb205, _, none⟩) NB204_205.out _).trans (hHeld.2.1)))))))), ((cell_far (p := ⟨gb205, _, none⟩) NB204_205.out _).trans (((cell_far (p := ⟨gb205, _, none⟩) NB204_205.out _).trans (((cell_far (p := ⟨gb205, _, none⟩) NB204_205.out _).trans (((cell_far (p := ⟨gb205, _, none⟩) NB204_205.out _).trans (hHeld.2.2.1)))))))), ((cell_far (p := ⟨gb205, _, none⟩) NB204_205.out _).trans (((cell_far (p := ⟨gb205, _, none⟩) NB204_205.out _).trans (((cell_far (p := ⟨gb205, _, none⟩) NB204_205.out _).trans (((cell_far (p := ⟨gb205, _, none⟩) NB204_205.out _).trans (hHeld.2.2.2))))))))⟩ (fun hHeld => ?_)
      clear hK K
      refine pure_ (i := 12) (N := some 7) (v := ?_) (a' := ?_) #[true, true, true, true, true, true, true, true, true, true, true, true, true] rfl rfl (any_of HT_.out (by kernel_rfl)) (fun _ _ _ h => h) (Or.inl ⟨by rfl, ?_⟩) ?_ ?_
      rotate_left
      ·intro w'
       go_simp
       with_reducible rfl
      rotate_left
      ·simp only [Act.put, List.setIfInBounds_toArray, List.set_cons_zero, List.set_cons_succ, i64_w, i32_w]
       rfl
      refine done_ (done_of HT_.out (by kernel_rfl)) ?_
      try go_wp2
      refine bodyPost_ret (results_ct rfl _ _ gb205 52 #[.int .i64 (wrap64 (Int.tdiv a2_0 2)), .int .i64 a2_1, .int .i64 t209, .int .i64 a2_3] (0, 0) _ rfl (by (with_reducible repeat apply dX); refine bP (cs := #[.int .i64 (wrap64 (Int.tdiv a2_0 2)), .int .i64 a2_1, .int .i64 t209, .int .i64 0]) ?_ 3 _ rfl; (with_reducible repeat apply dX); refine bP (cs := #[.int .i64 (wrap64 (Int.tdiv a2_0 2)), .int .i64 a2_1, .int .i64 0, .int .i64 0]) ?_ 2 _ rfl; (with_reducible repeat apply dX); refine bP (cs := #[.int .i64 (wrap64 (Int.tdiv a2_0 2)), .int .i64 0, .int .i64 0, .int .i64 0]) ?_ 1 _ rfl; (with_reducible repeat apply dX); refine bP (cs := #[.int .i64 0, .int .i64 0, .int .i64 0, .int .i64 0]) ?_ 0 _ rfl; (with_reducible repeat apply dX); exact BK205.out) Try.underlying52 rfl (by kernel_rfl)) rfl ?_
      exact ⟨by first | rfl | (simp [errW_none, errW_some] <;> rfl) | (simp [*, errW_none, errW_some] <;> rfl), by repeat (first | (with_reducible first | exact HB.out | apply bA | apply bN | apply bD | refine bS ?_ GE203.out | refine bS ?_ GE204.out | refine bS ?_ GE205.out) | exact HB.out)⟩
     ·rw [if_neg c27] at H
      have c27b0 : (a1 == 1) = false := beq_eq_false_iff_ne.mpr c27
      have c27b1 : (a1 != 1) = true := bne_iff_ne.mpr c27
      by_cases c34 : a1 = 2
      ·rw [if_pos c34] at H
       have c34b0 : (a1 == 2) = true := beq_iff_eq.mpr c34
       have c34b1 : (a1 != 2) = false := bne_eq_false_iff_eq.mpr c34
       clear c34
       replace H := Option.bind_eq_some_iff.mp H
       obtain ⟨t210, A350, H⟩ := H
       replace H : (some (wrap64 (Int.tdiv a2_0 2), a2_1, t210, a2_3, 0)) = some (r1, r2, r3, r4, r5) := H
       have A35 := am A350
       clear A350
       simp only [Option.some.injEq, Prod.mk.injEq] at H
       obtain ⟨rfl, rfl, rfl, rfl, rfl⟩ := H
       try go_wp2
       have n0_ := am (blk_drew BK203.out)
       have n1_ := am (blk_drew BK204.out)
       have n2_ := am (blk_drew BK205.out)
       have n3_ := am (bD HB.out)
       clear BK203
       clear BK204
       clear BK205
       clear HB
       have BK203 := n0_
       have BK204 := n1_
       have BK205 := n2_
       have HB := n3_
       clear n0_ n1_ n2_ n3_
       refine start_ (n := 13) (S := fun w' => w'.cell? ⟨gb204, 0, none⟩ = some (.int .i64 a2_0) ∧ w'.cell? ⟨gb204, 1, none⟩ = some (.int .i64 a2_1) ∧ w'.cell? ⟨gb204, 2, none⟩ = some (.int .i64 a2_2) ∧ w'.cell? ⟨gb204, 3, none⟩ = some (.int .i64 a2_3)) (ds := []) #[false, false, false, false, false, false, false, false, false, false, false, false, false] (by kernel_rfl) rfl rfl ⟨(bC BK204.out 0).trans rfl, (bC BK204.out 1).trans rfl, (bC BK204.out 2).trans rfl, (bC BK204.out 3).trans rfl⟩ (fun hHeld => ?_); refine with_tabW dailiesref06_Half.tab9 dailiesref06_Half.bits9 (fun HT_ HW_ => ?_)
       generalize wc.drew = w36 at BK203 BK204 BK205 HB hHeld ⊢
       refine pure_ (i := 0) (N := some 36) (v := ?_) (a' := ?_) #[true, false, false, false, false, false, false, false, false, false, false, false, false] rfl rfl (any_of HT_.out (by kernel_rfl)) (fun _ _ _ h => h) (Or.inl ⟨by rfl, ?_⟩) ?_ ?_
       rotate_left
       ·intro w'
        go_simp
        with_reducible rfl
       rotate_left
       ·simp only [Act.put, List.setIfInBounds_toArray, List.set_cons_zero, List.set_cons_succ, i64_w, i32_w]
        rfl
       refine pure_ (i := 3) (N := some 39) (v := ?_) (a' := ?_) #[true, false, false, true, false, false, false, false, false, false, false, false, false] rfl rfl (any_of HT_.out (by kernel_rfl)) (fun _ _ _ h => h) (Or.inl ⟨by rfl, ?_⟩) ?_ ?_
       rotate_left
       ·intro w'
        go_simp
        with_reducible rfl
       rotate_left
       ·simp only [Act.put, List.setIfInBounds_toArray, List.set_cons_zero, List.set_cons_succ, i64_w, i32_w]
        rfl
       refine pure_ (i := 5) (N := some 41) (v := ?_) (a' := ?_) #[true, false, false, true, false, true, false, false, false, false, false, false, false] rfl rfl (any_of HT_.out (by kernel_rfl)) (fun _ _ _ h => h) (Or.inl ⟨by rfl, ?_⟩) ?_ ?_
       rotate_left
       ·intro w'
        go_simp
        with_reducible rfl
       rotate_left
       ·simp only [Act.put, List.setIfInBounds_toArray, List.set_cons_zero, List.set_cons_succ, i64_w, i32_w]
        rfl
       refine pure_ (i := 8) (N := some 44) (v := ?_) (a' := ?_) #[true, false, false, true, false, true, false, false, true, false, false, false, false] rfl rfl (any_of HT_.out (by kernel_rfl)) (fun _ _ _ h => h) (Or.inl ⟨by rfl, ?_⟩) ?_ ?_
       rotate_left
       ·intro w'
        go_simp
        with_reducible rfl
       rotate_left
       ·simp only [Act.put, List.setIfInBounds_toArray, List.set_cons_zero, List.set_cons_succ, i64_w, i32_w]
        rfl
       refine take_ (i := 1) (N := some 37) (v := ?_) (a' := ?_) #[true, true, false, true, false, true, false, false, true, false, false, false, false] rfl rfl (take_ofW HT_.out HW_.out (by kernel_rfl)) (fun _ _ _ h => h) (Or.inl ⟨by rfl, ?_⟩) hHeld ?_ ?_
       rotate_left
       ·rintro w' ⟨s0, s1, s2, s3⟩
        go_simp
        with_reducible rfl
       rotate_left
       ·simp only [Act.put, List.setIfInBounds_toArray, List.set_cons_zero, List.set_cons_succ, i64_w, i32_w]
        rfl
       refine pure_ (i := 2) (N := some 38) (v := ?_) (a' := ?_) #[true, true, true, true, false, true, false, false, true, false, false, false, false] rfl rfl (any_of HT_.out (by kernel_rfl)) (fun _ _ _ h => h) (Or.inl ⟨by rfl, ?_⟩) ?_ ?_
       rotate_left
       ·intro w'
        go_simp
        with_reducible rfl
       rotate_left
       ·simp only [Act.put, List.setIfInBounds_toArray, List.set_cons_zero, List.set_cons_succ, i64_w, i32_w]
        rfl
       refine take_ (i := 4) (N := some 40) (v := ?_) (a' := ?_) #[true, true, true, true, true, true, false, false, true, false, false, false, false] rfl rfl (take_ofW HT_.out HW_.out (by kernel_rfl)) (fun _ _ _ h => h) (Or.inl ⟨by rfl, ?_⟩) hHeld ?_ ?_
       rotate_left
       ·rintro w' ⟨s0, s1, s2, s3⟩
        go_simp
        with_reducible rfl
       rotate_left
       ·simp only [Act.put, List.setIfInBounds_toArray, List.set_cons_zero, List.set_cons_succ, i64_w, i32_w]
        rfl
       refine take_ (i := 6) (N := some 42) (v := ?_) (a' := ?_) #[true, true, true, true, true, true, true, false, true, false, false, false, false] rfl rfl (take_ofW HT_.out HW_.out (by kernel_rfl)) (fun _ _ _ h => h) (Or.inl ⟨by rfl, ?_⟩) hHeld ?_ ?_
       rotate_left
       ·rintro w' ⟨s0, s1, s2, s3⟩
        go_simp
        with_reducible rfl
       rotate_left
       ·simp only [Act.put, List.setIfInBounds_toArray, List.set_cons_zero, List.set_cons_succ, i64_w, i32_w]
        rfl
       refine take_ (i := 9) (N := some 45) (v := ?_) (a' := ?_) #[true, true, true, true, true, true, true, false, true, true, false, false, false] rfl rfl (take_ofW HT_.out HW_.out (by kernel_rfl)) (fun _ _ _ h => h) (Or.inl ⟨by rfl, ?_⟩) hHeld ?_ ?_
       rotate_left
       ·rintro w' ⟨s0, s1, s2, s3⟩
        go_simp
        with_reducible rfl
       rotate_left
       ·simp only [Act.put, List.setIfInBounds_toArray, List.set_cons_zero, List.set_cons_succ, i64_w, i32_w]
        rfl
       refine one_ (i := 7) (N := some 43) #[true, true, true, true, true, true, true, true, true, true, false, false, false] rfl rfl (one_of HT_.out (by kernel_rfl)) (by decide) (fun K hK => ?_)
       refine goes_ Try.func71 (by kernel_rfl) rfl #[.int .i64 a2_2] (by rfl) rfl rfl (by (try simp only [List.map_toArray, List.map_cons, List.map_nil]); first | done | rfl | (simp only [List.length_drop, List.length_take]; rfl)) ?_
       with_reducible refine (dailiesref06_half.calls a2_2 t210 _ A35.out).mono ?_
       rintro e w' ⟨rfl, ⟨nd, rfl⟩⟩
       refine ⟨_, rfl, ?_⟩
       refine hK.out _ _ ⟨(bC BK204.out 0).trans rfl, (bC BK204.out 1).trans rfl, (bC BK204.out 2).trans rfl, (bC BK204.out 3).trans rfl⟩ (fun hHeld => ?_)
       clear hK K
       refine norm_ (a' := ?_) ?_ ?_
       rotate_left
       ·show Act.put _ (some 43) _ = _
        simp only [Act.put, List.setIfInBounds_toArray, List.set_cons_zero, List.set_cons_succ, i64_w, i32_w]
        rfl
       refine pure_ (i := 10) (N := some 46) (v := ?_) (a' := ?_) #[true, true, true, true, true, true, true, true, true, true, true, false, false] rfl rfl (any_of HT_.out (by kernel_rfl)) (fun _ _ _ h => h) (Or.inl ⟨by rfl, ?_⟩) ?_ ?_
       rotate_left
       ·intro w'
        go_simp
        with_reducible rfl
       rotate_left
       ·simp only [Act.put, List.setIfInBounds_toArray, List.set_cons_zero, List.set_cons_succ, i64_w, i32_w]
        rfl
       refine one_ (i := 11) (N := none) #[true, true, true, true, true, true, true, true, true, true, true, true, false] rfl rfl (one_of HT_.out (by kernel_rfl)) (by decide) (fun K hK => ?_)
       have hs37 : w36.cell? ⟨gb205, 0, none⟩ = some (.int .i64 0) := (bC BK205.out 0).trans rfl
       have hfs37 := bZ BK205.out 0
       have hns37_0 := NB203_205.out
       have hns37_1 := NB204_205.out
       have hms37_0 := NB205_203.out
       have hms37_1 := NB205_204.out
       have hs38 : w36.cell? ⟨gb205, 1, none⟩ = some (.int .i64 0) := (bC BK205.out 1).trans rfl
       have hfs38 := bZ BK205.out 1
       have hns38_0 := NB203_205.out
       have hns38_1 := NB204_205.out
       have hms38_0 := NB205_203.out
       have hms38_1 := NB205_204.out
       have hs39 : w36.cell? ⟨gb205, 2, none⟩ = some (.int .i64 0) := (bC BK205.out 2).trans rfl
       have hfs39 := bZ BK205.out 2
       have hns39_0 := NB203_205.out
       have hns39_1 := NB204_205.out
       have hms39_0 := NB205_203.out
       have hms39_1 := NB205_204.out
       have hs40 : w36.cell? ⟨gb205, 3, none⟩ = some (.int .i64 0) := (bC BK205.out 3).trans rfl
       have hfs40 := bZ BK205.out 3
       have hns40_0 := NB203_205.out
       have hns40_1 := NB204_205.out
       have hms40_0 := NB205_203.out
       have hms40_1 := NB205_204.out
       refine skip_ (w1 := ?_) (by rfl) rfl ?_ ?_
       rotate_left
       ·go_simp
        rfl
       refine hK.out _ _ ⟨((cell_far (p := ⟨gb205, _, none⟩) NB204_205.out _).trans (((cell_far (p := ⟨gb205, _, none⟩) NB204_205.out _).trans (((cell_far (p := ⟨gb205, _, none⟩) NB204_205.out _).trans (((cell_far (p := ⟨gb205, _, none⟩) NB204_205.out _).trans (hHeld.1)))))))), ((cell_far (p := ⟨gb205, _, none⟩) NB204_205.out _).trans (((cell_far (p := ⟨gb205, _, none⟩) NB204_205.out _).trans (((cell_far (p := ⟨gb205, _, none⟩) NB204_205.out _).trans (((cell_far (p := ⟨gb205, _, none⟩) NB204_205.out _).trans (hHeld.2.1)))))))), ((cell_far (p := ⟨gb205, _, none⟩) NB204_205.out _).trans (((cell_far (p := ⟨gb205, _, none⟩) NB204_205.out _).trans (((cell_far (p := ⟨gb205, _, none⟩) NB204_205.out _).trans (((cell_far (p := ⟨gb205, _, none⟩) NB204_205.out _).trans (hHeld.2.2.1)))))))), ((cell_far (p := ⟨gb205, _, none⟩) NB204_205.out _).trans (((cell_far (p := ⟨gb205, _, none⟩) NB204_205.out _).trans (((cell_far (p := ⟨gb205, _, none⟩) NB204_205.out _).trans (((cell_far (p := ⟨gb205, _, none⟩) NB204_205.out _).trans (hHeld.2.2.2))))))))⟩ (fun hHeld => ?_)
       clear hK K
       refine pure_ (i := 12) (N := some 7) (v := ?_) (a' := ?_) #[true, true, true, true, true, true, true, true, true, true, true, true, true] rfl rfl (any_of HT_.out (by kernel_rfl)) (fun _ _ _ h => h) (Or.inl ⟨by rfl, ?_⟩) ?_ ?_
       rotate_left
       ·intro w'
        go_simp
        with_reducible rfl
       rotate_left
       ·simp only [Act.put, List.setIfInBounds_toArray, List.set_cons_zero, List.set_cons_succ, i64_w, i32_w]
        rfl
       refine done_ (done_of HT_.out (by kernel_rfl)) ?_
       try go_wp2
       refine bodyPost_ret (results_ct rfl _ _ gb205 52 #[.int .i64 (wrap64 (Int.tdiv a2_0 2)), .int .i64 a2_1, .int .i64 t210, .int .i64 a2_3] (0, 0) _ rfl (by (with_reducible repeat apply dX); refine bP (cs := #[.int .i64 (wrap64 (Int.tdiv a2_0 2)), .int .i64 a2_1, .int .i64 t210, .int .i64 0]) ?_ 3 _ rfl; (with_reducible repeat apply dX); refine bP (cs := #[.int .i64 (wrap64 (Int.tdiv a2_0 2)), .int .i64 a2_1, .int .i64 0, .int .i64 0]) ?_ 2 _ rfl; (with_reducible repeat apply dX); refine bP (cs := #[.int .i64 (wrap64 (Int.tdiv a2_0 2)), .int .i64 0, .int .i64 0, .int .i64 0]) ?_ 1 _ rfl; (with_reducible repeat apply dX); refine bP (cs := #[.int .i64 0, .int .i64 0, .int .i64 0, .int .i64 0]) ?_ 0 _ rfl; (with_reducible repeat apply dX); exact BK205.out) Try.underlying52 rfl (by kernel_rfl)) rfl ?_
       exact ⟨by first | rfl | (simp [errW_none, errW_some] <;> rfl) | (simp [*, errW_none, errW_some] <;> rfl), by repeat (first | (with_reducible first | exact HB.out | apply bA | apply bN | apply bD | refine bS ?_ GE203.out | refine bS ?_ GE204.out | refine bS ?_ GE205.out) | exact HB.out)⟩
      ·rw [if_neg c34] at H
       have c34b0 : (a1 == 2) = false := beq_eq_false_iff_ne.mpr c34
       have c34b1 : (a1 != 2) = true := bne_iff_ne.mpr c34
       simp only [Option.some.injEq, Prod.mk.injEq] at H
       obtain ⟨rfl, rfl, rfl, rfl, rfl⟩ := H
       have hnb41 := NB204_203.out
       have hnc41 := NB203_204.out
       have hnb42 := NB204_205.out
       have hnc42 := NB205_204.out
       have hcz43_0 : wc.cell? ⟨gb204, 0, none⟩ = some (.int .i64 a2_0) := (bC BK204.out 0).trans rfl
       have hcz43_1 : wc.cell? ⟨gb204, 1, none⟩ = some (.int .i64 a2_1) := (bC BK204.out 1).trans rfl
       have hcz43_2 : wc.cell? ⟨gb204, 2, none⟩ = some (.int .i64 a2_2) := (bC BK204.out 2).trans rfl
       have hcz43_3 : wc.cell? ⟨gb204, 3, none⟩ = some (.int .i64 a2_3) := (bC BK204.out 3).trans rfl
       have hfz43_0 := bZ BK204.out 0
       have hfz43_1 := bZ BK204.out 1
       have hfz43_2 := bZ BK204.out 2
       have hfz43_3 := bZ BK204.out 3
       have hnb44 := NB205_203.out
       have hnc44 := NB203_205.out
       have hcz45_0 : wc.cell? ⟨gb205, 0, none⟩ = some (.int .i64 0) := (bC BK205.out 0).trans rfl
       have hcz45_1 : wc.cell? ⟨gb205, 1, none⟩ = some (.int .i64 0) := (bC BK205.out 1).trans rfl
       have hcz45_2 : wc.cell? ⟨gb205, 2, none⟩ = some (.int .i64 0) := (bC BK205.out 2).trans rfl
       have hcz45_3 : wc.cell? ⟨gb205, 3, none⟩ = some (.int .i64 0) := (bC BK205.out 3).trans rfl
       have hfz45_0 := bZ BK205.out 0
       have hfz45_1 := bZ BK205.out 1
       have hfz45_2 := bZ BK205.out 2
       have hfz45_3 := bZ BK205.out 3
       go_wp2
       refine bodyPost_ret (results_ct rfl _ _ gb205 52 #[.int .i64 a2_0, .int .i64 a2_1, .int .i64 a2_2, .int .i64 a2_3] (0, 0) _ rfl (by (with_reducible repeat apply dX); refine bP (cs := #[.int .i64 a2_0, .int .i64 a2_1, .int .i64 a2_2, .int .i64 0]) ?_ 3 _ rfl; (with_reducible repeat apply dX); refine bP (cs := #[.int .i64 a2_0, .int .i64 a2_1, .int .i64 0, .int .i64 0]) ?_ 2 _ rfl; (with_reducible repeat apply dX); refine bP (cs := #[.int .i64 a2_0, .int .i64 0, .int .i64 0, .int .i64 0]) ?_ 1 _ rfl; (with_reducible repeat apply dX); refine bP (cs := #[.int .i64 0, .int .i64 0, .int .i64 0, .int .i64 0]) ?_ 0 _ rfl; (with_reducible repeat apply dX); exact BK205.out) Try.underlying52 rfl (by kernel_rfl)) rfl ?_
       exact ⟨by first | rfl | (simp [errW_none, errW_some] <;> rfl) | (simp [*, errW_none, errW_some] <;> rfl), by repeat (first | (with_reducible first | exact HB.out | apply bA | apply bN | apply bD | refine bS ?_ GE203.out | refine bS ?_ GE204.out | refine bS ?_ GE205.out) | exact HB.out)⟩
 ·rw [if_neg c5] at H
  have c5b0 : (t206 == 0) = false := beq_eq_false_iff_ne.mpr c5
  have c5b1 : (t206 != 0) = true := bne_iff_ne.mpr c5
  simp only [Option.some.injEq, Prod.mk.injEq] at H
  obtain ⟨rfl, rfl, rfl, rfl, rfl⟩ := H
  go_enter Try.func38, Try.ntmps38
  go_wp2_with (first | ((with_reducible refine gD (N := 3) rfl ?_); refine bE ?hg (N := 3) ?hd (cs := #[.int .i64 a0_0, .int .i64 a0_1, .int .i64 a0_2, .bool a0_3]) (t := 26) ?hr ?_; (case hd => rfl); (case hg => rfl); (case hr => first | (go_simp; done) | (go_simp; rfl)); intro gb203 hg w46 hbox hb; have n0_ := am (bT (by repeat (first | (with_reducible first | exact HB.out | apply bA | apply bN | apply bD) | exact HB.out)) hb); have n1_ := am (hbox); have n2_ := am ((by rw [hg]; exact (bU (by repeat (first | (with_reducible first | exact HB.out | apply bA | apply bN | apply bD) | exact HB.out))) : w.heap.size ≤ gb203)); have n3_ := am ((by rw [hg]; exact (bU (by repeat (first | (with_reducible first | exact HB.out | apply bA | apply bN | apply bD) | exact HB.out))) : w.heap.size ≤ gb203)); clear HB; have HB := n0_; have BK203 := n1_; have GW203 := n2_; have GE203 := n3_; clear n0_ n1_ n2_ n3_; clear hb hbox hg) | ((with_reducible refine gD (N := 5) rfl ?_); refine bE ?hg (N := 5) ?hd (cs := #[.int .i64 a2_0, .int .i64 a2_1, .int .i64 a2_2, .int .i64 a2_3]) (t := 52) ?hr ?_; (case hd => rfl); (case hg => rfl); (case hr => first | (go_simp; done) | (go_simp; rfl)); intro gb204 hg w47 hbox hb; have n0_ := am (bB (g := gb203) (o := .cells #[.int .i64 a0_0, .int .i64 a0_1, .int .i64 a0_2, .bool a0_3] 26 (0, 0)) (by (with_reducible repeat apply dX); exact BK203.out) hb); have n1_ := am (bT (by repeat (first | (with_reducible first | exact HB.out | apply bA | apply bN | apply bD | refine bS ?_ GE203.out) | exact HB.out)) hb); have n2_ := am (hbox); have n3_ := am ((by rw [hg]; exact (bU (by repeat (first | (with_reducible first | exact HB.out | apply bA | apply bN | apply bD | refine bS ?_ GE203.out) | exact HB.out))) : w.heap.size ≤ gb204)); have n4_ := am ((by rw [hg]; exact (bU (by repeat (first | (with_reducible first | exact HB.out | apply bA | apply bN | apply bD | refine bS ?_ GE203.out) | exact HB.out))) : w.heap.size ≤ gb204)); have n5_ := am ((by rw [hg]; exact nL (bL (g := gb203) (o := .cells #[.int .i64 a0_0, .int .i64 a0_1, .int .i64 a0_2, .bool a0_3] 26 (0, 0)) (by (with_reducible repeat apply dX); exact BK203.out)) : gb203 ≠ gb204)); have n6_ := am ((by rw [hg]; exact nG (bL (g := gb203) (o := .cells #[.int .i64 a0_0, .int .i64 a0_1, .int .i64 a0_2, .bool a0_3] 26 (0, 0)) (by (with_reducible repeat apply dX); exact BK203.out)) : gb204 ≠ gb203)); clear BK203; clear HB; have BK203 := n0_; have HB := n1_; have BK204 := n2_; have GW204 := n3_; have GE204 := n4_; have NB203_204 := n5_; have NB204_203 := n6_; clear n0_ n1_ n2_ n3_ n4_ n5_ n6_; clear hb hbox hg) | ((with_reducible refine gD (N := 6) rfl ?_); refine bE ?hg (N := 6) ?hd (cs := #[.int .i64 0, .int .i64 0, .int .i64 0, .int .i64 0]) (t := 52) ?hr ?_; (case hd => rfl); (case hg => rfl); (case hr => first | (go_simp; done) | (go_simp; rfl)); intro gb205 hg w48 hbox hb; have n0_ := am (bB (g := gb203) (o := .cells #[.int .i64 a0_0, .int .i64 a0_1, .int .i64 a0_2, .bool a0_3] 26 (0, 0)) (by (with_reducible repeat apply dX); exact BK203.out) hb); have n1_ := am (bB (g := gb204) (o := .cells #[.int .i64 a2_0, .int .i64 a2_1, .int .i64 a2_2, .int .i64 a2_3] 52 (0, 0)) (by (with_reducible repeat apply dX); exact BK204.out) hb); have n2_ := am (bT (by repeat (first | (with_reducible first | exact HB.out | apply bA | apply bN | apply bD | refine bS ?_ GE203.out | refine bS ?_ GE204.out) | exact HB.out)) hb); have n3_ := am (hbox); have n4_ := am ((by rw [hg]; exact (bU (by repeat (first | (with_reducible first | exact HB.out | apply bA | apply bN | apply bD | refine bS ?_ GE203.out | refine bS ?_ GE204.out) | exact HB.out))) : w.heap.size ≤ gb205)); have n5_ := am ((by rw [hg]; exact (bU (by repeat (first | (with_reducible first | exact HB.out | apply bA | apply bN | apply bD | refine bS ?_ GE203.out | refine bS ?_ GE204.out) | exact HB.out))) : w.heap.size ≤ gb205)); have n6_ := am ((by rw [hg]; exact nL (bL (g := gb203) (o := .cells #[.int .i64 a0_0, .int .i64 a0_1, .int .i64 a0_2, .bool a0_3] 26 (0, 0)) (by (with_reducible repeat apply dX); exact BK203.out)) : gb203 ≠ gb205)); have n7_ := am ((by rw [hg]; exact nG (bL (g := gb203) (o := .cells #[.int .i64 a0_0, .int .i64 a0_1, .int .i64 a0_2, .bool a0_3] 26 (0, 0)) (by (with_reducible repeat apply dX); exact BK203.out)) : gb205 ≠ gb203)); have n8_ := am ((by rw [hg]; exact nL (bL (g := gb204) (o := .cells #[.int .i64 a2_0, .int .i64 a2_1, .int .i64 a2_2, .int .i64 a2_3] 52 (0, 0)) (by (with_reducible repeat apply dX); exact BK204.out)) : gb204 ≠ gb205)); have n9_ := am ((by rw [hg]; exact nG (bL (g := gb204) (o := .cells #[.int .i64 a2_0, .int .i64 a2_1, .int .i64 a2_2, .int .i64 a2_3] 52 (0, 0)) (by (with_reducible repeat apply dX); exact BK204.out)) : gb205 ≠ gb204)); clear BK203; clear BK204; clear HB; have BK203 := n0_; have BK204 := n1_; have HB := n2_; have BK205 := n3_; have GW205 := n4_; have GE205 := n5_; have NB203_205 := n6_; have NB205_203 := n7_; have NB204_205 := n8_; have NB205_204 := n9_; clear n0_ n1_ n2_ n3_ n4_ n5_ n6_ n7_ n8_ n9_; clear hb hbox hg; have hnb49 := NB203_204.out; have hnc49 := NB204_203.out; have hnb50 := NB203_205.out; have hnc50 := NB205_203.out; have hcz51_0 : w48.cell? ⟨gb203, 0, none⟩ = some (.int .i64 a0_0) := (bC BK203.out 0).trans rfl; have hcz51_1 : w48.cell? ⟨gb203, 1, none⟩ = some (.int .i64 a0_1) := (bC BK203.out 1).trans rfl; have hcz51_2 : w48.cell? ⟨gb203, 2, none⟩ = some (.int .i64 a0_2) := (bC BK203.out 2).trans rfl; have hcz51_3 : w48.cell? ⟨gb203, 3, none⟩ = some (.bool a0_3) := (bC BK203.out 3).trans rfl; have hfz51_0 := bZ BK203.out 0; have hfz51_1 := bZ BK203.out 1; have hfz51_2 := bZ BK203.out 2; have hfz51_3 := bZ BK203.out 3) | ((with_reducible refine gate_callee (f := 22) rfl ?_); refine goesL_ (some 12) rfl rfl Try.func22 (by kernel_rfl) rfl #[.agg #[.int .i64 a0_0, .int .i64 a0_1, .int .i64 a0_2, .bool a0_3]] rfl (by (try simp only [List.map_toArray, List.map_cons, List.map_nil]); first | done | rfl | (simp only [List.length_drop, List.length_take]; rfl)) ?_; (with_reducible refine (dailiesref06_Shaped.calls k a0_0 a0_1 a0_2 a0_3 t206 _ A4.out).mono ?_); rintro e w52 ⟨rfl, hb⟩; refine ⟨_, rfl, ?_⟩; have n0_ := am (bB (g := gb203) (o := .cells #[.int .i64 a0_0, .int .i64 a0_1, .int .i64 a0_2, .bool a0_3] 26 (0, 0)) (by (with_reducible repeat apply dX); exact BK203.out) hb); have n1_ := am (bB (g := gb204) (o := .cells #[.int .i64 a2_0, .int .i64 a2_1, .int .i64 a2_2, .int .i64 a2_3] 52 (0, 0)) (by (with_reducible repeat apply dX); exact BK204.out) hb); have n2_ := am (bB (g := gb205) (o := .cells #[.int .i64 0, .int .i64 0, .int .i64 0, .int .i64 0] 52 (0, 0)) (by (with_reducible repeat apply dX); exact BK205.out) hb); have n3_ := am (bT (by repeat (first | (with_reducible first | exact HB.out | apply bA | apply bN | apply bD | refine bS ?_ GE203.out | refine bS ?_ GE204.out | refine bS ?_ GE205.out) | exact HB.out)) hb); clear BK203; clear BK204; clear BK205; clear HB; have BK203 := n0_; have BK204 := n1_; have BK205 := n2_; have HB := n3_; clear n0_ n1_ n2_ n3_; (try clear hb); (try clear hb2); (try clear hk); (try clear hi); have hnb53 := NB205_204.out; have hnc53 := NB204_205.out; have hcz54_0 : w52.cell? ⟨gb205, 0, none⟩ = some (.int .i64 0) := (bC BK205.out 0).trans rfl; have hcz54_1 : w52.cell? ⟨gb205, 1, none⟩ = some (.int .i64 0) := (bC BK205.out 1).trans rfl; have hcz54_2 : w52.cell? ⟨gb205, 2, none⟩ = some (.int .i64 0) := (bC BK205.out 2).trans rfl; have hcz54_3 : w52.cell? ⟨gb205, 3, none⟩ = some (.int .i64 0) := (bC BK205.out 3).trans rfl; have hfz54_0 := bZ BK205.out 0; have hfz54_1 := bZ BK205.out 1; have hfz54_2 := bZ BK205.out 2; have hfz54_3 := bZ BK205.out 3))
  refine bodyPost_ret (results_ct rfl _ _ gb205 52 #[.int .i64 0, .int .i64 0, .int .i64 0, .int .i64 0] (0, 0) _ rfl (by (with_reducible repeat apply dX); refine bP (cs := #[.int .i64 0, .int .i64 0, .int .i64 0, .int .i64 0]) ?_ 3 _ rfl; (with_reducible repeat apply dX); refine bP (cs := #[.int .i64 0, .int .i64 0, .int .i64 0, .int .i64 0]) ?_ 2 _ rfl; (with_reducible repeat apply dX); refine bP (cs := #[.int .i64 0, .int .i64 0, .int .i64 0, .int .i64 0]) ?_ 1 _ rfl; (with_reducible repeat apply dX); refine bP (cs := #[.int .i64 0, .int .i64 0, .int .i64 0, .int .i64 0]) ?_ 0 _ rfl; (with_reducible repeat apply dX); exact BK205.out) Try.underlying52 rfl (by kernel_rfl)) rfl ?_
  exact ⟨by first | rfl | (simp [errW_none, errW_some] <;> rfl) | (simp [*, errW_none, errW_some] <;> rfl), by repeat (first | (with_reducible first | exact HB.out | apply bA | apply bN | apply bD | refine bS ?_ GE203.out | refine bS ?_ GE204.out | refine bS ?_ GE205.out) | exact HB.out)⟩

end Go.Proofs.Ytdoikehkibefpaa.PPb
