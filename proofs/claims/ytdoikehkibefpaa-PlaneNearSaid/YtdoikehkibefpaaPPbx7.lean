-- Laid by a program of this session (wip/tools/prx.py), over the kit's printer of walks; Lean checks it.
import Derived.Test.YtdoikehkibefpaaPPbx0
namespace Go.Proofs.Ytdoikehkibefpaa.PPb
open Go.RowKit Go.Proofs.YtdoikehkibefpaaW.PrintWords Go.Proofs.YtdoikehkibefpaaW.PrintLast Go.Proofs.YtdoikehkibefpaaW.PrintMore
open Go.Proofs.YtdoikehkibefpaaW.PrintWords renaming blk_far → bF, below_set → bS, blk_frozen → bZ, below_alloc → bA, pw_below_drewN → bN, below_drew1 → bD, blk_below → bB, blk_cell → bC, blk_set → bs, blk_lt → bL, blk_put → bP, below_step → bT, below_size → bU, box_event → bE, gate_dst → gD
open Go.Proofs.YtdoikehkibefpaaW.PrintWords.Kd renaming S_far → kF, S_types → kT, S_alloc → kA, S_drewN → kN, S_drew → kD
set_option linter.unusedVariables false
set_option linter.unusedSimpArgs false

/-! ### dailiesref06_lies: function 67 -/
def dailiesref06_lies.f (a0_0 : Int) (a0_1 : Int) (a0_2 : Int) (a0_3 : Int) (a1 : Int) (a2 : Int) : Option (Bool) := if a0_2 < 1 then (some false) else (if a0_3 < 1 then (some false) else (if a0_0 < 0 then (some false) else (if a0_1 < 0 then (some false) else (if a0_2 > a1 then (some false) else (if a0_3 > a2 then (some false) else (if a0_0 ≤ (wrap64 (a1 - a0_2)) then (some (decide (a0_1 ≤ (wrap64 (a2 - a0_3))))) else (some false)))))))
set_option maxHeartbeats 8000000 in
set_option maxRecDepth 100000 in
theorem dailiesref06_lies.calls (a0_0 : Int) (a0_1 : Int) (a0_2 : Int) (a0_3 : Int) (a1 : Int) (a2 : Int) (r : Bool) (w : World) (h : dailiesref06_lies.f a0_0 a0_1 a0_2 a0_3 a1 a2 = some r) :
  Calls Try.prog 67 #[.agg #[.int .i64 a0_0, .int .i64 a0_1, .int .i64 a0_2, .int .i64 a0_3], .int .i64 a1, .int .i64 a2] w fun e w' => e = .returned (.bool r) ∧ Below w.heap.size w w' := by
 have hu52 := Try.underlying52
 have HB := am (Below.refl w.heap.size w)
 have H : (if a0_2 < 1 then (some false) else (if a0_3 < 1 then (some false) else (if a0_0 < 0 then (some false) else (if a0_1 < 0 then (some false) else (if a0_2 > a1 then (some false) else (if a0_3 > a2 then (some false) else (if a0_0 ≤ (wrap64 (a1 - a0_2)) then (some (decide (a0_1 ≤ (wrap64 (a2 - a0_3))))) else (some false)))))))) = some r := h
 clear h
 by_cases c4 : a0_2 < 1
 ·rw [if_pos c4] at H
  have c4b0 : decide (a0_2 < 1) = true := decide_eq_true c4
  clear c4
  obtain rfl := Option.some.inj H
  go_enter Try.func67, Try.ntmps67
  go_wp2_with (first | ((with_reducible refine gD (N := 3) rfl ?_); refine bE ?hg (N := 3) ?hd (cs := #[.int .i64 a0_0, .int .i64 a0_1, .int .i64 a0_2, .int .i64 a0_3]) (t := 52) ?hr ?_; (case hd => rfl); (case hg => rfl); (case hr => first | (go_simp; done) | (go_simp; rfl)); intro gb171 hg w5 hbox hb; have n0_ := am (bT (by repeat (first | (with_reducible first | exact HB.out | apply bA | apply bN | apply bD) | exact HB.out)) hb); have n1_ := am (hbox); have n2_ := am ((by rw [hg]; exact (bU (by repeat (first | (with_reducible first | exact HB.out | apply bA | apply bN | apply bD) | exact HB.out))) : w.heap.size ≤ gb171)); have n3_ := am ((by rw [hg]; exact (bU (by repeat (first | (with_reducible first | exact HB.out | apply bA | apply bN | apply bD) | exact HB.out))) : w.heap.size ≤ gb171)); clear HB; have HB := n0_; have BK171 := n1_; have GW171 := n2_; have GE171 := n3_; clear n0_ n1_ n2_ n3_; clear hb hbox hg; have hcz6_0 : w5.cell? ⟨gb171, 0, none⟩ = some (.int .i64 a0_0) := (bC BK171.out 0).trans rfl; have hcz6_1 : w5.cell? ⟨gb171, 1, none⟩ = some (.int .i64 a0_1) := (bC BK171.out 1).trans rfl; have hcz6_2 : w5.cell? ⟨gb171, 2, none⟩ = some (.int .i64 a0_2) := (bC BK171.out 2).trans rfl; have hcz6_3 : w5.cell? ⟨gb171, 3, none⟩ = some (.int .i64 a0_3) := (bC BK171.out 3).trans rfl; have hfz6_0 := bZ BK171.out 0; have hfz6_1 := bZ BK171.out 1; have hfz6_2 := bZ BK171.out 2; have hfz6_3 := bZ BK171.out 3))
  go_ret
  exact ⟨by first | rfl | (simp [errW_none, errW_some] <;> rfl) | (simp [*, errW_none, errW_some] <;> rfl), by repeat (first | (with_reducible first | exact HB.out | apply bA | apply bN | apply bD | refine bS ?_ GE171.out) | exact HB.out)⟩
 ·rw [if_neg c4] at H
  have c4b0 : decide (a0_2 < 1) = false := decide_eq_false c4
  clear c4
  by_cases c7 : a0_3 < 1
  ·rw [if_pos c7] at H
   have c7b0 : decide (a0_3 < 1) = true := decide_eq_true c7
   clear c7
   obtain rfl := Option.some.inj H
   go_enter Try.func67, Try.ntmps67
   go_wp2_with (first | ((with_reducible refine gD (N := 3) rfl ?_); refine bE ?hg (N := 3) ?hd (cs := #[.int .i64 a0_0, .int .i64 a0_1, .int .i64 a0_2, .int .i64 a0_3]) (t := 52) ?hr ?_; (case hd => rfl); (case hg => rfl); (case hr => first | (go_simp; done) | (go_simp; rfl)); intro gb171 hg w8 hbox hb; have n0_ := am (bT (by repeat (first | (with_reducible first | exact HB.out | apply bA | apply bN | apply bD) | exact HB.out)) hb); have n1_ := am (hbox); have n2_ := am ((by rw [hg]; exact (bU (by repeat (first | (with_reducible first | exact HB.out | apply bA | apply bN | apply bD) | exact HB.out))) : w.heap.size ≤ gb171)); have n3_ := am ((by rw [hg]; exact (bU (by repeat (first | (with_reducible first | exact HB.out | apply bA | apply bN | apply bD) | exact HB.out))) : w.heap.size ≤ gb171)); clear HB; have HB := n0_; have BK171 := n1_; have GW171 := n2_; have GE171 := n3_; clear n0_ n1_ n2_ n3_; clear hb hbox hg; have hcz9_0 : w8.cell? ⟨gb171, 0, none⟩ = some (.int .i64 a0_0) := (bC BK171.out 0).trans rfl; have hcz9_1 : w8.cell? ⟨gb171, 1, none⟩ = some (.int .i64 a0_1) := (bC BK171.out 1).trans rfl; have hcz9_2 : w8.cell? ⟨gb171, 2, none⟩ = some (.int .i64 a0_2) := (bC BK171.out 2).trans rfl; have hcz9_3 : w8.cell? ⟨gb171, 3, none⟩ = some (.int .i64 a0_3) := (bC BK171.out 3).trans rfl; have hfz9_0 := bZ BK171.out 0; have hfz9_1 := bZ BK171.out 1; have hfz9_2 := bZ BK171.out 2; have hfz9_3 := bZ BK171.out 3))
   go_ret
   exact ⟨by first | rfl | (simp [errW_none, errW_some] <;> rfl) | (simp [*, errW_none, errW_some] <;> rfl), by repeat (first | (with_reducible first | exact HB.out | apply bA | apply bN | apply bD | refine bS ?_ GE171.out) | exact HB.out)⟩
  ·rw [if_neg c7] at H
   have c7b0 : decide (a0_3 < 1) = false := decide_eq_false c7
   clear c7
   by_cases c10 : a0_0 < 0
   ·rw [if_pos c10] at H
    have c10b0 : decide (a0_0 < 0) = true := decide_eq_true c10
    clear c10
    obtain rfl := Option.some.inj H
    go_enter Try.func67, Try.ntmps67
    go_wp2_with (first | ((with_reducible refine gD (N := 3) rfl ?_); refine bE ?hg (N := 3) ?hd (cs := #[.int .i64 a0_0, .int .i64 a0_1, .int .i64 a0_2, .int .i64 a0_3]) (t := 52) ?hr ?_; (case hd => rfl); (case hg => rfl); (case hr => first | (go_simp; done) | (go_simp; rfl)); intro gb171 hg w11 hbox hb; have n0_ := am (bT (by repeat (first | (with_reducible first | exact HB.out | apply bA | apply bN | apply bD) | exact HB.out)) hb); have n1_ := am (hbox); have n2_ := am ((by rw [hg]; exact (bU (by repeat (first | (with_reducible first | exact HB.out | apply bA | apply bN | apply bD) | exact HB.out))) : w.heap.size ≤ gb171)); have n3_ := am ((by rw [hg]; exact (bU (by repeat (first | (with_reducible first | exact HB.out | apply bA | apply bN | apply bD) | exact HB.out))) : w.heap.size ≤ gb171)); clear HB; have HB := n0_; have BK171 := n1_; have GW171 := n2_; have GE171 := n3_; clear n0_ n1_ n2_ n3_; clear hb hbox hg; have hcz12_0 : w11.cell? ⟨gb171, 0, none⟩ = some (.int .i64 a0_0) := (bC BK171.out 0).trans rfl; have hcz12_1 : w11.cell? ⟨gb171, 1, none⟩ = some (.int .i64 a0_1) := (bC BK171.out 1).trans rfl; have hcz12_2 : w11.cell? ⟨gb171, 2, none⟩ = some (.int .i64 a0_2) := (bC BK171.out 2).trans rfl; have hcz12_3 : w11.cell? ⟨gb171, 3, none⟩ = some (.int .i64 a0_3) := (bC BK171.out 3).trans rfl; have hfz12_0 := bZ BK171.out 0; have hfz12_1 := bZ BK171.out 1; have hfz12_2 := bZ BK171.out 2; have hfz12_3 := bZ BK171.out 3))
    go_ret
    exact ⟨by first | rfl | (simp [errW_none, errW_some] <;> rfl) | (simp [*, errW_none, errW_some] <;> rfl), by repeat (first | (with_reducible first | exact HB.out | apply bA | apply bN | apply bD | refine bS ?_ GE171.out) | exact HB.out)⟩
   ·rw [if_neg c10] at H
    have c10b0 : decide (a0_0 < 0) = false := decide_eq_false c10
    clear c10
    by_cases c13 : a0_1 < 0
    ·rw [if_pos c13] at H
     have c13b0 : decide (a0_1 < 0) = true := decide_eq_true c13
     clear c13
     obtain rfl := Option.some.inj H
     go_enter Try.func67, Try.ntmps67
     go_wp2_with (first | ((with_reducible refine gD (N := 3) rfl ?_); refine bE ?hg (N := 3) ?hd (cs := #[.int .i64 a0_0, .int .i64 a0_1, .int .i64 a0_2, .int .i64 a0_3]) (t := 52) ?hr ?_; (case hd => rfl); (case hg => rfl); (case hr => first | (go_simp; done) | (go_simp; rfl)); intro gb171 hg w14 hbox hb; have n0_ := am (bT (by repeat (first | (with_reducible first | exact HB.out | apply bA | apply bN | apply bD) | exact HB.out)) hb); have n1_ := am (hbox); have n2_ := am ((by rw [hg]; exact (bU (by repeat (first | (with_reducible first | exact HB.out | apply bA | apply bN | apply bD) | exact HB.out))) : w.heap.size ≤ gb171)); have n3_ := am ((by rw [hg]; exact (bU (by repeat (first | (with_reducible first | exact HB.out | apply bA | apply bN | apply bD) | exact HB.out))) : w.heap.size ≤ gb171)); clear HB; have HB := n0_; have BK171 := n1_; have GW171 := n2_; have GE171 := n3_; clear n0_ n1_ n2_ n3_; clear hb hbox hg; have hcz15_0 : w14.cell? ⟨gb171, 0, none⟩ = some (.int .i64 a0_0) := (bC BK171.out 0).trans rfl; have hcz15_1 : w14.cell? ⟨gb171, 1, none⟩ = some (.int .i64 a0_1) := (bC BK171.out 1).trans rfl; have hcz15_2 : w14.cell? ⟨gb171, 2, none⟩ = some (.int .i64 a0_2) := (bC BK171.out 2).trans rfl; have hcz15_3 : w14.cell? ⟨gb171, 3, none⟩ = some (.int .i64 a0_3) := (bC BK171.out 3).trans rfl; have hfz15_0 := bZ BK171.out 0; have hfz15_1 := bZ BK171.out 1; have hfz15_2 := bZ BK171.out 2; have hfz15_3 := bZ BK171.out 3))
     go_ret
     exact ⟨by first | rfl | (simp [errW_none, errW_some] <;> rfl) | (simp [*, errW_none, errW_some] <;> rfl), by repeat (first | (with_reducible first | exact HB.out | apply bA | apply bN | apply bD | refine bS ?_ GE171.out) | exact HB.out)⟩
    ·rw [if_neg c13] at H
     have c13b0 : decide (a0_1 < 0) = false := decide_eq_false c13
     clear c13
     by_cases c16 : a0_2 > a1
     ·rw [if_pos c16] at H
      have c16b0 : decide (a1 < a0_2) = true := decide_eq_true c16
      clear c16
      obtain rfl := Option.some.inj H
      go_enter Try.func67, Try.ntmps67
      go_wp2_with (first | ((with_reducible refine gD (N := 3) rfl ?_); refine bE ?hg (N := 3) ?hd (cs := #[.int .i64 a0_0, .int .i64 a0_1, .int .i64 a0_2, .int .i64 a0_3]) (t := 52) ?hr ?_; (case hd => rfl); (case hg => rfl); (case hr => first | (go_simp; done) | (go_simp; rfl)); intro gb171 hg w17 hbox hb; have n0_ := am (bT (by repeat (first | (with_reducible first | exact HB.out | apply bA | apply bN | apply bD) | exact HB.out)) hb); have n1_ := am (hbox); have n2_ := am ((by rw [hg]; exact (bU (by repeat (first | (with_reducible first | exact HB.out | apply bA | apply bN | apply bD) | exact HB.out))) : w.heap.size ≤ gb171)); have n3_ := am ((by rw [hg]; exact (bU (by repeat (first | (with_reducible first | exact HB.out | apply bA | apply bN | apply bD) | exact HB.out))) : w.heap.size ≤ gb171)); clear HB; have HB := n0_; have BK171 := n1_; have GW171 := n2_; have GE171 := n3_; clear n0_ n1_ n2_ n3_; clear hb hbox hg; have hcz18_0 : w17.cell? ⟨gb171, 0, none⟩ = some (.int .i64 a0_0) := (bC BK171.out 0).trans rfl; have hcz18_1 : w17.cell? ⟨gb171, 1, none⟩ = some (.int .i64 a0_1) := (bC BK171.out 1).trans rfl; have hcz18_2 : w17.cell? ⟨gb171, 2, none⟩ = some (.int .i64 a0_2) := (bC BK171.out 2).trans rfl; have hcz18_3 : w17.cell? ⟨gb171, 3, none⟩ = some (.int .i64 a0_3) := (bC BK171.out 3).trans rfl; have hfz18_0 := bZ BK171.out 0; have hfz18_1 := bZ BK171.out 1; have hfz18_2 := bZ BK171.out 2; have hfz18_3 := bZ BK171.out 3))
      go_ret
      exact ⟨by first | rfl | (simp [errW_none, errW_some] <;> rfl) | (simp [*, errW_none, errW_some] <;> rfl), by repeat (first | (with_reducible first | exact HB.out | apply bA | apply bN | apply bD | refine bS ?_ GE171.out) | exact HB.out)⟩
     ·rw [if_neg c16] at H
      have c16b0 : decide (a1 < a0_2) = false := decide_eq_false c16
      clear c16
      by_cases c19 : a0_3 > a2
      ·rw [if_pos c19] at H
       have c19b0 : decide (a2 < a0_3) = true := decide_eq_true c19
       clear c19
       obtain rfl := Option.some.inj H
       go_enter Try.func67, Try.ntmps67
       go_wp2_with (first | ((with_reducible refine gD (N := 3) rfl ?_); refine bE ?hg (N := 3) ?hd (cs := #[.int .i64 a0_0, .int .i64 a0_1, .int .i64 a0_2, .int .i64 a0_3]) (t := 52) ?hr ?_; (case hd => rfl); (case hg => rfl); (case hr => first | (go_simp; done) | (go_simp; rfl)); intro gb171 hg w20 hbox hb; have n0_ := am (bT (by repeat (first | (with_reducible first | exact HB.out | apply bA | apply bN | apply bD) | exact HB.out)) hb); have n1_ := am (hbox); have n2_ := am ((by rw [hg]; exact (bU (by repeat (first | (with_reducible first | exact HB.out | apply bA | apply bN | apply bD) | exact HB.out))) : w.heap.size ≤ gb171)); have n3_ := am ((by rw [hg]; exact (bU (by repeat (first | (with_reducible first | exact HB.out | apply bA | apply bN | apply bD) | exact HB.out))) : w.heap.size ≤ gb171)); clear HB; have HB := n0_; have BK171 := n1_; have GW171 := n2_; have GE171 := n3_; clear n0_ n1_ n2_ n3_; clear hb hbox hg; have hcz21_0 : w20.cell? ⟨gb171, 0, none⟩ = some (.int .i64 a0_0) := (bC BK171.out 0).trans rfl; have hcz21_1 : w20.cell? ⟨gb171, 1, none⟩ = some (.int .i64 a0_1) := (bC BK171.out 1).trans rfl; have hcz21_2 : w20.cell? ⟨gb171, 2, none⟩ = some (.int .i64 a0_2) := (bC BK171.out 2).trans rfl; have hcz21_3 : w20.cell? ⟨gb171, 3, none⟩ = some (.int .i64 a0_3) := (bC BK171.out 3).trans rfl; have hfz21_0 := bZ BK171.out 0; have hfz21_1 := bZ BK171.out 1; have hfz21_2 := bZ BK171.out 2; have hfz21_3 := bZ BK171.out 3))
       go_ret
       exact ⟨by first | rfl | (simp [errW_none, errW_some] <;> rfl) | (simp [*, errW_none, errW_some] <;> rfl), by repeat (first | (with_reducible first | exact HB.out | apply bA | apply bN | apply bD | refine bS ?_ GE171.out) | exact HB.out)⟩
      ·rw [if_neg c19] at H
       have c19b0 : decide (a2 < a0_3) = false := decide_eq_false c19
       clear c19
       by_cases c22 : a0_0 ≤ (wrap64 (a1 - a0_2))
       ·rw [if_pos c22] at H
        have c22b0 : decide (a0_0 ≤ (wrap64 (a1 - a0_2))) = true := decide_eq_true c22
        clear c22
        obtain rfl := Option.some.inj H
        go_enter Try.func67, Try.ntmps67
        go_wp2_with (first | ((with_reducible refine gD (N := 3) rfl ?_); refine bE ?hg (N := 3) ?hd (cs := #[.int .i64 a0_0, .int .i64 a0_1, .int .i64 a0_2, .int .i64 a0_3]) (t := 52) ?hr ?_; (case hd => rfl); (case hg => rfl); (case hr => first | (go_simp; done) | (go_simp; rfl)); intro gb171 hg w23 hbox hb; have n0_ := am (bT (by repeat (first | (with_reducible first | exact HB.out | apply bA | apply bN | apply bD) | exact HB.out)) hb); have n1_ := am (hbox); have n2_ := am ((by rw [hg]; exact (bU (by repeat (first | (with_reducible first | exact HB.out | apply bA | apply bN | apply bD) | exact HB.out))) : w.heap.size ≤ gb171)); have n3_ := am ((by rw [hg]; exact (bU (by repeat (first | (with_reducible first | exact HB.out | apply bA | apply bN | apply bD) | exact HB.out))) : w.heap.size ≤ gb171)); clear HB; have HB := n0_; have BK171 := n1_; have GW171 := n2_; have GE171 := n3_; clear n0_ n1_ n2_ n3_; clear hb hbox hg; have hcz24_0 : w23.cell? ⟨gb171, 0, none⟩ = some (.int .i64 a0_0) := (bC BK171.out 0).trans rfl; have hcz24_1 : w23.cell? ⟨gb171, 1, none⟩ = some (.int .i64 a0_1) := (bC BK171.out 1).trans rfl; have hcz24_2 : w23.cell? ⟨gb171, 2, none⟩ = some (.int .i64 a0_2) := (bC BK171.out 2).trans rfl; have hcz24_3 : w23.cell? ⟨gb171, 3, none⟩ = some (.int .i64 a0_3) := (bC BK171.out 3).trans rfl; have hfz24_0 := bZ BK171.out 0; have hfz24_1 := bZ BK171.out 1; have hfz24_2 := bZ BK171.out 2; have hfz24_3 := bZ BK171.out 3))
        go_ret
        exact ⟨by first | rfl | (simp [errW_none, errW_some] <;> rfl) | (simp [*, errW_none, errW_some] <;> rfl), by repeat (first | (with_reducible first | exact HB.out | apply bA | apply bN | apply bD | refine bS ?_ GE171.out) | exact HB.out)⟩
       ·rw [if_neg c22] at H
        have c22b0 : decide (a0_0 ≤ (wrap64 (a1 - a0_2))) = false := decide_eq_false c22
        clear c22
        obtain rfl := Option.some.inj H
        go_enter Try.func67, Try.ntmps67
        go_wp2_with (first | ((with_reducible refine gD (N := 3) rfl ?_); refine bE ?hg (N := 3) ?hd (cs := #[.int .i64 a0_0, .int .i64 a0_1, .int .i64 a0_2, .int .i64 a0_3]) (t := 52) ?hr ?_; (case hd => rfl); (case hg => rfl); (case hr => first | (go_simp; done) | (go_simp; rfl)); intro gb171 hg w25 hbox hb; have n0_ := am (bT (by repeat (first | (with_reducible first | exact HB.out | apply bA | apply bN | apply bD) | exact HB.out)) hb); have n1_ := am (hbox); have n2_ := am ((by rw [hg]; exact (bU (by repeat (first | (with_reducible first | exact HB.out | apply bA | apply bN | apply bD) | exact HB.out))) : w.heap.size ≤ gb171)); have n3_ := am ((by rw [hg]; exact (bU (by repeat (first | (with_reducible first | exact HB.out | apply bA | apply bN | apply bD) | exact HB.out))) : w.heap.size ≤ gb171)); clear HB; have HB := n0_; have BK171 := n1_; have GW171 := n2_; have GE171 := n3_; clear n0_ n1_ n2_ n3_; clear hb hbox hg; have hcz26_0 : w25.cell? ⟨gb171, 0, none⟩ = some (.int .i64 a0_0) := (bC BK171.out 0).trans rfl; have hcz26_1 : w25.cell? ⟨gb171, 1, none⟩ = some (.int .i64 a0_1) := (bC BK171.out 1).trans rfl; have hcz26_2 : w25.cell? ⟨gb171, 2, none⟩ = some (.int .i64 a0_2) := (bC BK171.out 2).trans rfl; have hcz26_3 : w25.cell? ⟨gb171, 3, none⟩ = some (.int .i64 a0_3) := (bC BK171.out 3).trans rfl; have hfz26_0 := bZ BK171.out 0; have hfz26_1 := bZ BK171.out 1; have hfz26_2 := bZ BK171.out 2; have hfz26_3 := bZ BK171.out 3))
        go_ret
        exact ⟨by first | rfl | (simp [errW_none, errW_some] <;> rfl) | (simp [*, errW_none, errW_some] <;> rfl), by repeat (first | (with_reducible first | exact HB.out | apply bA | apply bN | apply bD | refine bS ?_ GE171.out) | exact HB.out)⟩

/-! ### dailiesref06_copied: function 72 -/
def dailiesref06_copied.l0 : Nat → Int → Int → Int → Int → Bool → List (List Int) → Int → Int → Int → Bool → List (List Int) → Option (Int × Int × Int × Bool × (List (List Int)))
 | 0, _, _, _, _, _, _, _, _, _, _, _ => none
 | k + 1, x4, x173000, x173001, x173002, x173003, x173004, x175000, x175001, x175002, x175003, x175004 => if x4 < (x173004.length : Int) then ((some (([] : List Int) : List Int)).bind fun y175 => (if 0 ≤ x4 then (if y175.length + (rd_L1 x173004 x4).length < 70368744177664 then (if x175004.length < 5864062014805 then (dailiesref06_copied.l0 k (wrap64 (x4 + 1)) x173000 x173001 x173002 x173003 x173004 x175000 x175001 x175002 x175003 (x175004 ++ [(y175 ++ (rd_L1 x173004 x4))])) else (none)) else (none)) else (none))) else (some (x175000, x175001, x175002, x175003, x175004))
def dailiesref06_copied.f (k : Nat) (a0_0 : Int) (a0_1 : Int) (a0_2 : Int) (a0_3 : Bool) (l0_4 : List (List Int)) : Option (Int × Int × Int × Bool × (List (List Int))) := dailiesref06_copied.l0 k 0 a0_0 a0_1 a0_2 a0_3 l0_4 a0_0 a0_1 a0_2 a0_3 ([] : List (List Int))
theorem dailiesref06_copied.mono_l : ∀ k, (∀ y0 y1 y2 y3 y4 y5 y6 y7 y8 y9 y10, LeO (dailiesref06_copied.l0 k y0 y1 y2 y3 y4 y5 y6 y7 y8 y9 y10) (dailiesref06_copied.l0 (k + 1) y0 y1 y2 y3 y4 y5 y6 y7 y8 y9 y10))
 | 0 => fun _ _ _ _ _ _ _ _ _ _ _ r h => by simp [dailiesref06_copied.l0] at h
 | k + 1 => by
  have ih0 := dailiesref06_copied.mono_l k
  ·intro y0 y1 y2 y3 y4 y5 y6 y7 y8 y9 y10
   unfold dailiesref06_copied.l0
   repeat' first
   | (with_reducible exact ih0 _ _ _ _ _ _ _ _ _ _ _)
   | (with_reducible exact LeO.refl _)
   | (with_reducible exact LeO.none _)
   | (with_reducible refine LeO.ite ?_ ?_)
   | (with_reducible refine LeO.bind ?_ (fun _ => ?_))
   | exact ih0 _ _ _ _ _ _ _ _ _ _ _
   | exact LeO.none _
   | refine LeO.ite ?_ ?_
   | refine LeO.bind ?_ (fun _ => ?_)
theorem dailiesref06_copied.mono : ∀ a0 a1 a2 a3 a4 k, LeO (dailiesref06_copied.f k a0 a1 a2 a3 a4) (dailiesref06_copied.f (k + 1) a0 a1 a2 a3 a4) := by
 intro a0 a1 a2 a3 a4 k
 have ih0 := dailiesref06_copied.mono_l k
 unfold dailiesref06_copied.f
 repeat' first
   | (with_reducible exact ih0 _ _ _ _ _ _ _ _ _ _ _)
   | (with_reducible exact LeO.refl _)
   | (with_reducible exact LeO.none _)
   | (with_reducible refine LeO.ite ?_ ?_)
   | (with_reducible refine LeO.bind ?_ (fun _ => ?_))
   | exact ih0 _ _ _ _ _ _ _ _ _ _ _
   | exact LeO.none _
   | refine LeO.ite ?_ ?_
   | refine LeO.bind ?_ (fun _ => ?_)
def dailiesref06_copied.T5 : Bool × List (List Nat × List Nat) := (true, [([], []), ([0], [0]), ([], []), ([], []), ([3], [3]), ([], []), ([4, 5], [4, 5]), ([6], [6]), ([2, 7], [2, 7]), ([8], [8]), ([1, 9, 8], [1, 9]), ([0, 1, 2, 3, 4, 5, 6, 7, 8, 9, 10], []), ([11, 10, 10, 0, 1, 2, 3, 4, 5, 6, 7, 8, 9, 10], [10, 11])])
def dailiesref06_copied.B5 : List Nat := [0, 1, 0, 0, 8, 0, 56, 120, 252, 508, 1023, 2047, 4095]
theorem dailiesref06_copied.tab5 : rtab .any (opsOf Try.f72 5) = dailiesref06_copied.T5 := by kernel_rfl
theorem dailiesref06_copied.bits5 : waitsOk dailiesref06_copied.T5.2 dailiesref06_copied.B5 = true := by kernel_rfl
set_option maxHeartbeats 8000000 in
set_option maxRecDepth 100000 in
theorem dailiesref06_copied.calls (k : Nat) (a0_0 : Int) (a0_1 : Int) (a0_2 : Int) (a0_3 : Bool) (A0_4 : Option Addr) (c0_4 : Nat) (l0_4 : List (List Int)) (r1 : Int) (r2 : Int) (r3 : Int) (r4 : Bool) (r5 : List (List Int)) (w : World) (hr0_4 : Kd.C (Kd.slice 72 (Kd.int .u16)) w A0_4 l0_4.length l0_4) (hc0_4 : l0_4.length ≤ c0_4) (h : dailiesref06_copied.f k a0_0 a0_1 a0_2 a0_3 l0_4 = some (r1, r2, r3, r4, r5)) :
  Calls Try.prog 72 #[.agg #[.int .i64 a0_0, .int .i64 a0_1, .int .i64 a0_2, .bool a0_3, .slice A0_4 l0_4.length c0_4]] w fun e w' => ∃ v4_ : Value, e = .returned (.agg #[.int .i64 r1, .int .i64 r2, .int .i64 r3, .bool r4, v4_]) ∧ Kd.S (Kd.slice 72 (Kd.int .u16)) 53 w' w.heap.size (fun _ => True) v4_ r5 ∧ Below w.heap.size w w' := by
 have hu39 := Try.underlying39
 have hu26 := Try.underlying26
 have HR0_4 := am hr0_4
 have HC0_4 := am hc0_4
 clear hr0_4 hc0_4
 have HB := am (Below.refl w.heap.size w)
 have H : (dailiesref06_copied.l0 k 0 a0_0 a0_1 a0_2 a0_3 l0_4 a0_0 a0_1 a0_2 a0_3 ([] : List (List Int))) = some (r1, r2, r3, r4, r5) := h
 clear h
 have H' := am H
 clear H
 go_enter Try.func72, Try.ntmps72
 go_wp2_with (first | ((with_reducible refine gD (N := 1) rfl ?_); refine bE ?hg (N := 1) ?hd (cs := #[.int .i64 a0_0, .int .i64 a0_1, .int .i64 a0_2, .bool a0_3, .slice A0_4 l0_4.length c0_4]) (t := 39) ?hr ?_; (case hd => rfl); (case hg => rfl); (case hr => first | (go_simp; done) | (go_simp; rfl)); intro gb172 hg w2 hbox hb; have n0_ := am (bT (by repeat (first | (with_reducible first | exact HB.out | apply bA | apply bN | apply bD) | exact HB.out)) hb); have n1_ := am (hbox); have n2_ := am ((by rw [hg]; exact (bU (by repeat (first | (with_reducible first | exact HB.out | apply bA | apply bN | apply bD) | exact HB.out))) : w.heap.size ≤ gb172)); have n3_ := am ((by rw [hg]; exact (bU (by repeat (first | (with_reducible first | exact HB.out | apply bA | apply bN | apply bD) | exact HB.out))) : w.heap.size ≤ gb172)); clear HB; have HB := n0_; have BK172 := n1_; have GW172 := n2_; have GE172 := n3_; clear n0_ n1_ n2_ n3_; clear hb hbox hg) | ((with_reducible refine gD (N := 2) rfl ?_); refine bE ?hg (N := 2) ?hd (cs := #[.int .i64 0, .int .i64 0, .int .i64 0, .bool false, .slice none 0 0]) (t := 39) ?hr ?_; (case hd => rfl); (case hg => rfl); (case hr => first | (go_simp; done) | (go_simp; rfl)); intro gb173 hg w3 hbox hb; have n0_ := am (bB (g := gb172) (o := .cells #[.int .i64 a0_0, .int .i64 a0_1, .int .i64 a0_2, .bool a0_3, .slice A0_4 l0_4.length c0_4] 39 (0, 0)) (by (with_reducible repeat apply dX); exact BK172.out) hb); have n1_ := am (bT (by repeat (first | (with_reducible first | exact HB.out | apply bA | apply bN | apply bD | refine bS ?_ GE172.out) | exact HB.out)) hb); have n2_ := am (hbox); have n3_ := am ((by rw [hg]; exact (bU (by repeat (first | (with_reducible first | exact HB.out | apply bA | apply bN | apply bD | refine bS ?_ GE172.out) | exact HB.out))) : w.heap.size ≤ gb173)); have n4_ := am ((by rw [hg]; exact (bU (by repeat (first | (with_reducible first | exact HB.out | apply bA | apply bN | apply bD | refine bS ?_ GE172.out) | exact HB.out))) : w.heap.size ≤ gb173)); have n5_ := am ((by rw [hg]; exact nL (bL (g := gb172) (o := .cells #[.int .i64 a0_0, .int .i64 a0_1, .int .i64 a0_2, .bool a0_3, .slice A0_4 l0_4.length c0_4] 39 (0, 0)) (by (with_reducible repeat apply dX); exact BK172.out)) : gb172 ≠ gb173)); have n6_ := am ((by rw [hg]; exact nG (bL (g := gb172) (o := .cells #[.int .i64 a0_0, .int .i64 a0_1, .int .i64 a0_2, .bool a0_3, .slice A0_4 l0_4.length c0_4] 39 (0, 0)) (by (with_reducible repeat apply dX); exact BK172.out)) : gb173 ≠ gb172)); clear BK172; clear HB; have BK172 := n0_; have HB := n1_; have BK173 := n2_; have GW173 := n3_; have GE173 := n4_; have NB172_173 := n5_; have NB173_172 := n6_; clear n0_ n1_ n2_ n3_ n4_ n5_ n6_; clear hb hbox hg; have hnb4 := NB172_173.out; have hnc4 := NB173_172.out; have hcz5_0 : w3.cell? ⟨gb172, 0, none⟩ = some (.int .i64 a0_0) := (bC BK172.out 0).trans rfl; have hcz5_1 : w3.cell? ⟨gb172, 1, none⟩ = some (.int .i64 a0_1) := (bC BK172.out 1).trans rfl; have hcz5_2 : w3.cell? ⟨gb172, 2, none⟩ = some (.int .i64 a0_2) := (bC BK172.out 2).trans rfl; have hcz5_3 : w3.cell? ⟨gb172, 3, none⟩ = some (.bool a0_3) := (bC BK172.out 3).trans rfl; have hcz5_4 : w3.cell? ⟨gb172, 4, none⟩ = some (.slice A0_4 l0_4.length c0_4) := (bC BK172.out 4).trans rfl; have hfz5_0 := bZ BK172.out 0; have hfz5_1 := bZ BK172.out 1; have hfz5_2 := bZ BK172.out 2; have hfz5_3 := bZ BK172.out 3; have hfz5_4 := bZ BK172.out 4) | ((with_reducible refine gD (N := 3) rfl ?_); refine bE ?hg (N := 3) ?hd (cs := #[.int .i64 0, .int .i64 0, .int .i64 0, .bool false, .slice none 0 0]) (t := 39) ?hr ?_; (case hd => rfl); (case hg => rfl); (case hr => first | (go_simp; done) | (go_simp; rfl)); intro gb174 hg w6 hbox hb; have n0_ := am (bB (g := gb172) (o := .cells #[.int .i64 a0_0, .int .i64 a0_1, .int .i64 a0_2, .bool a0_3, .slice A0_4 l0_4.length c0_4] 39 (0, 0)) (by (with_reducible repeat apply dX); exact BK172.out) hb); have n1_ := am (bB (g := gb173) (o := .cells #[.int .i64 0, .int .i64 0, .int .i64 0, .bool false, .slice none 0 0] 39 (0, 0)) (by (with_reducible repeat apply dX); exact BK173.out) hb); have n2_ := am (bT (by repeat (first | (with_reducible first | exact HB.out | apply bA | apply bN | apply bD | refine bS ?_ GE172.out | refine bS ?_ GE173.out) | exact HB.out)) hb); have n3_ := am (hbox); have n4_ := am ((by rw [hg]; exact (bU (by repeat (first | (with_reducible first | exact HB.out | apply bA | apply bN | apply bD | refine bS ?_ GE172.out | refine bS ?_ GE173.out) | exact HB.out))) : w.heap.size ≤ gb174)); have n5_ := am ((by rw [hg]; exact (bU (by repeat (first | (with_reducible first | exact HB.out | apply bA | apply bN | apply bD | refine bS ?_ GE172.out | refine bS ?_ GE173.out) | exact HB.out))) : w.heap.size ≤ gb174)); have n6_ := am ((by rw [hg]; exact nL (bL (g := gb172) (o := .cells #[.int .i64 a0_0, .int .i64 a0_1, .int .i64 a0_2, .bool a0_3, .slice A0_4 l0_4.length c0_4] 39 (0, 0)) (by (with_reducible repeat apply dX); exact BK172.out)) : gb172 ≠ gb174)); have n7_ := am ((by rw [hg]; exact nG (bL (g := gb172) (o := .cells #[.int .i64 a0_0, .int .i64 a0_1, .int .i64 a0_2, .bool a0_3, .slice A0_4 l0_4.length c0_4] 39 (0, 0)) (by (with_reducible repeat apply dX); exact BK172.out)) : gb174 ≠ gb172)); have n8_ := am ((by rw [hg]; exact nL (bL (g := gb173) (o := .cells #[.int .i64 0, .int .i64 0, .int .i64 0, .bool false, .slice none 0 0] 39 (0, 0)) (by (with_reducible repeat apply dX); exact BK173.out)) : gb173 ≠ gb174)); have n9_ := am ((by rw [hg]; exact nG (bL (g := gb173) (o := .cells #[.int .i64 0, .int .i64 0, .int .i64 0, .bool false, .slice none 0 0] 39 (0, 0)) (by (with_reducible repeat apply dX); exact BK173.out)) : gb174 ≠ gb173)); clear BK172; clear BK173; clear HB; have BK172 := n0_; have BK173 := n1_; have HB := n2_; have BK174 := n3_; have GW174 := n4_; have GE174 := n5_; have NB172_174 := n6_; have NB174_172 := n7_; have NB173_174 := n8_; have NB174_173 := n9_; clear n0_ n1_ n2_ n3_ n4_ n5_ n6_ n7_ n8_ n9_; clear hb hbox hg; have hnb7 := NB174_172.out; have hnc7 := NB172_174.out; have hnb8 := NB174_173.out; have hnc8 := NB173_174.out; have hcz9_0 : w6.cell? ⟨gb174, 0, none⟩ = some (.int .i64 0) := (bC BK174.out 0).trans rfl; have hcz9_1 : w6.cell? ⟨gb174, 1, none⟩ = some (.int .i64 0) := (bC BK174.out 1).trans rfl; have hcz9_2 : w6.cell? ⟨gb174, 2, none⟩ = some (.int .i64 0) := (bC BK174.out 2).trans rfl; have hcz9_3 : w6.cell? ⟨gb174, 3, none⟩ = some (.bool false) := (bC BK174.out 3).trans rfl; have hcz9_4 : w6.cell? ⟨gb174, 4, none⟩ = some (.slice none 0 0) := (bC BK174.out 4).trans rfl; have hfz9_0 := bZ BK174.out 0; have hfz9_1 := bZ BK174.out 1; have hfz9_2 := bZ BK174.out 2; have hfz9_3 := bZ BK174.out 3; have hfz9_4 := bZ BK174.out 4))
 go_loopg [4] k (fun kq v4 w' => ∃ (x4_1 : Int) (x175004_1 : List (List Int)) (u175004 : Value), v4 = .int .i64 x4_1 ∧ Aside0 (dailiesref06_copied.l0 kq x4_1 a0_0 a0_1 a0_2 a0_3 l0_4 a0_0 a0_1 a0_2 a0_3 x175004_1 = some (r1, r2, r3, r4, r5)) ∧ Aside0 (kq ≤ k) ∧ Aside0 (Kd.S (Kd.slice 72 (Kd.int .u16)) 53 w' w.heap.size (fun _ => True) u175004 x175004_1) ∧ Aside0 (w'.heap[gb172]? = some (.cells #[.int .i64 a0_0, .int .i64 a0_1, .int .i64 a0_2, .bool a0_3, (.slice A0_4 l0_4.length c0_4)] 39 (0, 0))) ∧ Aside0 (w'.heap[gb173]? = some (.cells #[.int .i64 0, .int .i64 0, .int .i64 0, .bool false, (.slice none 0 0)] 39 (0, 0))) ∧ Aside0 (w'.heap[gb174]? = some (.cells #[.int .i64 a0_0, .int .i64 a0_1, .int .i64 a0_2, .bool a0_3, u175004] 39 (0, 0))) ∧ Aside0 (Below w.heap.size w w'))
 case atStart => exact ⟨(0), (([] : List (List Int))), (.slice none 0 0), (by first | rfl | (simp; done) | (simp [*]; done)), H', ⟨Nat.le_refl _⟩, ⟨by first | exact Kd.S_nil _ _ _ _ _ | exact Kd.N_nil _ _ _ _ _ | exact Kd.V_nil _ _ _ _ _ | exact Kd.Q_nil _ _ _ _ _ | exact Kd.R_nil _ _ _ _ _⟩, ⟨by (with_reducible repeat apply dX); refine bF ?_ NB172_174.out _; (with_reducible repeat apply dX); refine bF ?_ NB172_174.out _; (with_reducible repeat apply dX); refine bF ?_ NB172_174.out _; (with_reducible repeat apply dX); refine bF ?_ NB172_174.out _; (with_reducible repeat apply dX); refine bF ?_ NB172_174.out _; (with_reducible repeat apply dX); exact BK172.out⟩, ⟨by (with_reducible repeat apply dX); refine bF ?_ NB173_174.out _; (with_reducible repeat apply dX); refine bF ?_ NB173_174.out _; (with_reducible repeat apply dX); refine bF ?_ NB173_174.out _; (with_reducible repeat apply dX); refine bF ?_ NB173_174.out _; (with_reducible repeat apply dX); refine bF ?_ NB173_174.out _; (with_reducible repeat apply dX); exact BK173.out⟩, ⟨by (with_reducible repeat apply dX); refine bP (cs := #[.int .i64 a0_0, .int .i64 a0_1, .int .i64 a0_2, .bool a0_3, .slice none 0 0]) ?_ 4 _ rfl; (with_reducible repeat apply dX); refine bP (cs := #[.int .i64 a0_0, .int .i64 a0_1, .int .i64 a0_2, .bool false, .slice none 0 0]) ?_ 3 _ rfl; (with_reducible repeat apply dX); refine bP (cs := #[.int .i64 a0_0, .int .i64 a0_1, .int .i64 0, .bool false, .slice none 0 0]) ?_ 2 _ rfl; (with_reducible repeat apply dX); refine bP (cs := #[.int .i64 a0_0, .int .i64 0, .int .i64 0, .bool false, .slice none 0 0]) ?_ 1 _ rfl; (with_reducible repeat apply dX); refine bP (cs := #[.int .i64 0, .int .i64 0, .int .i64 0, .bool false, .slice none 0 0]) ?_ 0 _ rfl; (with_reducible repeat apply dX); exact BK174.out⟩, ⟨by repeat (first | (with_reducible first | exact HB.out | apply bA | apply bN | apply bD | refine bS ?_ GE172.out | refine bS ?_ GE173.out | refine bS ?_ GE174.out) | exact HB.out)⟩⟩
 case round =>
  clear H'
  try clear p2
  try clear c4
  try clear c7
  try clear c8
  try clear hcz5_0
  try clear hcz5_1
  try clear hcz5_2
  try clear hcz5_3
  try clear hcz5_4
  try clear hcz9_0
  try clear hcz9_1
  try clear hcz9_2
  try clear hcz9_3
  try clear hcz9_4
  try clear hfz5_0
  try clear hfz5_1
  try clear hfz5_2
  try clear hfz5_3
  try clear hfz5_4
  try clear hfz9_0
  try clear hfz9_1
  try clear hfz9_2
  try clear hfz9_3
  try clear hfz9_4
  obtain ⟨x4_1, x175004_1, u175004, rfl, HA, HK1, HO_175004, BK172, BK173, BK174, HB⟩ := hrel
  cases gk with
  | zero => exact absurd HA.out (by simp [dailiesref06_copied.l0])
  | succ k1 =>
   have H := HA.out
   clear HA
   simp only [dailiesref06_copied.l0] at H
   by_cases c10 : x4_1 < (l0_4.length : Int)
   ·rw [if_pos c10] at H
    have c10b0 : decide (x4_1 < (l0_4.length : Int)) = true := decide_eq_true c10
    clear c10
    obtain ⟨y175, hy175⟩ : ∃ y_ : List Int, y_ = (([] : List Int)) := ⟨_, rfl⟩
    replace H : (if 0 ≤ x4_1 then (if y175.length + (rd_L1 l0_4 x4_1).length < 70368744177664 then (if x175004_1.length < 5864062014805 then (dailiesref06_copied.l0 k1 (wrap64 (x4_1 + 1)) a0_0 a0_1 a0_2 a0_3 l0_4 a0_0 a0_1 a0_2 a0_3 (x175004_1 ++ [(y175 ++ (rd_L1 l0_4 x4_1))])) else (none)) else (none)) else (none)) = some (r1, r2, r3, r4, r5) := by first | (rw [hy175]; with_reducible exact H) | (have H2_ := (Option.bind_some _ _).symm.trans H; rw [hy175]; with_reducible exact H2_) | (have H2_ := (Option.bind_some _ _).symm.trans H; with_reducible exact H2_) | with_reducible exact H | (rw [hy175]; exact H) | exact H
    have Ny175 := am hy175
    clear hy175
    by_cases c11 : 0 ≤ x4_1
    ·rw [if_pos c11] at H
     have c11b0 : decide (0 ≤ x4_1) = true := decide_eq_true c11
     clear c11
     by_cases c12 : y175.length + (rd_L1 l0_4 x4_1).length < 70368744177664
     ·rw [if_pos c12] at H
      have LMc12 := am c12
      clear c12
      obtain ⟨y179, hy179⟩ : ∃ y_ : List Int, y_ = (y175 ++ (rd_L1 l0_4 x4_1)) := ⟨_, rfl⟩
      replace H : (if x175004_1.length < 5864062014805 then (dailiesref06_copied.l0 k1 (wrap64 (x4_1 + 1)) a0_0 a0_1 a0_2 a0_3 l0_4 a0_0 a0_1 a0_2 a0_3 (x175004_1 ++ [y179])) else (none)) = some (r1, r2, r3, r4, r5) := by first | (rw [hy179]; with_reducible exact H) | (have H2_ := (Option.bind_some _ _).symm.trans H; rw [hy179]; with_reducible exact H2_) | (have H2_ := (Option.bind_some _ _).symm.trans H; with_reducible exact H2_) | with_reducible exact H | (rw [hy179]; exact H) | exact H
      have Ny179 := am hy179
      clear hy179
      by_cases c13 : x175004_1.length < 5864062014805
      ·rw [if_pos c13] at H
       have LMc13 := am c13
       clear c13
       obtain ⟨y182, hy182⟩ : ∃ y_ : List (List Int), y_ = (x175004_1 ++ [y179]) := ⟨_, rfl⟩
       replace H : (dailiesref06_copied.l0 k1 (wrap64 (x4_1 + 1)) a0_0 a0_1 a0_2 a0_3 l0_4 a0_0 a0_1 a0_2 a0_3 y182) = some (r1, r2, r3, r4, r5) := by first | (rw [hy182]; with_reducible exact H) | (have H2_ := (Option.bind_some _ _).symm.trans H; rw [hy182]; with_reducible exact H2_) | (have H2_ := (Option.bind_some _ _).symm.trans H; with_reducible exact H2_) | with_reducible exact H | (rw [hy182]; exact H) | exact H
       have Ny182 := am hy182
       clear hy182
       have H' := am H
       clear H
       have hnb14 := NB172_173.out
       have hnc14 := NB173_172.out
       have hnb15 := NB172_174.out
       have hnc15 := NB174_172.out
       have hcz16_0 : wr.cell? ⟨gb172, 0, none⟩ = some (.int .i64 a0_0) := (bC BK172.out 0).trans rfl
       have hcz16_1 : wr.cell? ⟨gb172, 1, none⟩ = some (.int .i64 a0_1) := (bC BK172.out 1).trans rfl
       have hcz16_2 : wr.cell? ⟨gb172, 2, none⟩ = some (.int .i64 a0_2) := (bC BK172.out 2).trans rfl
       have hcz16_3 : wr.cell? ⟨gb172, 3, none⟩ = some (.bool a0_3) := (bC BK172.out 3).trans rfl
       have hcz16_4 : wr.cell? ⟨gb172, 4, none⟩ = some (.slice A0_4 l0_4.length c0_4) := (bC BK172.out 4).trans rfl
       have hfz16_0 := bZ BK172.out 0
       have hfz16_1 := bZ BK172.out 1
       have hfz16_2 := bZ BK172.out 2
       have hfz16_3 := bZ BK172.out 3
       have hfz16_4 := bZ BK172.out 4
       try go_wp2
       have n0_ := am (kD HO_175004.out)
       have n1_ := am (blk_drew BK172.out)
       have n2_ := am (blk_drew BK173.out)
       have n3_ := am (blk_drew BK174.out)
       have n4_ := am (bD HB.out)
       clear HO_175004
       clear BK172
       clear BK173
       clear BK174
       clear HB
       have HO_175004 := n0_
       have BK172 := n1_
       have BK173 := n2_
       have BK174 := n3_
       have HB := n4_
       clear n0_ n1_ n2_ n3_ n4_
       have p178 : 0 ≤ (x4_1 : Int) := of_decide_eq_true (by first | (with_reducible assumption) | assumption)
       have q178 : x4_1 < (l0_4.length : Int) := of_decide_eq_true (by first | (with_reducible assumption) | assumption)
       obtain ⟨ad178, A178_0, c178_0, e178, hx178_0, hl178_0, hi178_0⟩ := at_L1 HR0_4.out x4_1 p178 q178
       have hw178_0 := hx178_0
       cases e178
       replace hx178_0 := (HB.out.cell (World.block_lt_of_cell? w _ hx178_0)).trans hx178_0
       have HR178_0 := am hi178_0
       have HC178_0 := am hl178_0
       clear hi178_0 hl178_0
       replace p178 := eq_true p178
       replace q178 := eq_true q178
       refine start_ (n := 13) (S := fun w' => w'.cell? ⟨gb174, 0, none⟩ = some (.int .i64 a0_0) ∧ w'.cell? ⟨gb174, 1, none⟩ = some (.int .i64 a0_1) ∧ w'.cell? ⟨gb174, 2, none⟩ = some (.int .i64 a0_2) ∧ w'.cell? ⟨gb174, 3, none⟩ = some (.bool a0_3) ∧ w'.cell? ⟨gb174, 4, none⟩ = some (u175004) ∧ w'.cell? ⟨gb172, 0, none⟩ = some (.int .i64 a0_0) ∧ w'.cell? ⟨gb172, 1, none⟩ = some (.int .i64 a0_1) ∧ w'.cell? ⟨gb172, 2, none⟩ = some (.int .i64 a0_2) ∧ w'.cell? ⟨gb172, 3, none⟩ = some (.bool a0_3) ∧ w'.cell? ⟨gb172, 4, none⟩ = some (.slice (some ad178) l0_4.length c0_4) ∧ w'.cell? (ad178.add (x4_1).toNat) = some (.slice A178_0 (rd_L1 l0_4 x4_1).length c178_0)) (ds := [12]) #[false, false, false, false, false, false, false, false, false, false, false, false, false] (by kernel_rfl) rfl rfl ⟨(bC BK174.out 0).trans rfl, (bC BK174.out 1).trans rfl, (bC BK174.out 2).trans rfl, (bC BK174.out 3).trans rfl, (bC BK174.out 4).trans rfl, (bC BK172.out 0).trans rfl, (bC BK172.out 1).trans rfl, (bC BK172.out 2).trans rfl, (bC BK172.out 3).trans rfl, (bC BK172.out 4).trans rfl, ((HB.out.cell (World.block_lt_of_cell? w _ hw178_0)).trans hw178_0)⟩ (fun hHeld => ?_); refine with_tabW dailiesref06_copied.tab5 dailiesref06_copied.bits5 (fun HT_ HW_ => ?_)
       generalize wr.drew = w17 at HO_175004 BK172 BK173 BK174 HB HR178_0 hx178_0 hHeld ⊢
       refine pure_ (i := 0) (N := some 15) (v := ?_) (a' := ?_) #[true, false, false, false, false, false, false, false, false, false, false, false, false] rfl rfl (any_of HT_.out (by kernel_rfl)) (fun _ _ _ h => h) (Or.inl ⟨by rfl, ?_⟩) ?_ ?_
       rotate_left
       ·intro w'
        go_simp
        with_reducible rfl
       rotate_left
       ·simp only [Act.put, List.setIfInBounds_toArray, List.set_cons_zero, List.set_cons_succ, i64_w, i32_w]
        rfl
       refine pure_ (i := 3) (N := some 18) (v := ?_) (a' := ?_) #[true, false, false, true, false, false, false, false, false, false, false, false, false] rfl rfl (any_of HT_.out (by kernel_rfl)) (fun _ _ _ h => h) (Or.inl ⟨by rfl, ?_⟩) ?_ ?_
       rotate_left
       ·intro w'
        go_simp
        with_reducible rfl
       rotate_left
       ·simp only [Act.put, List.setIfInBounds_toArray, List.set_cons_zero, List.set_cons_succ, i64_w, i32_w]
        rfl
       refine pure_ (i := 5) (N := some 20) (v := ?_) (a' := ?_) #[true, false, false, true, false, true, false, false, false, false, false, false, false] rfl rfl (any_of HT_.out (by kernel_rfl)) (fun _ _ _ h => h) (Or.inl ⟨by rfl, ?_⟩) ?_ ?_
       rotate_left
       ·intro w'
        go_simp
        with_reducible rfl
       rotate_left
       ·simp only [Act.put, List.setIfInBounds_toArray, List.set_cons_zero, List.set_cons_succ, i64_w, i32_w]
        rfl
       refine take_ (i := 1) (N := some 16) (v := ?_) (a' := ?_) #[true, true, false, true, false, true, false, false, false, false, false, false, false] rfl rfl (take_ofW HT_.out HW_.out (by kernel_rfl)) (fun _ _ _ h => h) (Or.inl ⟨by rfl, ?_⟩) hHeld ?_ ?_
       rotate_left
       ·rintro w' ⟨s0, s1, s2, s3, s4, s5, s6, s7, s8, s9, s10⟩
        go_simp
        with_reducible rfl
       rotate_left
       ·simp only [Act.put, List.setIfInBounds_toArray, List.set_cons_zero, List.set_cons_succ, i64_w, i32_w]
        rfl
       refine take_ (i := 4) (N := some 19) (v := ?_) (a' := ?_) #[true, true, false, true, true, true, false, false, false, false, false, false, false] rfl rfl (take_ofW HT_.out HW_.out (by kernel_rfl)) (fun _ _ _ h => h) (Or.inl ⟨by rfl, ?_⟩) hHeld ?_ ?_
       rotate_left
       ·rintro w' ⟨s0, s1, s2, s3, s4, s5, s6, s7, s8, s9, s10⟩
        go_simp
        with_reducible rfl
       rotate_left
       ·simp only [Act.put, List.setIfInBounds_toArray, List.set_cons_zero, List.set_cons_succ, i64_w, i32_w]
        rfl
       refine pure_ (i := 6) (N := some 21) (v := ?_) (a' := ?_) #[true, true, false, true, true, true, true, false, false, false, false, false, false] rfl rfl (any_of HT_.out (by kernel_rfl)) (fun _ _ _ h => h) (Or.inl ⟨by rfl, ?_⟩) ?_ ?_
       rotate_left
       ·intro w'
        go_simp
        with_reducible rfl
       rotate_left
       ·simp only [Act.put, List.setIfInBounds_toArray, List.set_cons_zero, List.set_cons_succ, i64_w, i32_w]
        rfl
       refine take_ (i := 7) (N := some 22) (v := ?_) (a' := ?_) #[true, true, false, true, true, true, true, true, false, false, false, false, false] rfl rfl (take_ofW HT_.out HW_.out (by kernel_rfl)) (fun _ _ _ h => h) (Or.inl ⟨by rfl, ?_⟩) hHeld ?_ ?_
       rotate_left
       ·rintro w' ⟨s0, s1, s2, s3, s4, s5, s6, s7, s8, s9, s10⟩
        go_simp
        with_reducible rfl
       rotate_left
       ·simp only [Act.put, List.setIfInBounds_toArray, List.set_cons_zero, List.set_cons_succ, i64_w, i32_w]
        rfl
       refine one_ (i := 2) (N := some 17) #[true, true, true, true, true, true, true, true, false, false, false, false, false] rfl rfl (one_of HT_.out (by kernel_rfl)) (by decide) (fun K hK => ?_)
       refine Kd.R_lit_step (Kd.int .u16) _ 72 ?hg (N := 17) ?hd (xs := ([] : List Int)) (inner := []) (ok := fun _ => True) (okp := fun _ => True) ?hr ?hp (fun _ hk => hk) trivial (Below.refl _ _) (Nat.le_refl _) (by simp) ?_; (case hd => rfl); (case hg => rfl); (case hr => first | (go_simp; done) | (go_simp; rfl)); (case hp => exact (Reps.none _ _))
       intro v176 w18 ho19 hb hg_ hnew_
       clear hg_ hnew_
       (first | rw [← Ny175.out] at ho19 | (simp only [Int.reduceToNat] at ho19; rw [← Ny175.out] at ho19))
       have n0_ := am (Kd.S_elder' (by (with_reducible repeat (first | apply kA | apply kN | apply kD)); exact HO_175004.out) (Kd.R_base ho19) hb)
       have n1_ := am (Kd.R_lower ho19 (bU (by repeat (first | (with_reducible first | exact HB.out | apply bA | apply bN | apply bD | refine bS ?_ GE172.out | refine bS ?_ GE173.out | refine bS ?_ GE174.out) | exact HB.out))))
       have n2_ := am (bB (g := gb172) (o := .cells #[.int .i64 a0_0, .int .i64 a0_1, .int .i64 a0_2, .bool a0_3, .slice (some ad178) l0_4.length c0_4] 39 (0, 0)) (by (with_reducible repeat apply dX); exact BK172.out) hb)
       have n3_ := am (bB (g := gb173) (o := .cells #[.int .i64 0, .int .i64 0, .int .i64 0, .bool false, .slice none 0 0] 39 (0, 0)) (by (with_reducible repeat apply dX); exact BK173.out) hb)
       have n4_ := am (bB (g := gb174) (o := .cells #[.int .i64 a0_0, .int .i64 a0_1, .int .i64 a0_2, .bool a0_3, u175004] 39 (0, 0)) (by (with_reducible repeat apply dX); exact BK174.out) hb)
       have n5_ := am (bT (by repeat (first | (with_reducible first | exact HB.out | apply bA | apply bN | apply bD | refine bS ?_ GE172.out | refine bS ?_ GE173.out | refine bS ?_ GE174.out) | exact HB.out)) hb)
       clear HO_175004
       clear BK172
       clear BK173
       clear BK174
       clear HB
       have HO_175004 := n0_
       have HO177 := n1_
       have BK172 := n2_
       have BK173 := n3_
       have BK174 := n4_
       have HB := n5_
       clear n0_ n1_ n2_ n3_ n4_ n5_
       clear hb ho19
       refine hK.out _ _ ⟨(bC BK174.out 0).trans rfl, (bC BK174.out 1).trans rfl, (bC BK174.out 2).trans rfl, (bC BK174.out 3).trans rfl, (bC BK174.out 4).trans rfl, (bC BK172.out 0).trans rfl, (bC BK172.out 1).trans rfl, (bC BK172.out 2).trans rfl, (bC BK172.out 3).trans rfl, (bC BK172.out 4).trans rfl, ((HB.out.cell (World.block_lt_of_cell? w _ hw178_0)).trans hw178_0)⟩ (fun hHeld => ?_)
       clear hK K
       refine norm_ (a' := ?_) ?_ ?_
       rotate_left
       ·show Act.put _ (some 17) _ = _
        simp only [Act.put, List.setIfInBounds_toArray, List.set_cons_zero, List.set_cons_succ, i64_w, i32_w]
        rfl
       refine one_ (i := 8) (N := some 23) #[true, true, true, true, true, true, true, true, true, false, false, false, false] rfl rfl (one_of HT_.out (by kernel_rfl)) (by decide) (fun K hK => ?_)
       refine Kd.R_append_rows_step (Kd.int .u16) (w0 := w) w.heap.size (by rfl) (.tmp 17) (.tmp 22) 53 72 (.int .u16 0) 2 rfl Try.underlying53 info72 rfl (by decide) (by omega) v176 y175 (rd_L1 l0_4 x4_1) _ _ _ (fun _ => True) (fun _ => False) rfl rfl ?aO ?aR (fun _ _ h => h) (fun _ h => h.elim) ?aF ?aB ?aS ?aL ?_
       (case aR => repeat (first | exact (Kd.C_below HR178_0.out HB.out) | (with_reducible refine Kd.C_alloc ?_ _) | (with_reducible refine Kd.C_drewN ?_ _) | (with_reducible refine Kd.C_drew ?_)))
       (case aB => exact (by repeat (first | (with_reducible first | exact HB.out | apply bA | apply bN | apply bD | refine bS ?_ GE172.out | refine bS ?_ GE173.out | refine bS ?_ GE174.out) | exact HB.out)))
       (case aF => exact (fun _ _ => trivial))
       (case aO => exact (by (with_reducible repeat (first | apply Kd.R_alloc | apply Kd.R_drewN | apply Kd.R_drew)); exact HO177.out))
       (case aS => exact (bU (by repeat (first | (with_reducible first | exact HB.out | apply bA | apply bN | apply bD | refine bS ?_ GE172.out | refine bS ?_ GE173.out | refine bS ?_ GE174.out) | exact HB.out))))
       (case aL => have := LMc12.out; omega)
       intro v180 w20 ho hb hg hat
       rw [← Ny179.out] at ho
       have n0_ := am (Kd.S_after (ok := (fun _ => True)) (by (with_reducible repeat (first | apply kA | apply kN | apply kD)); exact HO_175004.out) hg hat)
       have n1_ := am (blk_grown (g := gb172) (o := .cells #[.int .i64 a0_0, .int .i64 a0_1, .int .i64 a0_2, .bool a0_3, .slice (some ad178) l0_4.length c0_4] 39 (0, 0)) (by (with_reducible repeat apply dX); exact BK172.out) hg (Kd.R_ne HO177.out BK172.out (by decide)))
       have n2_ := am (blk_grown (g := gb173) (o := .cells #[.int .i64 0, .int .i64 0, .int .i64 0, .bool false, .slice none 0 0] 39 (0, 0)) (by (with_reducible repeat apply dX); exact BK173.out) hg (Kd.R_ne HO177.out BK173.out (by decide)))
       have n3_ := am (blk_grown (g := gb174) (o := .cells #[.int .i64 a0_0, .int .i64 a0_1, .int .i64 a0_2, .bool a0_3, u175004] 39 (0, 0)) (by (with_reducible repeat apply dX); exact BK174.out) hg (Kd.R_ne HO177.out BK174.out (by decide)))
       have n4_ := am (hb)
       have n5_ := am (ho)
       clear HO_175004
       clear BK172
       clear BK173
       clear BK174
       clear HB
       clear HO177
       have HO_175004 := n0_
       have BK172 := n1_
       have BK173 := n2_
       have BK174 := n3_
       have HB := n4_
       have HO181 := n5_
       clear n0_ n1_ n2_ n3_ n4_ n5_
       clear ho hb hg hat
       obtain ⟨Ao22, co22, eo22⟩ := Kd.R_slice HO181.out
       (first | subst eo22 | (injection eo22 with f1_ f2_ f3_; have f4_ := f1_.symm; have f5_ := f3_.symm; clear f1_ f2_ f3_; subst f4_; subst f5_))
       refine hK.out _ _ ⟨(bC BK174.out 0).trans rfl, (bC BK174.out 1).trans rfl, (bC BK174.out 2).trans rfl, (bC BK174.out 3).trans rfl, (bC BK174.out 4).trans rfl, (bC BK172.out 0).trans rfl, (bC BK172.out 1).trans rfl, (bC BK172.out 2).trans rfl, (bC BK172.out 3).trans rfl, (bC BK172.out 4).trans rfl, ((HB.out.cell (World.block_lt_of_cell? w _ hw178_0)).trans hw178_0)⟩ (fun hHeld => ?_)
       clear hK K
       refine norm_ (a' := ?_) ?_ ?_
       rotate_left
       ·show Act.put _ (some 23) _ = _
        simp only [Act.put, List.setIfInBounds_toArray, List.set_cons_zero, List.set_cons_succ, i64_w, i32_w]
        rfl
       refine one_ (i := 9) (N := some 24) #[true, true, true, true, true, true, true, true, true, true, false, false, false] rfl rfl (one_of HT_.out (by kernel_rfl)) (by decide) (fun K hK => ?_)
       refine value_ (w1 := ?_) (v := ?_) (by rfl) rfl ?_ ?_
       rotate_left 2
       ·go_simp
        constructor
        ·rfl
        ·rfl
       refine hK.out _ _ ⟨(bC (blk_alloc BK174.out _) 0).trans rfl, (bC (blk_alloc BK174.out _) 1).trans rfl, (bC (blk_alloc BK174.out _) 2).trans rfl, (bC (blk_alloc BK174.out _) 3).trans rfl, (bC (blk_alloc BK174.out _) 4).trans rfl, (bC (blk_alloc BK172.out _) 0).trans rfl, (bC (blk_alloc BK172.out _) 1).trans rfl, (bC (blk_alloc BK172.out _) 2).trans rfl, (bC (blk_alloc BK172.out _) 3).trans rfl, (bC (blk_alloc BK172.out _) 4).trans rfl, (World.cell?_alloc_lt _ _ _ (World.block_lt_of_cell? _ _ (((HB.out.cell (World.block_lt_of_cell? w _ hw178_0)).trans hw178_0)))).trans (((HB.out.cell (World.block_lt_of_cell? w _ hw178_0)).trans hw178_0))⟩ (fun hHeld => ?_)
       clear hK K
       refine norm_ (a' := ?_) ?_ ?_
       rotate_left
       ·show Act.put _ (some 24) _ = _
        simp only [Act.put, List.setIfInBounds_toArray, List.set_cons_zero, List.set_cons_succ, i64_w, i32_w]
        rfl
       refine one_ (i := 10) (N := some 25) #[true, true, true, true, true, true, true, true, true, true, true, false, false] rfl rfl (one_of HT_.out (by kernel_rfl)) (by decide) (fun K hK => ?_)
       refine Kd.S_append_step (Kd.slice 72 (Kd.int .u16)) (w0 := w) w.heap.size (by rfl) (.tmp 16) (.tmp 24) 37 53 (.slice none 0 0) 24 rfl Try.underlying37 info53 rfl (by decide) (by omega) u175004 x175004_1 y179 [.slice Ao22 y179.length co22] (fun _ => True) (fun k_ => some k_ = (.slice Ao22 y179.length co22 : Value).ownBlock) rfl rfl ?aP (fun k_ hk_ => ((Kd.R_mono (ok' := fun k_ => ((fun _ => True)) k_ ∧ some k_ ≠ (u175004 : Value).ownBlock) (Kd.R_apart' (HO181.out) (Kd.S_typed HO_175004.out) (by decide)) (fun k_ hk => ⟨trivial, hk.2⟩))).1 k_ hk_.symm) ?aF ?aO ?aB ?aS ?aL ?_
       (case aP => exact Kd.M_row (Kd.R_mono (Kd.R_tight rfl (Kd.R_mono (ok' := fun k_ => ((fun _ => True)) k_ ∧ some k_ ≠ (u175004 : Value).ownBlock) (Kd.R_apart' (HO181.out) (Kd.S_typed HO_175004.out) (by decide)) (fun k_ hk => ⟨trivial, hk.2⟩))) (fun _ h_ => h_)))
       (case aB => exact (by repeat (first | (with_reducible first | exact HB.out | apply bA | apply bN | apply bD | refine bS ?_ GE172.out | refine bS ?_ GE173.out | refine bS ?_ GE174.out) | exact HB.out)))
       (case aF => exact (fun _ _ => trivial))
       (case aO => exact (by (with_reducible repeat (first | apply kA | apply kN | apply kD)); exact Kd.S_mono HO_175004.out (fun k_ hk => ⟨trivial, fun e_ => hk.2 e_⟩)))
       (case aS => exact (bU (by repeat (first | (with_reducible first | exact HB.out | apply bA | apply bN | apply bD | refine bS ?_ GE172.out | refine bS ?_ GE173.out | refine bS ?_ GE174.out) | exact HB.out))))
       (case aL => have := LMc13.out; omega)
       intro v183 w21 ho hb hg hat
       rw [← Ny182.out] at ho
       have n0_ := am (blk_grown (g := gb172) (o := .cells #[.int .i64 a0_0, .int .i64 a0_1, .int .i64 a0_2, .bool a0_3, .slice (some ad178) l0_4.length c0_4] 39 (0, 0)) (by (with_reducible repeat apply dX); exact BK172.out) hg (Kd.S_ne HO_175004.out BK172.out (by decide)))
       have n1_ := am (blk_grown (g := gb173) (o := .cells #[.int .i64 0, .int .i64 0, .int .i64 0, .bool false, .slice none 0 0] 39 (0, 0)) (by (with_reducible repeat apply dX); exact BK173.out) hg (Kd.S_ne HO_175004.out BK173.out (by decide)))
       have n2_ := am (blk_grown (g := gb174) (o := .cells #[.int .i64 a0_0, .int .i64 a0_1, .int .i64 a0_2, .bool a0_3, u175004] 39 (0, 0)) (by (with_reducible repeat apply dX); exact BK174.out) hg (Kd.S_ne HO_175004.out BK174.out (by decide)))
       have n3_ := am (hb)
       have n4_ := am (ho)
       clear BK172
       clear BK173
       clear BK174
       clear HB
       clear HO_175004
       clear HO181
       have BK172 := n0_
       have BK173 := n1_
       have BK174 := n2_
       have HB := n3_
       have HO184 := n4_
       clear n0_ n1_ n2_ n3_ n4_
       clear ho hb hg hat
       obtain ⟨Ao23, co23, eo23⟩ := Kd.S_slice HO184.out
       (first | subst eo23 | (injection eo23 with f1_ f2_ f3_; have f4_ := f1_.symm; have f5_ := f3_.symm; clear f1_ f2_ f3_; subst f4_; subst f5_))
       refine hK.out _ _ ⟨(bC BK174.out 0).trans rfl, (bC BK174.out 1).trans rfl, (bC BK174.out 2).trans rfl, (bC BK174.out 3).trans rfl, (bC BK174.out 4).trans rfl, (bC BK172.out 0).trans rfl, (bC BK172.out 1).trans rfl, (bC BK172.out 2).trans rfl, (bC BK172.out 3).trans rfl, (bC BK172.out 4).trans rfl, ((HB.out.cell (World.block_lt_of_cell? w _ hw178_0)).trans hw178_0)⟩ (fun hHeld => ?_)
       clear hK K
       refine norm_ (a' := ?_) ?_ ?_
       rotate_left
       ·show Act.put _ (some 25) _ = _
        simp only [Act.put, List.setIfInBounds_toArray, List.set_cons_zero, List.set_cons_succ, i64_w, i32_w]
        rfl
       refine pure_ (i := 11) (N := some 26) (v := ?_) (a' := ?_) #[true, true, true, true, true, true, true, true, true, true, true, true, false] rfl rfl (any_of HT_.out (by kernel_rfl)) (fun _ _ _ h => h) (Or.inl ⟨by rfl, ?_⟩) ?_ ?_
       rotate_left
       ·intro w'
        go_simp
        with_reducible rfl
       rotate_left
       ·simp only [Act.put, List.setIfInBounds_toArray, List.set_cons_zero, List.set_cons_succ, i64_w, i32_w]
        rfl
       refine last_ (i := 12) (N := none) #[true, true, true, true, true, true, true, true, true, true, true, true, true] rfl rfl (one_of HT_.out (by kernel_rfl)) (by decide) (fun K hK => ?_)
       have hs24 : w21.cell? ⟨gb174, 4, none⟩ = some (u175004) := (bC BK174.out 4).trans rfl
       have hfs24 := bZ BK174.out 4
       have hns24_0 := NB172_174.out
       have hns24_1 := NB173_174.out
       have hms24_0 := NB174_172.out
       have hms24_1 := NB174_173.out
       refine skip_ (w1 := ?_) (by rfl) rfl ?_ ?_
       rotate_left
       ·go_simp
        rfl
       refine hK.out _ _ ?_
       clear hK K
       refine done_ (done_of HT_.out (by kernel_rfl)) ?_
       try go_wp2
       go_roundg k1
       case measure => have := HK1.out; omega
       case rel => exact ⟨(wrap64 (x4_1 + 1)), (y182), (.slice Ao23 y182.length co23), (by first | rfl | (simp; done) | (simp [*]; done)), H', ⟨by have := HK1.out; omega⟩, ⟨by (with_reducible repeat (first | apply kA | apply kN | apply kD)); exact Kd.S_mono (kF (p := ⟨gb174, 4, none⟩) (kT HO184.out BK174.out (by decide)) (fun _ hk => hk.2) (.slice Ao23 y182.length co23)) (fun _ hk => trivial)⟩, ⟨by (with_reducible repeat apply dX); refine bF ?_ NB172_174.out _; (with_reducible repeat apply dX); exact BK172.out⟩, ⟨by (with_reducible repeat apply dX); refine bF ?_ NB173_174.out _; (with_reducible repeat apply dX); exact BK173.out⟩, ⟨by (with_reducible repeat apply dX); refine bP (cs := #[.int .i64 a0_0, .int .i64 a0_1, .int .i64 a0_2, .bool a0_3, u175004]) ?_ 4 _ rfl; (with_reducible repeat apply dX); exact BK174.out⟩, ⟨by repeat (first | (with_reducible first | exact HB.out | apply bA | apply bN | apply bD | refine bS ?_ GE172.out | refine bS ?_ GE173.out | refine bS ?_ GE174.out) | exact HB.out)⟩⟩
      ·rw [if_neg c13] at H
       exact absurd H (by simp)
     ·rw [if_neg c12] at H
      exact absurd H (by simp)
    ·rw [if_neg c11] at H
     exact absurd H (by simp)
   ·rw [if_neg c10] at H
    have c10b0 : decide (x4_1 < (l0_4.length : Int)) = false := decide_eq_false c10
    clear c10
    simp only [Option.some.injEq, Prod.mk.injEq] at H
    obtain ⟨rfl, rfl, rfl, rfl, rfl⟩ := H
    have hnb25 := NB172_173.out
    have hnc25 := NB173_172.out
    have hnb26 := NB172_174.out
    have hnc26 := NB174_172.out
    have hcz27_0 : wr.cell? ⟨gb172, 0, none⟩ = some (.int .i64 a0_0) := (bC BK172.out 0).trans rfl
    have hcz27_1 : wr.cell? ⟨gb172, 1, none⟩ = some (.int .i64 a0_1) := (bC BK172.out 1).trans rfl
    have hcz27_2 : wr.cell? ⟨gb172, 2, none⟩ = some (.int .i64 a0_2) := (bC BK172.out 2).trans rfl
    have hcz27_3 : wr.cell? ⟨gb172, 3, none⟩ = some (.bool a0_3) := (bC BK172.out 3).trans rfl
    have hcz27_4 : wr.cell? ⟨gb172, 4, none⟩ = some (.slice A0_4 l0_4.length c0_4) := (bC BK172.out 4).trans rfl
    have hfz27_0 := bZ BK172.out 0
    have hfz27_1 := bZ BK172.out 1
    have hfz27_2 := bZ BK172.out 2
    have hfz27_3 := bZ BK172.out 3
    have hfz27_4 := bZ BK172.out 4
    have hnb28 := NB174_173.out
    have hnc28 := NB173_174.out
    have hcz29_0 : wr.cell? ⟨gb174, 0, none⟩ = some (.int .i64 a0_0) := (bC BK174.out 0).trans rfl
    have hcz29_1 : wr.cell? ⟨gb174, 1, none⟩ = some (.int .i64 a0_1) := (bC BK174.out 1).trans rfl
    have hcz29_2 : wr.cell? ⟨gb174, 2, none⟩ = some (.int .i64 a0_2) := (bC BK174.out 2).trans rfl
    have hcz29_3 : wr.cell? ⟨gb174, 3, none⟩ = some (.bool a0_3) := (bC BK174.out 3).trans rfl
    have hcz29_4 : wr.cell? ⟨gb174, 4, none⟩ = some (u175004) := (bC BK174.out 4).trans rfl
    have hfz29_0 := bZ BK174.out 0
    have hfz29_1 := bZ BK174.out 1
    have hfz29_2 := bZ BK174.out 2
    have hfz29_3 := bZ BK174.out 3
    have hfz29_4 := bZ BK174.out 4
    have hcz30_0 : wr.cell? ⟨gb173, 0, none⟩ = some (.int .i64 0) := (bC BK173.out 0).trans rfl
    have hcz30_1 : wr.cell? ⟨gb173, 1, none⟩ = some (.int .i64 0) := (bC BK173.out 1).trans rfl
    have hcz30_2 : wr.cell? ⟨gb173, 2, none⟩ = some (.int .i64 0) := (bC BK173.out 2).trans rfl
    have hcz30_3 : wr.cell? ⟨gb173, 3, none⟩ = some (.bool false) := (bC BK173.out 3).trans rfl
    have hcz30_4 : wr.cell? ⟨gb173, 4, none⟩ = some (.slice none 0 0) := (bC BK173.out 4).trans rfl
    have hfz30_0 := bZ BK173.out 0
    have hfz30_1 := bZ BK173.out 1
    have hfz30_2 := bZ BK173.out 2
    have hfz30_3 := bZ BK173.out 3
    have hfz30_4 := bZ BK173.out 4
    obtain ⟨Ao31, co31, eo31⟩ := Kd.S_slice HO_175004.out
    subst eo31
    go_wp2
    refine bodyPost_ret (results_cell_row rfl _ _ gb173 39 #[.int .i64 a0_0, .int .i64 a0_1, .int .i64 a0_2, .bool a0_3, .slice Ao31 x175004_1.length co31] (0, 0) _ rfl (by (with_reducible repeat apply dX); refine bP (cs := #[.int .i64 a0_0, .int .i64 a0_1, .int .i64 a0_2, .bool a0_3, .slice none 0 0]) ?_ 4 _ rfl; (with_reducible repeat apply dX); refine bP (cs := #[.int .i64 a0_0, .int .i64 a0_1, .int .i64 a0_2, .bool false, .slice none 0 0]) ?_ 3 _ rfl; (with_reducible repeat apply dX); refine bP (cs := #[.int .i64 a0_0, .int .i64 a0_1, .int .i64 0, .bool false, .slice none 0 0]) ?_ 2 _ rfl; (with_reducible repeat apply dX); refine bP (cs := #[.int .i64 a0_0, .int .i64 0, .int .i64 0, .bool false, .slice none 0 0]) ?_ 1 _ rfl; (with_reducible repeat apply dX); refine bP (cs := #[.int .i64 0, .int .i64 0, .int .i64 0, .bool false, .slice none 0 0]) ?_ 0 _ rfl; (with_reducible repeat apply dX); exact BK173.out) Try.underlying39 rfl (by kernel_rfl)) rfl ?_
    exact ⟨_, by first | rfl | (simp [errW_none, errW_some] <;> rfl) | (simp [*, errW_none, errW_some] <;> rfl), by (with_reducible repeat (first | apply kA | apply kN | apply kD)); exact Kd.S_mono (kF (p := ⟨gb173, 4, none⟩) (kF (p := ⟨gb173, 3, none⟩) (kF (p := ⟨gb173, 2, none⟩) (kF (p := ⟨gb173, 1, none⟩) (kF (p := ⟨gb173, 0, none⟩) (kT HO_175004.out BK173.out (by decide)) (fun _ hk => hk.2) (.int .i64 a0_0)) (fun _ hk => hk.2) (.int .i64 a0_1)) (fun _ hk => hk.2) (.int .i64 a0_2)) (fun _ hk => hk.2) (.bool a0_3)) (fun _ hk => hk.2) (.slice Ao31 x175004_1.length co31)) (fun _ hk => trivial), by repeat (first | (with_reducible first | exact HB.out | apply bA | apply bN | apply bD | refine bS ?_ GE172.out | refine bS ?_ GE173.out | refine bS ?_ GE174.out) | exact HB.out)⟩

end Go.Proofs.Ytdoikehkibefpaa.PPb
