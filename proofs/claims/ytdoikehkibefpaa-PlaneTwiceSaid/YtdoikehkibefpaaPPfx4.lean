-- Laid by a program of this session (wip/tools/prx.py), over the kit's printer of walks; Lean checks it.
import Derived.Test.YtdoikehkibefpaaPPfx0
import Derived.Test.YtdoikehkibefpaaPPfx2
namespace Go.Proofs.Ytdoikehkibefpaa.PPf
open Go.RowKit Go.Proofs.YtdoikehkibefpaaW.PrintWords Go.Proofs.YtdoikehkibefpaaW.PrintLast Go.Proofs.YtdoikehkibefpaaW.PrintMore
open Go.Proofs.YtdoikehkibefpaaW.PrintWords renaming blk_far → bF, below_set → bS, blk_frozen → bZ, below_alloc → bA, pw_below_drewN → bN, below_drew1 → bD, blk_below → bB, blk_cell → bC, blk_set → bs, blk_lt → bL, blk_put → bP, below_step → bT, below_size → bU, box_event → bE, gate_dst → gD
open Go.Proofs.YtdoikehkibefpaaW.PrintWords.Kd renaming S_far → kF, S_types → kT, S_alloc → kA, S_drewN → kN, S_drew → kD
attribute [local go_sem] max2_int min2_int max_two min_two max_three min_three max_four min_four   -- for this text's walks alone
set_option linter.unusedVariables false
set_option linter.unusedSimpArgs false

/-! ### plane_taken: function 66 -/
def plane_taken.l0 : Nat → List Int → Int → List Int → Int → Int → Int → Int → Int → Option (List Int)
  | 0, _, _, _, _, _, _, _, _ => none
  | k + 1, x0, x1, x7, x8, x121000, x121001, x121002, x121003 => if x8 < (wrap64 (x121001 + x121003)) then (if 0 ≤ (wrap64 ((wrap64 (x8 * x1)) + x121000)) then (if (wrap64 ((wrap64 (x8 * x1)) + x121000)) ≤ (wrap64 ((wrap64 ((wrap64 (x8 * x1)) + x121000)) + x121002)) then (if (wrap64 ((wrap64 ((wrap64 (x8 * x1)) + x121000)) + x121002)) ≤ (x0.length : Int) then (if x7.length + ((x0.take ((wrap64 ((wrap64 ((wrap64 (x8 * x1)) + x121000)) + x121002)) : Int).toNat).drop ((wrap64 ((wrap64 (x8 * x1)) + x121000)) : Int).toNat).length < 70368744177664 then (plane_taken.l0 k x0 x1 (x7 ++ ((x0.take ((wrap64 ((wrap64 ((wrap64 (x8 * x1)) + x121000)) + x121002)) : Int).toNat).drop ((wrap64 ((wrap64 (x8 * x1)) + x121000)) : Int).toNat)) (wrap64 (x8 + 1)) x121000 x121001 x121002 x121003) else (none)) else (none)) else (none)) else (none)) else (some x7)
def plane_taken.f (k : Nat) (l0 : List Int) (a1 : Int) (a2_0 : Int) (a2_1 : Int) (a2_2 : Int) (a2_3 : Int) : Option (List Int) := if 0 ≤ (wrap64 (a2_2 * a2_3)) then (if (wrap64 (a2_2 * a2_3) : Int).toNat ≤ 140737488355328 then (plane_taken.l0 k l0 a1 (([] : List Int)) a2_1 a2_0 a2_1 a2_2 a2_3) else (none)) else (none)
theorem plane_taken.mono_l : ∀ k, (∀ y0 y1 y2 y3 y4 y5 y6 y7, LeO (plane_taken.l0 k y0 y1 y2 y3 y4 y5 y6 y7) (plane_taken.l0 (k + 1) y0 y1 y2 y3 y4 y5 y6 y7))
  | 0 => fun _ _ _ _ _ _ _ _ r h => by simp [plane_taken.l0] at h
  | k + 1 => by
    have ih0 := plane_taken.mono_l k
    · intro y0 y1 y2 y3 y4 y5 y6 y7
      unfold plane_taken.l0
      repeat' first
      | (with_reducible exact ih0 _ _ _ _ _ _ _ _)
      | (with_reducible exact LeO.refl _)
      | (with_reducible exact LeO.none _)
      | (with_reducible refine LeO.ite ?_ ?_)
      | (with_reducible refine LeO.bind ?_ (fun _ => ?_))
      | exact ih0 _ _ _ _ _ _ _ _
      | exact LeO.none _
      | refine LeO.ite ?_ ?_
      | refine LeO.bind ?_ (fun _ => ?_)
theorem plane_taken.mono : ∀ a0 a1 a2 a3 a4 a5 k, LeO (plane_taken.f k a0 a1 a2 a3 a4 a5) (plane_taken.f (k + 1) a0 a1 a2 a3 a4 a5) := by
  intro a0 a1 a2 a3 a4 a5 k
  have ih0 := plane_taken.mono_l k
  unfold plane_taken.f
  repeat' first
      | (with_reducible exact ih0 _ _ _ _ _ _ _ _)
      | (with_reducible exact LeO.refl _)
      | (with_reducible exact LeO.none _)
      | (with_reducible refine LeO.ite ?_ ?_)
      | (with_reducible refine LeO.bind ?_ (fun _ => ?_))
      | exact ih0 _ _ _ _ _ _ _ _
      | exact LeO.none _
      | refine LeO.ite ?_ ?_
      | refine LeO.bind ?_ (fun _ => ?_)
set_option maxHeartbeats 8000000 in
set_option maxRecDepth 100000 in
theorem plane_taken.calls (k : Nat) (A0 : Option Addr) (c0 : Nat) (l0 : List Int) (a1 : Int) (a2_0 : Int) (a2_1 : Int) (a2_2 : Int) (a2_3 : Int) (r : List Int) (w : World) (hr0 : Kd.C (Kd.int .u16) w A0 l0.length l0) (hc0 : l0.length ≤ c0) (h : plane_taken.f k l0 a1 a2_0 a2_1 a2_2 a2_3 = some r) :
    Calls Try.prog 66 #[.slice A0 l0.length c0, .int .i64 a1, .agg #[.int .i64 a2_0, .int .i64 a2_1, .int .i64 a2_2, .int .i64 a2_3]] w fun e w' => ∃ v0_ : Value, e = .returned (v0_) ∧ Kd.R (Kd.int .u16) 72 w' w.heap.size (fun _ => True) v0_ r ∧ Below w.heap.size w w' := by
  have hu52 := Try.underlying52
  have HR0 := am hr0
  have HC0 := am hc0
  clear hr0 hc0
  have HB := am (Below.refl w.heap.size w)
  have H : (if 0 ≤ (wrap64 (a2_2 * a2_3)) then (if (wrap64 (a2_2 * a2_3) : Int).toNat ≤ 140737488355328 then (plane_taken.l0 k l0 a1 (([] : List Int)) a2_1 a2_0 a2_1 a2_2 a2_3) else (none)) else (none)) = some r := h
  clear h
  obtain ⟨ji4, hji4⟩ : ∃ j_ : Int, (wrap64 (a2_2 * a2_3)) = j_ := ⟨_, rfl⟩
  replace H : (if 0 ≤ (ji4) then (if (ji4 : Int).toNat ≤ 140737488355328 then (plane_taken.l0 k l0 a1 (([] : List Int)) a2_1 a2_0 a2_1 a2_2 a2_3) else (none)) else (none)) = some r := by first | (rw [hji4] at H; exact H) | (simp only [hji4] at H ⊢; exact H)
  have hji4w : (IntKind.i64.wrap (a2_2 * a2_3)) = ji4 := (i64_w _).trans hji4
  by_cases c5 : 0 ≤ (ji4)
  · rw [if_pos c5] at H
    have c5b0 := eq_true c5
    have c5b1 : decide (0 ≤ (ji4)) = true := decide_eq_true c5
    clear c5
    by_cases c6 : (ji4 : Int).toNat ≤ 140737488355328
    · rw [if_pos c6] at H
      have c6b0 := eq_true c6
      have c6b1 : decide ((ji4 : Int).toNat ≤ 140737488355328) = true := decide_eq_true c6
      clear c6
      obtain ⟨y121, hy121⟩ : ∃ y_ : List Int, y_ = (([] : List Int)) := ⟨_, rfl⟩
      replace H : (plane_taken.l0 k l0 a1 y121 a2_1 a2_0 a2_1 a2_2 a2_3) = some r := by first | (rw [hy121]; with_reducible exact H) | (have H2_ := (Option.bind_some _ _).symm.trans H; rw [hy121]; with_reducible exact H2_) | (have H2_ := (Option.bind_some _ _).symm.trans H; with_reducible exact H2_) | with_reducible exact H | (rw [hy121]; exact H) | exact H
      have Ny121 := am hy121
      clear hy121
      have H' := am H
      clear H
      go_enter Try.func66, Try.ntmps66
      go_wp2_with (first | ((with_reducible refine gD (N := 5) rfl ?_); refine bE ?hg (N := 5) ?hd (cs := #[.int .i64 a2_0, .int .i64 a2_1, .int .i64 a2_2, .int .i64 a2_3]) (t := 52) ?hr ?_; (case hd => rfl); (case hg => rfl); (case hr => first | (go_simp; done) | (go_simp; rfl)); intro gb120 hg w7 hbox hb; have n0_ := am (bT (by repeat (first | (with_reducible first | exact HB.out | apply bA | apply bN | apply bD) | exact HB.out)) hb); have n1_ := am (hbox); have n2_ := am ((by rw [hg]; exact (bU (by repeat (first | (with_reducible first | exact HB.out | apply bA | apply bN | apply bD) | exact HB.out))) : w.heap.size ≤ gb120)); have n3_ := am ((by rw [hg]; exact (bU (by repeat (first | (with_reducible first | exact HB.out | apply bA | apply bN | apply bD) | exact HB.out))) : w.heap.size ≤ gb120)); clear HB; have HB := n0_; have BK120 := n1_; have GW120 := n2_; have GE120 := n3_; clear n0_ n1_ n2_ n3_; clear hb hbox hg; have hcz8_0 : w7.cell? ⟨gb120, 0, none⟩ = some (.int .i64 a2_0) := (bC BK120.out 0).trans rfl; have hcz8_1 : w7.cell? ⟨gb120, 1, none⟩ = some (.int .i64 a2_1) := (bC BK120.out 1).trans rfl; have hcz8_2 : w7.cell? ⟨gb120, 2, none⟩ = some (.int .i64 a2_2) := (bC BK120.out 2).trans rfl; have hcz8_3 : w7.cell? ⟨gb120, 3, none⟩ = some (.int .i64 a2_3) := (bC BK120.out 3).trans rfl; have hfz8_0 := bZ BK120.out 0; have hfz8_1 := bZ BK120.out 1; have hfz8_2 := bZ BK120.out 2; have hfz8_3 := bZ BK120.out 3) | ((with_reducible refine gD (N := 14) rfl ?_); refine Kd.R_make0 (Kd.int .u16) _ 72 rfl (N := 14) rfl 53 _ _ rfl ji4 rfl rfl Try.underlying53 (.int .u16 0) 2 info72 rfl (by decide) (by omega) 0 (ok := fun _ => True) (okp := fun _ => True) rfl (fun _ hk => hk) trivial (of_decide_eq_true (by first | (with_reducible assumption) | assumption)) (Nat.le_trans (Nat.mul_le_mul_right _ (of_decide_eq_true (by first | (with_reducible assumption) | assumption) : ji4.toNat ≤ 140737488355328)) (by omega)) (Below.refl _ _) (Nat.le_refl _) ?_; intro v122 w9 ho10 hb hg_ hnew_; clear hg_ hnew_; (first | rw [← Ny121.out] at ho10 | (simp only [Int.reduceToNat] at ho10; rw [← Ny121.out] at ho10)); have n0_ := am (Kd.R_lower ho10 (bU (by repeat (first | (with_reducible first | exact HB.out | apply bA | apply bN | apply bD | refine bS ?_ GE120.out) | exact HB.out)))); have n1_ := am (bB (g := gb120) (o := .cells #[.int .i64 a2_0, .int .i64 a2_1, .int .i64 a2_2, .int .i64 a2_3] 52 (0, 0)) (by (with_reducible repeat apply dX); exact BK120.out) hb); have n2_ := am (bT (by repeat (first | (with_reducible first | exact HB.out | apply bA | apply bN | apply bD | refine bS ?_ GE120.out) | exact HB.out)) hb); clear BK120; clear HB; have HO123 := n0_; have BK120 := n1_; have HB := n2_; clear n0_ n1_ n2_; clear hb ho10; have hcz11_0 : w9.cell? ⟨gb120, 0, none⟩ = some (.int .i64 a2_0) := (bC BK120.out 0).trans rfl; have hcz11_1 : w9.cell? ⟨gb120, 1, none⟩ = some (.int .i64 a2_1) := (bC BK120.out 1).trans rfl; have hcz11_2 : w9.cell? ⟨gb120, 2, none⟩ = some (.int .i64 a2_2) := (bC BK120.out 2).trans rfl; have hcz11_3 : w9.cell? ⟨gb120, 3, none⟩ = some (.int .i64 a2_3) := (bC BK120.out 3).trans rfl; have hfz11_0 := bZ BK120.out 0; have hfz11_1 := bZ BK120.out 1; have hfz11_2 := bZ BK120.out 2; have hfz11_3 := bZ BK120.out 3))
      go_loopg [7, 8] k (fun kq v7 v8 w' => ∃ (x7_1 : List Int) (x8_1 : Int), v8 = .int .i64 x8_1 ∧ Aside0 (plane_taken.l0 kq l0 a1 x7_1 x8_1 a2_0 a2_1 a2_2 a2_3 = some r) ∧ Aside0 (kq ≤ k) ∧ Aside0 (Kd.R (Kd.int .u16) 72 w' w.heap.size (fun _ => True) v7 x7_1) ∧ Aside0 (w'.heap[gb120]? = some (.cells #[.int .i64 a2_0, .int .i64 a2_1, .int .i64 a2_2, .int .i64 a2_3] 52 (0, 0))) ∧ Aside0 (Below w.heap.size w w'))
      case atStart => exact ⟨(y121), (a2_1), (by first | rfl | (simp; done) | (simp [*]; done)), H', ⟨Nat.le_refl _⟩, ⟨by (with_reducible repeat (first | apply Kd.R_alloc | apply Kd.R_drewN | apply Kd.R_drew)); exact HO123.out⟩, ⟨by (with_reducible repeat apply dX); exact BK120.out⟩, ⟨by repeat (first | (with_reducible first | exact HB.out | apply bA | apply bN | apply bD | refine bS ?_ GE120.out) | exact HB.out)⟩⟩
      case round =>
        clear H'
        try clear p2
        try clear c5
        try clear c5b0
        try clear c5b1
        try clear c6
        try clear c6b0
        try clear c6b1
        try clear p6
        try clear hcz11_0
        try clear hcz11_1
        try clear hcz11_2
        try clear hcz11_3
        try clear hcz8_0
        try clear hcz8_1
        try clear hcz8_2
        try clear hcz8_3
        try clear hfz11_0
        try clear hfz11_1
        try clear hfz11_2
        try clear hfz11_3
        try clear hfz8_0
        try clear hfz8_1
        try clear hfz8_2
        try clear hfz8_3
        obtain ⟨x7_1, x8_1, rfl, HA, HK1, HO_7, BK120, HB⟩ := hrel
        cases gk with
        | zero => exact absurd HA.out (by simp [plane_taken.l0])
        | succ k1 =>
          have H := HA.out
          clear HA
          simp only [plane_taken.l0] at H
          by_cases c12 : x8_1 < (wrap64 (a2_1 + a2_3))
          · rw [if_pos c12] at H
            have c12b0 : decide (x8_1 < (wrap64 (a2_1 + a2_3))) = true := decide_eq_true c12
            clear c12
            obtain ⟨ji13, hji13⟩ : ∃ j_ : Int, (wrap64 ((wrap64 (x8_1 * a1)) + a2_0)) = j_ := ⟨_, rfl⟩
            replace H : (if 0 ≤ (ji13) then (if (ji13) ≤ (wrap64 ((ji13) + a2_2)) then (if (wrap64 ((ji13) + a2_2)) ≤ (l0.length : Int) then (if x7_1.length + ((l0.take ((wrap64 ((ji13) + a2_2)) : Int).toNat).drop ((ji13) : Int).toNat).length < 70368744177664 then (plane_taken.l0 k1 l0 a1 (x7_1 ++ ((l0.take ((wrap64 ((ji13) + a2_2)) : Int).toNat).drop ((ji13) : Int).toNat)) (wrap64 (x8_1 + 1)) a2_0 a2_1 a2_2 a2_3) else (none)) else (none)) else (none)) else (none)) = some r := by first | (rw [hji13] at H; exact H) | (simp only [hji13] at H ⊢; exact H)
            have hji13w : (IntKind.i64.wrap ((wrap64 (x8_1 * a1)) + a2_0)) = ji13 := (i64_w _).trans hji13
            by_cases c14 : 0 ≤ (ji13)
            · rw [if_pos c14] at H
              have c14b0 := eq_true c14
              have c14b1 : decide (0 ≤ (ji13)) = true := decide_eq_true c14
              clear c14
              by_cases c15 : (ji13) ≤ (wrap64 ((ji13) + a2_2))
              · rw [if_pos c15] at H
                have c15b0 := eq_true c15
                have c15b1 : decide ((ji13) ≤ (wrap64 ((ji13) + a2_2))) = true := decide_eq_true c15
                by_cases c16 : (wrap64 ((ji13) + a2_2)) ≤ (l0.length : Int)
                · rw [if_pos c16] at H
                  have c16b0 := eq_true c16
                  have c16b1 : decide ((wrap64 ((ji13) + a2_2)) ≤ (l0.length : Int)) = true := decide_eq_true c16
                  by_cases c17 : x7_1.length + ((l0.take ((wrap64 ((ji13) + a2_2)) : Int).toNat).drop ((ji13) : Int).toNat).length < 70368744177664
                  · rw [if_pos c17] at H
                    have LMc17 := am c17
                    clear c17
                    obtain ⟨y125, hy125⟩ : ∃ y_ : List Int, y_ = (x7_1 ++ ((l0.take ((wrap64 ((ji13) + a2_2)) : Int).toNat).drop ((ji13) : Int).toNat)) := ⟨_, rfl⟩
                    replace H : (plane_taken.l0 k1 l0 a1 y125 (wrap64 (x8_1 + 1)) a2_0 a2_1 a2_2 a2_3) = some r := by first | (rw [hy125]; with_reducible exact H) | (have H2_ := (Option.bind_some _ _).symm.trans H; rw [hy125]; with_reducible exact H2_) | (have H2_ := (Option.bind_some _ _).symm.trans H; with_reducible exact H2_) | with_reducible exact H | (rw [hy125]; exact H) | exact H
                    have Ny125 := am hy125
                    clear hy125
                    have H' := am H
                    clear H
                    have hcz18_0 : wr.cell? ⟨gb120, 0, none⟩ = some (.int .i64 a2_0) := (bC BK120.out 0).trans rfl
                    have hcz18_1 : wr.cell? ⟨gb120, 1, none⟩ = some (.int .i64 a2_1) := (bC BK120.out 1).trans rfl
                    have hcz18_2 : wr.cell? ⟨gb120, 2, none⟩ = some (.int .i64 a2_2) := (bC BK120.out 2).trans rfl
                    have hcz18_3 : wr.cell? ⟨gb120, 3, none⟩ = some (.int .i64 a2_3) := (bC BK120.out 3).trans rfl
                    have hfz18_0 := bZ BK120.out 0
                    have hfz18_1 := bZ BK120.out 1
                    have hfz18_2 := bZ BK120.out 2
                    have hfz18_3 := bZ BK120.out 3
                    obtain ⟨i019, hi019, _, hsz19, _⟩ := info_parts info72
                    obtain ⟨A19, hcut19, hA19, hC19⟩ := print_mid_of (P := Try.prog) (Value.int .u16) 0 53 72 .i64 .i64 Try.underlying53 hi019 hsz19 A0 c0 l0 (ji13) (wrap64 ((ji13) + a2_2)) (of_decide_eq_true (by first | (with_reducible assumption) | assumption)) (by first | omega | exact of_decide_eq_true (by first | (with_reducible assumption) | assumption)) (of_decide_eq_true (by first | (with_reducible assumption) | assumption)) HC0.out
                    have HR124 := am (Kd.C_of_reads (h1 := fun _ => rfl) (hA19 _ (Kd.reads_of_C HR0.out)))
                    have HC124 := am hC19
                    clear hA19 hC19 hi019 hsz19
                    go_wp2_with (first | ((with_reducible refine gate_builtin (b := .append) (xs := #[.tmp 26, .tmp 43]) rfl ?_); at_builtin; refine Kd.R_append_rows (Kd.int .u16) (w0 := w) w.heap.size rfl (.tmp 26) (.tmp 43) 53 72 (.int .u16 0) 2 rfl Try.underlying53 info72 rfl (by decide) (by omega) u7 x7_1 ((l0.take ((wrap64 ((ji13) + a2_2)) : Int).toNat).drop ((ji13) : Int).toNat) _ _ _ (fun _ => True) (fun _ => False) rfl rfl ?aO ?aR (fun _ _ h => h) (fun _ h => h.elim) ?aF ?aB ?aS ?aL ?_; (case aR => first | (rw [← show ((l0.take ((wrap64 ((ji13) + a2_2)) : Int).toNat).drop ((ji13) : Int).toNat).length = ((wrap64 ((ji13) + a2_2)).toNat - (ji13).toNat) from (by rw [List.length_drop, List.length_take]; have h_ : ((wrap64 ((ji13) + a2_2)) : Int) ≤ (l0.length : Int) := of_decide_eq_true (by first | (with_reducible assumption) | assumption); omega)]; repeat (first | exact (Kd.C_below HR124.out HB.out) | (with_reducible refine Kd.C_alloc ?_ _) | (with_reducible refine Kd.C_drewN ?_ _) | (with_reducible refine Kd.C_drew ?_))) | (repeat (first | exact (Kd.C_below HR124.out HB.out) | (with_reducible refine Kd.C_alloc ?_ _) | (with_reducible refine Kd.C_drewN ?_ _) | (with_reducible refine Kd.C_drew ?_)))); (case aB => exact (by repeat (first | (with_reducible first | exact HB.out | apply bA | apply bN | apply bD | refine bS ?_ GE120.out) | exact HB.out))); (case aF => exact (fun _ _ => trivial)); (case aO => exact (by (with_reducible repeat (first | apply Kd.R_alloc | apply Kd.R_drewN | apply Kd.R_drew)); exact HO_7.out)); (case aS => exact (bU (by repeat (first | (with_reducible first | exact HB.out | apply bA | apply bN | apply bD | refine bS ?_ GE120.out) | exact HB.out)))); (case aL => have := LMc17.out; have hlx_ := (show ((l0.take ((wrap64 ((ji13) + a2_2)) : Int).toNat).drop ((ji13) : Int).toNat).length = ((wrap64 ((ji13) + a2_2)).toNat - (ji13).toNat) from (by rw [List.length_drop, List.length_take]; have h_ : ((wrap64 ((ji13) + a2_2)) : Int) ≤ (l0.length : Int) := of_decide_eq_true (by first | (with_reducible assumption) | assumption); omega)); omega); intro v126 w20 ho hb hg hat; rw [← Ny125.out] at ho; have n0_ := am (blk_grown (g := gb120) (o := .cells #[.int .i64 a2_0, .int .i64 a2_1, .int .i64 a2_2, .int .i64 a2_3] 52 (0, 0)) (by (with_reducible repeat apply dX); exact BK120.out) hg (Kd.R_ne HO_7.out BK120.out (by decide))); have n1_ := am (hb); have n2_ := am (ho); clear BK120; clear HB; clear HO_7; have BK120 := n0_; have HB := n1_; have HO127 := n2_; clear n0_ n1_ n2_; clear ho hb hg hat))
                    go_roundg k1
                    case measure => have := HK1.out; omega
                    case rel => exact ⟨(y125), (wrap64 (x8_1 + 1)), (by first | rfl | (simp; done) | (simp [*]; done)), H', ⟨by have := HK1.out; omega⟩, ⟨by (with_reducible repeat (first | apply Kd.R_alloc | apply Kd.R_drewN | apply Kd.R_drew)); exact HO127.out⟩, ⟨by (with_reducible repeat apply dX); exact BK120.out⟩, ⟨by repeat (first | (with_reducible first | exact HB.out | apply bA | apply bN | apply bD | refine bS ?_ GE120.out) | exact HB.out)⟩⟩
                  · rw [if_neg c17] at H
                    exact absurd H (by simp)
                · rw [if_neg c16] at H
                  exact absurd H (by simp)
              · rw [if_neg c15] at H
                exact absurd H (by simp)
            · rw [if_neg c14] at H
              exact absurd H (by simp)
          · rw [if_neg c12] at H
            have c12b0 : decide (x8_1 < (wrap64 (a2_1 + a2_3))) = false := decide_eq_false c12
            clear c12
            obtain rfl := Option.some.inj H
            have hcz21_0 : wr.cell? ⟨gb120, 0, none⟩ = some (.int .i64 a2_0) := (bC BK120.out 0).trans rfl
            have hcz21_1 : wr.cell? ⟨gb120, 1, none⟩ = some (.int .i64 a2_1) := (bC BK120.out 1).trans rfl
            have hcz21_2 : wr.cell? ⟨gb120, 2, none⟩ = some (.int .i64 a2_2) := (bC BK120.out 2).trans rfl
            have hcz21_3 : wr.cell? ⟨gb120, 3, none⟩ = some (.int .i64 a2_3) := (bC BK120.out 3).trans rfl
            have hfz21_0 := bZ BK120.out 0
            have hfz21_1 := bZ BK120.out 1
            have hfz21_2 := bZ BK120.out 2
            have hfz21_3 := bZ BK120.out 3
            go_wp2
            go_ret
            exact ⟨_, by first | rfl | (simp [errW_none, errW_some] <;> rfl) | (simp only [← hji4]; first | rfl | (simp [errW_none, errW_some] <;> rfl)) | (simp [*, errW_none, errW_some] <;> rfl), by (with_reducible repeat (first | apply Kd.R_alloc | apply Kd.R_drewN | apply Kd.R_drew)); exact HO_7.out, by repeat (first | (with_reducible first | exact HB.out | apply bA | apply bN | apply bD | refine bS ?_ GE120.out) | exact HB.out)⟩
    · rw [if_neg c6] at H
      exact absurd H (by simp)
  · rw [if_neg c5] at H
    exact absurd H (by simp)

/-! ### plane_lies: function 65 -/
def plane_lies.f (a0_0 : Int) (a0_1 : Int) (a0_2 : Int) (a0_3 : Int) (a1 : Int) (a2 : Int) : Option (Bool) := if a0_2 ≥ 1 then (if a0_3 ≥ 1 then (if a0_0 ≥ 0 then (if a0_1 ≥ 0 then (if a0_0 < a1 then (if a0_1 < a2 then (if a0_2 ≤ (wrap64 (a1 - a0_0)) then (some (decide (a0_3 ≤ (wrap64 (a2 - a0_1))))) else (some false)) else (some false)) else (some false)) else (some false)) else (some false)) else (some false)) else (some false)
set_option maxHeartbeats 8000000 in
set_option maxRecDepth 100000 in
theorem plane_lies.calls (a0_0 : Int) (a0_1 : Int) (a0_2 : Int) (a0_3 : Int) (a1 : Int) (a2 : Int) (r : Bool) (w : World) (h : plane_lies.f a0_0 a0_1 a0_2 a0_3 a1 a2 = some r) :
    Calls Try.prog 65 #[.agg #[.int .i64 a0_0, .int .i64 a0_1, .int .i64 a0_2, .int .i64 a0_3], .int .i64 a1, .int .i64 a2] w fun e w' => e = .returned (.bool r) ∧ Below w.heap.size w w' := by
  have hu52 := Try.underlying52
  have HB := am (Below.refl w.heap.size w)
  have H : (if a0_2 ≥ 1 then (if a0_3 ≥ 1 then (if a0_0 ≥ 0 then (if a0_1 ≥ 0 then (if a0_0 < a1 then (if a0_1 < a2 then (if a0_2 ≤ (wrap64 (a1 - a0_0)) then (some (decide (a0_3 ≤ (wrap64 (a2 - a0_1))))) else (some false)) else (some false)) else (some false)) else (some false)) else (some false)) else (some false)) else (some false)) = some r := h
  clear h
  by_cases c4 : a0_2 ≥ 1
  · rw [if_pos c4] at H
    have c4b0 : decide (1 ≤ a0_2) = true := decide_eq_true c4
    clear c4
    by_cases c5 : a0_3 ≥ 1
    · rw [if_pos c5] at H
      have c5b0 : decide (1 ≤ a0_3) = true := decide_eq_true c5
      clear c5
      by_cases c6 : a0_0 ≥ 0
      · rw [if_pos c6] at H
        have c6b0 : decide (0 ≤ a0_0) = true := decide_eq_true c6
        clear c6
        by_cases c7 : a0_1 ≥ 0
        · rw [if_pos c7] at H
          have c7b0 : decide (0 ≤ a0_1) = true := decide_eq_true c7
          clear c7
          by_cases c8 : a0_0 < a1
          · rw [if_pos c8] at H
            have c8b0 : decide (a0_0 < a1) = true := decide_eq_true c8
            clear c8
            by_cases c9 : a0_1 < a2
            · rw [if_pos c9] at H
              have c9b0 : decide (a0_1 < a2) = true := decide_eq_true c9
              clear c9
              by_cases c10 : a0_2 ≤ (wrap64 (a1 - a0_0))
              · rw [if_pos c10] at H
                have c10b0 : decide (a0_2 ≤ (wrap64 (a1 - a0_0))) = true := decide_eq_true c10
                clear c10
                obtain rfl := Option.some.inj H
                go_enter Try.func65, Try.ntmps65
                go_wp2_with (first | ((with_reducible refine gD (N := 3) rfl ?_); refine bE ?hg (N := 3) ?hd (cs := #[.int .i64 a0_0, .int .i64 a0_1, .int .i64 a0_2, .int .i64 a0_3]) (t := 52) ?hr ?_; (case hd => rfl); (case hg => rfl); (case hr => first | (go_simp; done) | (go_simp; rfl)); intro gb128 hg w11 hbox hb; have n0_ := am (bT (by repeat (first | (with_reducible first | exact HB.out | apply bA | apply bN | apply bD) | exact HB.out)) hb); have n1_ := am (hbox); have n2_ := am ((by rw [hg]; exact (bU (by repeat (first | (with_reducible first | exact HB.out | apply bA | apply bN | apply bD) | exact HB.out))) : w.heap.size ≤ gb128)); have n3_ := am ((by rw [hg]; exact (bU (by repeat (first | (with_reducible first | exact HB.out | apply bA | apply bN | apply bD) | exact HB.out))) : w.heap.size ≤ gb128)); clear HB; have HB := n0_; have BK128 := n1_; have GW128 := n2_; have GE128 := n3_; clear n0_ n1_ n2_ n3_; clear hb hbox hg; have hcz12_0 : w11.cell? ⟨gb128, 0, none⟩ = some (.int .i64 a0_0) := (bC BK128.out 0).trans rfl; have hcz12_1 : w11.cell? ⟨gb128, 1, none⟩ = some (.int .i64 a0_1) := (bC BK128.out 1).trans rfl; have hcz12_2 : w11.cell? ⟨gb128, 2, none⟩ = some (.int .i64 a0_2) := (bC BK128.out 2).trans rfl; have hcz12_3 : w11.cell? ⟨gb128, 3, none⟩ = some (.int .i64 a0_3) := (bC BK128.out 3).trans rfl; have hfz12_0 := bZ BK128.out 0; have hfz12_1 := bZ BK128.out 1; have hfz12_2 := bZ BK128.out 2; have hfz12_3 := bZ BK128.out 3))
                go_ret
                exact ⟨by first | rfl | (simp [errW_none, errW_some] <;> rfl) | (simp [*, errW_none, errW_some] <;> rfl), by repeat (first | (with_reducible first | exact HB.out | apply bA | apply bN | apply bD | refine bS ?_ GE128.out) | exact HB.out)⟩
              · rw [if_neg c10] at H
                have c10b0 : decide (a0_2 ≤ (wrap64 (a1 - a0_0))) = false := decide_eq_false c10
                clear c10
                obtain rfl := Option.some.inj H
                go_enter Try.func65, Try.ntmps65
                go_wp2_with (first | ((with_reducible refine gD (N := 3) rfl ?_); refine bE ?hg (N := 3) ?hd (cs := #[.int .i64 a0_0, .int .i64 a0_1, .int .i64 a0_2, .int .i64 a0_3]) (t := 52) ?hr ?_; (case hd => rfl); (case hg => rfl); (case hr => first | (go_simp; done) | (go_simp; rfl)); intro gb128 hg w13 hbox hb; have n0_ := am (bT (by repeat (first | (with_reducible first | exact HB.out | apply bA | apply bN | apply bD) | exact HB.out)) hb); have n1_ := am (hbox); have n2_ := am ((by rw [hg]; exact (bU (by repeat (first | (with_reducible first | exact HB.out | apply bA | apply bN | apply bD) | exact HB.out))) : w.heap.size ≤ gb128)); have n3_ := am ((by rw [hg]; exact (bU (by repeat (first | (with_reducible first | exact HB.out | apply bA | apply bN | apply bD) | exact HB.out))) : w.heap.size ≤ gb128)); clear HB; have HB := n0_; have BK128 := n1_; have GW128 := n2_; have GE128 := n3_; clear n0_ n1_ n2_ n3_; clear hb hbox hg; have hcz14_0 : w13.cell? ⟨gb128, 0, none⟩ = some (.int .i64 a0_0) := (bC BK128.out 0).trans rfl; have hcz14_1 : w13.cell? ⟨gb128, 1, none⟩ = some (.int .i64 a0_1) := (bC BK128.out 1).trans rfl; have hcz14_2 : w13.cell? ⟨gb128, 2, none⟩ = some (.int .i64 a0_2) := (bC BK128.out 2).trans rfl; have hcz14_3 : w13.cell? ⟨gb128, 3, none⟩ = some (.int .i64 a0_3) := (bC BK128.out 3).trans rfl; have hfz14_0 := bZ BK128.out 0; have hfz14_1 := bZ BK128.out 1; have hfz14_2 := bZ BK128.out 2; have hfz14_3 := bZ BK128.out 3))
                go_ret
                exact ⟨by first | rfl | (simp [errW_none, errW_some] <;> rfl) | (simp [*, errW_none, errW_some] <;> rfl), by repeat (first | (with_reducible first | exact HB.out | apply bA | apply bN | apply bD | refine bS ?_ GE128.out) | exact HB.out)⟩
            · rw [if_neg c9] at H
              have c9b0 : decide (a0_1 < a2) = false := decide_eq_false c9
              clear c9
              obtain rfl := Option.some.inj H
              go_enter Try.func65, Try.ntmps65
              go_wp2_with (first | ((with_reducible refine gD (N := 3) rfl ?_); refine bE ?hg (N := 3) ?hd (cs := #[.int .i64 a0_0, .int .i64 a0_1, .int .i64 a0_2, .int .i64 a0_3]) (t := 52) ?hr ?_; (case hd => rfl); (case hg => rfl); (case hr => first | (go_simp; done) | (go_simp; rfl)); intro gb128 hg w15 hbox hb; have n0_ := am (bT (by repeat (first | (with_reducible first | exact HB.out | apply bA | apply bN | apply bD) | exact HB.out)) hb); have n1_ := am (hbox); have n2_ := am ((by rw [hg]; exact (bU (by repeat (first | (with_reducible first | exact HB.out | apply bA | apply bN | apply bD) | exact HB.out))) : w.heap.size ≤ gb128)); have n3_ := am ((by rw [hg]; exact (bU (by repeat (first | (with_reducible first | exact HB.out | apply bA | apply bN | apply bD) | exact HB.out))) : w.heap.size ≤ gb128)); clear HB; have HB := n0_; have BK128 := n1_; have GW128 := n2_; have GE128 := n3_; clear n0_ n1_ n2_ n3_; clear hb hbox hg; have hcz16_0 : w15.cell? ⟨gb128, 0, none⟩ = some (.int .i64 a0_0) := (bC BK128.out 0).trans rfl; have hcz16_1 : w15.cell? ⟨gb128, 1, none⟩ = some (.int .i64 a0_1) := (bC BK128.out 1).trans rfl; have hcz16_2 : w15.cell? ⟨gb128, 2, none⟩ = some (.int .i64 a0_2) := (bC BK128.out 2).trans rfl; have hcz16_3 : w15.cell? ⟨gb128, 3, none⟩ = some (.int .i64 a0_3) := (bC BK128.out 3).trans rfl; have hfz16_0 := bZ BK128.out 0; have hfz16_1 := bZ BK128.out 1; have hfz16_2 := bZ BK128.out 2; have hfz16_3 := bZ BK128.out 3))
              go_ret
              exact ⟨by first | rfl | (simp [errW_none, errW_some] <;> rfl) | (simp [*, errW_none, errW_some] <;> rfl), by repeat (first | (with_reducible first | exact HB.out | apply bA | apply bN | apply bD | refine bS ?_ GE128.out) | exact HB.out)⟩
          · rw [if_neg c8] at H
            have c8b0 : decide (a0_0 < a1) = false := decide_eq_false c8
            clear c8
            obtain rfl := Option.some.inj H
            go_enter Try.func65, Try.ntmps65
            go_wp2_with (first | ((with_reducible refine gD (N := 3) rfl ?_); refine bE ?hg (N := 3) ?hd (cs := #[.int .i64 a0_0, .int .i64 a0_1, .int .i64 a0_2, .int .i64 a0_3]) (t := 52) ?hr ?_; (case hd => rfl); (case hg => rfl); (case hr => first | (go_simp; done) | (go_simp; rfl)); intro gb128 hg w17 hbox hb; have n0_ := am (bT (by repeat (first | (with_reducible first | exact HB.out | apply bA | apply bN | apply bD) | exact HB.out)) hb); have n1_ := am (hbox); have n2_ := am ((by rw [hg]; exact (bU (by repeat (first | (with_reducible first | exact HB.out | apply bA | apply bN | apply bD) | exact HB.out))) : w.heap.size ≤ gb128)); have n3_ := am ((by rw [hg]; exact (bU (by repeat (first | (with_reducible first | exact HB.out | apply bA | apply bN | apply bD) | exact HB.out))) : w.heap.size ≤ gb128)); clear HB; have HB := n0_; have BK128 := n1_; have GW128 := n2_; have GE128 := n3_; clear n0_ n1_ n2_ n3_; clear hb hbox hg; have hcz18_0 : w17.cell? ⟨gb128, 0, none⟩ = some (.int .i64 a0_0) := (bC BK128.out 0).trans rfl; have hcz18_1 : w17.cell? ⟨gb128, 1, none⟩ = some (.int .i64 a0_1) := (bC BK128.out 1).trans rfl; have hcz18_2 : w17.cell? ⟨gb128, 2, none⟩ = some (.int .i64 a0_2) := (bC BK128.out 2).trans rfl; have hcz18_3 : w17.cell? ⟨gb128, 3, none⟩ = some (.int .i64 a0_3) := (bC BK128.out 3).trans rfl; have hfz18_0 := bZ BK128.out 0; have hfz18_1 := bZ BK128.out 1; have hfz18_2 := bZ BK128.out 2; have hfz18_3 := bZ BK128.out 3))
            go_ret
            exact ⟨by first | rfl | (simp [errW_none, errW_some] <;> rfl) | (simp [*, errW_none, errW_some] <;> rfl), by repeat (first | (with_reducible first | exact HB.out | apply bA | apply bN | apply bD | refine bS ?_ GE128.out) | exact HB.out)⟩
        · rw [if_neg c7] at H
          have c7b0 : decide (0 ≤ a0_1) = false := decide_eq_false c7
          clear c7
          obtain rfl := Option.some.inj H
          go_enter Try.func65, Try.ntmps65
          go_wp2_with (first | ((with_reducible refine gD (N := 3) rfl ?_); refine bE ?hg (N := 3) ?hd (cs := #[.int .i64 a0_0, .int .i64 a0_1, .int .i64 a0_2, .int .i64 a0_3]) (t := 52) ?hr ?_; (case hd => rfl); (case hg => rfl); (case hr => first | (go_simp; done) | (go_simp; rfl)); intro gb128 hg w19 hbox hb; have n0_ := am (bT (by repeat (first | (with_reducible first | exact HB.out | apply bA | apply bN | apply bD) | exact HB.out)) hb); have n1_ := am (hbox); have n2_ := am ((by rw [hg]; exact (bU (by repeat (first | (with_reducible first | exact HB.out | apply bA | apply bN | apply bD) | exact HB.out))) : w.heap.size ≤ gb128)); have n3_ := am ((by rw [hg]; exact (bU (by repeat (first | (with_reducible first | exact HB.out | apply bA | apply bN | apply bD) | exact HB.out))) : w.heap.size ≤ gb128)); clear HB; have HB := n0_; have BK128 := n1_; have GW128 := n2_; have GE128 := n3_; clear n0_ n1_ n2_ n3_; clear hb hbox hg; have hcz20_0 : w19.cell? ⟨gb128, 0, none⟩ = some (.int .i64 a0_0) := (bC BK128.out 0).trans rfl; have hcz20_1 : w19.cell? ⟨gb128, 1, none⟩ = some (.int .i64 a0_1) := (bC BK128.out 1).trans rfl; have hcz20_2 : w19.cell? ⟨gb128, 2, none⟩ = some (.int .i64 a0_2) := (bC BK128.out 2).trans rfl; have hcz20_3 : w19.cell? ⟨gb128, 3, none⟩ = some (.int .i64 a0_3) := (bC BK128.out 3).trans rfl; have hfz20_0 := bZ BK128.out 0; have hfz20_1 := bZ BK128.out 1; have hfz20_2 := bZ BK128.out 2; have hfz20_3 := bZ BK128.out 3))
          go_ret
          exact ⟨by first | rfl | (simp [errW_none, errW_some] <;> rfl) | (simp [*, errW_none, errW_some] <;> rfl), by repeat (first | (with_reducible first | exact HB.out | apply bA | apply bN | apply bD | refine bS ?_ GE128.out) | exact HB.out)⟩
      · rw [if_neg c6] at H
        have c6b0 : decide (0 ≤ a0_0) = false := decide_eq_false c6
        clear c6
        obtain rfl := Option.some.inj H
        go_enter Try.func65, Try.ntmps65
        go_wp2_with (first | ((with_reducible refine gD (N := 3) rfl ?_); refine bE ?hg (N := 3) ?hd (cs := #[.int .i64 a0_0, .int .i64 a0_1, .int .i64 a0_2, .int .i64 a0_3]) (t := 52) ?hr ?_; (case hd => rfl); (case hg => rfl); (case hr => first | (go_simp; done) | (go_simp; rfl)); intro gb128 hg w21 hbox hb; have n0_ := am (bT (by repeat (first | (with_reducible first | exact HB.out | apply bA | apply bN | apply bD) | exact HB.out)) hb); have n1_ := am (hbox); have n2_ := am ((by rw [hg]; exact (bU (by repeat (first | (with_reducible first | exact HB.out | apply bA | apply bN | apply bD) | exact HB.out))) : w.heap.size ≤ gb128)); have n3_ := am ((by rw [hg]; exact (bU (by repeat (first | (with_reducible first | exact HB.out | apply bA | apply bN | apply bD) | exact HB.out))) : w.heap.size ≤ gb128)); clear HB; have HB := n0_; have BK128 := n1_; have GW128 := n2_; have GE128 := n3_; clear n0_ n1_ n2_ n3_; clear hb hbox hg; have hcz22_0 : w21.cell? ⟨gb128, 0, none⟩ = some (.int .i64 a0_0) := (bC BK128.out 0).trans rfl; have hcz22_1 : w21.cell? ⟨gb128, 1, none⟩ = some (.int .i64 a0_1) := (bC BK128.out 1).trans rfl; have hcz22_2 : w21.cell? ⟨gb128, 2, none⟩ = some (.int .i64 a0_2) := (bC BK128.out 2).trans rfl; have hcz22_3 : w21.cell? ⟨gb128, 3, none⟩ = some (.int .i64 a0_3) := (bC BK128.out 3).trans rfl; have hfz22_0 := bZ BK128.out 0; have hfz22_1 := bZ BK128.out 1; have hfz22_2 := bZ BK128.out 2; have hfz22_3 := bZ BK128.out 3))
        go_ret
        exact ⟨by first | rfl | (simp [errW_none, errW_some] <;> rfl) | (simp [*, errW_none, errW_some] <;> rfl), by repeat (first | (with_reducible first | exact HB.out | apply bA | apply bN | apply bD | refine bS ?_ GE128.out) | exact HB.out)⟩
    · rw [if_neg c5] at H
      have c5b0 : decide (1 ≤ a0_3) = false := decide_eq_false c5
      clear c5
      obtain rfl := Option.some.inj H
      go_enter Try.func65, Try.ntmps65
      go_wp2_with (first | ((with_reducible refine gD (N := 3) rfl ?_); refine bE ?hg (N := 3) ?hd (cs := #[.int .i64 a0_0, .int .i64 a0_1, .int .i64 a0_2, .int .i64 a0_3]) (t := 52) ?hr ?_; (case hd => rfl); (case hg => rfl); (case hr => first | (go_simp; done) | (go_simp; rfl)); intro gb128 hg w23 hbox hb; have n0_ := am (bT (by repeat (first | (with_reducible first | exact HB.out | apply bA | apply bN | apply bD) | exact HB.out)) hb); have n1_ := am (hbox); have n2_ := am ((by rw [hg]; exact (bU (by repeat (first | (with_reducible first | exact HB.out | apply bA | apply bN | apply bD) | exact HB.out))) : w.heap.size ≤ gb128)); have n3_ := am ((by rw [hg]; exact (bU (by repeat (first | (with_reducible first | exact HB.out | apply bA | apply bN | apply bD) | exact HB.out))) : w.heap.size ≤ gb128)); clear HB; have HB := n0_; have BK128 := n1_; have GW128 := n2_; have GE128 := n3_; clear n0_ n1_ n2_ n3_; clear hb hbox hg; have hcz24_0 : w23.cell? ⟨gb128, 0, none⟩ = some (.int .i64 a0_0) := (bC BK128.out 0).trans rfl; have hcz24_1 : w23.cell? ⟨gb128, 1, none⟩ = some (.int .i64 a0_1) := (bC BK128.out 1).trans rfl; have hcz24_2 : w23.cell? ⟨gb128, 2, none⟩ = some (.int .i64 a0_2) := (bC BK128.out 2).trans rfl; have hcz24_3 : w23.cell? ⟨gb128, 3, none⟩ = some (.int .i64 a0_3) := (bC BK128.out 3).trans rfl; have hfz24_0 := bZ BK128.out 0; have hfz24_1 := bZ BK128.out 1; have hfz24_2 := bZ BK128.out 2; have hfz24_3 := bZ BK128.out 3))
      go_ret
      exact ⟨by first | rfl | (simp [errW_none, errW_some] <;> rfl) | (simp [*, errW_none, errW_some] <;> rfl), by repeat (first | (with_reducible first | exact HB.out | apply bA | apply bN | apply bD | refine bS ?_ GE128.out) | exact HB.out)⟩
  · rw [if_neg c4] at H
    have c4b0 : decide (1 ≤ a0_2) = false := decide_eq_false c4
    clear c4
    obtain rfl := Option.some.inj H
    go_enter Try.func65, Try.ntmps65
    go_wp2_with (first | ((with_reducible refine gD (N := 3) rfl ?_); refine bE ?hg (N := 3) ?hd (cs := #[.int .i64 a0_0, .int .i64 a0_1, .int .i64 a0_2, .int .i64 a0_3]) (t := 52) ?hr ?_; (case hd => rfl); (case hg => rfl); (case hr => first | (go_simp; done) | (go_simp; rfl)); intro gb128 hg w25 hbox hb; have n0_ := am (bT (by repeat (first | (with_reducible first | exact HB.out | apply bA | apply bN | apply bD) | exact HB.out)) hb); have n1_ := am (hbox); have n2_ := am ((by rw [hg]; exact (bU (by repeat (first | (with_reducible first | exact HB.out | apply bA | apply bN | apply bD) | exact HB.out))) : w.heap.size ≤ gb128)); have n3_ := am ((by rw [hg]; exact (bU (by repeat (first | (with_reducible first | exact HB.out | apply bA | apply bN | apply bD) | exact HB.out))) : w.heap.size ≤ gb128)); clear HB; have HB := n0_; have BK128 := n1_; have GW128 := n2_; have GE128 := n3_; clear n0_ n1_ n2_ n3_; clear hb hbox hg; have hcz26_0 : w25.cell? ⟨gb128, 0, none⟩ = some (.int .i64 a0_0) := (bC BK128.out 0).trans rfl; have hcz26_1 : w25.cell? ⟨gb128, 1, none⟩ = some (.int .i64 a0_1) := (bC BK128.out 1).trans rfl; have hcz26_2 : w25.cell? ⟨gb128, 2, none⟩ = some (.int .i64 a0_2) := (bC BK128.out 2).trans rfl; have hcz26_3 : w25.cell? ⟨gb128, 3, none⟩ = some (.int .i64 a0_3) := (bC BK128.out 3).trans rfl; have hfz26_0 := bZ BK128.out 0; have hfz26_1 := bZ BK128.out 1; have hfz26_2 := bZ BK128.out 2; have hfz26_3 := bZ BK128.out 3))
    go_ret
    exact ⟨by first | rfl | (simp [errW_none, errW_some] <;> rfl) | (simp [*, errW_none, errW_some] <;> rfl), by repeat (first | (with_reducible first | exact HB.out | apply bA | apply bN | apply bD | refine bS ?_ GE128.out) | exact HB.out)⟩

/-! ### plane_whole: function 68 -/
def plane_whole.f (a0_0 : Int) (a0_1 : Int) (a0_2 : Int) (a0_3 : Bool) (a1_0 : Int) (a1_1 : Int) (a1_2 : Int) (a1_3 : Int) : Option (Bool) := (plane_lies.f a1_0 a1_1 a1_2 a1_3 a0_0 a0_1).bind fun t131 => (if t131 = true then (if (Int.tmod a1_0 2) = 0 then (if (Int.tmod a1_2 2) = 0 then (some true) else (some ((wrap64 (a1_0 + a1_2)) == a0_0))) else (some false)) else (some false))
set_option maxHeartbeats 8000000 in
set_option maxRecDepth 100000 in
theorem plane_whole.calls (a0_0 : Int) (a0_1 : Int) (a0_2 : Int) (a0_3 : Bool) (a1_0 : Int) (a1_1 : Int) (a1_2 : Int) (a1_3 : Int) (r : Bool) (w : World) (h : plane_whole.f a0_0 a0_1 a0_2 a0_3 a1_0 a1_1 a1_2 a1_3 = some r) :
    Calls Try.prog 68 #[.agg #[.int .i64 a0_0, .int .i64 a0_1, .int .i64 a0_2, .bool a0_3], .agg #[.int .i64 a1_0, .int .i64 a1_1, .int .i64 a1_2, .int .i64 a1_3]] w fun e w' => e = .returned (.bool r) ∧ Below w.heap.size w w' := by
  have hu26 := Try.underlying26
  have hu52 := Try.underlying52
  have HB := am (Below.refl w.heap.size w)
  have H : ((plane_lies.f a1_0 a1_1 a1_2 a1_3 a0_0 a0_1).bind fun t131 => (if t131 = true then (if (Int.tmod a1_0 2) = 0 then (if (Int.tmod a1_2 2) = 0 then (some true) else (some ((wrap64 (a1_0 + a1_2)) == a0_0))) else (some false)) else (some false))) = some r := h
  clear h
  replace H := Option.bind_eq_some_iff.mp H
  obtain ⟨t131, A30, H⟩ := H
  replace H : (if t131 = true then (if (Int.tmod a1_0 2) = 0 then (if (Int.tmod a1_2 2) = 0 then (some true) else (some ((wrap64 (a1_0 + a1_2)) == a0_0))) else (some false)) else (some false)) = some r := H
  have A3 := am A30
  clear A30
  by_cases c4 : t131 = true
  · subst c4
    have H1 : (if (Int.tmod a1_0 2) = 0 then (if (Int.tmod a1_2 2) = 0 then (some true) else (some ((wrap64 (a1_0 + a1_2)) == a0_0))) else (some false)) = some r := by rw [if_pos rfl] at H; exact H
    clear H
    have H := H1
    clear H1
    by_cases c5 : (Int.tmod a1_0 2) = 0
    · rw [if_pos c5] at H
      have c5b0 : ((Int.tmod a1_0 2) == 0) = true := beq_iff_eq.mpr c5
      have c5b1 : ((Int.tmod a1_0 2) != 0) = false := bne_eq_false_iff_eq.mpr c5
      clear c5
      by_cases c6 : (Int.tmod a1_2 2) = 0
      · rw [if_pos c6] at H
        have c6b0 : ((Int.tmod a1_2 2) == 0) = true := beq_iff_eq.mpr c6
        have c6b1 : ((Int.tmod a1_2 2) != 0) = false := bne_eq_false_iff_eq.mpr c6
        clear c6
        obtain rfl := Option.some.inj H
        go_enter Try.func68, Try.ntmps68
        go_wp2_with (first | ((with_reducible refine gD (N := 2) rfl ?_); refine bE ?hg (N := 2) ?hd (cs := #[.int .i64 a0_0, .int .i64 a0_1, .int .i64 a0_2, .bool a0_3]) (t := 26) ?hr ?_; (case hd => rfl); (case hg => rfl); (case hr => first | (go_simp; done) | (go_simp; rfl)); intro gb129 hg w7 hbox hb; have n0_ := am (bT (by repeat (first | (with_reducible first | exact HB.out | apply bA | apply bN | apply bD) | exact HB.out)) hb); have n1_ := am (hbox); have n2_ := am ((by rw [hg]; exact (bU (by repeat (first | (with_reducible first | exact HB.out | apply bA | apply bN | apply bD) | exact HB.out))) : w.heap.size ≤ gb129)); have n3_ := am ((by rw [hg]; exact (bU (by repeat (first | (with_reducible first | exact HB.out | apply bA | apply bN | apply bD) | exact HB.out))) : w.heap.size ≤ gb129)); clear HB; have HB := n0_; have BK129 := n1_; have GW129 := n2_; have GE129 := n3_; clear n0_ n1_ n2_ n3_; clear hb hbox hg) | ((with_reducible refine gD (N := 3) rfl ?_); refine bE ?hg (N := 3) ?hd (cs := #[.int .i64 a1_0, .int .i64 a1_1, .int .i64 a1_2, .int .i64 a1_3]) (t := 52) ?hr ?_; (case hd => rfl); (case hg => rfl); (case hr => first | (go_simp; done) | (go_simp; rfl)); intro gb130 hg w8 hbox hb; have n0_ := am (bB (g := gb129) (o := .cells #[.int .i64 a0_0, .int .i64 a0_1, .int .i64 a0_2, .bool a0_3] 26 (0, 0)) (by (with_reducible repeat apply dX); exact BK129.out) hb); have n1_ := am (bT (by repeat (first | (with_reducible first | exact HB.out | apply bA | apply bN | apply bD | refine bS ?_ GE129.out) | exact HB.out)) hb); have n2_ := am (hbox); have n3_ := am ((by rw [hg]; exact (bU (by repeat (first | (with_reducible first | exact HB.out | apply bA | apply bN | apply bD | refine bS ?_ GE129.out) | exact HB.out))) : w.heap.size ≤ gb130)); have n4_ := am ((by rw [hg]; exact (bU (by repeat (first | (with_reducible first | exact HB.out | apply bA | apply bN | apply bD | refine bS ?_ GE129.out) | exact HB.out))) : w.heap.size ≤ gb130)); have n5_ := am ((by rw [hg]; exact nL (bL (g := gb129) (o := .cells #[.int .i64 a0_0, .int .i64 a0_1, .int .i64 a0_2, .bool a0_3] 26 (0, 0)) (by (with_reducible repeat apply dX); exact BK129.out)) : gb129 ≠ gb130)); have n6_ := am ((by rw [hg]; exact nG (bL (g := gb129) (o := .cells #[.int .i64 a0_0, .int .i64 a0_1, .int .i64 a0_2, .bool a0_3] 26 (0, 0)) (by (with_reducible repeat apply dX); exact BK129.out)) : gb130 ≠ gb129)); clear BK129; clear HB; have BK129 := n0_; have HB := n1_; have BK130 := n2_; have GW130 := n3_; have GE130 := n4_; have NB129_130 := n5_; have NB130_129 := n6_; clear n0_ n1_ n2_ n3_ n4_ n5_ n6_; clear hb hbox hg; have hnb9 := NB130_129.out; have hnc9 := NB129_130.out; have hcz10_0 : w8.cell? ⟨gb130, 0, none⟩ = some (.int .i64 a1_0) := (bC BK130.out 0).trans rfl; have hcz10_1 : w8.cell? ⟨gb130, 1, none⟩ = some (.int .i64 a1_1) := (bC BK130.out 1).trans rfl; have hcz10_2 : w8.cell? ⟨gb130, 2, none⟩ = some (.int .i64 a1_2) := (bC BK130.out 2).trans rfl; have hcz10_3 : w8.cell? ⟨gb130, 3, none⟩ = some (.int .i64 a1_3) := (bC BK130.out 3).trans rfl; have hfz10_0 := bZ BK130.out 0; have hfz10_1 := bZ BK130.out 1; have hfz10_2 := bZ BK130.out 2; have hfz10_3 := bZ BK130.out 3; have hcz11_0 : w8.cell? ⟨gb129, 0, none⟩ = some (.int .i64 a0_0) := (bC BK129.out 0).trans rfl; have hcz11_1 : w8.cell? ⟨gb129, 1, none⟩ = some (.int .i64 a0_1) := (bC BK129.out 1).trans rfl; have hcz11_2 : w8.cell? ⟨gb129, 2, none⟩ = some (.int .i64 a0_2) := (bC BK129.out 2).trans rfl; have hcz11_3 : w8.cell? ⟨gb129, 3, none⟩ = some (.bool a0_3) := (bC BK129.out 3).trans rfl; have hfz11_0 := bZ BK129.out 0; have hfz11_1 := bZ BK129.out 1; have hfz11_2 := bZ BK129.out 2; have hfz11_3 := bZ BK129.out 3) | ((with_reducible refine gate_callee (f := 65) rfl ?_); refine goesL_ (some 10) rfl rfl Try.func65 (by kernel_rfl) rfl #[.agg #[.int .i64 a1_0, .int .i64 a1_1, .int .i64 a1_2, .int .i64 a1_3], .int .i64 a0_0, .int .i64 a0_1] rfl (by (try simp only [List.map_toArray, List.map_cons, List.map_nil]); first | done | rfl | (simp only [List.length_drop, List.length_take]; rfl)) ?_; (with_reducible refine (plane_lies.calls a1_0 a1_1 a1_2 a1_3 a0_0 a0_1 true _ A3.out).mono ?_); rintro e w12 ⟨rfl, hb⟩; refine ⟨_, rfl, ?_⟩; have n0_ := am (bB (g := gb129) (o := .cells #[.int .i64 a0_0, .int .i64 a0_1, .int .i64 a0_2, .bool a0_3] 26 (0, 0)) (by (with_reducible repeat apply dX); exact BK129.out) hb); have n1_ := am (bB (g := gb130) (o := .cells #[.int .i64 a1_0, .int .i64 a1_1, .int .i64 a1_2, .int .i64 a1_3] 52 (0, 0)) (by (with_reducible repeat apply dX); exact BK130.out) hb); have n2_ := am (bT (by repeat (first | (with_reducible first | exact HB.out | apply bA | apply bN | apply bD | refine bS ?_ GE129.out | refine bS ?_ GE130.out) | exact HB.out)) hb); clear BK129; clear BK130; clear HB; have BK129 := n0_; have BK130 := n1_; have HB := n2_; clear n0_ n1_ n2_; (try clear hb); (try clear hb2); (try clear hk); (try clear hi); have hcz13_0 : w12.cell? ⟨gb130, 0, none⟩ = some (.int .i64 a1_0) := (bC BK130.out 0).trans rfl; have hcz13_1 : w12.cell? ⟨gb130, 1, none⟩ = some (.int .i64 a1_1) := (bC BK130.out 1).trans rfl; have hcz13_2 : w12.cell? ⟨gb130, 2, none⟩ = some (.int .i64 a1_2) := (bC BK130.out 2).trans rfl; have hcz13_3 : w12.cell? ⟨gb130, 3, none⟩ = some (.int .i64 a1_3) := (bC BK130.out 3).trans rfl; have hfz13_0 := bZ BK130.out 0; have hfz13_1 := bZ BK130.out 1; have hfz13_2 := bZ BK130.out 2; have hfz13_3 := bZ BK130.out 3))
        go_ret
        exact ⟨by first | rfl | (simp [errW_none, errW_some] <;> rfl) | (simp [*, errW_none, errW_some] <;> rfl), by repeat (first | (with_reducible first | exact HB.out | apply bA | apply bN | apply bD | refine bS ?_ GE129.out | refine bS ?_ GE130.out) | exact HB.out)⟩
      · rw [if_neg c6] at H
        have c6b0 : ((Int.tmod a1_2 2) == 0) = false := beq_eq_false_iff_ne.mpr c6
        have c6b1 : ((Int.tmod a1_2 2) != 0) = true := bne_iff_ne.mpr c6
        obtain rfl := Option.some.inj H
        go_enter Try.func68, Try.ntmps68
        go_wp2_with (first | ((with_reducible refine gD (N := 2) rfl ?_); refine bE ?hg (N := 2) ?hd (cs := #[.int .i64 a0_0, .int .i64 a0_1, .int .i64 a0_2, .bool a0_3]) (t := 26) ?hr ?_; (case hd => rfl); (case hg => rfl); (case hr => first | (go_simp; done) | (go_simp; rfl)); intro gb129 hg w14 hbox hb; have n0_ := am (bT (by repeat (first | (with_reducible first | exact HB.out | apply bA | apply bN | apply bD) | exact HB.out)) hb); have n1_ := am (hbox); have n2_ := am ((by rw [hg]; exact (bU (by repeat (first | (with_reducible first | exact HB.out | apply bA | apply bN | apply bD) | exact HB.out))) : w.heap.size ≤ gb129)); have n3_ := am ((by rw [hg]; exact (bU (by repeat (first | (with_reducible first | exact HB.out | apply bA | apply bN | apply bD) | exact HB.out))) : w.heap.size ≤ gb129)); clear HB; have HB := n0_; have BK129 := n1_; have GW129 := n2_; have GE129 := n3_; clear n0_ n1_ n2_ n3_; clear hb hbox hg) | ((with_reducible refine gD (N := 3) rfl ?_); refine bE ?hg (N := 3) ?hd (cs := #[.int .i64 a1_0, .int .i64 a1_1, .int .i64 a1_2, .int .i64 a1_3]) (t := 52) ?hr ?_; (case hd => rfl); (case hg => rfl); (case hr => first | (go_simp; done) | (go_simp; rfl)); intro gb130 hg w15 hbox hb; have n0_ := am (bB (g := gb129) (o := .cells #[.int .i64 a0_0, .int .i64 a0_1, .int .i64 a0_2, .bool a0_3] 26 (0, 0)) (by (with_reducible repeat apply dX); exact BK129.out) hb); have n1_ := am (bT (by repeat (first | (with_reducible first | exact HB.out | apply bA | apply bN | apply bD | refine bS ?_ GE129.out) | exact HB.out)) hb); have n2_ := am (hbox); have n3_ := am ((by rw [hg]; exact (bU (by repeat (first | (with_reducible first | exact HB.out | apply bA | apply bN | apply bD | refine bS ?_ GE129.out) | exact HB.out))) : w.heap.size ≤ gb130)); have n4_ := am ((by rw [hg]; exact (bU (by repeat (first | (with_reducible first | exact HB.out | apply bA | apply bN | apply bD | refine bS ?_ GE129.out) | exact HB.out))) : w.heap.size ≤ gb130)); have n5_ := am ((by rw [hg]; exact nL (bL (g := gb129) (o := .cells #[.int .i64 a0_0, .int .i64 a0_1, .int .i64 a0_2, .bool a0_3] 26 (0, 0)) (by (with_reducible repeat apply dX); exact BK129.out)) : gb129 ≠ gb130)); have n6_ := am ((by rw [hg]; exact nG (bL (g := gb129) (o := .cells #[.int .i64 a0_0, .int .i64 a0_1, .int .i64 a0_2, .bool a0_3] 26 (0, 0)) (by (with_reducible repeat apply dX); exact BK129.out)) : gb130 ≠ gb129)); clear BK129; clear HB; have BK129 := n0_; have HB := n1_; have BK130 := n2_; have GW130 := n3_; have GE130 := n4_; have NB129_130 := n5_; have NB130_129 := n6_; clear n0_ n1_ n2_ n3_ n4_ n5_ n6_; clear hb hbox hg; have hnb16 := NB130_129.out; have hnc16 := NB129_130.out; have hcz17_0 : w15.cell? ⟨gb130, 0, none⟩ = some (.int .i64 a1_0) := (bC BK130.out 0).trans rfl; have hcz17_1 : w15.cell? ⟨gb130, 1, none⟩ = some (.int .i64 a1_1) := (bC BK130.out 1).trans rfl; have hcz17_2 : w15.cell? ⟨gb130, 2, none⟩ = some (.int .i64 a1_2) := (bC BK130.out 2).trans rfl; have hcz17_3 : w15.cell? ⟨gb130, 3, none⟩ = some (.int .i64 a1_3) := (bC BK130.out 3).trans rfl; have hfz17_0 := bZ BK130.out 0; have hfz17_1 := bZ BK130.out 1; have hfz17_2 := bZ BK130.out 2; have hfz17_3 := bZ BK130.out 3; have hcz18_0 : w15.cell? ⟨gb129, 0, none⟩ = some (.int .i64 a0_0) := (bC BK129.out 0).trans rfl; have hcz18_1 : w15.cell? ⟨gb129, 1, none⟩ = some (.int .i64 a0_1) := (bC BK129.out 1).trans rfl; have hcz18_2 : w15.cell? ⟨gb129, 2, none⟩ = some (.int .i64 a0_2) := (bC BK129.out 2).trans rfl; have hcz18_3 : w15.cell? ⟨gb129, 3, none⟩ = some (.bool a0_3) := (bC BK129.out 3).trans rfl; have hfz18_0 := bZ BK129.out 0; have hfz18_1 := bZ BK129.out 1; have hfz18_2 := bZ BK129.out 2; have hfz18_3 := bZ BK129.out 3) | ((with_reducible refine gate_callee (f := 65) rfl ?_); refine goesL_ (some 10) rfl rfl Try.func65 (by kernel_rfl) rfl #[.agg #[.int .i64 a1_0, .int .i64 a1_1, .int .i64 a1_2, .int .i64 a1_3], .int .i64 a0_0, .int .i64 a0_1] rfl (by (try simp only [List.map_toArray, List.map_cons, List.map_nil]); first | done | rfl | (simp only [List.length_drop, List.length_take]; rfl)) ?_; (with_reducible refine (plane_lies.calls a1_0 a1_1 a1_2 a1_3 a0_0 a0_1 true _ A3.out).mono ?_); rintro e w19 ⟨rfl, hb⟩; refine ⟨_, rfl, ?_⟩; have n0_ := am (bB (g := gb129) (o := .cells #[.int .i64 a0_0, .int .i64 a0_1, .int .i64 a0_2, .bool a0_3] 26 (0, 0)) (by (with_reducible repeat apply dX); exact BK129.out) hb); have n1_ := am (bB (g := gb130) (o := .cells #[.int .i64 a1_0, .int .i64 a1_1, .int .i64 a1_2, .int .i64 a1_3] 52 (0, 0)) (by (with_reducible repeat apply dX); exact BK130.out) hb); have n2_ := am (bT (by repeat (first | (with_reducible first | exact HB.out | apply bA | apply bN | apply bD | refine bS ?_ GE129.out | refine bS ?_ GE130.out) | exact HB.out)) hb); clear BK129; clear BK130; clear HB; have BK129 := n0_; have BK130 := n1_; have HB := n2_; clear n0_ n1_ n2_; (try clear hb); (try clear hb2); (try clear hk); (try clear hi); have hcz20_0 : w19.cell? ⟨gb130, 0, none⟩ = some (.int .i64 a1_0) := (bC BK130.out 0).trans rfl; have hcz20_1 : w19.cell? ⟨gb130, 1, none⟩ = some (.int .i64 a1_1) := (bC BK130.out 1).trans rfl; have hcz20_2 : w19.cell? ⟨gb130, 2, none⟩ = some (.int .i64 a1_2) := (bC BK130.out 2).trans rfl; have hcz20_3 : w19.cell? ⟨gb130, 3, none⟩ = some (.int .i64 a1_3) := (bC BK130.out 3).trans rfl; have hfz20_0 := bZ BK130.out 0; have hfz20_1 := bZ BK130.out 1; have hfz20_2 := bZ BK130.out 2; have hfz20_3 := bZ BK130.out 3; have hcz21_0 : w19.cell? ⟨gb129, 0, none⟩ = some (.int .i64 a0_0) := (bC BK129.out 0).trans rfl; have hcz21_1 : w19.cell? ⟨gb129, 1, none⟩ = some (.int .i64 a0_1) := (bC BK129.out 1).trans rfl; have hcz21_2 : w19.cell? ⟨gb129, 2, none⟩ = some (.int .i64 a0_2) := (bC BK129.out 2).trans rfl; have hcz21_3 : w19.cell? ⟨gb129, 3, none⟩ = some (.bool a0_3) := (bC BK129.out 3).trans rfl; have hfz21_0 := bZ BK129.out 0; have hfz21_1 := bZ BK129.out 1; have hfz21_2 := bZ BK129.out 2; have hfz21_3 := bZ BK129.out 3))
        go_ret
        exact ⟨by first | rfl | (simp [errW_none, errW_some] <;> rfl) | (simp [*, errW_none, errW_some] <;> rfl), by repeat (first | (with_reducible first | exact HB.out | apply bA | apply bN | apply bD | refine bS ?_ GE129.out | refine bS ?_ GE130.out) | exact HB.out)⟩
    · rw [if_neg c5] at H
      have c5b0 : ((Int.tmod a1_0 2) == 0) = false := beq_eq_false_iff_ne.mpr c5
      have c5b1 : ((Int.tmod a1_0 2) != 0) = true := bne_iff_ne.mpr c5
      obtain rfl := Option.some.inj H
      go_enter Try.func68, Try.ntmps68
      go_wp2_with (first | ((with_reducible refine gD (N := 2) rfl ?_); refine bE ?hg (N := 2) ?hd (cs := #[.int .i64 a0_0, .int .i64 a0_1, .int .i64 a0_2, .bool a0_3]) (t := 26) ?hr ?_; (case hd => rfl); (case hg => rfl); (case hr => first | (go_simp; done) | (go_simp; rfl)); intro gb129 hg w22 hbox hb; have n0_ := am (bT (by repeat (first | (with_reducible first | exact HB.out | apply bA | apply bN | apply bD) | exact HB.out)) hb); have n1_ := am (hbox); have n2_ := am ((by rw [hg]; exact (bU (by repeat (first | (with_reducible first | exact HB.out | apply bA | apply bN | apply bD) | exact HB.out))) : w.heap.size ≤ gb129)); have n3_ := am ((by rw [hg]; exact (bU (by repeat (first | (with_reducible first | exact HB.out | apply bA | apply bN | apply bD) | exact HB.out))) : w.heap.size ≤ gb129)); clear HB; have HB := n0_; have BK129 := n1_; have GW129 := n2_; have GE129 := n3_; clear n0_ n1_ n2_ n3_; clear hb hbox hg) | ((with_reducible refine gD (N := 3) rfl ?_); refine bE ?hg (N := 3) ?hd (cs := #[.int .i64 a1_0, .int .i64 a1_1, .int .i64 a1_2, .int .i64 a1_3]) (t := 52) ?hr ?_; (case hd => rfl); (case hg => rfl); (case hr => first | (go_simp; done) | (go_simp; rfl)); intro gb130 hg w23 hbox hb; have n0_ := am (bB (g := gb129) (o := .cells #[.int .i64 a0_0, .int .i64 a0_1, .int .i64 a0_2, .bool a0_3] 26 (0, 0)) (by (with_reducible repeat apply dX); exact BK129.out) hb); have n1_ := am (bT (by repeat (first | (with_reducible first | exact HB.out | apply bA | apply bN | apply bD | refine bS ?_ GE129.out) | exact HB.out)) hb); have n2_ := am (hbox); have n3_ := am ((by rw [hg]; exact (bU (by repeat (first | (with_reducible first | exact HB.out | apply bA | apply bN | apply bD | refine bS ?_ GE129.out) | exact HB.out))) : w.heap.size ≤ gb130)); have n4_ := am ((by rw [hg]; exact (bU (by repeat (first | (with_reducible first | exact HB.out | apply bA | apply bN | apply bD | refine bS ?_ GE129.out) | exact HB.out))) : w.heap.size ≤ gb130)); have n5_ := am ((by rw [hg]; exact nL (bL (g := gb129) (o := .cells #[.int .i64 a0_0, .int .i64 a0_1, .int .i64 a0_2, .bool a0_3] 26 (0, 0)) (by (with_reducible repeat apply dX); exact BK129.out)) : gb129 ≠ gb130)); have n6_ := am ((by rw [hg]; exact nG (bL (g := gb129) (o := .cells #[.int .i64 a0_0, .int .i64 a0_1, .int .i64 a0_2, .bool a0_3] 26 (0, 0)) (by (with_reducible repeat apply dX); exact BK129.out)) : gb130 ≠ gb129)); clear BK129; clear HB; have BK129 := n0_; have HB := n1_; have BK130 := n2_; have GW130 := n3_; have GE130 := n4_; have NB129_130 := n5_; have NB130_129 := n6_; clear n0_ n1_ n2_ n3_ n4_ n5_ n6_; clear hb hbox hg; have hnb24 := NB130_129.out; have hnc24 := NB129_130.out; have hcz25_0 : w23.cell? ⟨gb130, 0, none⟩ = some (.int .i64 a1_0) := (bC BK130.out 0).trans rfl; have hcz25_1 : w23.cell? ⟨gb130, 1, none⟩ = some (.int .i64 a1_1) := (bC BK130.out 1).trans rfl; have hcz25_2 : w23.cell? ⟨gb130, 2, none⟩ = some (.int .i64 a1_2) := (bC BK130.out 2).trans rfl; have hcz25_3 : w23.cell? ⟨gb130, 3, none⟩ = some (.int .i64 a1_3) := (bC BK130.out 3).trans rfl; have hfz25_0 := bZ BK130.out 0; have hfz25_1 := bZ BK130.out 1; have hfz25_2 := bZ BK130.out 2; have hfz25_3 := bZ BK130.out 3; have hcz26_0 : w23.cell? ⟨gb129, 0, none⟩ = some (.int .i64 a0_0) := (bC BK129.out 0).trans rfl; have hcz26_1 : w23.cell? ⟨gb129, 1, none⟩ = some (.int .i64 a0_1) := (bC BK129.out 1).trans rfl; have hcz26_2 : w23.cell? ⟨gb129, 2, none⟩ = some (.int .i64 a0_2) := (bC BK129.out 2).trans rfl; have hcz26_3 : w23.cell? ⟨gb129, 3, none⟩ = some (.bool a0_3) := (bC BK129.out 3).trans rfl; have hfz26_0 := bZ BK129.out 0; have hfz26_1 := bZ BK129.out 1; have hfz26_2 := bZ BK129.out 2; have hfz26_3 := bZ BK129.out 3) | ((with_reducible refine gate_callee (f := 65) rfl ?_); refine goesL_ (some 10) rfl rfl Try.func65 (by kernel_rfl) rfl #[.agg #[.int .i64 a1_0, .int .i64 a1_1, .int .i64 a1_2, .int .i64 a1_3], .int .i64 a0_0, .int .i64 a0_1] rfl (by (try simp only [List.map_toArray, List.map_cons, List.map_nil]); first | done | rfl | (simp only [List.length_drop, List.length_take]; rfl)) ?_; (with_reducible refine (plane_lies.calls a1_0 a1_1 a1_2 a1_3 a0_0 a0_1 true _ A3.out).mono ?_); rintro e w27 ⟨rfl, hb⟩; refine ⟨_, rfl, ?_⟩; have n0_ := am (bB (g := gb129) (o := .cells #[.int .i64 a0_0, .int .i64 a0_1, .int .i64 a0_2, .bool a0_3] 26 (0, 0)) (by (with_reducible repeat apply dX); exact BK129.out) hb); have n1_ := am (bB (g := gb130) (o := .cells #[.int .i64 a1_0, .int .i64 a1_1, .int .i64 a1_2, .int .i64 a1_3] 52 (0, 0)) (by (with_reducible repeat apply dX); exact BK130.out) hb); have n2_ := am (bT (by repeat (first | (with_reducible first | exact HB.out | apply bA | apply bN | apply bD | refine bS ?_ GE129.out | refine bS ?_ GE130.out) | exact HB.out)) hb); clear BK129; clear BK130; clear HB; have BK129 := n0_; have BK130 := n1_; have HB := n2_; clear n0_ n1_ n2_; (try clear hb); (try clear hb2); (try clear hk); (try clear hi); have hcz28_0 : w27.cell? ⟨gb130, 0, none⟩ = some (.int .i64 a1_0) := (bC BK130.out 0).trans rfl; have hcz28_1 : w27.cell? ⟨gb130, 1, none⟩ = some (.int .i64 a1_1) := (bC BK130.out 1).trans rfl; have hcz28_2 : w27.cell? ⟨gb130, 2, none⟩ = some (.int .i64 a1_2) := (bC BK130.out 2).trans rfl; have hcz28_3 : w27.cell? ⟨gb130, 3, none⟩ = some (.int .i64 a1_3) := (bC BK130.out 3).trans rfl; have hfz28_0 := bZ BK130.out 0; have hfz28_1 := bZ BK130.out 1; have hfz28_2 := bZ BK130.out 2; have hfz28_3 := bZ BK130.out 3))
      go_ret
      exact ⟨by first | rfl | (simp [errW_none, errW_some] <;> rfl) | (simp [*, errW_none, errW_some] <;> rfl), by repeat (first | (with_reducible first | exact HB.out | apply bA | apply bN | apply bD | refine bS ?_ GE129.out | refine bS ?_ GE130.out) | exact HB.out)⟩
  · replace c4 := Bool.eq_false_iff.mpr c4
    subst c4
    have H1 : (some false) = some r := by rw [if_neg (show ¬ (false = true) by decide)] at H; exact H
    clear H
    have H := H1
    clear H1
    obtain rfl := Option.some.inj H
    go_enter Try.func68, Try.ntmps68
    go_wp2_with (first | ((with_reducible refine gD (N := 2) rfl ?_); refine bE ?hg (N := 2) ?hd (cs := #[.int .i64 a0_0, .int .i64 a0_1, .int .i64 a0_2, .bool a0_3]) (t := 26) ?hr ?_; (case hd => rfl); (case hg => rfl); (case hr => first | (go_simp; done) | (go_simp; rfl)); intro gb129 hg w29 hbox hb; have n0_ := am (bT (by repeat (first | (with_reducible first | exact HB.out | apply bA | apply bN | apply bD) | exact HB.out)) hb); have n1_ := am (hbox); have n2_ := am ((by rw [hg]; exact (bU (by repeat (first | (with_reducible first | exact HB.out | apply bA | apply bN | apply bD) | exact HB.out))) : w.heap.size ≤ gb129)); have n3_ := am ((by rw [hg]; exact (bU (by repeat (first | (with_reducible first | exact HB.out | apply bA | apply bN | apply bD) | exact HB.out))) : w.heap.size ≤ gb129)); clear HB; have HB := n0_; have BK129 := n1_; have GW129 := n2_; have GE129 := n3_; clear n0_ n1_ n2_ n3_; clear hb hbox hg) | ((with_reducible refine gD (N := 3) rfl ?_); refine bE ?hg (N := 3) ?hd (cs := #[.int .i64 a1_0, .int .i64 a1_1, .int .i64 a1_2, .int .i64 a1_3]) (t := 52) ?hr ?_; (case hd => rfl); (case hg => rfl); (case hr => first | (go_simp; done) | (go_simp; rfl)); intro gb130 hg w30 hbox hb; have n0_ := am (bB (g := gb129) (o := .cells #[.int .i64 a0_0, .int .i64 a0_1, .int .i64 a0_2, .bool a0_3] 26 (0, 0)) (by (with_reducible repeat apply dX); exact BK129.out) hb); have n1_ := am (bT (by repeat (first | (with_reducible first | exact HB.out | apply bA | apply bN | apply bD | refine bS ?_ GE129.out) | exact HB.out)) hb); have n2_ := am (hbox); have n3_ := am ((by rw [hg]; exact (bU (by repeat (first | (with_reducible first | exact HB.out | apply bA | apply bN | apply bD | refine bS ?_ GE129.out) | exact HB.out))) : w.heap.size ≤ gb130)); have n4_ := am ((by rw [hg]; exact (bU (by repeat (first | (with_reducible first | exact HB.out | apply bA | apply bN | apply bD | refine bS ?_ GE129.out) | exact HB.out))) : w.heap.size ≤ gb130)); have n5_ := am ((by rw [hg]; exact nL (bL (g := gb129) (o := .cells #[.int .i64 a0_0, .int .i64 a0_1, .int .i64 a0_2, .bool a0_3] 26 (0, 0)) (by (with_reducible repeat apply dX); exact BK129.out)) : gb129 ≠ gb130)); have n6_ := am ((by rw [hg]; exact nG (bL (g := gb129) (o := .cells #[.int .i64 a0_0, .int .i64 a0_1, .int .i64 a0_2, .bool a0_3] 26 (0, 0)) (by (with_reducible repeat apply dX); exact BK129.out)) : gb130 ≠ gb129)); clear BK129; clear HB; have BK129 := n0_; have HB := n1_; have BK130 := n2_; have GW130 := n3_; have GE130 := n4_; have NB129_130 := n5_; have NB130_129 := n6_; clear n0_ n1_ n2_ n3_ n4_ n5_ n6_; clear hb hbox hg; have hnb31 := NB130_129.out; have hnc31 := NB129_130.out; have hcz32_0 : w30.cell? ⟨gb130, 0, none⟩ = some (.int .i64 a1_0) := (bC BK130.out 0).trans rfl; have hcz32_1 : w30.cell? ⟨gb130, 1, none⟩ = some (.int .i64 a1_1) := (bC BK130.out 1).trans rfl; have hcz32_2 : w30.cell? ⟨gb130, 2, none⟩ = some (.int .i64 a1_2) := (bC BK130.out 2).trans rfl; have hcz32_3 : w30.cell? ⟨gb130, 3, none⟩ = some (.int .i64 a1_3) := (bC BK130.out 3).trans rfl; have hfz32_0 := bZ BK130.out 0; have hfz32_1 := bZ BK130.out 1; have hfz32_2 := bZ BK130.out 2; have hfz32_3 := bZ BK130.out 3; have hcz33_0 : w30.cell? ⟨gb129, 0, none⟩ = some (.int .i64 a0_0) := (bC BK129.out 0).trans rfl; have hcz33_1 : w30.cell? ⟨gb129, 1, none⟩ = some (.int .i64 a0_1) := (bC BK129.out 1).trans rfl; have hcz33_2 : w30.cell? ⟨gb129, 2, none⟩ = some (.int .i64 a0_2) := (bC BK129.out 2).trans rfl; have hcz33_3 : w30.cell? ⟨gb129, 3, none⟩ = some (.bool a0_3) := (bC BK129.out 3).trans rfl; have hfz33_0 := bZ BK129.out 0; have hfz33_1 := bZ BK129.out 1; have hfz33_2 := bZ BK129.out 2; have hfz33_3 := bZ BK129.out 3) | ((with_reducible refine gate_callee (f := 65) rfl ?_); refine goesL_ (some 10) rfl rfl Try.func65 (by kernel_rfl) rfl #[.agg #[.int .i64 a1_0, .int .i64 a1_1, .int .i64 a1_2, .int .i64 a1_3], .int .i64 a0_0, .int .i64 a0_1] rfl (by (try simp only [List.map_toArray, List.map_cons, List.map_nil]); first | done | rfl | (simp only [List.length_drop, List.length_take]; rfl)) ?_; (with_reducible refine (plane_lies.calls a1_0 a1_1 a1_2 a1_3 a0_0 a0_1 false _ A3.out).mono ?_); rintro e w34 ⟨rfl, hb⟩; refine ⟨_, rfl, ?_⟩; have n0_ := am (bB (g := gb129) (o := .cells #[.int .i64 a0_0, .int .i64 a0_1, .int .i64 a0_2, .bool a0_3] 26 (0, 0)) (by (with_reducible repeat apply dX); exact BK129.out) hb); have n1_ := am (bB (g := gb130) (o := .cells #[.int .i64 a1_0, .int .i64 a1_1, .int .i64 a1_2, .int .i64 a1_3] 52 (0, 0)) (by (with_reducible repeat apply dX); exact BK130.out) hb); have n2_ := am (bT (by repeat (first | (with_reducible first | exact HB.out | apply bA | apply bN | apply bD | refine bS ?_ GE129.out | refine bS ?_ GE130.out) | exact HB.out)) hb); clear BK129; clear BK130; clear HB; have BK129 := n0_; have BK130 := n1_; have HB := n2_; clear n0_ n1_ n2_; (try clear hb); (try clear hb2); (try clear hk); (try clear hi)))
    go_ret
    exact ⟨by first | rfl | (simp [errW_none, errW_some] <;> rfl) | (simp [*, errW_none, errW_some] <;> rfl), by repeat (first | (with_reducible first | exact HB.out | apply bA | apply bN | apply bD | refine bS ?_ GE129.out | refine bS ?_ GE130.out) | exact HB.out)⟩

/-! ### plane_part: function 69 -/
def plane_part.f (a0 : Int) (a1_0 : Int) (a1_1 : Int) (a1_2 : Int) (a1_3 : Int) : Option (Int × Int × Int × Int) := if a0 = 1 then ((plane_half.f a1_2).bind fun t134 => (some (wrap64 (Int.tdiv a1_0 2), a1_1, t134, a1_3))) else (if a0 = 2 then ((plane_half.f a1_2).bind fun t135 => (some (wrap64 (Int.tdiv a1_0 2), a1_1, t135, a1_3))) else (some (a1_0, a1_1, a1_2, a1_3)))
def plane_part.T2 : Bool × List (List Nat × List Nat) := (true, [([], []), ([0], [0]), ([1], [1]), ([], []), ([3], [3]), ([], []), ([5], [5]), ([6], [6]), ([], []), ([8], [8]), ([2, 4, 7, 9], [2, 4, 7, 9]), ([10, 7, 0, 1, 2, 3, 4, 5, 6, 7, 8, 9, 10], [10])])
def plane_part.B2 : List Nat := [0, 1, 3, 0, 8, 0, 32, 96, 0, 256, 1023, 2047]
theorem plane_part.tab2 : rtab .any (opsOf Try.f69 2) = plane_part.T2 := by kernel_rfl
theorem plane_part.bits2 : waitsOk plane_part.T2.2 plane_part.B2 = true := by kernel_rfl
set_option maxHeartbeats 8000000 in
set_option maxRecDepth 100000 in
theorem plane_part.calls (a0 : Int) (a1_0 : Int) (a1_1 : Int) (a1_2 : Int) (a1_3 : Int) (r1 : Int) (r2 : Int) (r3 : Int) (r4 : Int) (w : World) (h : plane_part.f a0 a1_0 a1_1 a1_2 a1_3 = some (r1, r2, r3, r4)) :
    Calls Try.prog 69 #[.int .i64 a0, .agg #[.int .i64 a1_0, .int .i64 a1_1, .int .i64 a1_2, .int .i64 a1_3]] w fun e w' => e = .returned (.agg #[.int .i64 r1, .int .i64 r2, .int .i64 r3, .int .i64 r4]) ∧ Below w.heap.size w w' := by
  have hu52 := Try.underlying52
  have HB := am (Below.refl w.heap.size w)
  have H : (if a0 = 1 then ((plane_half.f a1_2).bind fun t134 => (some (wrap64 (Int.tdiv a1_0 2), a1_1, t134, a1_3))) else (if a0 = 2 then ((plane_half.f a1_2).bind fun t135 => (some (wrap64 (Int.tdiv a1_0 2), a1_1, t135, a1_3))) else (some (a1_0, a1_1, a1_2, a1_3)))) = some (r1, r2, r3, r4) := h
  clear h
  by_cases c3 : a0 = 1
  · rw [if_pos c3] at H
    have c3b0 : (a0 == 1) = true := beq_iff_eq.mpr c3
    have c3b1 : (a0 != 1) = false := bne_eq_false_iff_eq.mpr c3
    clear c3
    replace H := Option.bind_eq_some_iff.mp H
    obtain ⟨t134, A40, H⟩ := H
    replace H : (some (wrap64 (Int.tdiv a1_0 2), a1_1, t134, a1_3)) = some (r1, r2, r3, r4) := H
    have A4 := am A40
    clear A40
    simp only [Option.some.injEq, Prod.mk.injEq] at H
    obtain ⟨rfl, rfl, rfl, rfl⟩ := H
    go_enter Try.func69, Try.ntmps69
    try go_wp2_with (first | ((with_reducible refine gD (N := 3) rfl ?_); refine bE ?hg (N := 3) ?hd (cs := #[.int .i64 a1_0, .int .i64 a1_1, .int .i64 a1_2, .int .i64 a1_3]) (t := 52) ?hr ?_; (case hd => rfl); (case hg => rfl); (case hr => first | (go_simp; done) | (go_simp; rfl)); intro gb132 hg w5 hbox hb; have n0_ := am (bT (by repeat (first | (with_reducible first | exact HB.out | apply bA | apply bN | apply bD) | exact HB.out)) hb); have n1_ := am (hbox); have n2_ := am ((by rw [hg]; exact (bU (by repeat (first | (with_reducible first | exact HB.out | apply bA | apply bN | apply bD) | exact HB.out))) : w.heap.size ≤ gb132)); have n3_ := am ((by rw [hg]; exact (bU (by repeat (first | (with_reducible first | exact HB.out | apply bA | apply bN | apply bD) | exact HB.out))) : w.heap.size ≤ gb132)); clear HB; have HB := n0_; have BK132 := n1_; have GW132 := n2_; have GE132 := n3_; clear n0_ n1_ n2_ n3_; clear hb hbox hg) | ((with_reducible refine gD (N := 4) rfl ?_); refine bE ?hg (N := 4) ?hd (cs := #[.int .i64 0, .int .i64 0, .int .i64 0, .int .i64 0]) (t := 52) ?hr ?_; (case hd => rfl); (case hg => rfl); (case hr => first | (go_simp; done) | (go_simp; rfl)); intro gb133 hg w6 hbox hb; have n0_ := am (bB (g := gb132) (o := .cells #[.int .i64 a1_0, .int .i64 a1_1, .int .i64 a1_2, .int .i64 a1_3] 52 (0, 0)) (by (with_reducible repeat apply dX); exact BK132.out) hb); have n1_ := am (bT (by repeat (first | (with_reducible first | exact HB.out | apply bA | apply bN | apply bD | refine bS ?_ GE132.out) | exact HB.out)) hb); have n2_ := am (hbox); have n3_ := am ((by rw [hg]; exact (bU (by repeat (first | (with_reducible first | exact HB.out | apply bA | apply bN | apply bD | refine bS ?_ GE132.out) | exact HB.out))) : w.heap.size ≤ gb133)); have n4_ := am ((by rw [hg]; exact (bU (by repeat (first | (with_reducible first | exact HB.out | apply bA | apply bN | apply bD | refine bS ?_ GE132.out) | exact HB.out))) : w.heap.size ≤ gb133)); have n5_ := am ((by rw [hg]; exact nL (bL (g := gb132) (o := .cells #[.int .i64 a1_0, .int .i64 a1_1, .int .i64 a1_2, .int .i64 a1_3] 52 (0, 0)) (by (with_reducible repeat apply dX); exact BK132.out)) : gb132 ≠ gb133)); have n6_ := am ((by rw [hg]; exact nG (bL (g := gb132) (o := .cells #[.int .i64 a1_0, .int .i64 a1_1, .int .i64 a1_2, .int .i64 a1_3] 52 (0, 0)) (by (with_reducible repeat apply dX); exact BK132.out)) : gb133 ≠ gb132)); clear BK132; clear HB; have BK132 := n0_; have HB := n1_; have BK133 := n2_; have GW133 := n3_; have GE133 := n4_; have NB132_133 := n5_; have NB133_132 := n6_; clear n0_ n1_ n2_ n3_ n4_ n5_ n6_; clear hb hbox hg))
    have n0_ := am (blk_drew BK132.out)
    have n1_ := am (blk_drew BK133.out)
    have n2_ := am (bD HB.out)
    clear BK132
    clear BK133
    clear HB
    have BK132 := n0_
    have BK133 := n1_
    have HB := n2_
    clear n0_ n1_ n2_
    refine start_ (n := 12) (S := fun w' => w'.cell? ⟨gb132, 0, none⟩ = some (.int .i64 a1_0) ∧ w'.cell? ⟨gb132, 1, none⟩ = some (.int .i64 a1_1) ∧ w'.cell? ⟨gb132, 2, none⟩ = some (.int .i64 a1_2) ∧ w'.cell? ⟨gb132, 3, none⟩ = some (.int .i64 a1_3)) (ds := []) #[false, false, false, false, false, false, false, false, false, false, false, false] (by kernel_rfl) rfl rfl ⟨(bC BK132.out 0).trans rfl, (bC BK132.out 1).trans rfl, (bC BK132.out 2).trans rfl, (bC BK132.out 3).trans rfl⟩ (fun hHeld => ?_); refine with_tabW plane_part.tab2 plane_part.bits2 (fun HT_ HW_ => ?_)
    generalize w6.drew = w7 at BK132 BK133 HB hHeld ⊢
    refine pure_ (i := 0) (N := some 11) (v := ?_) (a' := ?_) #[true, false, false, false, false, false, false, false, false, false, false, false] rfl rfl (any_of HT_.out (by kernel_rfl)) (fun _ _ _ h => h) (Or.inl ⟨by rfl, ?_⟩) ?_ ?_
    rotate_left
    · intro w'
      go_simp
      with_reducible rfl
    rotate_left
    · simp only [Act.put, List.setIfInBounds_toArray, List.set_cons_zero, List.set_cons_succ, i64_w, i32_w]
      rfl
    refine pure_ (i := 3) (N := some 14) (v := ?_) (a' := ?_) #[true, false, false, true, false, false, false, false, false, false, false, false] rfl rfl (any_of HT_.out (by kernel_rfl)) (fun _ _ _ h => h) (Or.inl ⟨by rfl, ?_⟩) ?_ ?_
    rotate_left
    · intro w'
      go_simp
      with_reducible rfl
    rotate_left
    · simp only [Act.put, List.setIfInBounds_toArray, List.set_cons_zero, List.set_cons_succ, i64_w, i32_w]
      rfl
    refine pure_ (i := 5) (N := some 16) (v := ?_) (a' := ?_) #[true, false, false, true, false, true, false, false, false, false, false, false] rfl rfl (any_of HT_.out (by kernel_rfl)) (fun _ _ _ h => h) (Or.inl ⟨by rfl, ?_⟩) ?_ ?_
    rotate_left
    · intro w'
      go_simp
      with_reducible rfl
    rotate_left
    · simp only [Act.put, List.setIfInBounds_toArray, List.set_cons_zero, List.set_cons_succ, i64_w, i32_w]
      rfl
    refine pure_ (i := 8) (N := some 19) (v := ?_) (a' := ?_) #[true, false, false, true, false, true, false, false, true, false, false, false] rfl rfl (any_of HT_.out (by kernel_rfl)) (fun _ _ _ h => h) (Or.inl ⟨by rfl, ?_⟩) ?_ ?_
    rotate_left
    · intro w'
      go_simp
      with_reducible rfl
    rotate_left
    · simp only [Act.put, List.setIfInBounds_toArray, List.set_cons_zero, List.set_cons_succ, i64_w, i32_w]
      rfl
    refine take_ (i := 1) (N := some 12) (v := ?_) (a' := ?_) #[true, true, false, true, false, true, false, false, true, false, false, false] rfl rfl (take_ofW HT_.out HW_.out (by kernel_rfl)) (fun _ _ _ h => h) (Or.inl ⟨by rfl, ?_⟩) hHeld ?_ ?_
    rotate_left
    · rintro w' ⟨s0, s1, s2, s3⟩
      go_simp
      with_reducible rfl
    rotate_left
    · simp only [Act.put, List.setIfInBounds_toArray, List.set_cons_zero, List.set_cons_succ, i64_w, i32_w]
      rfl
    refine pure_ (i := 2) (N := some 13) (v := ?_) (a' := ?_) #[true, true, true, true, false, true, false, false, true, false, false, false] rfl rfl (any_of HT_.out (by kernel_rfl)) (fun _ _ _ h => h) (Or.inl ⟨by rfl, ?_⟩) ?_ ?_
    rotate_left
    · intro w'
      go_simp
      with_reducible rfl
    rotate_left
    · simp only [Act.put, List.setIfInBounds_toArray, List.set_cons_zero, List.set_cons_succ, i64_w, i32_w]
      rfl
    refine take_ (i := 4) (N := some 15) (v := ?_) (a' := ?_) #[true, true, true, true, true, true, false, false, true, false, false, false] rfl rfl (take_ofW HT_.out HW_.out (by kernel_rfl)) (fun _ _ _ h => h) (Or.inl ⟨by rfl, ?_⟩) hHeld ?_ ?_
    rotate_left
    · rintro w' ⟨s0, s1, s2, s3⟩
      go_simp
      with_reducible rfl
    rotate_left
    · simp only [Act.put, List.setIfInBounds_toArray, List.set_cons_zero, List.set_cons_succ, i64_w, i32_w]
      rfl
    refine take_ (i := 6) (N := some 17) (v := ?_) (a' := ?_) #[true, true, true, true, true, true, true, false, true, false, false, false] rfl rfl (take_ofW HT_.out HW_.out (by kernel_rfl)) (fun _ _ _ h => h) (Or.inl ⟨by rfl, ?_⟩) hHeld ?_ ?_
    rotate_left
    · rintro w' ⟨s0, s1, s2, s3⟩
      go_simp
      with_reducible rfl
    rotate_left
    · simp only [Act.put, List.setIfInBounds_toArray, List.set_cons_zero, List.set_cons_succ, i64_w, i32_w]
      rfl
    refine take_ (i := 9) (N := some 20) (v := ?_) (a' := ?_) #[true, true, true, true, true, true, true, false, true, true, false, false] rfl rfl (take_ofW HT_.out HW_.out (by kernel_rfl)) (fun _ _ _ h => h) (Or.inl ⟨by rfl, ?_⟩) hHeld ?_ ?_
    rotate_left
    · rintro w' ⟨s0, s1, s2, s3⟩
      go_simp
      with_reducible rfl
    rotate_left
    · simp only [Act.put, List.setIfInBounds_toArray, List.set_cons_zero, List.set_cons_succ, i64_w, i32_w]
      rfl
    refine one_ (i := 7) (N := some 18) #[true, true, true, true, true, true, true, true, true, true, false, false] rfl rfl (one_of HT_.out (by kernel_rfl)) (by decide) (fun K hK => ?_)
    refine goes_ Try.func79 (by kernel_rfl) rfl #[.int .i64 a1_2] (by rfl) rfl rfl (by (try simp only [List.map_toArray, List.map_cons, List.map_nil]); first | done | rfl | (simp only [List.length_drop, List.length_take]; rfl)) ?_
    with_reducible refine (plane_half.calls a1_2 t134 _ A4.out).mono ?_
    rintro e w' ⟨rfl, ⟨nd, rfl⟩⟩
    refine ⟨_, rfl, ?_⟩
    refine hK.out _ _ ⟨(bC BK132.out 0).trans rfl, (bC BK132.out 1).trans rfl, (bC BK132.out 2).trans rfl, (bC BK132.out 3).trans rfl⟩ (fun hHeld => ?_)
    clear hK K
    refine norm_ (a' := ?_) ?_ ?_
    rotate_left
    · show Act.put _ (some 18) _ = _
      simp only [Act.put, List.setIfInBounds_toArray, List.set_cons_zero, List.set_cons_succ, i64_w, i32_w]
      rfl
    refine pure_ (i := 10) (N := some 21) (v := ?_) (a' := ?_) #[true, true, true, true, true, true, true, true, true, true, true, false] rfl rfl (any_of HT_.out (by kernel_rfl)) (fun _ _ _ h => h) (Or.inl ⟨by rfl, ?_⟩) ?_ ?_
    rotate_left
    · intro w'
      go_simp
      with_reducible rfl
    rotate_left
    · simp only [Act.put, List.setIfInBounds_toArray, List.set_cons_zero, List.set_cons_succ, i64_w, i32_w]
      rfl
    refine one_ (i := 11) (N := none) #[true, true, true, true, true, true, true, true, true, true, true, true] rfl rfl (one_of HT_.out (by kernel_rfl)) (by decide) (fun K hK => ?_)
    have hs8 : w7.cell? ⟨gb133, 0, none⟩ = some (.int .i64 0) := (bC BK133.out 0).trans rfl
    have hfs8 := bZ BK133.out 0
    have hns8_0 := NB132_133.out
    have hms8_0 := NB133_132.out
    have hs9 : w7.cell? ⟨gb133, 1, none⟩ = some (.int .i64 0) := (bC BK133.out 1).trans rfl
    have hfs9 := bZ BK133.out 1
    have hns9_0 := NB132_133.out
    have hms9_0 := NB133_132.out
    have hs10 : w7.cell? ⟨gb133, 2, none⟩ = some (.int .i64 0) := (bC BK133.out 2).trans rfl
    have hfs10 := bZ BK133.out 2
    have hns10_0 := NB132_133.out
    have hms10_0 := NB133_132.out
    have hs11 : w7.cell? ⟨gb133, 3, none⟩ = some (.int .i64 0) := (bC BK133.out 3).trans rfl
    have hfs11 := bZ BK133.out 3
    have hns11_0 := NB132_133.out
    have hms11_0 := NB133_132.out
    refine skip_ (w1 := ?_) (by rfl) rfl ?_ ?_
    rotate_left
    · go_simp
      rfl
    refine hK.out _ _ ⟨((cell_far (p := ⟨gb133, _, none⟩) NB132_133.out _).trans (((cell_far (p := ⟨gb133, _, none⟩) NB132_133.out _).trans (((cell_far (p := ⟨gb133, _, none⟩) NB132_133.out _).trans (((cell_far (p := ⟨gb133, _, none⟩) NB132_133.out _).trans (hHeld.1)))))))), ((cell_far (p := ⟨gb133, _, none⟩) NB132_133.out _).trans (((cell_far (p := ⟨gb133, _, none⟩) NB132_133.out _).trans (((cell_far (p := ⟨gb133, _, none⟩) NB132_133.out _).trans (((cell_far (p := ⟨gb133, _, none⟩) NB132_133.out _).trans (hHeld.2.1)))))))), ((cell_far (p := ⟨gb133, _, none⟩) NB132_133.out _).trans (((cell_far (p := ⟨gb133, _, none⟩) NB132_133.out _).trans (((cell_far (p := ⟨gb133, _, none⟩) NB132_133.out _).trans (((cell_far (p := ⟨gb133, _, none⟩) NB132_133.out _).trans (hHeld.2.2.1)))))))), ((cell_far (p := ⟨gb133, _, none⟩) NB132_133.out _).trans (((cell_far (p := ⟨gb133, _, none⟩) NB132_133.out _).trans (((cell_far (p := ⟨gb133, _, none⟩) NB132_133.out _).trans (((cell_far (p := ⟨gb133, _, none⟩) NB132_133.out _).trans (hHeld.2.2.2))))))))⟩ (fun hHeld => ?_)
    clear hK K
    refine done_ (done_of HT_.out (by kernel_rfl)) ?_
    try go_wp2
    refine bodyPost_ret (results_cell_row rfl _ _ gb133 52 #[.int .i64 (wrap64 (Int.tdiv a1_0 2)), .int .i64 a1_1, .int .i64 t134, .int .i64 a1_3] (0, 0) _ rfl (by (with_reducible repeat apply dX); refine bP (cs := #[.int .i64 (wrap64 (Int.tdiv a1_0 2)), .int .i64 a1_1, .int .i64 t134, .int .i64 0]) ?_ 3 _ rfl; (with_reducible repeat apply dX); refine bP (cs := #[.int .i64 (wrap64 (Int.tdiv a1_0 2)), .int .i64 a1_1, .int .i64 0, .int .i64 0]) ?_ 2 _ rfl; (with_reducible repeat apply dX); refine bP (cs := #[.int .i64 (wrap64 (Int.tdiv a1_0 2)), .int .i64 0, .int .i64 0, .int .i64 0]) ?_ 1 _ rfl; (with_reducible repeat apply dX); refine bP (cs := #[.int .i64 0, .int .i64 0, .int .i64 0, .int .i64 0]) ?_ 0 _ rfl; (with_reducible repeat apply dX); exact BK133.out) Try.underlying52 rfl (by kernel_rfl)) rfl ?_
    exact ⟨by first | rfl | (simp [errW_none, errW_some] <;> rfl) | (simp [*, errW_none, errW_some] <;> rfl), by repeat (first | (with_reducible first | exact HB.out | apply bA | apply bN | apply bD | refine bS ?_ GE132.out | refine bS ?_ GE133.out) | exact HB.out)⟩
  · rw [if_neg c3] at H
    have c3b0 : (a0 == 1) = false := beq_eq_false_iff_ne.mpr c3
    have c3b1 : (a0 != 1) = true := bne_iff_ne.mpr c3
    by_cases c12 : a0 = 2
    · rw [if_pos c12] at H
      have c12b0 : (a0 == 2) = true := beq_iff_eq.mpr c12
      have c12b1 : (a0 != 2) = false := bne_eq_false_iff_eq.mpr c12
      clear c12
      replace H := Option.bind_eq_some_iff.mp H
      obtain ⟨t135, A130, H⟩ := H
      replace H : (some (wrap64 (Int.tdiv a1_0 2), a1_1, t135, a1_3)) = some (r1, r2, r3, r4) := H
      have A13 := am A130
      clear A130
      simp only [Option.some.injEq, Prod.mk.injEq] at H
      obtain ⟨rfl, rfl, rfl, rfl⟩ := H
      go_enter Try.func69, Try.ntmps69
      try go_wp2_with (first | ((with_reducible refine gD (N := 3) rfl ?_); refine bE ?hg (N := 3) ?hd (cs := #[.int .i64 a1_0, .int .i64 a1_1, .int .i64 a1_2, .int .i64 a1_3]) (t := 52) ?hr ?_; (case hd => rfl); (case hg => rfl); (case hr => first | (go_simp; done) | (go_simp; rfl)); intro gb132 hg w14 hbox hb; have n0_ := am (bT (by repeat (first | (with_reducible first | exact HB.out | apply bA | apply bN | apply bD) | exact HB.out)) hb); have n1_ := am (hbox); have n2_ := am ((by rw [hg]; exact (bU (by repeat (first | (with_reducible first | exact HB.out | apply bA | apply bN | apply bD) | exact HB.out))) : w.heap.size ≤ gb132)); have n3_ := am ((by rw [hg]; exact (bU (by repeat (first | (with_reducible first | exact HB.out | apply bA | apply bN | apply bD) | exact HB.out))) : w.heap.size ≤ gb132)); clear HB; have HB := n0_; have BK132 := n1_; have GW132 := n2_; have GE132 := n3_; clear n0_ n1_ n2_ n3_; clear hb hbox hg) | ((with_reducible refine gD (N := 4) rfl ?_); refine bE ?hg (N := 4) ?hd (cs := #[.int .i64 0, .int .i64 0, .int .i64 0, .int .i64 0]) (t := 52) ?hr ?_; (case hd => rfl); (case hg => rfl); (case hr => first | (go_simp; done) | (go_simp; rfl)); intro gb133 hg w15 hbox hb; have n0_ := am (bB (g := gb132) (o := .cells #[.int .i64 a1_0, .int .i64 a1_1, .int .i64 a1_2, .int .i64 a1_3] 52 (0, 0)) (by (with_reducible repeat apply dX); exact BK132.out) hb); have n1_ := am (bT (by repeat (first | (with_reducible first | exact HB.out | apply bA | apply bN | apply bD | refine bS ?_ GE132.out) | exact HB.out)) hb); have n2_ := am (hbox); have n3_ := am ((by rw [hg]; exact (bU (by repeat (first | (with_reducible first | exact HB.out | apply bA | apply bN | apply bD | refine bS ?_ GE132.out) | exact HB.out))) : w.heap.size ≤ gb133)); have n4_ := am ((by rw [hg]; exact (bU (by repeat (first | (with_reducible first | exact HB.out | apply bA | apply bN | apply bD | refine bS ?_ GE132.out) | exact HB.out))) : w.heap.size ≤ gb133)); have n5_ := am ((by rw [hg]; exact nL (bL (g := gb132) (o := .cells #[.int .i64 a1_0, .int .i64 a1_1, .int .i64 a1_2, .int .i64 a1_3] 52 (0, 0)) (by (with_reducible repeat apply dX); exact BK132.out)) : gb132 ≠ gb133)); have n6_ := am ((by rw [hg]; exact nG (bL (g := gb132) (o := .cells #[.int .i64 a1_0, .int .i64 a1_1, .int .i64 a1_2, .int .i64 a1_3] 52 (0, 0)) (by (with_reducible repeat apply dX); exact BK132.out)) : gb133 ≠ gb132)); clear BK132; clear HB; have BK132 := n0_; have HB := n1_; have BK133 := n2_; have GW133 := n3_; have GE133 := n4_; have NB132_133 := n5_; have NB133_132 := n6_; clear n0_ n1_ n2_ n3_ n4_ n5_ n6_; clear hb hbox hg))
      have n0_ := am (blk_drew BK132.out)
      have n1_ := am (blk_drew BK133.out)
      have n2_ := am (bD HB.out)
      clear BK132
      clear BK133
      clear HB
      have BK132 := n0_
      have BK133 := n1_
      have HB := n2_
      clear n0_ n1_ n2_
      refine start_ (n := 12) (S := fun w' => w'.cell? ⟨gb132, 0, none⟩ = some (.int .i64 a1_0) ∧ w'.cell? ⟨gb132, 1, none⟩ = some (.int .i64 a1_1) ∧ w'.cell? ⟨gb132, 2, none⟩ = some (.int .i64 a1_2) ∧ w'.cell? ⟨gb132, 3, none⟩ = some (.int .i64 a1_3)) (ds := []) #[false, false, false, false, false, false, false, false, false, false, false, false] (by kernel_rfl) rfl rfl ⟨(bC BK132.out 0).trans rfl, (bC BK132.out 1).trans rfl, (bC BK132.out 2).trans rfl, (bC BK132.out 3).trans rfl⟩ (fun hHeld => ?_); refine with_tabW plane_part.tab2 plane_part.bits2 (fun HT_ HW_ => ?_)
      generalize w15.drew = w16 at BK132 BK133 HB hHeld ⊢
      refine pure_ (i := 0) (N := some 11) (v := ?_) (a' := ?_) #[true, false, false, false, false, false, false, false, false, false, false, false] rfl rfl (any_of HT_.out (by kernel_rfl)) (fun _ _ _ h => h) (Or.inl ⟨by rfl, ?_⟩) ?_ ?_
      rotate_left
      · intro w'
        go_simp
        with_reducible rfl
      rotate_left
      · simp only [Act.put, List.setIfInBounds_toArray, List.set_cons_zero, List.set_cons_succ, i64_w, i32_w]
        rfl
      refine pure_ (i := 3) (N := some 14) (v := ?_) (a' := ?_) #[true, false, false, true, false, false, false, false, false, false, false, false] rfl rfl (any_of HT_.out (by kernel_rfl)) (fun _ _ _ h => h) (Or.inl ⟨by rfl, ?_⟩) ?_ ?_
      rotate_left
      · intro w'
        go_simp
        with_reducible rfl
      rotate_left
      · simp only [Act.put, List.setIfInBounds_toArray, List.set_cons_zero, List.set_cons_succ, i64_w, i32_w]
        rfl
      refine pure_ (i := 5) (N := some 16) (v := ?_) (a' := ?_) #[true, false, false, true, false, true, false, false, false, false, false, false] rfl rfl (any_of HT_.out (by kernel_rfl)) (fun _ _ _ h => h) (Or.inl ⟨by rfl, ?_⟩) ?_ ?_
      rotate_left
      · intro w'
        go_simp
        with_reducible rfl
      rotate_left
      · simp only [Act.put, List.setIfInBounds_toArray, List.set_cons_zero, List.set_cons_succ, i64_w, i32_w]
        rfl
      refine pure_ (i := 8) (N := some 19) (v := ?_) (a' := ?_) #[true, false, false, true, false, true, false, false, true, false, false, false] rfl rfl (any_of HT_.out (by kernel_rfl)) (fun _ _ _ h => h) (Or.inl ⟨by rfl, ?_⟩) ?_ ?_
      rotate_left
      · intro w'
        go_simp
        with_reducible rfl
      rotate_left
      · simp only [Act.put, List.setIfInBounds_toArray, List.set_cons_zero, List.set_cons_succ, i64_w, i32_w]
        rfl
      refine take_ (i := 1) (N := some 12) (v := ?_) (a' := ?_) #[true, true, false, true, false, true, false, false, true, false, false, false] rfl rfl (take_ofW HT_.out HW_.out (by kernel_rfl)) (fun _ _ _ h => h) (Or.inl ⟨by rfl, ?_⟩) hHeld ?_ ?_
      rotate_left
      · rintro w' ⟨s0, s1, s2, s3⟩
        go_simp
        with_reducible rfl
      rotate_left
      · simp only [Act.put, List.setIfInBounds_toArray, List.set_cons_zero, List.set_cons_succ, i64_w, i32_w]
        rfl
      refine pure_ (i := 2) (N := some 13) (v := ?_) (a' := ?_) #[true, true, true, true, false, true, false, false, true, false, false, false] rfl rfl (any_of HT_.out (by kernel_rfl)) (fun _ _ _ h => h) (Or.inl ⟨by rfl, ?_⟩) ?_ ?_
      rotate_left
      · intro w'
        go_simp
        with_reducible rfl
      rotate_left
      · simp only [Act.put, List.setIfInBounds_toArray, List.set_cons_zero, List.set_cons_succ, i64_w, i32_w]
        rfl
      refine take_ (i := 4) (N := some 15) (v := ?_) (a' := ?_) #[true, true, true, true, true, true, false, false, true, false, false, false] rfl rfl (take_ofW HT_.out HW_.out (by kernel_rfl)) (fun _ _ _ h => h) (Or.inl ⟨by rfl, ?_⟩) hHeld ?_ ?_
      rotate_left
      · rintro w' ⟨s0, s1, s2, s3⟩
        go_simp
        with_reducible rfl
      rotate_left
      · simp only [Act.put, List.setIfInBounds_toArray, List.set_cons_zero, List.set_cons_succ, i64_w, i32_w]
        rfl
      refine take_ (i := 6) (N := some 17) (v := ?_) (a' := ?_) #[true, true, true, true, true, true, true, false, true, false, false, false] rfl rfl (take_ofW HT_.out HW_.out (by kernel_rfl)) (fun _ _ _ h => h) (Or.inl ⟨by rfl, ?_⟩) hHeld ?_ ?_
      rotate_left
      · rintro w' ⟨s0, s1, s2, s3⟩
        go_simp
        with_reducible rfl
      rotate_left
      · simp only [Act.put, List.setIfInBounds_toArray, List.set_cons_zero, List.set_cons_succ, i64_w, i32_w]
        rfl
      refine take_ (i := 9) (N := some 20) (v := ?_) (a' := ?_) #[true, true, true, true, true, true, true, false, true, true, false, false] rfl rfl (take_ofW HT_.out HW_.out (by kernel_rfl)) (fun _ _ _ h => h) (Or.inl ⟨by rfl, ?_⟩) hHeld ?_ ?_
      rotate_left
      · rintro w' ⟨s0, s1, s2, s3⟩
        go_simp
        with_reducible rfl
      rotate_left
      · simp only [Act.put, List.setIfInBounds_toArray, List.set_cons_zero, List.set_cons_succ, i64_w, i32_w]
        rfl
      refine one_ (i := 7) (N := some 18) #[true, true, true, true, true, true, true, true, true, true, false, false] rfl rfl (one_of HT_.out (by kernel_rfl)) (by decide) (fun K hK => ?_)
      refine goes_ Try.func79 (by kernel_rfl) rfl #[.int .i64 a1_2] (by rfl) rfl rfl (by (try simp only [List.map_toArray, List.map_cons, List.map_nil]); first | done | rfl | (simp only [List.length_drop, List.length_take]; rfl)) ?_
      with_reducible refine (plane_half.calls a1_2 t135 _ A13.out).mono ?_
      rintro e w' ⟨rfl, ⟨nd, rfl⟩⟩
      refine ⟨_, rfl, ?_⟩
      refine hK.out _ _ ⟨(bC BK132.out 0).trans rfl, (bC BK132.out 1).trans rfl, (bC BK132.out 2).trans rfl, (bC BK132.out 3).trans rfl⟩ (fun hHeld => ?_)
      clear hK K
      refine norm_ (a' := ?_) ?_ ?_
      rotate_left
      · show Act.put _ (some 18) _ = _
        simp only [Act.put, List.setIfInBounds_toArray, List.set_cons_zero, List.set_cons_succ, i64_w, i32_w]
        rfl
      refine pure_ (i := 10) (N := some 21) (v := ?_) (a' := ?_) #[true, true, true, true, true, true, true, true, true, true, true, false] rfl rfl (any_of HT_.out (by kernel_rfl)) (fun _ _ _ h => h) (Or.inl ⟨by rfl, ?_⟩) ?_ ?_
      rotate_left
      · intro w'
        go_simp
        with_reducible rfl
      rotate_left
      · simp only [Act.put, List.setIfInBounds_toArray, List.set_cons_zero, List.set_cons_succ, i64_w, i32_w]
        rfl
      refine one_ (i := 11) (N := none) #[true, true, true, true, true, true, true, true, true, true, true, true] rfl rfl (one_of HT_.out (by kernel_rfl)) (by decide) (fun K hK => ?_)
      have hs17 : w16.cell? ⟨gb133, 0, none⟩ = some (.int .i64 0) := (bC BK133.out 0).trans rfl
      have hfs17 := bZ BK133.out 0
      have hns17_0 := NB132_133.out
      have hms17_0 := NB133_132.out
      have hs18 : w16.cell? ⟨gb133, 1, none⟩ = some (.int .i64 0) := (bC BK133.out 1).trans rfl
      have hfs18 := bZ BK133.out 1
      have hns18_0 := NB132_133.out
      have hms18_0 := NB133_132.out
      have hs19 : w16.cell? ⟨gb133, 2, none⟩ = some (.int .i64 0) := (bC BK133.out 2).trans rfl
      have hfs19 := bZ BK133.out 2
      have hns19_0 := NB132_133.out
      have hms19_0 := NB133_132.out
      have hs20 : w16.cell? ⟨gb133, 3, none⟩ = some (.int .i64 0) := (bC BK133.out 3).trans rfl
      have hfs20 := bZ BK133.out 3
      have hns20_0 := NB132_133.out
      have hms20_0 := NB133_132.out
      refine skip_ (w1 := ?_) (by rfl) rfl ?_ ?_
      rotate_left
      · go_simp
        rfl
      refine hK.out _ _ ⟨((cell_far (p := ⟨gb133, _, none⟩) NB132_133.out _).trans (((cell_far (p := ⟨gb133, _, none⟩) NB132_133.out _).trans (((cell_far (p := ⟨gb133, _, none⟩) NB132_133.out _).trans (((cell_far (p := ⟨gb133, _, none⟩) NB132_133.out _).trans (hHeld.1)))))))), ((cell_far (p := ⟨gb133, _, none⟩) NB132_133.out _).trans (((cell_far (p := ⟨gb133, _, none⟩) NB132_133.out _).trans (((cell_far (p := ⟨gb133, _, none⟩) NB132_133.out _).trans (((cell_far (p := ⟨gb133, _, none⟩) NB132_133.out _).trans (hHeld.2.1)))))))), ((cell_far (p := ⟨gb133, _, none⟩) NB132_133.out _).trans (((cell_far (p := ⟨gb133, _, none⟩) NB132_133.out _).trans (((cell_far (p := ⟨gb133, _, none⟩) NB132_133.out _).trans (((cell_far (p := ⟨gb133, _, none⟩) NB132_133.out _).trans (hHeld.2.2.1)))))))), ((cell_far (p := ⟨gb133, _, none⟩) NB132_133.out _).trans (((cell_far (p := ⟨gb133, _, none⟩) NB132_133.out _).trans (((cell_far (p := ⟨gb133, _, none⟩) NB132_133.out _).trans (((cell_far (p := ⟨gb133, _, none⟩) NB132_133.out _).trans (hHeld.2.2.2))))))))⟩ (fun hHeld => ?_)
      clear hK K
      refine done_ (done_of HT_.out (by kernel_rfl)) ?_
      try go_wp2
      refine bodyPost_ret (results_cell_row rfl _ _ gb133 52 #[.int .i64 (wrap64 (Int.tdiv a1_0 2)), .int .i64 a1_1, .int .i64 t135, .int .i64 a1_3] (0, 0) _ rfl (by (with_reducible repeat apply dX); refine bP (cs := #[.int .i64 (wrap64 (Int.tdiv a1_0 2)), .int .i64 a1_1, .int .i64 t135, .int .i64 0]) ?_ 3 _ rfl; (with_reducible repeat apply dX); refine bP (cs := #[.int .i64 (wrap64 (Int.tdiv a1_0 2)), .int .i64 a1_1, .int .i64 0, .int .i64 0]) ?_ 2 _ rfl; (with_reducible repeat apply dX); refine bP (cs := #[.int .i64 (wrap64 (Int.tdiv a1_0 2)), .int .i64 0, .int .i64 0, .int .i64 0]) ?_ 1 _ rfl; (with_reducible repeat apply dX); refine bP (cs := #[.int .i64 0, .int .i64 0, .int .i64 0, .int .i64 0]) ?_ 0 _ rfl; (with_reducible repeat apply dX); exact BK133.out) Try.underlying52 rfl (by kernel_rfl)) rfl ?_
      exact ⟨by first | rfl | (simp [errW_none, errW_some] <;> rfl) | (simp [*, errW_none, errW_some] <;> rfl), by repeat (first | (with_reducible first | exact HB.out | apply bA | apply bN | apply bD | refine bS ?_ GE132.out | refine bS ?_ GE133.out) | exact HB.out)⟩
    · rw [if_neg c12] at H
      have c12b0 : (a0 == 2) = false := beq_eq_false_iff_ne.mpr c12
      have c12b1 : (a0 != 2) = true := bne_iff_ne.mpr c12
      simp only [Option.some.injEq, Prod.mk.injEq] at H
      obtain ⟨rfl, rfl, rfl, rfl⟩ := H
      go_enter Try.func69, Try.ntmps69
      go_wp2_with (first | ((with_reducible refine gD (N := 3) rfl ?_); refine bE ?hg (N := 3) ?hd (cs := #[.int .i64 a1_0, .int .i64 a1_1, .int .i64 a1_2, .int .i64 a1_3]) (t := 52) ?hr ?_; (case hd => rfl); (case hg => rfl); (case hr => first | (go_simp; done) | (go_simp; rfl)); intro gb132 hg w21 hbox hb; have n0_ := am (bT (by repeat (first | (with_reducible first | exact HB.out | apply bA | apply bN | apply bD) | exact HB.out)) hb); have n1_ := am (hbox); have n2_ := am ((by rw [hg]; exact (bU (by repeat (first | (with_reducible first | exact HB.out | apply bA | apply bN | apply bD) | exact HB.out))) : w.heap.size ≤ gb132)); have n3_ := am ((by rw [hg]; exact (bU (by repeat (first | (with_reducible first | exact HB.out | apply bA | apply bN | apply bD) | exact HB.out))) : w.heap.size ≤ gb132)); clear HB; have HB := n0_; have BK132 := n1_; have GW132 := n2_; have GE132 := n3_; clear n0_ n1_ n2_ n3_; clear hb hbox hg) | ((with_reducible refine gD (N := 4) rfl ?_); refine bE ?hg (N := 4) ?hd (cs := #[.int .i64 0, .int .i64 0, .int .i64 0, .int .i64 0]) (t := 52) ?hr ?_; (case hd => rfl); (case hg => rfl); (case hr => first | (go_simp; done) | (go_simp; rfl)); intro gb133 hg w22 hbox hb; have n0_ := am (bB (g := gb132) (o := .cells #[.int .i64 a1_0, .int .i64 a1_1, .int .i64 a1_2, .int .i64 a1_3] 52 (0, 0)) (by (with_reducible repeat apply dX); exact BK132.out) hb); have n1_ := am (bT (by repeat (first | (with_reducible first | exact HB.out | apply bA | apply bN | apply bD | refine bS ?_ GE132.out) | exact HB.out)) hb); have n2_ := am (hbox); have n3_ := am ((by rw [hg]; exact (bU (by repeat (first | (with_reducible first | exact HB.out | apply bA | apply bN | apply bD | refine bS ?_ GE132.out) | exact HB.out))) : w.heap.size ≤ gb133)); have n4_ := am ((by rw [hg]; exact (bU (by repeat (first | (with_reducible first | exact HB.out | apply bA | apply bN | apply bD | refine bS ?_ GE132.out) | exact HB.out))) : w.heap.size ≤ gb133)); have n5_ := am ((by rw [hg]; exact nL (bL (g := gb132) (o := .cells #[.int .i64 a1_0, .int .i64 a1_1, .int .i64 a1_2, .int .i64 a1_3] 52 (0, 0)) (by (with_reducible repeat apply dX); exact BK132.out)) : gb132 ≠ gb133)); have n6_ := am ((by rw [hg]; exact nG (bL (g := gb132) (o := .cells #[.int .i64 a1_0, .int .i64 a1_1, .int .i64 a1_2, .int .i64 a1_3] 52 (0, 0)) (by (with_reducible repeat apply dX); exact BK132.out)) : gb133 ≠ gb132)); clear BK132; clear HB; have BK132 := n0_; have HB := n1_; have BK133 := n2_; have GW133 := n3_; have GE133 := n4_; have NB132_133 := n5_; have NB133_132 := n6_; clear n0_ n1_ n2_ n3_ n4_ n5_ n6_; clear hb hbox hg; have hnb23 := NB132_133.out; have hnc23 := NB133_132.out; have hcz24_0 : w22.cell? ⟨gb132, 0, none⟩ = some (.int .i64 a1_0) := (bC BK132.out 0).trans rfl; have hcz24_1 : w22.cell? ⟨gb132, 1, none⟩ = some (.int .i64 a1_1) := (bC BK132.out 1).trans rfl; have hcz24_2 : w22.cell? ⟨gb132, 2, none⟩ = some (.int .i64 a1_2) := (bC BK132.out 2).trans rfl; have hcz24_3 : w22.cell? ⟨gb132, 3, none⟩ = some (.int .i64 a1_3) := (bC BK132.out 3).trans rfl; have hfz24_0 := bZ BK132.out 0; have hfz24_1 := bZ BK132.out 1; have hfz24_2 := bZ BK132.out 2; have hfz24_3 := bZ BK132.out 3; have hcz25_0 : w22.cell? ⟨gb133, 0, none⟩ = some (.int .i64 0) := (bC BK133.out 0).trans rfl; have hcz25_1 : w22.cell? ⟨gb133, 1, none⟩ = some (.int .i64 0) := (bC BK133.out 1).trans rfl; have hcz25_2 : w22.cell? ⟨gb133, 2, none⟩ = some (.int .i64 0) := (bC BK133.out 2).trans rfl; have hcz25_3 : w22.cell? ⟨gb133, 3, none⟩ = some (.int .i64 0) := (bC BK133.out 3).trans rfl; have hfz25_0 := bZ BK133.out 0; have hfz25_1 := bZ BK133.out 1; have hfz25_2 := bZ BK133.out 2; have hfz25_3 := bZ BK133.out 3))
      refine bodyPost_ret (results_cell_row rfl _ _ gb133 52 #[.int .i64 a1_0, .int .i64 a1_1, .int .i64 a1_2, .int .i64 a1_3] (0, 0) _ rfl (by (with_reducible repeat apply dX); refine bP (cs := #[.int .i64 a1_0, .int .i64 a1_1, .int .i64 a1_2, .int .i64 0]) ?_ 3 _ rfl; (with_reducible repeat apply dX); refine bP (cs := #[.int .i64 a1_0, .int .i64 a1_1, .int .i64 0, .int .i64 0]) ?_ 2 _ rfl; (with_reducible repeat apply dX); refine bP (cs := #[.int .i64 a1_0, .int .i64 0, .int .i64 0, .int .i64 0]) ?_ 1 _ rfl; (with_reducible repeat apply dX); refine bP (cs := #[.int .i64 0, .int .i64 0, .int .i64 0, .int .i64 0]) ?_ 0 _ rfl; (with_reducible repeat apply dX); exact BK133.out) Try.underlying52 rfl (by kernel_rfl)) rfl ?_
      exact ⟨by first | rfl | (simp [errW_none, errW_some] <;> rfl) | (simp [*, errW_none, errW_some] <;> rfl), by repeat (first | (with_reducible first | exact HB.out | apply bA | apply bN | apply bD | refine bS ?_ GE132.out | refine bS ?_ GE133.out) | exact HB.out)⟩

end Go.Proofs.Ytdoikehkibefpaa.PPf
