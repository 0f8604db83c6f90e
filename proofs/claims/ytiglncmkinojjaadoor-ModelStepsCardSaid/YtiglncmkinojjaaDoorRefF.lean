import Derived.Test.YtiglncmkinojjaaDoorRefH
/-! The document's model: down, Learn. -/
namespace Go.Proofs.YtiglncmkinojjaaDoor
set_option linter.unusedSimpArgs false
set_option linter.unusedVariables false
open Go Go.RowKit

theorem rdown_is (n r : Int) (w : World) (h : -9000000000000000000 ≤ n) (h2 : n ≤ 9000000000000000000) (hr : n / 2 = r) :
    Calls Tryd.prog 48 #[.int .i64 n] w fun e w' => e = .returned (.int .i64 r) ∧ w' = w := by
  subst hr
  go_enter Tryd.func48, Tryd.ntmps48
  by_cases h0 : n < 0
  · have e1 : Int.tdiv (1 - n) 2 = (1 - n) / 2 := Int.tdiv_eq_ediv_of_nonneg (by omega)
    go_wp2_with fail
    go_ret
    exact ⟨ret_int (by first | rfl | omega | (simp only [wrap64] at *; omega)), rfl⟩
  · go_wp2_with fail
    go_ret
    exact ⟨ret_int (by first | rfl | omega | (simp only [wrap64] at *; omega)), rfl⟩

set_option maxHeartbeats 4000000 in
set_option maxRecDepth 100000 in
theorem rLearn_ok (c : Ctx) (R : List HP) (g gL cp : Nat) (dep : Int) (M : Mo) (k : Nat) (q0 a b s n : Int) (w : World) (hS : St c (rhd g dep M.d (.slice (some ⟨gL, 0, none⟩) 365 cp) :: rtb gL cp M :: R) w) (hM : RIs dep M) (hk : k < 365) (hr : M.st[k]? = some (a, b, s, n)) (hI : Inv (a, b, s, n)) :
    Calls Tryd.prog 36 #[.pointer (some ⟨g, 0, none⟩), .int .i64 (k : Nat), .int .i64 q0] w fun e' w' => e' = .returned (.tuple #[]) ∧ St c (rhd g dep M.d (.slice (some ⟨gL, 0, none⟩) 365 cp) :: rtb gL cp (M.put k (learnI M (a, b, s, n) q0)) :: R) w' := by
  obtain ⟨i1, i2, i3, i4, i5, i6, i7, i8⟩ := hI
  simp only at i1 i2 i3 i4 i5 i6 i7 i8
  have HS := Lib.hid hS
  have HM := Lib.hid hM
  have hst := hM.fits.st
  have hd0 := hM.fits.d0
  have hd1 := hM.fits.d1
  have hp0 := hM.fits.p0
  have hp1 := hM.fits.p1
  have H4 := Lib.hid hst
  obtain ⟨q, hq⟩ : ∃ q, cutI q0 (-M.span) M.span = q := ⟨_, rfl⟩
  have hq1 := cut_bounds q0 (-M.span) M.span (by omega)
  rw [hq] at hq1
  obtain ⟨hq1, hq2⟩ := hq1
  obtain ⟨u, hu⟩ : ∃ u, q * M.step = u := ⟨_, rfl⟩
  have hu1 := mul_bounds (a := q) (b := M.step) (A := 4096) (B := 127) (by omega) (by omega) (by omega) (by omega)
  rw [hu] at hu1
  obtain ⟨hu1, hu2⟩ := hu1
  obtain ⟨ab, hab⟩ : ∃ r, max q (-q) = r := ⟨_, rfl⟩
  have hab1 : 0 ≤ ab := by omega
  have hab2 : ab ≤ 4096 := by omega
  have HKN := Lib.hid (known_iff.2 (⟨by omega, by omega⟩ : 0 ≤ (k : Int) ∧ (k : Int) < 365))
  have HQ := Lib.hid hq
  have HAB := Lib.hid hab
  have HR0 := Lib.hid hr
  have hk2 : (k : Int) < 365 := by omega
  obtain ⟨f0, f1, f2⟩ := rFacts hS
  obtain ⟨t0, t1, t2, t3⟩ := rtFacts hS.swap hr hk
  simp only at t0 t1 t2 t3
  have e1 : wrap64 (q * M.step) = u := by rw [hu]; unfold wrap64; omega
  have HU := Lib.hid hu
  clear hS hM hr hq hab hst hu
  go_enter Tryd.func36, Tryd.ntmps36
  go_wp2_with (first
    | (go_at_call 47; go_must (with_reducible refine (rknown_is _ true _ HKN.out).mono ?_); rintro e' w' ⟨rfl, rfl⟩; simp only [])
    | (go_at_call 40; with_reducible refine (rRange_is c _ g dep M _ _ HS.out HM.out).mono ?_; rintro e' w2 ⟨rfl, hq⟩; simp only []; have H2 := Lib.hid (HS.out.of_quiet hq); clear hq HS f0 f1 f2 t0 t1 t2 t3; have HS := H2; clear H2; obtain ⟨f0, f1, f2⟩ := rFacts HS.out; obtain ⟨t0, t1, t2, t3⟩ := rtFacts HS.out.swap HR0.out hk; simp only at t0 t1 t2 t3)
    | (go_at_call 42; with_reducible refine (rcut_is q0 (-M.span) M.span q _ (by omega) HQ.out).mono ?_; rintro e' w' ⟨rfl, rfl⟩; simp only []))
  have H : Hid (St c (blk w'.heap.size [.int .i64 a, .int .i64 b, .int .i64 s, .int .i64 n] 74 :: rhd g dep M.d (.slice (some ⟨gL, 0, none⟩) 365 cp) :: rtb gL cp M :: R) (w'.alloc (.cells #[.int .i64 a, .int .i64 b, .int .i64 s, .int .i64 n] 74))) := Lib.hid (HS.out.alloc _ _)
  clear HS f0 f1 f2 t0 t1 t2 t3
  generalize w'.alloc (.cells #[.int .i64 a, .int .i64 b, .int .i64 s, .int .i64 n] 74) = w3 at *
  generalize w'.heap.size = gs at *
  obtain ⟨f0, f1, f2⟩ := rFacts H.out.swap
  have g0 := H.out.cell 0
  have g1 := H.out.cell 1
  have g3 := H.out.cell 3
  simp only [List.getElem?_cons_zero, List.getElem?_cons_succ] at g0 g1 g3
  have y0 := St.frozen H.out 0
  have y1 := St.frozen H.out 1
  have y2 := St.frozen H.out 2
  have y3 := St.frozen H.out 3
  refine wp_region_head_tail 6 (by kernel_rfl) (by kernel_rfl) ?_
  simp only [List.take_succ_cons, List.take_zero, List.drop_succ_cons, List.drop_zero]
  repeat (go_big_quiet_step ((go_at_call 44; exact Calls.quiet_of_same (rsize_is q ab _ (by omega) (by omega) HAB.out))))
  refine wpQuiet_nil ?_
  intro m
  go_wp2_with fail
  have H2 : Hid (St c (blk gs [.int .i64 (a + ab), .int .i64 b, .int .i64 s, .int .i64 n] 74 :: rhd g dep M.d (.slice (some ⟨gL, 0, none⟩) 365 cp) :: rtb gL cp M :: R) ((w3.drewN m).setCell ⟨gs, 0, none⟩ (.int .i64 (a + ab)))) := St.setCell (H.out.drewN m) 0 _
  clear H f0 f1 f2 g0 g1 g3 y0 y1 y2 y3
  generalize (w3.drewN m).setCell ⟨gs, 0, none⟩ (.int .i64 (a + ab)) = w4 at *
  have H := H2
  clear H2
  obtain ⟨f0, f1, f2⟩ := rFacts H.out.swap
  have g0 := H.out.cell 0
  have g1 := H.out.cell 1
  have g2 := H.out.cell 2
  have g3 := H.out.cell 3
  simp only [List.getElem?_cons_zero, List.getElem?_cons_succ] at g0 g1 g2 g3
  have y0 := St.frozen H.out 0
  have y1 := St.frozen H.out 1
  have y2 := St.frozen H.out 2
  have y3 := St.frozen H.out 3
  refine wp_region_head_tail 8 (by kernel_rfl) (by kernel_rfl) ?_
  simp only [List.take_succ_cons, List.take_zero, List.drop_succ_cons, List.drop_zero]
  repeat (go_big_quiet_step ((go_at_call 45; exact Calls.quiet_of_same (rstep_is c (blk gs [.int .i64 (a + ab), .int .i64 b, .int .i64 s, .int .i64 n] 74 :: rtb gL cp M :: R) g dep M.d M.step _ _ (H.out.swap.drewN _) hd0 hd1 H4.out))))
  refine wpQuiet_nil ?_
  intro m2
  by_cases hn64 : n = 64
  · subst hn64
    go_wp2_with fail
    have H2 : Hid (St c (blk gs [.int .i64 (a + ab), .int .i64 (b + u), .int .i64 s, .int .i64 64] 74 :: rhd g dep M.d (.slice (some ⟨gL, 0, none⟩) 365 cp) :: rtb gL cp M :: R) _) := Lib.hid (St.setCell (H.out.drewN m2) 1 (.int .i64 (b + u)))
    clear H f0 f1 f2 g0 g1 g2 g3 y0 y1 y2 y3
    generalize World.setCell _ _ _ = w5 at *
    have H := H2
    clear H2
    obtain ⟨f0, f1, f2⟩ := rFacts H.out.swap
    have g0 := H.out.cell 0
    have g1 := H.out.cell 1
    have g2 := H.out.cell 2
    have g3 := H.out.cell 3
    simp only [List.getElem?_cons_zero, List.getElem?_cons_succ] at g0 g1 g2 g3
    have y0 := St.frozen H.out 0
    have y1 := St.frozen H.out 1
    have y2 := St.frozen H.out 2
    have y3 := St.frozen H.out 3
    refine (rdown_is _ _ _ (by omega) (by omega) rfl).mono ?_
    rintro e' w' ⟨rfl, rfl⟩
    go_wp2_with fail
    have H2 : Hid (St c (blk gs [.int .i64 ((a + ab) / 2), .int .i64 (b + u), .int .i64 s, .int .i64 64] 74 :: rhd g dep M.d (.slice (some ⟨gL, 0, none⟩) 365 cp) :: rtb gL cp M :: R) _) := Lib.hid (St.setCell H.out 0 (.int .i64 ((a + ab) / 2)))
    clear H f0 f1 f2 g0 g1 g2 g3 y0 y1 y2 y3
    generalize World.setCell _ _ _ = w6 at *
    have H := H2
    clear H2
    obtain ⟨f0, f1, f2⟩ := rFacts H.out.swap
    have g0 := H.out.cell 0
    have g1 := H.out.cell 1
    have g2 := H.out.cell 2
    have g3 := H.out.cell 3
    simp only [List.getElem?_cons_zero, List.getElem?_cons_succ] at g0 g1 g2 g3
    have y0 := St.frozen H.out 0
    have y1 := St.frozen H.out 1
    have y2 := St.frozen H.out 2
    have y3 := St.frozen H.out 3
    refine (rdown_is _ _ _ (by omega) (by omega) rfl).mono ?_
    rintro e' w' ⟨rfl, rfl⟩
    obtain ⟨b2, hb2⟩ : ∃ x, (b + u) / 2 = x := ⟨_, rfl⟩
    have hb21 : -1000000 ≤ b2 := by omega
    have hb22 : b2 ≤ 1000000 := by omega
    rw [hb2]
    have HB2 := Lib.hid hb2
    clear hb2
    have H7 := Lib.hid (St.setCell (St.setCell (St.setCell H.out 1 (.int .i64 b2)) 3 (.int .i64 32)) 3 (.int .i64 33))
    have z1 := St.cell H7.out 1
    have z3 := St.cell H7.out 3
    simp only [List.set_cons_succ, List.set_cons_zero, List.getElem?_cons_succ, List.getElem?_cons_zero] at z1 z3
    have HE := Lib.hid (show learnI M (a, b, s, 64) q0 = fin ((a + ab) / 2) b2 s 33 by
      unfold learnI fin
      simp only [show cutI q0 (-M.span) M.span = q from HQ.out, HAB.out, HU.out, HB2.out]
      rfl)
    by_cases c1 : b2 ≤ -33
    · go_wp2_with fail
      have H2 : Hid (St c (blk gs [.int .i64 ((a + ab) / 2), .int .i64 (b2), .int .i64 (s), .int .i64 (33)] 74 :: rhd g dep M.d (.slice (some ⟨gL, 0, none⟩) 365 cp) :: rtb gL cp M :: R) _) := Lib.hid H7.out
      clear H H7 f0 f1 f2 g0 g1 g2 g3 y0 y1 y2 y3 z1 z3
      generalize World.setCell _ _ _ = w8 at *
      have H := H2
      clear H2
      obtain ⟨f0, f1, f2⟩ := rFacts H.out.swap
      have g0 := H.out.cell 0
      have g1 := H.out.cell 1
      have g2 := H.out.cell 2
      have g3 := H.out.cell 3
      simp only [List.set_cons_succ, List.set_cons_zero, List.getElem?_cons_succ, List.getElem?_cons_zero] at g0 g1 g2 g3
      have y0 := St.frozen H.out 0
      have y1 := St.frozen H.out 1
      have y2 := St.frozen H.out 2
      have y3 := St.frozen H.out 3
      refine (rcut_is (s - 1) (-128) 127 (max (s - 1) (-128)) _ (by omega) (by unfold cutI; omega)).mono ?_
      rintro e' w' ⟨rfl, rfl⟩
      have H7 := Lib.hid (St.setCell (St.setCell H.out 2 (.int .i64 (max (s - 1) (-128)))) 1 (.int .i64 (b2 + 33)))
      have z1 := St.cell H7.out 1
      have z3 := St.cell H7.out 3
      have v1 := St.frozen H7.out 1
      simp only [List.set_cons_succ, List.set_cons_zero, List.getElem?_cons_succ, List.getElem?_cons_zero] at z1 z3
      by_cases c3 : b2 + 33 ≤ -33
      · have H8 := Lib.hid (St.setCell H7.out 1 (.int .i64 (-32)))
        go_wp2_with fail
        have H2 := Lib.hid (H8.out)
        clear H f0 f1 f2 g0 g1 g2 g3 y0 y1 y2 y3 H7 H8 z1 z3 v1
        generalize World.setCell _ _ _ = w9 at *
        have f2 := (rFacts H2.out.swap).2.2
        have g0 := H2.out.cell 0
        have g1 := H2.out.cell 1
        have g2 := H2.out.cell 2
        have g3 := H2.out.cell 3
        simp only [List.set_cons_succ, List.set_cons_zero, List.getElem?_cons_succ, List.getElem?_cons_zero] at g0 g1 g2 g3
        have hrt := H2.out.rot3
        have x0 : w9.frozen? ⟨gL, k * 4, none⟩ = false := (St.row_at hrt).frozenAt (k * 4)
        have x1 : w9.frozen? ⟨gL, k * 4 + 1, none⟩ = false := (St.row_at hrt).frozenAt (k * 4 + 1)
        have x2 : w9.frozen? ⟨gL, k * 4 + 2, none⟩ = false := (St.row_at hrt).frozenAt (k * 4 + 2)
        have x3 : w9.frozen? ⟨gL, k * 4 + 3, none⟩ = false := (St.row_at hrt).frozenAt (k * 4 + 3)
        obtain ⟨t0, t1, t2, t3⟩ := rtFacts hrt HR0.out hk
        simp only at t0 t1 t2 t3
        have HRT := Lib.hid hrt
        clear hrt
        refine wp_region_head_tail 7 (by kernel_rfl) (by kernel_rfl) ?_
        simp only [List.take_succ_cons, List.take_zero, List.drop_succ_cons, List.drop_zero]
        repeat (go_big_quiet_step (fail))
        refine wpQuiet_nil ?_
        intro m3
        go_wp2_with fail
        go_end0
        refine ⟨rfl, ?_⟩
        have hfin := rtb_put (HRT.out.drewN m3) (by rw [HM.out.fits.n]; exact hk) ((a + ab) / 2) (-32) (max (s - 1) (-128)) (33)
        rw [HE.out]
        unfold fin
        rw [if_pos c1, show max (b2 + 33) (1 - 33) = -32 by omega]
        exact hfin.swap.drop.swap
      · go_wp2_with fail
        have H2 := Lib.hid (H7.out)
        clear H f0 f1 f2 g0 g1 g2 g3 y0 y1 y2 y3 H7 z1 z3 v1
        generalize World.setCell _ _ _ = w9 at *
        have f2 := (rFacts H2.out.swap).2.2
        have g0 := H2.out.cell 0
        have g1 := H2.out.cell 1
        have g2 := H2.out.cell 2
        have g3 := H2.out.cell 3
        simp only [List.set_cons_succ, List.set_cons_zero, List.getElem?_cons_succ, List.getElem?_cons_zero] at g0 g1 g2 g3
        have hrt := H2.out.rot3
        have x0 : w9.frozen? ⟨gL, k * 4, none⟩ = false := (St.row_at hrt).frozenAt (k * 4)
        have x1 : w9.frozen? ⟨gL, k * 4 + 1, none⟩ = false := (St.row_at hrt).frozenAt (k * 4 + 1)
        have x2 : w9.frozen? ⟨gL, k * 4 + 2, none⟩ = false := (St.row_at hrt).frozenAt (k * 4 + 2)
        have x3 : w9.frozen? ⟨gL, k * 4 + 3, none⟩ = false := (St.row_at hrt).frozenAt (k * 4 + 3)
        obtain ⟨t0, t1, t2, t3⟩ := rtFacts hrt HR0.out hk
        simp only at t0 t1 t2 t3
        have HRT := Lib.hid hrt
        clear hrt
        refine wp_region_head_tail 7 (by kernel_rfl) (by kernel_rfl) ?_
        simp only [List.take_succ_cons, List.take_zero, List.drop_succ_cons, List.drop_zero]
        repeat (go_big_quiet_step (fail))
        refine wpQuiet_nil ?_
        intro m3
        go_wp2_with fail
        go_end0
        refine ⟨rfl, ?_⟩
        have hfin := rtb_put (HRT.out.drewN m3) (by rw [HM.out.fits.n]; exact hk) ((a + ab) / 2) (b2 + 33) (max (s - 1) (-128)) (33)
        rw [HE.out]
        unfold fin
        rw [if_pos c1, show max (b2 + 33) (1 - 33) = b2 + 33 by omega]
        exact hfin.swap.drop.swap
    · by_cases c2 : 0 < b2
      · go_wp2_with fail
        have H2 : Hid (St c (blk gs [.int .i64 ((a + ab) / 2), .int .i64 (b2), .int .i64 (s), .int .i64 (33)] 74 :: rhd g dep M.d (.slice (some ⟨gL, 0, none⟩) 365 cp) :: rtb gL cp M :: R) _) := Lib.hid H7.out
        clear H H7 f0 f1 f2 g0 g1 g2 g3 y0 y1 y2 y3 z1 z3
        generalize World.setCell _ _ _ = w8 at *
        have H := H2
        clear H2
        obtain ⟨f0, f1, f2⟩ := rFacts H.out.swap
        have g0 := H.out.cell 0
        have g1 := H.out.cell 1
        have g2 := H.out.cell 2
        have g3 := H.out.cell 3
        simp only [List.set_cons_succ, List.set_cons_zero, List.getElem?_cons_succ, List.getElem?_cons_zero] at g0 g1 g2 g3
        have y0 := St.frozen H.out 0
        have y1 := St.frozen H.out 1
        have y2 := St.frozen H.out 2
        have y3 := St.frozen H.out 3
        refine (rcut_is (s + 1) (-128) 127 (min (s + 1) 127) _ (by omega) (by unfold cutI; omega)).mono ?_
        rintro e' w' ⟨rfl, rfl⟩
        have H7 := Lib.hid (St.setCell (St.setCell H.out 2 (.int .i64 (min (s + 1) 127))) 1 (.int .i64 (b2 - 33)))
        have z1 := St.cell H7.out 1
        have z3 := St.cell H7.out 3
        have v1 := St.frozen H7.out 1
        simp only [List.set_cons_succ, List.set_cons_zero, List.getElem?_cons_succ, List.getElem?_cons_zero] at z1 z3
        by_cases c3 : 0 < b2 - 33
        · have H8 := Lib.hid (St.setCell H7.out 1 (.int .i64 (0)))
          go_wp2_with fail
          have H2 := Lib.hid (H8.out)
          clear H f0 f1 f2 g0 g1 g2 g3 y0 y1 y2 y3 H7 H8 z1 z3 v1
          generalize World.setCell _ _ _ = w9 at *
          have f2 := (rFacts H2.out.swap).2.2
          have g0 := H2.out.cell 0
          have g1 := H2.out.cell 1
          have g2 := H2.out.cell 2
          have g3 := H2.out.cell 3
          simp only [List.set_cons_succ, List.set_cons_zero, List.getElem?_cons_succ, List.getElem?_cons_zero] at g0 g1 g2 g3
          have hrt := H2.out.rot3
          have x0 : w9.frozen? ⟨gL, k * 4, none⟩ = false := (St.row_at hrt).frozenAt (k * 4)
          have x1 : w9.frozen? ⟨gL, k * 4 + 1, none⟩ = false := (St.row_at hrt).frozenAt (k * 4 + 1)
          have x2 : w9.frozen? ⟨gL, k * 4 + 2, none⟩ = false := (St.row_at hrt).frozenAt (k * 4 + 2)
          have x3 : w9.frozen? ⟨gL, k * 4 + 3, none⟩ = false := (St.row_at hrt).frozenAt (k * 4 + 3)
          obtain ⟨t0, t1, t2, t3⟩ := rtFacts hrt HR0.out hk
          simp only at t0 t1 t2 t3
          have HRT := Lib.hid hrt
          clear hrt
          refine wp_region_head_tail 7 (by kernel_rfl) (by kernel_rfl) ?_
          simp only [List.take_succ_cons, List.take_zero, List.drop_succ_cons, List.drop_zero]
          repeat (go_big_quiet_step (fail))
          refine wpQuiet_nil ?_
          intro m3
          go_wp2_with fail
          go_end0
          refine ⟨rfl, ?_⟩
          have hfin := rtb_put (HRT.out.drewN m3) (by rw [HM.out.fits.n]; exact hk) ((a + ab) / 2) (0) (min (s + 1) 127) (33)
          rw [HE.out]
          unfold fin
          rw [if_neg (by omega), if_pos c2, show min (b2 - 33) 0 = 0 by omega]
          exact hfin.swap.drop.swap
        · go_wp2_with fail
          have H2 := Lib.hid (H7.out)
          clear H f0 f1 f2 g0 g1 g2 g3 y0 y1 y2 y3 H7 z1 z3 v1
          generalize World.setCell _ _ _ = w9 at *
          have f2 := (rFacts H2.out.swap).2.2
          have g0 := H2.out.cell 0
          have g1 := H2.out.cell 1
          have g2 := H2.out.cell 2
          have g3 := H2.out.cell 3
          simp only [List.set_cons_succ, List.set_cons_zero, List.getElem?_cons_succ, List.getElem?_cons_zero] at g0 g1 g2 g3
          have hrt := H2.out.rot3
          have x0 : w9.frozen? ⟨gL, k * 4, none⟩ = false := (St.row_at hrt).frozenAt (k * 4)
          have x1 : w9.frozen? ⟨gL, k * 4 + 1, none⟩ = false := (St.row_at hrt).frozenAt (k * 4 + 1)
          have x2 : w9.frozen? ⟨gL, k * 4 + 2, none⟩ = false := (St.row_at hrt).frozenAt (k * 4 + 2)
          have x3 : w9.frozen? ⟨gL, k * 4 + 3, none⟩ = false := (St.row_at hrt).frozenAt (k * 4 + 3)
          obtain ⟨t0, t1, t2, t3⟩ := rtFacts hrt HR0.out hk
          simp only at t0 t1 t2 t3
          have HRT := Lib.hid hrt
          clear hrt
          refine wp_region_head_tail 7 (by kernel_rfl) (by kernel_rfl) ?_
          simp only [List.take_succ_cons, List.take_zero, List.drop_succ_cons, List.drop_zero]
          repeat (go_big_quiet_step (fail))
          refine wpQuiet_nil ?_
          intro m3
          go_wp2_with fail
          go_end0
          refine ⟨rfl, ?_⟩
          have hfin := rtb_put (HRT.out.drewN m3) (by rw [HM.out.fits.n]; exact hk) ((a + ab) / 2) (b2 - 33) (min (s + 1) 127) (33)
          rw [HE.out]
          unfold fin
          rw [if_neg (by omega), if_pos c2, show min (b2 - 33) 0 = b2 - 33 by omega]
          exact hfin.swap.drop.swap
      · go_wp2_with fail
        have H2 := Lib.hid (H7.out)
        clear H f0 f1 f2 g0 g1 g2 g3 y0 y1 y2 y3 H7 z1 z3
        generalize World.setCell _ _ _ = w9 at *
        have f2 := (rFacts H2.out.swap).2.2
        have g0 := H2.out.cell 0
        have g1 := H2.out.cell 1
        have g2 := H2.out.cell 2
        have g3 := H2.out.cell 3
        simp only [List.set_cons_succ, List.set_cons_zero, List.getElem?_cons_succ, List.getElem?_cons_zero] at g0 g1 g2 g3
        have hrt := H2.out.rot3
        have x0 : w9.frozen? ⟨gL, k * 4, none⟩ = false := (St.row_at hrt).frozenAt (k * 4)
        have x1 : w9.frozen? ⟨gL, k * 4 + 1, none⟩ = false := (St.row_at hrt).frozenAt (k * 4 + 1)
        have x2 : w9.frozen? ⟨gL, k * 4 + 2, none⟩ = false := (St.row_at hrt).frozenAt (k * 4 + 2)
        have x3 : w9.frozen? ⟨gL, k * 4 + 3, none⟩ = false := (St.row_at hrt).frozenAt (k * 4 + 3)
        obtain ⟨t0, t1, t2, t3⟩ := rtFacts hrt HR0.out hk
        simp only at t0 t1 t2 t3
        have HRT := Lib.hid hrt
        clear hrt
        refine wp_region_head_tail 7 (by kernel_rfl) (by kernel_rfl) ?_
        simp only [List.take_succ_cons, List.take_zero, List.drop_succ_cons, List.drop_zero]
        repeat (go_big_quiet_step (fail))
        refine wpQuiet_nil ?_
        intro m3
        go_wp2_with fail
        go_end0
        refine ⟨rfl, ?_⟩
        have hfin := rtb_put (HRT.out.drewN m3) (by rw [HM.out.fits.n]; exact hk) ((a + ab) / 2) (b2) (s) (33)
        rw [HE.out]
        unfold fin
        rw [if_neg (by omega), if_neg (by omega)]
        exact hfin.swap.drop.swap
  · have hnb : (n == 64) = false := by simpa using hn64
    have HE := Lib.hid (show learnI M (a, b, s, n) q0 = fin (a + ab) (b + u) s (n + 1) by
      unfold learnI fin
      simp only [show cutI q0 (-M.span) M.span = q from HQ.out, HAB.out, HU.out]
      rw [if_neg hn64, if_neg hn64, if_neg hn64])
    have H6 := Lib.hid (H.out.drewN m2)
    clear H f0 f1 f2 g0 g1 g2 g3 y0 y1 y2 y3
    generalize World.drewN _ m2 = w5 at *
    have H := H6
    clear H6
    obtain ⟨f0, f1, f2⟩ := rFacts H.out.swap
    have g0 := H.out.cell 0
    have g1 := H.out.cell 1
    have g2 := H.out.cell 2
    have g3 := H.out.cell 3
    simp only [List.set_cons_succ, List.set_cons_zero, List.getElem?_cons_succ, List.getElem?_cons_zero] at g0 g1 g2 g3
    have y0 := St.frozen H.out 0
    have y1 := St.frozen H.out 1
    have y2 := St.frozen H.out 2
    have y3 := St.frozen H.out 3
    have H7 := Lib.hid (St.setCell (St.setCell H.out 1 (.int .i64 (b + u))) 3 (.int .i64 (n + 1)))
    have z1 := St.cell H7.out 1
    have z3 := St.cell H7.out 3
    simp only [List.set_cons_succ, List.set_cons_zero, List.getElem?_cons_succ, List.getElem?_cons_zero] at z1 z3
    by_cases c1 : (b + u) ≤ -(n + 1)
    · go_wp2_with fail
      have H2 : Hid (St c (blk gs [.int .i64 (a + ab), .int .i64 ((b + u)), .int .i64 (s), .int .i64 ((n + 1))] 74 :: rhd g dep M.d (.slice (some ⟨gL, 0, none⟩) 365 cp) :: rtb gL cp M :: R) _) := Lib.hid H7.out
      clear H H7 f0 f1 f2 g0 g1 g2 g3 y0 y1 y2 y3 z1 z3
      generalize World.setCell _ _ _ = w8 at *
      have H := H2
      clear H2
      obtain ⟨f0, f1, f2⟩ := rFacts H.out.swap
      have g0 := H.out.cell 0
      have g1 := H.out.cell 1
      have g2 := H.out.cell 2
      have g3 := H.out.cell 3
      simp only [List.set_cons_succ, List.set_cons_zero, List.getElem?_cons_succ, List.getElem?_cons_zero] at g0 g1 g2 g3
      have y0 := St.frozen H.out 0
      have y1 := St.frozen H.out 1
      have y2 := St.frozen H.out 2
      have y3 := St.frozen H.out 3
      refine (rcut_is (s - 1) (-128) 127 (max (s - 1) (-128)) _ (by omega) (by unfold cutI; omega)).mono ?_
      rintro e' w' ⟨rfl, rfl⟩
      have H7 := Lib.hid (St.setCell (St.setCell H.out 2 (.int .i64 (max (s - 1) (-128)))) 1 (.int .i64 ((b + u) + (n + 1))))
      have z1 := St.cell H7.out 1
      have z3 := St.cell H7.out 3
      have v1 := St.frozen H7.out 1
      simp only [List.set_cons_succ, List.set_cons_zero, List.getElem?_cons_succ, List.getElem?_cons_zero] at z1 z3
      by_cases c3 : (b + u) + (n + 1) ≤ -(n + 1)
      · have H8 := Lib.hid (St.setCell H7.out 1 (.int .i64 (1 - (n + 1))))
        go_wp2_with fail
        have H2 := Lib.hid (H8.out)
        clear H f0 f1 f2 g0 g1 g2 g3 y0 y1 y2 y3 H7 H8 z1 z3 v1
        generalize World.setCell _ _ _ = w9 at *
        have f2 := (rFacts H2.out.swap).2.2
        have g0 := H2.out.cell 0
        have g1 := H2.out.cell 1
        have g2 := H2.out.cell 2
        have g3 := H2.out.cell 3
        simp only [List.set_cons_succ, List.set_cons_zero, List.getElem?_cons_succ, List.getElem?_cons_zero] at g0 g1 g2 g3
        have hrt := H2.out.rot3
        have x0 : w9.frozen? ⟨gL, k * 4, none⟩ = false := (St.row_at hrt).frozenAt (k * 4)
        have x1 : w9.frozen? ⟨gL, k * 4 + 1, none⟩ = false := (St.row_at hrt).frozenAt (k * 4 + 1)
        have x2 : w9.frozen? ⟨gL, k * 4 + 2, none⟩ = false := (St.row_at hrt).frozenAt (k * 4 + 2)
        have x3 : w9.frozen? ⟨gL, k * 4 + 3, none⟩ = false := (St.row_at hrt).frozenAt (k * 4 + 3)
        obtain ⟨t0, t1, t2, t3⟩ := rtFacts hrt HR0.out hk
        simp only at t0 t1 t2 t3
        have HRT := Lib.hid hrt
        clear hrt
        refine wp_region_head_tail 7 (by kernel_rfl) (by kernel_rfl) ?_
        simp only [List.take_succ_cons, List.take_zero, List.drop_succ_cons, List.drop_zero]
        repeat (go_big_quiet_step (fail))
        refine wpQuiet_nil ?_
        intro m3
        go_wp2_with fail
        go_end0
        refine ⟨rfl, ?_⟩
        have hfin := rtb_put (HRT.out.drewN m3) (by rw [HM.out.fits.n]; exact hk) (a + ab) (1 - (n + 1)) (max (s - 1) (-128)) ((n + 1))
        rw [HE.out]
        unfold fin
        rw [if_pos c1, show max ((b + u) + (n + 1)) (1 - (n + 1)) = 1 - (n + 1) by omega]
        exact hfin.swap.drop.swap
      · go_wp2_with fail
        have H2 := Lib.hid (H7.out)
        clear H f0 f1 f2 g0 g1 g2 g3 y0 y1 y2 y3 H7 z1 z3 v1
        generalize World.setCell _ _ _ = w9 at *
        have f2 := (rFacts H2.out.swap).2.2
        have g0 := H2.out.cell 0
        have g1 := H2.out.cell 1
        have g2 := H2.out.cell 2
        have g3 := H2.out.cell 3
        simp only [List.set_cons_succ, List.set_cons_zero, List.getElem?_cons_succ, List.getElem?_cons_zero] at g0 g1 g2 g3
        have hrt := H2.out.rot3
        have x0 : w9.frozen? ⟨gL, k * 4, none⟩ = false := (St.row_at hrt).frozenAt (k * 4)
        have x1 : w9.frozen? ⟨gL, k * 4 + 1, none⟩ = false := (St.row_at hrt).frozenAt (k * 4 + 1)
        have x2 : w9.frozen? ⟨gL, k * 4 + 2, none⟩ = false := (St.row_at hrt).frozenAt (k * 4 + 2)
        have x3 : w9.frozen? ⟨gL, k * 4 + 3, none⟩ = false := (St.row_at hrt).frozenAt (k * 4 + 3)
        obtain ⟨t0, t1, t2, t3⟩ := rtFacts hrt HR0.out hk
        simp only at t0 t1 t2 t3
        have HRT := Lib.hid hrt
        clear hrt
        refine wp_region_head_tail 7 (by kernel_rfl) (by kernel_rfl) ?_
        simp only [List.take_succ_cons, List.take_zero, List.drop_succ_cons, List.drop_zero]
        repeat (go_big_quiet_step (fail))
        refine wpQuiet_nil ?_
        intro m3
        go_wp2_with fail
        go_end0
        refine ⟨rfl, ?_⟩
        have hfin := rtb_put (HRT.out.drewN m3) (by rw [HM.out.fits.n]; exact hk) (a + ab) ((b + u) + (n + 1)) (max (s - 1) (-128)) ((n + 1))
        rw [HE.out]
        unfold fin
        rw [if_pos c1, show max ((b + u) + (n + 1)) (1 - (n + 1)) = (b + u) + (n + 1) by omega]
        exact hfin.swap.drop.swap
    · by_cases c2 : 0 < (b + u)
      · go_wp2_with fail
        have H2 : Hid (St c (blk gs [.int .i64 (a + ab), .int .i64 ((b + u)), .int .i64 (s), .int .i64 ((n + 1))] 74 :: rhd g dep M.d (.slice (some ⟨gL, 0, none⟩) 365 cp) :: rtb gL cp M :: R) _) := Lib.hid H7.out
        clear H H7 f0 f1 f2 g0 g1 g2 g3 y0 y1 y2 y3 z1 z3
        generalize World.setCell _ _ _ = w8 at *
        have H := H2
        clear H2
        obtain ⟨f0, f1, f2⟩ := rFacts H.out.swap
        have g0 := H.out.cell 0
        have g1 := H.out.cell 1
        have g2 := H.out.cell 2
        have g3 := H.out.cell 3
        simp only [List.set_cons_succ, List.set_cons_zero, List.getElem?_cons_succ, List.getElem?_cons_zero] at g0 g1 g2 g3
        have y0 := St.frozen H.out 0
        have y1 := St.frozen H.out 1
        have y2 := St.frozen H.out 2
        have y3 := St.frozen H.out 3
        refine (rcut_is (s + 1) (-128) 127 (min (s + 1) 127) _ (by omega) (by unfold cutI; omega)).mono ?_
        rintro e' w' ⟨rfl, rfl⟩
        have H7 := Lib.hid (St.setCell (St.setCell H.out 2 (.int .i64 (min (s + 1) 127))) 1 (.int .i64 ((b + u) - (n + 1))))
        have z1 := St.cell H7.out 1
        have z3 := St.cell H7.out 3
        have v1 := St.frozen H7.out 1
        simp only [List.set_cons_succ, List.set_cons_zero, List.getElem?_cons_succ, List.getElem?_cons_zero] at z1 z3
        by_cases c3 : 0 < (b + u) - (n + 1)
        · have H8 := Lib.hid (St.setCell H7.out 1 (.int .i64 (0)))
          go_wp2_with fail
          have H2 := Lib.hid (H8.out)
          clear H f0 f1 f2 g0 g1 g2 g3 y0 y1 y2 y3 H7 H8 z1 z3 v1
          generalize World.setCell _ _ _ = w9 at *
          have f2 := (rFacts H2.out.swap).2.2
          have g0 := H2.out.cell 0
          have g1 := H2.out.cell 1
          have g2 := H2.out.cell 2
          have g3 := H2.out.cell 3
          simp only [List.set_cons_succ, List.set_cons_zero, List.getElem?_cons_succ, List.getElem?_cons_zero] at g0 g1 g2 g3
          have hrt := H2.out.rot3
          have x0 : w9.frozen? ⟨gL, k * 4, none⟩ = false := (St.row_at hrt).frozenAt (k * 4)
          have x1 : w9.frozen? ⟨gL, k * 4 + 1, none⟩ = false := (St.row_at hrt).frozenAt (k * 4 + 1)
          have x2 : w9.frozen? ⟨gL, k * 4 + 2, none⟩ = false := (St.row_at hrt).frozenAt (k * 4 + 2)
          have x3 : w9.frozen? ⟨gL, k * 4 + 3, none⟩ = false := (St.row_at hrt).frozenAt (k * 4 + 3)
          obtain ⟨t0, t1, t2, t3⟩ := rtFacts hrt HR0.out hk
          simp only at t0 t1 t2 t3
          have HRT := Lib.hid hrt
          clear hrt
          refine wp_region_head_tail 7 (by kernel_rfl) (by kernel_rfl) ?_
          simp only [List.take_succ_cons, List.take_zero, List.drop_succ_cons, List.drop_zero]
          repeat (go_big_quiet_step (fail))
          refine wpQuiet_nil ?_
          intro m3
          go_wp2_with fail
          go_end0
          refine ⟨rfl, ?_⟩
          have hfin := rtb_put (HRT.out.drewN m3) (by rw [HM.out.fits.n]; exact hk) (a + ab) (0) (min (s + 1) 127) ((n + 1))
          rw [HE.out]
          unfold fin
          rw [if_neg (by omega), if_pos c2, show min ((b + u) - (n + 1)) 0 = 0 by omega]
          exact hfin.swap.drop.swap
        · go_wp2_with fail
          have H2 := Lib.hid (H7.out)
          clear H f0 f1 f2 g0 g1 g2 g3 y0 y1 y2 y3 H7 z1 z3 v1
          generalize World.setCell _ _ _ = w9 at *
          have f2 := (rFacts H2.out.swap).2.2
          have g0 := H2.out.cell 0
          have g1 := H2.out.cell 1
          have g2 := H2.out.cell 2
          have g3 := H2.out.cell 3
          simp only [List.set_cons_succ, List.set_cons_zero, List.getElem?_cons_succ, List.getElem?_cons_zero] at g0 g1 g2 g3
          have hrt := H2.out.rot3
          have x0 : w9.frozen? ⟨gL, k * 4, none⟩ = false := (St.row_at hrt).frozenAt (k * 4)
          have x1 : w9.frozen? ⟨gL, k * 4 + 1, none⟩ = false := (St.row_at hrt).frozenAt (k * 4 + 1)
          have x2 : w9.frozen? ⟨gL, k * 4 + 2, none⟩ = false := (St.row_at hrt).frozenAt (k * 4 + 2)
          have x3 : w9.frozen? ⟨gL, k * 4 + 3, none⟩ = false := (St.row_at hrt).frozenAt (k * 4 + 3)
          obtain ⟨t0, t1, t2, t3⟩ := rtFacts hrt HR0.out hk
          simp only at t0 t1 t2 t3
          have HRT := Lib.hid hrt
          clear hrt
          refine wp_region_head_tail 7 (by kernel_rfl) (by kernel_rfl) ?_
          simp only [List.take_succ_cons, List.take_zero, List.drop_succ_cons, List.drop_zero]
          repeat (go_big_quiet_step (fail))
          refine wpQuiet_nil ?_
          intro m3
          go_wp2_with fail
          go_end0
          refine ⟨rfl, ?_⟩
          have hfin := rtb_put (HRT.out.drewN m3) (by rw [HM.out.fits.n]; exact hk) (a + ab) ((b + u) - (n + 1)) (min (s + 1) 127) ((n + 1))
          rw [HE.out]
          unfold fin
          rw [if_neg (by omega), if_pos c2, show min ((b + u) - (n + 1)) 0 = (b + u) - (n + 1) by omega]
          exact hfin.swap.drop.swap
      · go_wp2_with fail
        have H2 := Lib.hid (H7.out)
        clear H f0 f1 f2 g0 g1 g2 g3 y0 y1 y2 y3 H7 z1 z3
        generalize World.setCell _ _ _ = w9 at *
        have f2 := (rFacts H2.out.swap).2.2
        have g0 := H2.out.cell 0
        have g1 := H2.out.cell 1
        have g2 := H2.out.cell 2
        have g3 := H2.out.cell 3
        simp only [List.set_cons_succ, List.set_cons_zero, List.getElem?_cons_succ, List.getElem?_cons_zero] at g0 g1 g2 g3
        have hrt := H2.out.rot3
        have x0 : w9.frozen? ⟨gL, k * 4, none⟩ = false := (St.row_at hrt).frozenAt (k * 4)
        have x1 : w9.frozen? ⟨gL, k * 4 + 1, none⟩ = false := (St.row_at hrt).frozenAt (k * 4 + 1)
        have x2 : w9.frozen? ⟨gL, k * 4 + 2, none⟩ = false := (St.row_at hrt).frozenAt (k * 4 + 2)
        have x3 : w9.frozen? ⟨gL, k * 4 + 3, none⟩ = false := (St.row_at hrt).frozenAt (k * 4 + 3)
        obtain ⟨t0, t1, t2, t3⟩ := rtFacts hrt HR0.out hk
        simp only at t0 t1 t2 t3
        have HRT := Lib.hid hrt
        clear hrt
        refine wp_region_head_tail 7 (by kernel_rfl) (by kernel_rfl) ?_
        simp only [List.take_succ_cons, List.take_zero, List.drop_succ_cons, List.drop_zero]
        repeat (go_big_quiet_step (fail))
        refine wpQuiet_nil ?_
        intro m3
        go_wp2_with fail
        go_end0
        refine ⟨rfl, ?_⟩
        have hfin := rtb_put (HRT.out.drewN m3) (by rw [HM.out.fits.n]; exact hk) (a + ab) ((b + u)) (s) ((n + 1))
        rw [HE.out]
        unfold fin
        rw [if_neg (by omega), if_neg (by omega)]
        exact hfin.swap.drop.swap
end Go.Proofs.YtiglncmkinojjaaDoor
