import Derived.Test.YtiglncmkinojjaaDoorRefA
/-! The document's model: Shrink, Grow. -/
namespace Go.Proofs.YtiglncmkinojjaaDoor
set_option linter.unusedSimpArgs false
set_option linter.unusedVariables false
open Go Go.RowKit
set_option maxHeartbeats 4000000 in
theorem rShrink_is (c : Ctx) (R : List HP) (g : Nat) (dep : Int) (M : Mo) (v : Value) (e q : Int) (w : World) (hS : St c (rhd g dep M.d v :: R) w) (hM : RIs dep M) (hq : shrinkI M e = q) :
    Calls Tryd.prog 31 #[.pointer (some ⟨g, 0, none⟩), .int .i64 e] w fun e' w' => e' = .returned (.int .i64 q) ∧ ∃ m, w' = w.drewN m := by
  obtain ⟨f0, f1, f2⟩ := rFacts hS
  have HS := Lib.hid hS
  have HM := Lib.hid hM
  have h0 := hM.fits.m0
  have h1 := hM.fits.m1
  have h2 := hM.fits.d0
  have h3 := hM.fits.d1
  have h4 := hM.fits.st
  have p0 := hM.fits.p0
  have p1 := hM.fits.p1
  have H4 := Lib.hid h4
  have HD := Lib.hid hM.hdep
  have h5 : 1 ≤ M.step := by omega
  have h6 : M.step ≤ 127 := by omega
  clear hS hM
  obtain ⟨r, hr⟩ : ∃ r, cutI e (-M.most) M.most = r := ⟨_, rfl⟩
  unfold shrinkI at hq
  rw [hr] at hq
  simp only at hq
  have hr0 := cut_bounds e (-M.most) M.most (by omega)
  rw [hr] at hr0
  obtain ⟨hr1, hr2⟩ := hr0
  obtain ⟨a, ha⟩ : ∃ a, max r (-r) = a := ⟨_, rfl⟩
  have ha1 : 0 ≤ a := by omega
  have ha2 : a ≤ 4095 := by omega
  obtain ⟨z, hz⟩ : ∃ z, (a + M.d) / M.step = z := ⟨_, rfl⟩
  have hz0 : 0 ≤ z ∧ z ≤ 4158 := by
    rw [← hz]
    have h := Int.ediv_le_self (b := M.step) (a := a + M.d) (by omega)
    exact ⟨Int.ediv_nonneg (by omega) (by omega), by omega⟩
  obtain ⟨hz1, hz2⟩ := hz0
  rw [ha, hz] at hq
  have HR := Lib.hid hr
  have HA := Lib.hid ha
  have HZ := Lib.hid hz
  have HE := Lib.hid hq
  clear hr ha hz hq h4
  have HQ : Hid (∃ m, w = w.drewN m) := ⟨0, rfl⟩
  go_enter Tryd.func31, Tryd.ntmps31
  go_wp2_with (first | (go_at_call 43; with_reducible refine (rtop_is c R g dep M.d M.most v _ HS.out HD.out).mono ?_; rintro e' w' ⟨rfl, rfl⟩; simp only []) | (go_at_call 42; with_reducible refine (rcut_is e (-M.most) M.most r _ (by omega) HR.out).mono ?_; rintro e' w' ⟨rfl, rfl⟩; simp only []))
  go_quiet ((first | (go_at_call 45; exact Calls.quiet_of_same (rstep_is c R g dep M.d M.step v _ (HS.out.drewN _) h2 h3 H4.out)) | (go_at_call 44; exact Calls.quiet_of_same (rsize_is r a _ (by omega) (by omega) HA.out))))
  have H2 := Lib.hid (HS.out.drewN nq)
  have HQ1 := Lib.hid (qt_trans HQ.out (qt_self nq))
  clear HS HQ f0 f1 f2
  have HS := H2
  have HQ := HQ1
  clear H2 HQ1
  obtain ⟨f0, f1, f2⟩ := rFacts HS.out
  rw [HZ.out]
  go_wp2_with (go_at_call 40; with_reducible refine (rRange_is c R g dep M v _ HS.out HM.out).mono ?_; rintro e' w2 ⟨rfl, hq⟩; simp only []; have HQ1 := Lib.hid (qt_trans HQ.out hq); have H2 := Lib.hid (HS.out.of_quiet hq); clear hq HS HQ f0 f1 f2; have HQ := HQ1; have HS := H2; clear HQ1 H2; obtain ⟨f0, f1, f2⟩ := rFacts HS.out)
  all_goals
    go_ret
    refine ⟨ret_int ?_, HQ.out⟩
    rw [← HE.out]
    clear HE HR HA HZ HQ
    (try simp only [wrap64] at *)
    omega
set_option maxHeartbeats 4000000 in
theorem rGrow_is (c : Ctx) (R : List HP) (g : Nat) (dep : Int) (M : Mo) (v : Value) (p q r : Int) (w : World) (hS : St c (rhd g dep M.d v :: R) w) (hM : RIs dep M) (hr : growI M p q = r) :
    Calls Tryd.prog 32 #[.pointer (some ⟨g, 0, none⟩), .int .i64 p, .int .i64 q] w fun e' w' => e' = .returned (.int .i64 r) ∧ ∃ m, w' = w.drewN m := by
  obtain ⟨f0, f1, f2⟩ := rFacts hS
  have HS := Lib.hid hS
  have HM := Lib.hid hM
  have h0 := hM.fits.m0
  have h1 := hM.fits.m1
  have h2 := hM.fits.d0
  have h3 := hM.fits.d1
  have h4 := hM.fits.st
  have p0 := hM.fits.p0
  have p1 := hM.fits.p1
  have H4 := Lib.hid h4
  have HD := Lib.hid hM.hdep
  have h5 : 1 ≤ M.step := by omega
  have h6 : M.step ≤ 127 := by omega
  clear hS hM
  unfold growI at hr
  simp only at hr
  obtain ⟨a, ha⟩ : ∃ a, cutI p 0 M.most = a := ⟨_, rfl⟩
  obtain ⟨b, hb⟩ : ∃ b, cutI q (-M.span) M.span = b := ⟨_, rfl⟩
  rw [ha, hb] at hr
  have ha0 := cut_bounds p 0 M.most (by omega)
  have hb0 := cut_bounds q (-M.span) M.span (by omega)
  rw [ha] at ha0
  rw [hb] at hb0
  obtain ⟨ha1, ha2⟩ := ha0
  obtain ⟨hb1, hb2⟩ := hb0
  obtain ⟨u, hu⟩ : ∃ u, b * M.step = u := ⟨_, rfl⟩
  obtain ⟨s, hs⟩ : ∃ s, M.span * M.step = s := ⟨_, rfl⟩
  have hu0 := mul_bounds (a := b) (b := M.step) (A := 4096) (B := 127) (by omega) (by omega) (by omega) (by omega)
  have hs0 := mul_bounds (a := M.span) (b := M.step) (A := 4096) (B := 127) (by omega) (by omega) (by omega) (by omega)
  rw [hu] at hr hu0
  rw [hs] at hr hs0
  obtain ⟨hu1, hu2⟩ := hu0
  obtain ⟨hs1, hs2⟩ := hs0
  have HA := Lib.hid ha
  have HB := Lib.hid hb
  have e1 : wrap64 (b * M.step) = u := by rw [hu]; unfold wrap64; omega
  have e2 : wrap64 (M.span * M.step) = s := by rw [hs]; unfold wrap64; omega
  have HQ : Hid (∃ m, w = w.drewN m) := ⟨0, rfl⟩
  clear ha hb hu hs h4 hb1 hb2
  have hthree : a + u < -M.d ∨ (¬ a + u < -M.d ∧ M.most + M.d < a + u) ∨ (¬ a + u < -M.d ∧ ¬ M.most + M.d < a + u) := by omega
  rcases hthree with hc | ⟨hc, hc2⟩ | ⟨hc, hc2⟩
  · rw [if_pos hc] at hr
    have HR := Lib.hid hr
    clear hr
    go_enter Tryd.func32, Tryd.ntmps32
    go_wp2_with (first | (go_at_call 43; with_reducible refine (rtop_is c R g dep M.d M.most v _ HS.out HD.out).mono ?_; rintro e' w' ⟨rfl, rfl⟩; simp only []) | (go_at_call 40; with_reducible refine (rRange_is c R g dep M v _ HS.out HM.out).mono ?_; rintro e' w2 ⟨rfl, hq⟩; simp only []; have HQ1 := Lib.hid (qt_trans HQ.out hq); have H2 := Lib.hid (HS.out.of_quiet hq); clear hq HS HQ f0 f1 f2; have HQ := HQ1; have HS := H2; clear HQ1 H2; obtain ⟨f0, f1, f2⟩ := rFacts HS.out) | (go_at_call 45; with_reducible refine (rstep_is c R g dep M.d M.step v _ HS.out h2 h3 H4.out).mono ?_; rintro e' w' ⟨rfl, rfl⟩; simp only []) | (go_at_call 42; with_reducible refine (rcut_is p 0 M.most a _ (by omega) HA.out).mono ?_; rintro e' w' ⟨rfl, rfl⟩; simp only []) | (go_at_call 42; with_reducible refine (rcut_is q (-M.span) M.span b _ (by omega) HB.out).mono ?_; rintro e' w' ⟨rfl, rfl⟩; simp only []) | (go_at_call 42; with_reducible refine (rcut_is (a + u + s) 0 M.most r _ (by omega) HR.out).mono ?_; rintro e' w' ⟨rfl, rfl⟩; simp only []))
    go_ret
    exact ⟨rfl, HQ.out⟩
  · rw [if_neg hc, if_pos hc2] at hr
    have HR := Lib.hid hr
    clear hr
    go_enter Tryd.func32, Tryd.ntmps32
    go_wp2_with (first | (go_at_call 43; with_reducible refine (rtop_is c R g dep M.d M.most v _ HS.out HD.out).mono ?_; rintro e' w' ⟨rfl, rfl⟩; simp only []) | (go_at_call 40; with_reducible refine (rRange_is c R g dep M v _ HS.out HM.out).mono ?_; rintro e' w2 ⟨rfl, hq⟩; simp only []; have HQ1 := Lib.hid (qt_trans HQ.out hq); have H2 := Lib.hid (HS.out.of_quiet hq); clear hq HS HQ f0 f1 f2; have HQ := HQ1; have HS := H2; clear HQ1 H2; obtain ⟨f0, f1, f2⟩ := rFacts HS.out) | (go_at_call 45; with_reducible refine (rstep_is c R g dep M.d M.step v _ HS.out h2 h3 H4.out).mono ?_; rintro e' w' ⟨rfl, rfl⟩; simp only []) | (go_at_call 42; with_reducible refine (rcut_is p 0 M.most a _ (by omega) HA.out).mono ?_; rintro e' w' ⟨rfl, rfl⟩; simp only []) | (go_at_call 42; with_reducible refine (rcut_is q (-M.span) M.span b _ (by omega) HB.out).mono ?_; rintro e' w' ⟨rfl, rfl⟩; simp only []))
    go_quiet ((go_at_call 43; exact Calls.quiet_of_same (rtop_is c R g dep M.d M.most v _ (HS.out.drewN _) HD.out)))
    have H2 := Lib.hid (HS.out.drewN nq)
    have HQ1 := Lib.hid (qt_trans HQ.out (qt_self nq))
    clear HS HQ f0 f1 f2
    have HS := H2
    have HQ := HQ1
    clear H2 HQ1
    obtain ⟨f0, f1, f2⟩ := rFacts HS.out
    go_wp2_with (first | (go_at_call 43; with_reducible refine (rtop_is c R g dep M.d M.most v _ HS.out HD.out).mono ?_; rintro e' w' ⟨rfl, rfl⟩; simp only []) | (go_at_call 40; with_reducible refine (rRange_is c R g dep M v _ HS.out HM.out).mono ?_; rintro e' w2 ⟨rfl, hq⟩; simp only []; have HQ1 := Lib.hid (qt_trans HQ.out hq); have H2 := Lib.hid (HS.out.of_quiet hq); clear hq HS HQ f0 f1 f2; have HQ := HQ1; have HS := H2; clear HQ1 H2; obtain ⟨f0, f1, f2⟩ := rFacts HS.out) | (go_at_call 45; with_reducible refine (rstep_is c R g dep M.d M.step v _ HS.out h2 h3 H4.out).mono ?_; rintro e' w' ⟨rfl, rfl⟩; simp only []) | (go_at_call 42; with_reducible refine (rcut_is (a + u - s) 0 M.most r _ (by omega) HR.out).mono ?_; rintro e' w' ⟨rfl, rfl⟩; simp only []))
    go_ret
    exact ⟨rfl, HQ.out⟩
  · rw [if_neg hc, if_neg hc2] at hr
    have HR := Lib.hid hr
    clear hr
    go_enter Tryd.func32, Tryd.ntmps32
    go_wp2_with (first | (go_at_call 43; with_reducible refine (rtop_is c R g dep M.d M.most v _ HS.out HD.out).mono ?_; rintro e' w' ⟨rfl, rfl⟩; simp only []) | (go_at_call 40; with_reducible refine (rRange_is c R g dep M v _ HS.out HM.out).mono ?_; rintro e' w2 ⟨rfl, hq⟩; simp only []; have HQ1 := Lib.hid (qt_trans HQ.out hq); have H2 := Lib.hid (HS.out.of_quiet hq); clear hq HS HQ f0 f1 f2; have HQ := HQ1; have HS := H2; clear HQ1 H2; obtain ⟨f0, f1, f2⟩ := rFacts HS.out) | (go_at_call 45; with_reducible refine (rstep_is c R g dep M.d M.step v _ HS.out h2 h3 H4.out).mono ?_; rintro e' w' ⟨rfl, rfl⟩; simp only []) | (go_at_call 42; with_reducible refine (rcut_is p 0 M.most a _ (by omega) HA.out).mono ?_; rintro e' w' ⟨rfl, rfl⟩; simp only []) | (go_at_call 42; with_reducible refine (rcut_is q (-M.span) M.span b _ (by omega) HB.out).mono ?_; rintro e' w' ⟨rfl, rfl⟩; simp only []))
    go_quiet ((go_at_call 43; exact Calls.quiet_of_same (rtop_is c R g dep M.d M.most v _ (HS.out.drewN _) HD.out)))
    have H2 := Lib.hid (HS.out.drewN nq)
    have HQ1 := Lib.hid (qt_trans HQ.out (qt_self nq))
    clear HS HQ f0 f1 f2
    have HS := H2
    have HQ := HQ1
    clear H2 HQ1
    obtain ⟨f0, f1, f2⟩ := rFacts HS.out
    go_wp2_with (first | (go_at_call 43; with_reducible refine (rtop_is c R g dep M.d M.most v _ HS.out HD.out).mono ?_; rintro e' w' ⟨rfl, rfl⟩; simp only []) | (go_at_call 40; with_reducible refine (rRange_is c R g dep M v _ HS.out HM.out).mono ?_; rintro e' w2 ⟨rfl, hq⟩; simp only []; have HQ1 := Lib.hid (qt_trans HQ.out hq); have H2 := Lib.hid (HS.out.of_quiet hq); clear hq HS HQ f0 f1 f2; have HQ := HQ1; have HS := H2; clear HQ1 H2; obtain ⟨f0, f1, f2⟩ := rFacts HS.out) | (go_at_call 45; with_reducible refine (rstep_is c R g dep M.d M.step v _ HS.out h2 h3 H4.out).mono ?_; rintro e' w' ⟨rfl, rfl⟩; simp only []) | (go_at_call 42; with_reducible refine (rcut_is (a + u) 0 M.most r _ (by omega) HR.out).mono ?_; rintro e' w' ⟨rfl, rfl⟩; simp only []))
    go_ret
    exact ⟨rfl, HQ.out⟩
end Go.Proofs.YtiglncmkinojjaaDoor
