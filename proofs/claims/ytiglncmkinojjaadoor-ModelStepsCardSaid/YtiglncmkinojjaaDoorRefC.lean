import Derived.Test.YtiglncmkinojjaaDoorRefB
/-! The document's model: degree, Find, Med, known, Guess. -/
namespace Go.Proofs.YtiglncmkinojjaaDoor
set_option linter.unusedSimpArgs false
set_option linter.unusedVariables false
open Go Go.RowKit
set_option maxHeartbeats 4000000 in
theorem rDegree_is (c : Ctx) (R : List HP) (g : Nat) (dep : Int) (M : Mo) (v : Value) (e q : Int) (w : World) (hS : St c (rhd g dep M.d v :: R) w) (hM : RIs dep M) (he1 : -4095 ≤ e) (he2 : e ≤ 4095) (hq : degI M e = q) :
    Calls Tryd.prog 46 #[.pointer (some ⟨g, 0, none⟩), .int .i64 e] w fun e' w' => e' = .returned (.int .i64 q) ∧ ∃ m, w' = w.drewN m := by
  have hdd := hM.hdep
  have ht0 := hM.t0
  have ht1 := hM.t1
  have ht2 := hM.t2
  obtain ⟨f0, f1, f2⟩ := rFacts hS
  have HS := Lib.hid hS
  have HM := Lib.hid hM
  have h0 := hM.fits.m0
  have h1 := hM.fits.m1
  have h2 := hM.fits.d0
  have h3 := hM.fits.d1
  have h4 := hM.fits.st
  have p0 := hM.fits.p0
  have p1 := hM.fits.p1
  have H4 := Lib.hid h4
  have HD := Lib.hid hM.hdep
  have h5 : 1 ≤ M.step := by omega
  have h6 : M.step ≤ 127 := by omega
  clear hS hM
  obtain ⟨n, hn⟩ : ∃ n, max e (-e) = n := ⟨_, rfl⟩
  unfold degI cnt at hq
  rw [hn] at hq
  have hn0 : 0 ≤ n := by omega
  have hn1 : n ≤ 4095 := by omega
  have HN := Lib.hid hn
  have HE := Lib.hid hq
  have HT := Lib.hid (And.intro ht0 (And.intro ht1 ht2))
  have HQ : Hid (∃ m, w = w.drewN m) := ⟨0, rfl⟩
  clear hn hq h4 ht0 ht1 ht2 p0 p1 h5 h6
  rcases hdd with ⟨rfl, hmm⟩ | ⟨rfl, hmm⟩
  all_goals
    go_enter Tryd.func46, Tryd.ntmps46
    go_wp2_with fail
    go_quiet ((go_at_call 44; exact Calls.quiet_of_same (rsize_is e n _ (by omega) (by omega) HN.out)))
    have H2 := Lib.hid (HS.out.drewN nq)
    have HQ1 := Lib.hid (qt_trans HQ.out (qt_self nq))
    clear HS HQ f0 f1 f2
    have HS := H2
    have HQ := HQ1
    clear H2 HQ1
    obtain ⟨f0, f1, f2⟩ := rFacts HS.out
    go_wp2_with (go_at_call 44; with_reducible refine (rsize_is e n _ (by omega) (by omega) HN.out).mono ?_; rintro e' w' ⟨rfl, rfl⟩; simp only [])
    all_goals
      go_ret
      refine ⟨ret_int ?_, HQ.out⟩
      rw [← HE.out]
      obtain ⟨T0, T1, T2⟩ := HT.out
      simp only [if_true, if_false, reduceIte, show ¬ ((10 : Int) = 12) by decide] at T0 T1 T2
      clear HE HN HQ HT
      (try simp only [wrap64] at *)
      omega
theorem rMed_is (a b c r : Int) (w : World) (h1 : -9223372036854775808 ≤ a) (h2 : a ≤ 9223372036854775807) (h3 : -9223372036854775808 ≤ b) (h4 : b ≤ 9223372036854775807) (h5 : -9223372036854775808 ≤ c) (h6 : c ≤ 9223372036854775807) (hr : medI a b c = r) :
    Calls Tryd.prog 39 #[.int .i64 a, .int .i64 b, .int .i64 c] w fun e w' => e = .returned (.int .i64 r) ∧ w' = w := by
  unfold medI at hr
  have HR := Lib.hid hr
  clear hr
  go_enter Tryd.func39, Tryd.ntmps39
  go_wp2_with fail
  all_goals
    go_ret
    refine ⟨ret_int ?_, rfl⟩
    rw [← HR.out]
    clear HR
    (try simp only [wrap64] at *)
    omega
set_option maxRecDepth 100000 in
theorem rknown_is (k : Int) (b : Bool) (w : World) (hb : known k = b) :
    Calls Tryd.prog 47 #[.int .i64 k] w fun e w' => e = .returned (.bool b) ∧ w' = w := by
  cases b with
  | true =>
    obtain ⟨h0, h1⟩ := known_iff.1 hb
    have h2 : decide (0 ≤ k) = true := decide_eq_true h0
    have h3 : decide (k < 365) = true := decide_eq_true h1
    clear hb
    go_enter Tryd.func47, Tryd.ntmps47
    go_wp2_with fail
    all_goals (go_ret; exact ⟨rfl, rfl⟩)
  | false =>
    have hn := known_not.1 hb
    by_cases h0 : 0 ≤ k
    · have h1 : decide (0 ≤ k) = true := decide_eq_true h0
      have h2 : decide (k < 365) = false := decide_eq_false (by omega)
      clear hb hn h0
      go_enter Tryd.func47, Tryd.ntmps47
      go_wp2_with fail
      all_goals (go_ret; exact ⟨rfl, rfl⟩)
    · have h1 : decide (0 ≤ k) = false := decide_eq_false h0
      clear hb hn
      go_enter Tryd.func47, Tryd.ntmps47
      go_wp2_with fail
      all_goals (go_ret; exact ⟨rfl, rfl⟩)
set_option maxHeartbeats 4000000 in
theorem rFind_is (c : Ctx) (R : List HP) (g : Nat) (dep : Int) (M : Mo) (v : Value) (x1 x2 x3 x4 n k s : Int) (w : World) (hS : St c (rhd g dep M.d v :: R) w) (hM : RIs dep M) (hn : gradI M x1 x2 x3 x4 = n) (hk : (if n < 0 then -n else n) = k) (hs : (if n < 0 then -1 else 1) = s) :
    Calls Tryd.prog 33 #[.pointer (some ⟨g, 0, none⟩), .int .i64 x1, .int .i64 x2, .int .i64 x3, .int .i64 x4] w fun e' w' => e' = .returned (.tuple #[.int .i64 k, .int .i64 s]) ∧ ∃ m, w' = w.drewN m := by
  have hb := grad_bounds M x1 x2 x3 x4
  rw [hn] at hb
  obtain ⟨hb1, hb2⟩ := hb
  unfold gradI at hn
  obtain ⟨f0, f1, f2⟩ := rFacts hS
  have HS := Lib.hid hS
  have HM := Lib.hid hM
  have h0 := hM.fits.m0
  have h1 := hM.fits.m1
  have h2 := hM.fits.d0
  have h3 := hM.fits.d1
  have h4 := hM.fits.st
  have p0 := hM.fits.p0
  have p1 := hM.fits.p1
  have H4 := Lib.hid h4
  have HD := Lib.hid hM.hdep
  have h5 : 1 ≤ M.step := by omega
  have h6 : M.step ≤ 127 := by omega
  clear hS hM
  obtain ⟨a1, ha1⟩ : ∃ a, cutI x1 0 M.most = a := ⟨_, rfl⟩
  have c1 := cut_bounds x1 0 M.most (by omega)
  rw [ha1] at hn c1
  obtain ⟨c11, c12⟩ := c1
  obtain ⟨a2, ha2⟩ : ∃ a, cutI x2 0 M.most = a := ⟨_, rfl⟩
  have c2 := cut_bounds x2 0 M.most (by omega)
  rw [ha2] at hn c2
  obtain ⟨c21, c22⟩ := c2
  obtain ⟨a3, ha3⟩ : ∃ a, cutI x3 0 M.most = a := ⟨_, rfl⟩
  have c3 := cut_bounds x3 0 M.most (by omega)
  rw [ha3] at hn c3
  obtain ⟨c31, c32⟩ := c3
  obtain ⟨a4, ha4⟩ : ∃ a, cutI x4 0 M.most = a := ⟨_, rfl⟩
  have c4 := cut_bounds x4 0 M.most (by omega)
  rw [ha4] at hn c4
  obtain ⟨c41, c42⟩ := c4
  obtain ⟨b1, hb1'⟩ : ∃ a, degI M (a4 - a2) = a := ⟨_, rfl⟩
  have d1 := deg_bounds M (a4 - a2)
  rw [hb1'] at hn d1
  obtain ⟨d11, d12⟩ := d1
  obtain ⟨b2, hb2'⟩ : ∃ a, degI M (a2 - a3) = a := ⟨_, rfl⟩
  have d2 := deg_bounds M (a2 - a3)
  rw [hb2'] at hn d2
  obtain ⟨d21, d22⟩ := d2
  obtain ⟨b3, hb3'⟩ : ∃ a, degI M (a3 - a1) = a := ⟨_, rfl⟩
  have d3 := deg_bounds M (a3 - a1)
  rw [hb3'] at hn d3
  obtain ⟨d31, d32⟩ := d3
  have A1 := Lib.hid ha1
  have A2 := Lib.hid ha2
  have A3 := Lib.hid ha3
  have A4 := Lib.hid ha4
  have B1 := Lib.hid hb1'
  have B2 := Lib.hid hb2'
  have B3 := Lib.hid hb3'
  have HK := Lib.hid hk
  have HSG := Lib.hid hs
  have HQ : Hid (∃ m, w = w.drewN m) := ⟨0, rfl⟩
  clear ha1 ha2 ha3 ha4 hb1' hb2' hb3' hk hs h4
  go_enter Tryd.func33, Tryd.ntmps33
  go_wp2_with (first | (go_at_call 43; with_reducible refine (rtop_is c R g dep M.d M.most v _ HS.out HD.out).mono ?_; rintro e' w' ⟨rfl, rfl⟩; simp only []) | (go_at_call 42; with_reducible refine (rcut_is x1 0 M.most a1 _ (by omega) A1.out).mono ?_; rintro e' w' ⟨rfl, rfl⟩; simp only []) | (go_at_call 42; with_reducible refine (rcut_is x2 0 M.most a2 _ (by omega) A2.out).mono ?_; rintro e' w' ⟨rfl, rfl⟩; simp only []) | (go_at_call 42; with_reducible refine (rcut_is x3 0 M.most a3 _ (by omega) A3.out).mono ?_; rintro e' w' ⟨rfl, rfl⟩; simp only []) | (go_at_call 42; with_reducible refine (rcut_is x4 0 M.most a4 _ (by omega) A4.out).mono ?_; rintro e' w' ⟨rfl, rfl⟩; simp only []) | (go_at_call 46; with_reducible refine (rDegree_is c R g dep M v (a4 - a2) b1 _ HS.out HM.out (by omega) (by omega) B1.out).mono ?_; rintro e' w2 ⟨rfl, hq⟩; simp only []; have HQ1 := Lib.hid (qt_trans HQ.out hq); have H2 := Lib.hid (HS.out.of_quiet hq); clear hq HS HQ f0 f1 f2; have HQ := HQ1; have HS := H2; clear HQ1 H2; obtain ⟨f0, f1, f2⟩ := rFacts HS.out) | (go_at_call 46; with_reducible refine (rDegree_is c R g dep M v (a2 - a3) b2 _ HS.out HM.out (by omega) (by omega) B2.out).mono ?_; rintro e' w2 ⟨rfl, hq⟩; simp only []; have HQ1 := Lib.hid (qt_trans HQ.out hq); have H2 := Lib.hid (HS.out.of_quiet hq); clear hq HS HQ f0 f1 f2; have HQ := HQ1; have HS := H2; clear HQ1 H2; obtain ⟨f0, f1, f2⟩ := rFacts HS.out) | (go_at_call 46; with_reducible refine (rDegree_is c R g dep M v (a3 - a1) b3 _ HS.out HM.out (by omega) (by omega) B3.out).mono ?_; rintro e' w2 ⟨rfl, hq⟩; simp only []; have HQ1 := Lib.hid (qt_trans HQ.out hq); have H2 := Lib.hid (HS.out.of_quiet hq); clear hq HS HQ f0 f1 f2; have HQ := HQ1; have HS := H2; clear HQ1 H2; obtain ⟨f0, f1, f2⟩ := rFacts HS.out))
  all_goals
    go_ret2
    refine ⟨?_, HQ.out⟩
    have e1 := HK.out
    have e2 := HSG.out
    first
      | (obtain rfl : k = -n := by omega
         obtain rfl : s = -1 := by omega
         rfl)
      | (obtain rfl : k = n := by omega
         obtain rfl : s = 1 := by omega
         rfl)
end Go.Proofs.YtiglncmkinojjaaDoor
