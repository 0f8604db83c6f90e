import Derived.Test.YtiglncmkinojjaaDoorModelG
namespace Go.Proofs.YtiglncmkinojjaaDoor
set_option linter.unusedSimpArgs false
set_option linter.unusedVariables false
open Go Go.RowKit

def cnt (n t : Int) : Int := if t ≤ n then 1 else 0
theorem cnt_pos {n t : Int} (h : t ≤ n) : cnt n t = 1 := if_pos h
theorem cnt_neg {n t : Int} (h : ¬ t ≤ n) : cnt n t = 0 := if_neg h
theorem cnt_01 (n t : Int) : 0 ≤ cnt n t ∧ cnt n t ≤ 1 := by unfold cnt; omega
def degI (M : Mo) (g : Int) : Int :=
  if max g (-g) ≤ M.d then 0 else
  if g < 0 then -(1 + cnt (max g (-g)) M.t0 + cnt (max g (-g)) M.t1 + cnt (max g (-g)) M.t2) else 1 + cnt (max g (-g)) M.t0 + cnt (max g (-g)) M.t1 + cnt (max g (-g)) M.t2

theorem idx3 (a b c : Int) (w : World) :
    (Instr.index 58 (.agg #[.int .i64 a, .int .i64 b, .int .i64 c]) (.int .i64 0)).run Tryd.prog w = .ok (.int .i64 a) w ∧
    (Instr.index 58 (.agg #[.int .i64 a, .int .i64 b, .int .i64 c]) (.int .i64 1)).run Tryd.prog w = .ok (.int .i64 b) w ∧
    (Instr.index 58 (.agg #[.int .i64 a, .int .i64 b, .int .i64 c]) (.int .i64 2)).run Tryd.prog w = .ok (.int .i64 c) w := ⟨by kernel_rfl, by kernel_rfl, by kernel_rfl⟩

theorem Degree_ok (c : Ctx) (R : List HP) (g : Nat) (M : Mo) (e r : Int) (w : World) (hS : St c (mdl g M :: R) w) (he1 : -4095 ≤ e) (he2 : e ≤ 4095) (hr : degI M e = r) :
    Calls Tryd.prog 29 #[.pointer (some ⟨g, 0, none⟩), .int .i64 e] w fun e' w' => e' = .returned (.int .i64 r) ∧ ∃ m, w' = w.drewN m := by
  obtain ⟨f0, f1, f2, f3, -, f5, f6, f7⟩ := mdlFacts hS
  clear hS
  unfold degI at hr
  obtain ⟨most, d, step, span, wide, t0, t1, t2, st⟩ := M
  simp only at *
  obtain ⟨n, hn⟩ : ∃ n, max e (-e) = n := ⟨_, rfl⟩
  rw [hn] at hr
  have hn0 : 0 ≤ n := by omega
  have hn1 : n ≤ 4095 := by omega
  have hmx : (if e < -e then -e else e) = n := by rw [← hn]; omega
  have HR := Lib.hid hr
  have HN := Lib.hid hn
  clear hr hn
  go_enter Tryd.func29, Tryd.ntmps29
  by_cases hnd : n ≤ d
  · go_wp2_with fail
    go_ret
    exact ⟨ret_int (by rw [← HR.out, if_pos hnd]), 0, rfl⟩
  · go_wp2_with fail
    go_loopw [6, 8, 23] (fun k _ i w' => ∃ j : Nat, j ≤ 3 ∧ i = .int .i64 (j : Nat) ∧ ∃ kc : Int, k = .int .i64 kc ∧ 1 ≤ kc ∧ kc ≤ 1 + (j : Int) ∧ Hid (kc = 1 + (if 0 < j then cnt n t0 else 0) + (if 1 < j then cnt n t1 else 0) + (if 2 < j then cnt n t2 else 0)) ∧ w' = w) (fun _ _ i _ => 3 - (intOf i).toNat)
    case atStart => exact ⟨0, by omega, rfl, 1, rfl, by omega, by omega, by simp [Hid], rfl⟩
    case round =>
      have x0 := fun w => (idx3 t0 t1 t2 w).1
      have x1 := fun w => (idx3 t0 t1 t2 w).2.1
      have x2 := fun w => (idx3 t0 t1 t2 w).2.2
      obtain ⟨j, hj, rfl, kc, rfl, hk1, hk2, HK, rfl⟩ := hrel
      obtain rfl | rfl | rfl | rfl : j = 0 ∨ j = 1 ∨ j = 2 ∨ j = 3 := by omega
      · by_cases hc : t0 ≤ n
        · go_wp2_with fail
          go_roundw
          case rel => exact ⟨1, by omega, rfl, kc + 1, by go_num, by omega, by omega, by have h : kc = 1 + 0 + 0 + 0 := HK.out; have h2 := cnt_pos hc; show kc + 1 = 1 + cnt n t0 + 0 + 0; omega, trivial⟩
          case measure => simp [intOf]
        · go_wp2_with fail
          go_roundw
          case rel => exact ⟨1, by omega, rfl, kc, by go_num, by omega, by omega, by have h : kc = 1 + 0 + 0 + 0 := HK.out; have h2 := cnt_neg hc; show kc = 1 + cnt n t0 + 0 + 0; omega, trivial⟩
          case measure => simp [intOf]
      · by_cases hc : t1 ≤ n
        · go_wp2_with fail
          go_roundw
          case rel => exact ⟨2, by omega, rfl, kc + 1, by go_num, by omega, by omega, by have h : kc = 1 + cnt n t0 + 0 + 0 := HK.out; have h2 := cnt_pos hc; show kc + 1 = 1 + cnt n t0 + cnt n t1 + 0; omega, trivial⟩
          case measure => simp [intOf]
        · go_wp2_with fail
          go_roundw
          case rel => exact ⟨2, by omega, rfl, kc, by go_num, by omega, by omega, by have h : kc = 1 + cnt n t0 + 0 + 0 := HK.out; have h2 := cnt_neg hc; show kc = 1 + cnt n t0 + cnt n t1 + 0; omega, trivial⟩
          case measure => simp [intOf]
      · by_cases hc : t2 ≤ n
        · go_wp2_with fail
          go_roundw
          case rel => exact ⟨3, by omega, rfl, kc + 1, by go_num, by omega, by omega, by have h : kc = 1 + cnt n t0 + cnt n t1 + 0 := HK.out; have h2 := cnt_pos hc; show kc + 1 = 1 + cnt n t0 + cnt n t1 + cnt n t2; omega, trivial⟩
          case measure => simp [intOf]
        · go_wp2_with fail
          go_roundw
          case rel => exact ⟨3, by omega, rfl, kc, by go_num, by omega, by omega, by have h : kc = 1 + cnt n t0 + cnt n t1 + 0 := HK.out; have h2 := cnt_neg hc; show kc = 1 + cnt n t0 + cnt n t1 + cnt n t2; omega, trivial⟩
          case measure => simp [intOf]
      · have hk : kc = 1 + cnt n t0 + cnt n t1 + cnt n t2 := HK.out
        have hr := HR.out
        rw [if_neg (by omega), ← hk] at hr
        have HR2 := Lib.hid hr
        clear hr hk HK HR hnd hmx
        by_cases hneg : e < 0
        · go_wp2_with fail
          go_ret
          exact ⟨ret_int (by rw [← HR2.out, if_pos (by omega)]), 0, rfl⟩
        · go_wp2_with fail
          go_ret
          exact ⟨ret_int (by rw [← HR2.out, if_neg (by omega)]), 0, rfl⟩

theorem deg_bounds (M : Mo) (e : Int) : -4 ≤ degI M e ∧ degI M e ≤ 4 := by
  unfold degI
  have h0 := cnt_01 (max e (-e)) M.t0
  have h1 := cnt_01 (max e (-e)) M.t1
  have h2 := cnt_01 (max e (-e)) M.t2
  split
  · omega
  · split <;> omega

theorem deg_neg (M : Mo) (e : Int) (hd : 0 ≤ M.d) : degI M (-e) = -degI M e := by
  unfold degI
  rw [show max (-e) (- -e) = max e (-e) by omega]
  by_cases h : max e (-e) ≤ M.d
  · rw [if_pos h, if_pos h]; rfl
  · rw [if_neg h, if_neg h]
    by_cases h2 : e < 0
    · rw [if_pos h2, if_neg (by omega)]; omega
    · rw [if_neg h2, if_pos (by omega)]

def gradI (M : Mo) (a b c d : Int) : Int :=
  81 * degI M (cutI d 0 M.most - cutI b 0 M.most) + 9 * degI M (cutI b 0 M.most - cutI c 0 M.most) + degI M (cutI c 0 M.most - cutI a 0 M.most)
theorem grad_bounds (M : Mo) (a b c d : Int) : -364 ≤ gradI M a b c d ∧ gradI M a b c d ≤ 364 := by
  unfold gradI
  have h0 := deg_bounds M (cutI d 0 M.most - cutI b 0 M.most)
  have h1 := deg_bounds M (cutI b 0 M.most - cutI c 0 M.most)
  have h2 := deg_bounds M (cutI c 0 M.most - cutI a 0 M.most)
  omega

theorem Find_ok (c : Ctx) (R : List HP) (g : Nat) (M : Mo) (x1 x2 x3 x4 n k s : Int) (w : World) (hS : St c (mdl g M :: R) w) (hM : M.Fits) (hn : gradI M x1 x2 x3 x4 = n) (hk : (if n < 0 then -n else n) = k) (hs : (if n < 0 then -1 else 1) = s) :
    Calls Tryd.prog 18 #[.pointer (some ⟨g, 0, none⟩), .int .i64 x1, .int .i64 x2, .int .i64 x3, .int .i64 x4] w fun e' w' => e' = .returned (.tuple #[.int .i64 k, .int .i64 s]) ∧ ∃ m, w' = w.drewN m := by
  have HS := Lib.hid hS
  have hb := grad_bounds M x1 x2 x3 x4
  rw [hn] at hb
  obtain ⟨hb1, hb2⟩ := hb
  unfold gradI at hn
  have hm0 := hM.m0
  have hm1 := hM.m1
  obtain ⟨a1, ha1⟩ : ∃ a, cutI x1 0 M.most = a := ⟨_, rfl⟩
  obtain ⟨a2, ha2⟩ : ∃ a, cutI x2 0 M.most = a := ⟨_, rfl⟩
  obtain ⟨a3, ha3⟩ : ∃ a, cutI x3 0 M.most = a := ⟨_, rfl⟩
  obtain ⟨a4, ha4⟩ : ∃ a, cutI x4 0 M.most = a := ⟨_, rfl⟩
  have c1 := cut_bounds x1 0 M.most (by omega)
  have c2 := cut_bounds x2 0 M.most (by omega)
  have c3 := cut_bounds x3 0 M.most (by omega)
  have c4 := cut_bounds x4 0 M.most (by omega)
  rw [ha1] at hn c1
  rw [ha2] at hn c2
  rw [ha3] at hn c3
  rw [ha4] at hn c4
  obtain ⟨b1, hb1'⟩ : ∃ a, degI M (a4 - a2) = a := ⟨_, rfl⟩
  obtain ⟨b2, hb2'⟩ : ∃ a, degI M (a2 - a3) = a := ⟨_, rfl⟩
  obtain ⟨b3, hb3'⟩ : ∃ a, degI M (a3 - a1) = a := ⟨_, rfl⟩
  have d1 := deg_bounds M (a4 - a2)
  have d2 := deg_bounds M (a2 - a3)
  have d3 := deg_bounds M (a3 - a1)
  rw [hb1'] at hn d1
  rw [hb2'] at hn d2
  rw [hb3'] at hn d3
  obtain ⟨c11, c12⟩ := c1
  obtain ⟨c21, c22⟩ := c2
  obtain ⟨c31, c32⟩ := c3
  obtain ⟨c41, c42⟩ := c4
  obtain ⟨d11, d12⟩ := d1
  obtain ⟨d21, d22⟩ := d2
  obtain ⟨d31, d32⟩ := d3
  have A1 := Lib.hid ha1
  have A2 := Lib.hid ha2
  have A3 := Lib.hid ha3
  have A4 := Lib.hid ha4
  have B1 := Lib.hid hb1'
  have B2 := Lib.hid hb2'
  have B3 := Lib.hid hb3'
  have HK := Lib.hid hk
  have HSG := Lib.hid hs
  clear hS hM ha1 ha2 ha3 ha4 hb1' hb2' hb3' hk hs
  go_enter Tryd.func18, Tryd.ntmps18
  have HQ0 : Hid (∃ m, w = w.drewN m) := ⟨0, rfl⟩
  go_wp2_with (first
    | (go_at_call 27; with_reducible refine (Sample_ok c R g M x1 a1 _ HS.out A1.out).mono ?_; rintro e w2 ⟨rfl, hq⟩; simp only []; have H2 := Lib.hid (HS.out.of_quiet hq); have HQ1 := Lib.hid (qt_trans HQ0.out hq); clear hq HS HQ0; have HQ0 := HQ1; clear HQ1; have HS := H2; clear H2)
    | (go_at_call 27; with_reducible refine (Sample_ok c R g M x2 a2 _ HS.out A2.out).mono ?_; rintro e w2 ⟨rfl, hq⟩; simp only []; have H2 := Lib.hid (HS.out.of_quiet hq); have HQ1 := Lib.hid (qt_trans HQ0.out hq); clear hq HS HQ0; have HQ0 := HQ1; clear HQ1; have HS := H2; clear H2)
    | (go_at_call 27; with_reducible refine (Sample_ok c R g M x3 a3 _ HS.out A3.out).mono ?_; rintro e w2 ⟨rfl, hq⟩; simp only []; have H2 := Lib.hid (HS.out.of_quiet hq); have HQ1 := Lib.hid (qt_trans HQ0.out hq); clear hq HS HQ0; have HQ0 := HQ1; clear HQ1; have HS := H2; clear H2)
    | (go_at_call 27; with_reducible refine (Sample_ok c R g M x4 a4 _ HS.out A4.out).mono ?_; rintro e w2 ⟨rfl, hq⟩; simp only []; have H2 := Lib.hid (HS.out.of_quiet hq); have HQ1 := Lib.hid (qt_trans HQ0.out hq); clear hq HS HQ0; have HQ0 := HQ1; clear HQ1; have HS := H2; clear H2)
    | (go_at_call 29; with_reducible refine (Degree_ok c R g M (a4 - a2) b1 _ HS.out (by omega) (by omega) B1.out).mono ?_; rintro e w2 ⟨rfl, hq⟩; simp only []; have H2 := Lib.hid (HS.out.of_quiet hq); have HQ1 := Lib.hid (qt_trans HQ0.out hq); clear hq HS HQ0; have HQ0 := HQ1; clear HQ1; have HS := H2; clear H2)
    | (go_at_call 29; with_reducible refine (Degree_ok c R g M (a2 - a3) b2 _ HS.out (by omega) (by omega) B2.out).mono ?_; rintro e w2 ⟨rfl, hq⟩; simp only []; have H2 := Lib.hid (HS.out.of_quiet hq); have HQ1 := Lib.hid (qt_trans HQ0.out hq); clear hq HS HQ0; have HQ0 := HQ1; clear HQ1; have HS := H2; clear H2)
    | (go_at_call 29; with_reducible refine (Degree_ok c R g M (a3 - a1) b3 _ HS.out (by omega) (by omega) B3.out).mono ?_; rintro e w2 ⟨rfl, hq⟩; simp only []; have H2 := Lib.hid (HS.out.of_quiet hq); have HQ1 := Lib.hid (qt_trans HQ0.out hq); clear hq HS HQ0; have HQ0 := HQ1; clear HQ1; have HS := H2; clear H2))
  all_goals
    go_ret2
    refine ⟨?_, HQ0.out⟩
    have e1 := HK.out
    have e2 := HSG.out
    first
      | (obtain rfl : k = -n := by omega
         obtain rfl : s = -1 := by omega
         rfl)
      | (obtain rfl : k = n := by omega
         obtain rfl : s = 1 := by omega
         rfl)

theorem grad_turned (M : Mo) (a b c d : Int) (hd : 0 ≤ M.d) (ha : 0 ≤ a) (ha2 : a ≤ M.most) (hb : 0 ≤ b) (hb2 : b ≤ M.most) (hc : 0 ≤ c) (hc2 : c ≤ M.most) (hd1 : 0 ≤ d) (hd2 : d ≤ M.most) :
    gradI M (M.most - a) (M.most - b) (M.most - c) (M.most - d) = -gradI M a b c d := by
  have e (x : Int) (h1 : 0 ≤ x) (h2 : x ≤ M.most) : cutI x 0 M.most = x := by unfold cutI; omega
  unfold gradI
  rw [e a ha ha2, e b hb hb2, e c hc hc2, e d hd1 hd2, e _ (show 0 ≤ M.most - a by omega) (by omega), e _ (show 0 ≤ M.most - b by omega) (by omega), e _ (show 0 ≤ M.most - c by omega) (by omega), e _ (show 0 ≤ M.most - d by omega) (by omega)]
  rw [show M.most - d - (M.most - b) = -(d - b) by omega, show M.most - b - (M.most - c) = -(b - c) by omega, show M.most - c - (M.most - a) = -(c - a) by omega]
  rw [deg_neg M _ hd, deg_neg M _ hd, deg_neg M _ hd]
  omega

end Go.Proofs.YtiglncmkinojjaaDoor
