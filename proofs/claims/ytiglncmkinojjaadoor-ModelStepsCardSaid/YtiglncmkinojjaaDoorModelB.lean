import Derived.Test.YtiglncmkinojjaaDoorModelA
namespace Go.Proofs.YtiglncmkinojjaaDoor
set_option linter.unusedSimpArgs false
set_option linter.unusedVariables false
open Go Go.RowKit

theorem place_any (x n : Int) (w : World) (h1 : -9223372036854775808 ≤ x) (h2 : x ≤ 9223372036854775807) (hn : 1 ≤ n) :
    Calls Tryd.prog 11 #[.int .i64 x, .int .i64 n] w fun e w' => e = .returned (.int .i64 ((if x < 0 then -(x + 1) else x) % n)) ∧ w' = w := by
  by_cases h : x < 0
  · rw [if_pos h]
    go_enter Tryd.func11, Tryd.ntmps11
    go_wp2
    go_ret
    refine ⟨?_, rfl⟩
    rw [← Int.tmod_eq_emod_of_nonneg (by omega), Int.neg_tmod]
    rfl
  · rw [if_neg h]
    go_enter Tryd.func11, Tryd.ntmps11
    go_wp2
    go_ret
    exact ⟨rfl, rfl⟩

def placeN (x n : Int) : Int := (if x < 0 then -(x + 1) else x) % n
theorem place_is (x n r : Int) (w : World) (hx : (Lit.int .i64 x).wf = true) (hn : 1 ≤ n) (hr : placeN x n = r) :
    Calls Tryd.prog 11 #[.int .i64 x, .int .i64 n] w fun e w' => e = .returned (.int .i64 r) ∧ w' = w := by
  have hb := bounds_i64 hx
  subst hr
  exact place_any x n w (by omega) (by omega) hn
theorem placeN_lt (x n : Int) (hn : 1 ≤ n) : 0 ≤ placeN x n ∧ placeN x n < n := ⟨Int.emod_nonneg _ (by omega), Int.emod_lt_of_pos _ (by omega)⟩

theorem Sample_ok (c : Ctx) (R : List HP) (g : Nat) (M : Mo) (n r : Int) (w : World) (hS : St c (mdl g M :: R) w) (hr : cutI n 0 M.most = r) :
    Calls Tryd.prog 27 #[.pointer (some ⟨g, 0, none⟩), .int .i64 n] w fun e' w' => e' = .returned (.int .i64 r) ∧ ∃ m, w' = w.drewN m := by
  obtain ⟨f0, f1, f2, f3, -, -, -, -⟩ := mdlFacts hS
  clear hS
  obtain ⟨most, d, step, span, wide, t0, t1, t2, st⟩ := M
  simp only at *
  have HR : Hid (min (max n 0) most = r) := hr
  clear hr
  go_enter Tryd.func27, Tryd.ntmps27
  go_wp2_with (go_at_call 26; go_must (with_reducible refine (clamp_is n 0 most r _ HR.out).mono ?_); rintro e1 w1 ⟨rfl, rfl⟩; simp only [])
  go_ret
  exact ⟨rfl, 0, rfl⟩

theorem Range_ok (c : Ctx) (R : List HP) (g : Nat) (M : Mo) (w : World) (hS : St c (mdl g M :: R) w) :
    Calls Tryd.prog 15 #[.pointer (some ⟨g, 0, none⟩)] w fun e' w' => e' = .returned (.int .i64 M.span) ∧ ∃ m, w' = w.drewN m := by
  obtain ⟨f0, f1, f2, f3, -, -, -, -⟩ := mdlFacts hS
  clear hS
  go_enter Tryd.func15, Tryd.ntmps15
  go_wp2_with fail
  go_ret
  exact ⟨rfl, 0, rfl⟩

theorem Wide_ok (c : Ctx) (R : List HP) (g : Nat) (M : Mo) (w : World) (hS : St c (mdl g M :: R) w) :
    Calls Tryd.prog 25 #[.pointer (some ⟨g, 0, none⟩)] w fun e' w' => e' = .returned (.int .i64 M.wide) ∧ ∃ m, w' = w.drewN m := by
  obtain ⟨f0, f1, f2, f3, f4, -, -, -⟩ := mdlFacts hS
  clear hS
  go_enter Tryd.func25, Tryd.ntmps25
  go_wp2_with fail
  go_ret
  exact ⟨rfl, 0, rfl⟩

def growI (M : Mo) (p q : Int) : Int :=
  let v := cutI p 0 M.most + cutI q (-M.span) M.span * M.step
  let v := if v < -M.d then v + M.span * M.step else if M.most + M.d < v then v - M.span * M.step else v
  cutI v 0 M.most

theorem mul_bounds {a b A B : Int} (h1 : -A ≤ a) (h2 : a ≤ A) (h3 : 0 ≤ b) (h4 : b ≤ B) : -(A * B) ≤ a * b ∧ a * b ≤ A * B := by
  have hA : 0 ≤ A := by omega
  have e1 : A * b ≤ A * B := Int.mul_le_mul_of_nonneg_left h4 hA
  have e2 : a * b ≤ A * b := Int.mul_le_mul_of_nonneg_right h2 h3
  have e3 : -A * b ≤ a * b := Int.mul_le_mul_of_nonneg_right h1 h3
  have e4 : -A * b = -(A * b) := Int.neg_mul ..
  constructor <;> omega

theorem qt_on' {a b : World} {n : Nat} (h : ∃ m, b = (a.drewN n).drewN m) : ∃ m, b = a.drewN m := qt_trans ⟨n, rfl⟩ h

theorem Grow_ok (c : Ctx) (R : List HP) (g : Nat) (M : Mo) (p q r : Int) (w : World) (hS : St c (mdl g M :: R) w) (hM : M.Fits) (hr : growI M p q = r) :
    Calls Tryd.prog 13 #[.pointer (some ⟨g, 0, none⟩), .int .i64 p, .int .i64 q] w fun e' w' => e' = .returned (.int .i64 r) ∧ ∃ m, w' = w.drewN m := by
  obtain ⟨h1, h2, h3, h4, h5, h6, h7, -, -, -⟩ := hM
  obtain ⟨f0, f1, f2, f3, -, -, -, -⟩ := mdlFacts hS
  have HS := Lib.hid hS
  clear hS
  unfold growI at hr
  obtain ⟨most, d, step, span, wide, t0, t1, t2, st⟩ := M
  simp only at *
  obtain ⟨a, ha⟩ : ∃ a, cutI p 0 most = a := ⟨_, rfl⟩
  obtain ⟨b, hb⟩ : ∃ b, cutI q (-span) span = b := ⟨_, rfl⟩
  rw [ha, hb] at hr
  have ha1 : 0 ≤ a ∧ a ≤ most := by unfold cutI at ha; omega
  have hb1 : -span ≤ b ∧ b ≤ span := by unfold cutI at hb; omega
  obtain ⟨u, hu⟩ : ∃ u, b * step = u := ⟨_, rfl⟩
  obtain ⟨s, hs⟩ : ∃ s, span * step = s := ⟨_, rfl⟩
  have hu1 := mul_bounds (a := b) (b := step) (A := 4096) (B := 127) (by omega) (by omega) (by omega) (by omega)
  have hs1 := mul_bounds (a := span) (b := step) (A := 4096) (B := 127) (by omega) (by omega) (by omega) (by omega)
  rw [hu] at hr hu1
  rw [hs] at hr hs1
  obtain ⟨hu1, hu2⟩ := hu1
  obtain ⟨hs1, hs2⟩ := hs1
  obtain ⟨ha1, ha2⟩ := ha1
  have HR := Lib.hid hr
  have HA := Lib.hid ha
  have HB := Lib.hid hb
  have H5 := Lib.hid h5
  clear hr ha hb h5 hb1
  go_enter Tryd.func13, Tryd.ntmps13
  go_wp2_with fail
  go_quiet ((first | (go_at_call 27; exact Calls.quiet_of (Sample_ok c R g _ p a _ (HS.out.drewN _) HA.out)) | (go_at_call 26; exact Calls.quiet_of_same (clamp_is q (-span) span b _ HB.out))))
  go_wp2_with fail
  · rename_i hlt
    have HR2 : Hid (cutI (a + u + s) 0 most = r) := by have := HR.out; rwa [if_pos (by omega)] at this
    go_quiet (fail)
    go_wp2_with (go_at_call 27; go_must (with_reducible refine (Sample_ok c R g _ (a + u + s) r _ (HS.out.drewN _) HR2.out).mono ?_); rintro e1 w1 ⟨rfl, hq⟩; simp only [])
    go_ret
    exact ⟨rfl, qt_on' hq⟩
  · rename_i hlt
    by_cases hgt : most + d < a + u
    · have HR2 : Hid (cutI (a + u - s) 0 most = r) := by have := HR.out; rwa [if_neg (by omega), if_pos (by omega)] at this
      go_quiet (fail)
      go_wp2_with fail
      go_quiet (fail)
      go_wp2_with (go_at_call 27; go_must (with_reducible refine (Sample_ok c R g _ (a + u - s) r _ (HS.out.drewN _) HR2.out).mono ?_); rintro e1 w1 ⟨rfl, hq⟩; simp only [])
      go_ret
      exact ⟨rfl, qt_on' hq⟩
    · have HR2 : Hid (cutI (a + u) 0 most = r) := by have := HR.out; rwa [if_neg (by omega), if_neg (by omega)] at this
      go_quiet (fail)
      go_wp2_with (go_at_call 27; go_must (with_reducible refine (Sample_ok c R g _ (a + u) r _ (HS.out.drewN _) HR2.out).mono ?_); rintro e1 w1 ⟨rfl, hq⟩; simp only [])
      go_ret
      exact ⟨rfl, qt_on' hq⟩

end Go.Proofs.YtiglncmkinojjaaDoor
