import Derived.Test.YtakmkjdmonmilaaDoorGoC
namespace Go.Proofs.YtakmkjdmonmilaaDoor
set_option linter.unusedSimpArgs false
set_option linter.unusedVariables false
open Go Go.RowKit

/-! golomb: the chapter's example; pick; Fold, Unfold. -/

theorem gform_5 : gform 5 1 10 = [false, false, true, true] := by decide +kernel
theorem runGo_0 : runGo 0 3 = (3, 3, 0) := by
  have j0 : J 0 = 0 := rfl
  have j1 : J 1 = 0 := rfl
  have j2 : J 2 = 0 := rfl
  rw [runGo_in (by decide) (by rw [j0]; decide), j0, show min (0 + 1) 22 = 1 from rfl, show 3 - 2 ^ 0 = 2 from rfl, runGo_in (by decide) (by rw [j1]; decide), j1, show min (1 + 1) 22 = 2 from rfl, show 2 - 2 ^ 0 = 1 from rfl,
    runGo_in (by decide) (by rw [j2]; decide), j2, show min (2 + 1) 22 = 3 from rfl, show 1 - 2 ^ 0 = 0 from rfl, runGo_out (by decide)]
theorem rform_3 : rform 0 3 8 = [true, true, true, false] := by
  unfold rform
  rw [runGo_0]
  decide +kernel
theorem rnext_3 : rnext 0 3 8 = 2 := by
  unfold rnext
  rw [runGo_0]
  decide
def bits38 : List Bool := [false, false, true, true, true, true, true, false]
theorem pack38 : pack bits38 = [62] := by decide +kernel
theorem has38 : hasForm [62] 0 5 1 10 := by
  unfold hasForm
  rw [gform_5]
  decide +kernel

set_option maxHeartbeats 1000000 in
set_option maxRecDepth 100000 in
/-- The chapter's example. -/
theorem awake_ok (W : World) (hT : Tab W) (R : List HP) (w : World) (hS : St (top W) R w) :
    Calls Tryd.prog 10 #[] w fun e w' => e = .returned (.bool true) ∧ St (top W) R w' := by
  have HS := Lib.hid hS
  have HT := Lib.hid hT
  clear hS hT
  go_enter Tryd.func10, Tryd.ntmps10
  go_wp2_with fail
  refine (NewWriter_ok (top W) R _ HS.out).mono ?_
  rintro e w1 ⟨g, rfl, hS1⟩
  have HS1 := Lib.hid hS1
  clear hS1
  go_wp2_with fail
  refine (NewRuns_ok (top W) _ _ HS1.out).mono ?_
  rintro e w2 ⟨x, rfl, hS2⟩
  have HS2 := Lib.hid hS2.swap
  clear hS2
  go_wp2_with fail
  refine (GPut_ok (top W) _ g [] 5 1 10 _ HS2.out (by decide) (by decide) (by decide) (by decide) (by decide)).mono ?_
  rintro e w3 ⟨rfl, hS3⟩
  have HS3 := Lib.hid hS3.swap
  clear hS3
  go_wp2_with fail
  refine (RPut_ok W HT.out _ x g 0 3 8 _ _ HS3.out (by decide) (by decide) (by decide) (by decide) (by rw [gform_5]; decide)).mono ?_
  rintro e w4 ⟨rfl, hS4⟩
  rw [gform_5, rform_3, rnext_3] at hS4
  have HS4 : Hid (St (top W) (writer g bits38 :: runs x 2 :: R) w4) := hS4.swap
  clear hS4
  go_wp2_with fail
  refine (Bytes_ok (top W) _ g bits38 _ HS4.out (by decide)).mono ?_
  rintro e w5 ⟨g5, n5, cap5, rfl, hn5, hS5⟩
  rw [pack38] at hS5 hn5
  have HS5 := Lib.hid hS5
  clear hS5
  go_wp2_with fail
  refine (NewReader_ok (top W) _ _ [62] _ HS5.out (Rd.of_mem (.head _)) (by decide)).mono ?_
  rintro e w6 ⟨r, rfl, hS6⟩
  have HS6 := Lib.hid hS6
  clear hS6
  go_wp2_with fail
  refine (GGet_ok (top W) _ r [62] 0 1 10 _ HS6.out (by decide) (by decide) (by decide) (by decide) (by decide) (by decide)).mono ?_
  rintro e w7 (⟨n, hn, hf, rfl, hS7⟩ | ⟨y, _, hno, _, _⟩)
  · obtain rfl : n = 5 := form_one hn (by decide) hf has38
    have HS7 := Lib.hid hS7.drop.drop
    clear hS7 hf
    go_wp2_with fail
    refine (Bytes_ok (top W) _ g bits38 _ HS7.out (by decide)).mono ?_
    rintro e w8 ⟨g8, n8, cap8, rfl, hn8, hS8⟩
    have hstr := hS8.rowReads.str (P := Tryd.prog) (src := 48) (dst := 9) Tryd.underlying48 Tryd.underlying5 Tryd.underlying9
    rw [pack38, show strB [62] = ⟨#[62]⟩ by decide] at hstr
    have HS8 := Lib.hid hS8.drop.swap
    clear hS8 hn8 hn5
    go_wp2_with fail
    refine (Rate_q (top W) _ x 2 _ HS8.out).mono ?_
    rintro e w9 ⟨rfl, rfl⟩
    go_wp2_with fail
    go_ret
    exact ⟨rfl, HS8.out.drop.drop⟩
  · exact absurd has38 (hno 5 (by decide))

def in64 (c : Int) : Prop := -9223372036854775808 ≤ c ∧ c ≤ 9223372036854775807
/-- Which of n the raw number c speaks of. -/
def pickN (c : Int) (n : Nat) : Nat := ((if c < 0 then -(c + 1) else c) % n).toNat
theorem pickN_lt (c : Int) (n : Nat) (hn : 0 < n) : pickN c n < n := by
  unfold pickN
  have h1 : 0 ≤ (if c < 0 then -(c + 1) else c) % (n : Int) := Int.emod_nonneg _ (by omega)
  have h2 : (if c < 0 then -(c + 1) else c) % (n : Int) < n := Int.emod_lt_of_pos _ (by omega)
  omega

theorem pick_is (c : Int) (n r : Nat) (w : World) (hc : in64 c) (hn : 0 < n) (hn2 : n ≤ 4294967296) (hr : pickN c n = r) :
    Calls Tryd.prog 12 #[.int .i64 c, .int .i64 n] w fun e w' => e = .returned (.int .i64 (r : Nat)) ∧ w = w' := by
  subst hr
  obtain ⟨h1, h2⟩ := hc
  have t0 : ((n : Int) == 0) = false := by rw [beq_eq_false_iff_ne]; omega
  have t1 : (n == 0) = false := by rw [beq_eq_false_iff_ne]; omega
  have e0 : Hid (((pickN c n : Nat) : Int) = (if c < 0 then -(c + 1) else c) % (n : Int)) := by
    show _ = _
    unfold pickN
    exact Int.toNat_of_nonneg (Int.emod_nonneg _ (by omega))
  by_cases h : c < 0
  · have e1 := e0.out
    rw [if_pos h, ← Int.tmod_eq_emod_of_nonneg (by omega), Int.neg_tmod] at e1
    have E1 := Lib.hid e1
    clear e1 e0
    generalize pickN c n = q at *
    go_enter Tryd.func12, Tryd.ntmps12
    go_wp2
    go_ret
    exact ⟨by rw [E1.out]; rfl, rfl⟩
  · have e1 := e0.out
    rw [if_neg h, ← Int.tmod_eq_emod_of_nonneg (by omega)] at e1
    have E1 := Lib.hid e1
    clear e1 e0
    generalize pickN c n = q at *
    go_enter Tryd.func12, Tryd.ntmps12
    go_wp2
    go_ret
    exact ⟨by first | rw [E1.out]; rfl | (rw [E1.out, Int.tmod_eq_emod_of_nonneg (by omega)]; rfl), rfl⟩

theorem Fold_pos (e r : Int) (w : World) (h0 : 0 ≤ e) (h1 : e ≤ 1073741823) (hr : 2 * e = r) :
    Calls Tryd.prog 18 #[.int .i64 e] w fun en w' => en = .returned (.tuple #[.int .i64 r, .int .i64 0]) ∧ w = w' := by
  subst hr
  have t0 : decide (e < -1073741824) = false := by rw [decide_eq_false_iff_not]; omega
  have t1 : decide (1073741823 < e) = false := by rw [decide_eq_false_iff_not]; omega
  go_enter Tryd.func18, Tryd.ntmps18
  go_wp2
  go_ret2
  exact ⟨rfl, rfl⟩
theorem Fold_neg (e r : Int) (w : World) (h0 : e < 0) (h1 : -1073741824 ≤ e) (hr : -2 * e - 1 = r) :
    Calls Tryd.prog 18 #[.int .i64 e] w fun en w' => en = .returned (.tuple #[.int .i64 r, .int .i64 0]) ∧ w = w' := by
  subst hr
  have t0 : decide (e < -1073741824) = false := by rw [decide_eq_false_iff_not]; omega
  have t1 : decide (1073741823 < e) = false := by rw [decide_eq_false_iff_not]; omega
  go_enter Tryd.func18, Tryd.ntmps18
  go_wp2
  go_ret2
  exact ⟨rfl, rfl⟩
theorem Unfold_even (v r : Int) (w : World) (h0 : 0 ≤ v) (h1 : v ≤ 2147483647) (he : v % 2 = 0) (hr : v / 2 = r) :
    Calls Tryd.prog 19 #[.int .i64 v] w fun en w' => en = .returned (.tuple #[.int .i64 r, .int .i64 0]) ∧ w = w' := by
  subst hr
  have t0 : decide (v < 0) = false := by rw [decide_eq_false_iff_not]; omega
  have t1 : decide (2147483647 < v) = false := by rw [decide_eq_false_iff_not]; omega
  go_enter Tryd.func19, Tryd.ntmps19
  go_wp2
  go_ret2
  exact ⟨rfl, rfl⟩
theorem Unfold_odd (v r : Int) (w : World) (h0 : 0 ≤ v) (h1 : v ≤ 2147483647) (he : v % 2 = 1) (hr : -((v + 1) / 2) = r) :
    Calls Tryd.prog 19 #[.int .i64 v] w fun en w' => en = .returned (.tuple #[.int .i64 r, .int .i64 0]) ∧ w = w' := by
  subst hr
  have t0 : decide (v < 0) = false := by rw [decide_eq_false_iff_not]; omega
  have t1 : decide (2147483647 < v) = false := by rw [decide_eq_false_iff_not]; omega
  have ht : Hid (wrap64 (-(v + 1).tdiv 2) = -((v + 1) / 2)) := by
    show _ = _
    rw [Int.tdiv_eq_ediv_of_nonneg (by omega)]
    unfold wrap64
    omega
  go_enter Tryd.func19, Tryd.ntmps19
  go_wp2
  go_ret2
  exact ⟨by rw [← ht.out]; rfl, rfl⟩

end Go.Proofs.YtakmkjdmonmilaaDoor
