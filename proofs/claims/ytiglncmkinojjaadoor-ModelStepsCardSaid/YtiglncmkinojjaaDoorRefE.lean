import Derived.Test.YtiglncmkinojjaaDoorRefD
/-! The document's model: Param, Wide, Stats of any context. -/
namespace Go.Proofs.YtiglncmkinojjaaDoor
set_option linter.unusedSimpArgs false
set_option linter.unusedVariables false
open Go Go.RowKit

set_option maxRecDepth 100000 in
set_option maxHeartbeats 4000000 in
theorem rParam_ok (c : Ctx) (R : List HP) (g gL cp : Nat) (dep : Int) (M : Mo) (k : Nat) (a b s n : Int) (w : World) (hS : St c (rhd g dep M.d (.slice (some ⟨gL, 0, none⟩) 365 cp) :: rtb gL cp M :: R) w) (hk : k < 365) (hr : M.st[k]? = some (a, b, s, n)) (hn : 1 ≤ n) (hn2 : n ≤ 64) (ha : 0 ≤ a) (ha2 : a ≤ 1000000000) :
    Calls Tryd.prog 35 #[.pointer (some ⟨g, 0, none⟩), .int .i64 (k : Nat)] w fun e' w' => ∃ v : Nat, e' = .returned (.int .i64 (v : Nat)) ∧ Hid (IsParam a n v) ∧ St c (rhd g dep M.d (.slice (some ⟨gL, 0, none⟩) 365 cp) :: rtb gL cp M :: R) w' := by
  have HS := Lib.hid hS
  have hk2 : (k : Int) < 365 := by omega
  have HKN := Lib.hid (known_iff.2 (⟨by omega, hk2⟩ : 0 ≤ (k : Int) ∧ (k : Int) < 365))
  have HR := Lib.hid hr
  clear hS hr
  go_enter Tryd.func35, Tryd.ntmps35
  go_wp2_with (go_at_call 47; go_must (with_reducible refine (rknown_is _ true _ HKN.out).mono ?_); rintro e1 w1 ⟨rfl, rfl⟩; simp only [])
  go_loopw [6] (fun i w' => ∃ v : Nat, v ≤ 15 ∧ i = .int .i64 (v : Nat) ∧ Hid (∀ j, j < v → n * ((2 ^ j : Nat) : Int) < a) ∧ Hid (St c (rhd g dep M.d (.slice (some ⟨gL, 0, none⟩) 365 cp) :: rtb gL cp M :: R) w')) (fun i _ => 16 - (intOf i).toNat)
  case atStart => exact ⟨0, by omega, rfl, fun j hj => absurd hj (Nat.not_lt_zero j), HS⟩
  case round =>
    obtain ⟨v, hv, rfl, HN, H2⟩ := hrel
    clear HS
    obtain ⟨-, -, f2⟩ := rFacts H2.out
    obtain ⟨t0, -, -, t3⟩ := rtFacts H2.out.swap HR.out hk
    simp only at t0 t3
    by_cases hv2 : v < 15
    · obtain ⟨p, hp⟩ : ∃ p : Nat, 2 ^ v = p := ⟨_, rfl⟩
      have hp2 : p ≤ 32768 := by rw [← hp]; exact Nat.pow_le_pow_right (n := 2) (by decide) hv
      obtain ⟨q, hq⟩ : ∃ q, n * (p : Int) = q := ⟨_, rfl⟩
      have hq2 := mul_bounds (a := n) (b := (p : Int)) (A := 64) (B := 32768) (by omega) (by omega) (by omega) (by omega)
      rw [hq] at hq2
      have hsh : wrap64 (n * 2 ^ v) = q := by
        have h2 : ((2 : Int) ^ v) = ((2 ^ v : Nat) : Int) := by push_cast; rfl
        rw [h2, hp, hq]; unfold wrap64; omega
      have HP := Lib.hid hp
      have HQ := Lib.hid hq
      have hv3 : decide ((v : Int) < 15) = true := decide_eq_true (by omega)
      clear hp hq hq2
      by_cases hlt : q < a
      · go_wp2_with fail
        go_quiet (fail)
        go_wp2_with fail
        refine ⟨⟨v + 1, by omega, by go_num, ?_, H2.out.drewN _⟩, by simp [intOf]; omega⟩
        intro j hj
        rcases Nat.lt_or_ge j v with h | h
        · exact HN.out j h
        · obtain rfl : j = v := by omega
          rw [HP.out, HQ.out]; exact hlt
      · go_wp2_with fail
        go_quiet (fail)
        go_wp2_with fail
        go_ret
        exact ⟨v, rfl, ⟨by omega, fun _ => by rw [HP.out, HQ.out]; omega, HN.out⟩, H2.out.drewN _⟩
    · have hv3 : decide ((v : Int) < 15) = false := decide_eq_false (by omega)
      go_wp2_with fail
      go_quiet (fail)
      go_wp2_with fail
      go_ret
      exact ⟨v, rfl, ⟨by omega, fun h => absurd h hv2, HN.out⟩, H2.out.drewN _⟩

set_option maxRecDepth 100000 in
theorem rWide_is (c : Ctx) (R : List HP) (g : Nat) (dep : Int) (M : Mo) (v : Value) (w : World) (hS : St c (rhd g dep M.d v :: R) w) (hM : RIs dep M) :
    Calls Tryd.prog 41 #[.pointer (some ⟨g, 0, none⟩)] w fun e w' => e = .returned (.int .i64 M.wide) ∧ ∃ m, w' = w.drewN m := by
  have HS := Lib.hid hS
  have HM := Lib.hid hM
  have HW := Lib.hid hM.wide
  have h0 := hM.fits.w0
  have h1 := hM.fits.w1
  obtain ⟨n, hn⟩ : ∃ n : Nat, M.wide = n := ⟨M.wide.toNat, by omega⟩
  rw [hn] at h1
  have HN : Hid (Wides M.span n) := by have := HW.out; rw [hn, Int.toNat_natCast] at this; exact this
  rw [hn]
  clear hS hM HW h0 hn
  go_enter Tryd.func41, Tryd.ntmps41
  go_wp2_with fail
  go_loopw [3] (fun i w' => ∃ j : Nat, j ≤ n ∧ i = .int .i64 (j : Nat) ∧ Hid (∃ m, w' = w.drewN m)) (fun i _ => n - (intOf i).toNat)
  case atStart => exact ⟨0, by omega, rfl, 0, rfl⟩
  case round =>
    obtain ⟨j, hj, rfl, HQ⟩ := hrel
    have H2 := Lib.hid (HS.out.of_quiet HQ.out)
    obtain ⟨p, hp⟩ : ∃ p : Nat, 2 ^ j = p := ⟨_, rfl⟩
    have hp2 : p ≤ 4096 := by rw [← hp]; exact Nat.pow_le_pow_right (n := 2) (by decide) (show j ≤ 12 by omega)
    have hsh : wrap64 (1 * 2 ^ j) = p := by
      have h2 : ((2 : Int) ^ j) = ((2 ^ j : Nat) : Int) := by push_cast; rfl
      rw [h2, hp]; unfold wrap64; omega
    have hsh2 : wrap64 (2 ^ j) = p := by rw [← hsh, Int.one_mul]
    by_cases hjn : j < n
    · have hlt : (p : Int) < M.span := by have := HN.out.2 j hjn; rw [hp] at this; exact this
      clear hp
      go_wp2_with fail
      go_quiet ((go_at_call 40; exact Calls.quiet_of (rRange_is c R g dep M v _ (H2.out.drewN _) HM.out)))
      go_wp2_with fail
      refine ⟨⟨j + 1, by omega, by go_num, qt_trans HQ.out (qt_self _)⟩, by simp [intOf]; omega⟩
    · obtain rfl : j = n := by omega
      have hlt : ¬ (p : Int) < M.span := by have := HN.out.1; rw [hp] at this; omega
      clear hp
      go_wp2_with fail
      go_quiet ((go_at_call 40; exact Calls.quiet_of (rRange_is c R g dep M v _ (H2.out.drewN _) HM.out)))
      go_wp2_with fail
      go_ret
      exact ⟨rfl, qt_trans HQ.out (qt_self _)⟩
end Go.Proofs.YtiglncmkinojjaaDoor
