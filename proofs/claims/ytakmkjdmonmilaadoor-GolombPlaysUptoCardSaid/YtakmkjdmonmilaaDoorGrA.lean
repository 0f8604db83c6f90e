import Derived.Test.YtakmkjdmonmilaaDoorGpP
import Derived.Test.YtakmkjdmonmilaaDoorGoA
import Derived.Test.YtakmkjdmonmilaaDoorBitsK
/-! The document's golomb: power, digits, number, params, Form, Cost. -/
namespace Go.Proofs.YtakmkjdmonmilaaDoor
set_option linter.unusedSimpArgs false
set_option linter.unusedVariables false
open Go Go.RowKit

theorem power_ok (n p : Nat) (w : World) (hn : n ≤ 40) (hp : 2 ^ n = p) :
    Calls Tryd.prog 66 #[.int .i64 n] w fun e w' => e = .returned (.int .i64 p) ∧ w' = w := by
  have HP := Lib.hid hp
  clear hp
  go_enter Tryd.func66, Tryd.ntmps66
  go_wp2_with fail
  go_loop [3, 4] (fun pv iv => ∃ i q : Nat, i ≤ n ∧ iv = .int .i64 i ∧ pv = .int .i64 q ∧ Hid (2 ^ i = q)) (fun _ iv => n - (intOf iv).toNat)
  case atStart => exact ⟨0, 1, Nat.zero_le _, rfl, rfl, Lib.hid rfl⟩
  case round =>
    obtain ⟨i, q, hi, rfl, rfl, HQ⟩ := hrel
    by_cases hlt : i < n
    · have hq : q ≤ 549755813888 := by
        rw [← HQ.out]
        exact Nat.pow_le_pow_right (n := 2) (by decide) (show i ≤ 39 by omega)
      go_wp2_with fail
      go_round
      case rel => exact ⟨i + 1, 2 * q, by omega, by go_num, by go_num, Lib.hid (by rw [Nat.pow_succ, HQ.out, Nat.mul_comm])⟩
      case measure => simp [intOf]; omega
    · have hin : i = n := by omega
      subst hin
      obtain rfl : q = p := HQ.out.symm.trans HP.out
      go_wp2_with fail
      go_ret
      exact ⟨rfl, rfl⟩

theorem digit_conv (v i : Nat) : (((v : Int) / ((2 ^ i : Nat) : Int)) % 2) = ((b2n (v.testBit i) : Nat) : Int) := by
  rw [← digit_eq]
  push_cast
  rfl
theorem bitB_take_succ (v n k : Nat) (h : k < n) : bitB ((bitsOf v n).take (k + 1)) = bitB ((bitsOf v n).take k) ++ [b2n (v.testBit (n - 1 - k))] := by
  rw [bitsOf_take_succ v n k h, bitB_append]
  rfl
theorem bytesV_append (a b : List Nat) : bytesV (a ++ b) = bytesV a ++ bytesV b := by simp [bytesV]

set_option maxRecDepth 100000 in
set_option maxHeartbeats 2000000 in
theorem digits_ok (c : Ctx) (R : List HP) (v n : Nat) (w : World) (hS : St c R w) (hn : n ≤ 16) (hv : v < 4294967296) :
    Calls Tryd.prog 70 #[.int .i64 v, .int .i64 n] w fun e w' => ∃ sl, e = .returned sl ∧ St c (row 5 1 sl n (bytesV (bitB (bitsOf v n))) :: R) w' := by
  have HS := Lib.hid (hS.nilRow 5 1)
  clear hS
  go_enter Tryd.func70, Tryd.ntmps70
  go_wp2_with fail
  go_loopw [5, 6] (fun sv iv wr => ∃ k : Nat, k ≤ n ∧ iv = .int .i64 ((n : Int) - 1 - k) ∧ Hid (St c (row 5 1 sv k (bytesV (bitB ((bitsOf v n).take k))) :: R) wr)) (fun _ iv _ => (intOf iv + 1).toNat)
  case atStart => exact ⟨0, by omega, by simp, by simpa [bitB, bytesV] using HS⟩
  case round =>
    clear HS
    obtain ⟨k, hk, rfl, HS⟩ := hrel
    by_cases hlt : k < n
    · obtain ⟨i, hi⟩ : ∃ i : Nat, i = n - 1 - k := ⟨_, rfl⟩
      have e1 : (n : Int) - 1 - (k : Int) = (i : Int) := by omega
      have hi16 : i ≤ 15 := by omega
      rw [e1]
      have d0 : decide ((0 : Int) ≤ (i : Int)) = true := decide_eq_true (by omega)
      have hnext := bitB_take_succ v n k hlt
      rw [← hi] at hnext
      have HN := Lib.hid hnext
      obtain ⟨b, hb⟩ : ∃ b, b2n (v.testBit i) = b := ⟨_, rfl⟩
      have hb2 : b < 2 := by rw [← hb]; exact b2n_lt _
      have HB := Lib.hid hb
      obtain ⟨p, hp⟩ : ∃ p, 2 ^ i = p := ⟨_, rfl⟩
      have hp0 : 0 < p := by rw [← hp]; exact Nat.two_pow_pos i
      have t0 : ((p : Int) == 0) = false := by simp; omega
      obtain ⟨q, hq⟩ : ∃ q, v / p = q := ⟨_, rfl⟩
      have hq1 : q < 4294967296 := by rw [← hq]; exact Nat.lt_of_le_of_lt (Nat.div_le_self _ _) hv
      have hqb : q % 2 = b := by rw [← hq, ← hp, digit_eq, hb]
      have hq0 : (v : Int) / (p : Int) = (q : Int) := by rw [← hq]; push_cast; rfl
      have hq2 : Int.tdiv (v : Int) (p : Int) = (q : Int) := by rw [Int.tdiv_eq_ediv_of_nonneg (Int.natCast_nonneg v)]; exact hq0
      have hq3 : Int.tmod (q : Int) 2 = (b : Int) := by rw [Int.tmod_eq_emod_of_nonneg (Int.natCast_nonneg q)]; omega
      have hq4 : (q : Int) % 2 = (b : Int) := by omega
      have HP := Lib.hid hp
      have HI := Lib.hid hi
      clear hnext hb hp hqb hq e1 hi
      go_wp2_with fail
      refine (power_ok i p _ (by omega) HP.out).mono ?_
      rintro e w1 ⟨rfl, rfl⟩
      go_wp2_with (at_builtin; go_must (refine St.append1 rfl (.tmp 13) (.tmp 20) _ rfl elemU8 rfl HS.out _ _ rfl rfl (by omega) (by simp [maxLen]; omega) ?_))
      intro g2 cp2 w2 hcp hS2
      have HS2 := Lib.hid hS2
      clear hS2
      go_wp2_with fail
      go_roundw
      case rel => exact ⟨k + 1, by omega, by have := HI.out; simp only [Value.int.injEq, true_and]; omega, Lib.hid (by have h := HS2.out; rw [HN.out, HB.out, bytesV_append]; exact h)⟩
      case measure => simp [intOf] <;> omega
    · have hkn : k = n := by omega
      subst hkn
      have e1 : (k : Int) - 1 - (k : Int) = -1 := by omega
      rw [e1]
      go_wp2_with fail
      go_ret
      exact ⟨_, rfl, by have h := HS.out; rw [List.take_of_length_le (by rw [bitsOf_length]; omega)] at h; exact h⟩
end Go.Proofs.YtakmkjdmonmilaaDoor
