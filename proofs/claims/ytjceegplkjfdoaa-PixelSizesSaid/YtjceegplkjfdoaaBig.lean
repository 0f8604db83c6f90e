import Derived.Test.YtjceegplkjfdoaaProg
import Derived.Test.YtjceegplkjfdoaaSl
import Derived.Test.YtjceegplkjfdoaaBitsP
import Derived.Test.YtjceegplkjfdoaaReg
import Derived.Deep.QuietTactic
import Derived.BigQuiet
import Derived.Lib.Hide
import Derived.WalkSpells
import Derived.StillTailTactics
/-! bits.Big, where nothing else of the bits is reached. -/
namespace Go.Proofs.Ytjceegplkjfdoaa
set_option linter.unusedSimpArgs false
set_option linter.unusedVariables false
open Go Go.RowKit

def bytesV (l : List Nat) : List Value := l.map fun b : Nat => .int .u8 (b : Int)
theorem elemU8 : Elem Try.prog 33 5 (.int .u8 0) 1 1 := ⟨Try.underlying33, by kernel_rfl, rfl, by decide⟩

theorem bytes_oneCell (l : List Nat) : ∀ u ∈ bytesV l, u.oneCell' = true := by
  intro u hu
  obtain ⟨_, _, rfl⟩ := List.mem_map.1 hu
  rfl
theorem bytesV_length (l : List Nat) : (bytesV l).length = l.length := by simp [bytesV]

/-! ### whole bytes -/
theorem fits64_any (x n : Int) (w : World) (h0 : 0 ≤ n) :
    Calls Try.prog 91 #[.int .u64 x, .int .i64 n] w fun e w' => e = .returned (.bool (x / 2 ^ min n.toNat 64 == 0)) ∧ w = w' := by
  go_enter Try.func91, Try.ntmps91
  go_wp2
  go_ret
  exact ⟨rfl, rfl⟩

theorem piece_byte (v i : Nat) (hv : v < 18446744073709551616) : bits .and .u64 ((v : Int) / 2 ^ i) 255 % 256 = ((v / 2 ^ i % 256 : Nat) : Int) := by
  have e2 : ((v : Int) / 2 ^ i) = ((v / 2 ^ i : Nat) : Int) := by push_cast; rfl
  rw [e2, show ((255 : Int)) = ((255 : Nat) : Int) by decide]
  have hlt : v / 2 ^ i < 18446744073709551616 := Nat.lt_of_le_of_lt (Nat.div_le_self _ _) hv
  rw [u64_and_nat _ _ hlt (by decide)]
  have : v / 2 ^ i &&& 255 = v / 2 ^ i % 256 := Nat.and_two_pow_sub_one_eq_mod (v / 2 ^ i) 8
  rw [this]
  omega

theorem piece64_byte (v i : Nat) (w : World) (hv : Hid (v < 18446744073709551616)) (hi : i ≤ 63) :
    Calls Try.prog 92 #[.int .u64 v, .int .i64 i, .int .i64 8] w fun e w' => e = .returned (.int .u8 (v / 2 ^ i % 256 : Nat)) ∧ ∃ m, w' = w.drewN m := by
  have H := Lib.hid (piece_byte v i hv.out)
  generalize v / 2 ^ i % 256 = r at *
  go_enter Try.func92, Try.ntmps92
  go_wp2
  go_quiet (fail)
  go_wp2
  go_ret
  refine ⟨?_, _, rfl⟩
  rw [← H.out]
  rfl

theorem piece64_byteI (v : Nat) (i : Int) (w : World) (hv : Hid (v < 18446744073709551616)) (h0 : 0 ≤ i) (hi : i ≤ 63) :
    Calls Try.prog 92 #[.int .u64 v, .int .i64 i, .int .i64 8] w fun e w' => e = .returned (.int .u8 (v / 2 ^ i.toNat % 256 : Nat)) ∧ ∃ m, w' = w.drewN m := by
  obtain ⟨k, rfl⟩ := Int.eq_ofNat_of_zero_le h0
  exact piece64_byte v k w hv (by omega)

theorem piece64_is (v r : Nat) (i : Int) (w : World) (hv : Hid (v < 18446744073709551616)) (h0 : 0 ≤ i) (hi : i ≤ 63) (hr : v / 2 ^ i.toNat % 256 = r) :
    Calls Try.prog 92 #[.int .u64 v, .int .i64 i, .int .i64 8] w fun e w' => e = .returned (.int .u8 (r : Nat)) ∧ ∃ m, w' = w.drewN m := by
  subst hr
  exact piece64_byteI v i w hv h0 hi

theorem div_zero_iff (v k : Nat) : (((v : Int) / 2 ^ k) == 0) = decide (v < 2 ^ k) := by
  have e2 : ((v : Int) / 2 ^ k) = ((v / 2 ^ k : Nat) : Int) := by push_cast; rfl
  rw [e2, Bool.eq_iff_iff]
  have := Nat.two_pow_pos k
  rw [beq_iff_eq, decide_eq_true_iff]
  constructor
  · intro h
    have h' : v / 2 ^ k = 0 := by omega
    exact (Nat.div_eq_zero_iff.1 h').resolve_left (by omega)
  · intro h
    rw [Nat.div_eq_of_lt h]; rfl

theorem fits64_is (v : Nat) (i : Int) (b : Bool) (w : World) (h0 : 0 ≤ i) (hi : i ≤ 64) (hb : decide (v < 2 ^ i.toNat) = b) :
    Calls Try.prog 91 #[.int .u64 v, .int .i64 i] w fun e w' => e = .returned (.bool b) ∧ w = w' := by
  refine (fits64_any v i w h0).mono ?_
  rintro e w' ⟨rfl, rfl⟩
  rw [show min i.toNat 64 = i.toNat by omega, div_zero_iff, hb]
  exact ⟨rfl, rfl⟩

theorem pow256 (k : Nat) : 256 ^ k = 2 ^ (8 * k) := by rw [Nat.pow_mul]

set_option maxHeartbeats 1000000 in
set_option maxRecDepth 100000 in
theorem Big_ok (c : Ctx) (R : List HP) (n k : Nat) (w : World) (hS : St c R w) (hn : Hid (n < 18446744073709551616)) (h1 : 1 ≤ k) (h8 : k ≤ 8) (hf : n < 256 ^ k) :
    Calls Try.prog 86 #[.int .u64 n, .int .i64 k] w fun e w' => ∃ g cap, e = .returned (.tuple #[.slice (some ⟨g, 0, none⟩) k cap, .int .i64 0]) ∧ St c (row 5 1 (.slice (some ⟨g, 0, none⟩) k cap) k (bytesV (bigB n k)) :: R) w' := by
  have HS := Lib.hid hS
  have hfit : decide (n < 2 ^ (8 * (k : Int)).toNat) = true := by
    rw [decide_eq_true_iff, show (8 * (k : Int)).toNat = 8 * k by omega, ← pow256]; exact hf
  have HF := Lib.hid hfit
  clear hS hf hfit
  have hcase : 8 ≤ k ∨ k < 8 := by omega
  rcases hcase with hk8 | hk8
  all_goals
    go_enter Try.func86, Try.ntmps86
    go_wp2_with (first | (go_at_call 91; go_must (refine (fits64_is _ _ true _ (by omega) (by omega) HF.out).mono ?_); rintro e w' ⟨rfl, rfl⟩) | (at_make; go_must (refine St.make1 rfl _ _ _ rfl elemU8 rfl k rfl rfl HS.out (by omega) (by unfold maxLen; omega) ?_)))
    intro g w1 hS1
    have HS1 := Lib.hid hS1
    clear hS1
    go_wp2_with fail
    go_loopw [7, 27] (fun _ i w' => ∃ j : Nat, j ≤ k ∧ i = .int .i64 (j : Nat) ∧ Hid (St c (row 5 1 (.slice (some ⟨g, 0, none⟩) k k) k (bytesV ((bigB n k).take j ++ List.replicate (k - j) 0)) :: R) w')) (fun _ i _ => k - (intOf i).toNat)
    case atStart => exact ⟨0, by omega, by simp, by have := HS1.out; simpa [bytesV, Hid] using this⟩
    case round =>
      obtain ⟨j, hj, rfl, hS2⟩ := hrel
      by_cases hjk : j < k
      · obtain ⟨r, hr⟩ : ∃ r, n / 2 ^ (8 * ((k : Int) - 1 - j)).toNat % 256 = r := ⟨_, rfl⟩
        have hb : (bigB n k)[j]? = some r := by
          have e : (8 * ((k : Int) - 1 - j)).toNat = 8 * (k - 1 - j) := by omega
          rw [← hr, e, ← pow256]; simp [bigB, hjk]
        have hset := set_fill (bigB n k) 0 k j (bigB_length n k) hjk _ hb
        have hlen : j < (bytesV ((bigB n k).take j ++ List.replicate (k - j) 0)).length := by simp [bytesV, bigB_length]; omega
        have hc := hS2.out.row_at.cellAt j (by omega)
        rw [List.getElem?_eq_getElem hlen] at hc
        have hf := hS2.out.row_at.frozenAt j
        have HSET := Lib.hid hset
        have HR := Lib.hid hr
        generalize (bytesV ((bigB n k).take j ++ List.replicate (k - j) 0))[j] = old at *
        clear hb hset hlen hr
        go_wp2_with (go_at_call 92; go_must (refine (piece64_is _ r _ _ hn (by omega) (by omega) HR.out).mono ?_); rintro e w' ⟨rfl, m, rfl⟩)
        go_roundw
        case rel => exact ⟨j + 1, by omega, by go_num, by have := (hS2.out.drewN m).setRow j (.int .u8 (r : Nat)); rw [show (bytesV ((bigB n k).take j ++ List.replicate (k - j) 0)).set j (.int .u8 (r : Nat)) = bytesV ((bigB n k).take (j + 1) ++ List.replicate (k - (j + 1)) 0) by rw [← HSET.out]; simp [bytesV, List.map_set]] at this; exact this⟩
        case measure => simp [intOf]; omega
      · have hjk : j = k := by omega
        subst hjk
        go_wp2
        go_ret2
        refine ⟨g, _, rfl, ?_⟩
        have := hS2.out
        rw [List.take_of_length_le (by simp [bigB_length])] at this
        simpa using this


end Go.Proofs.Ytjceegplkjfdoaa
