import Derived.Test.YtakmkjdmonmilaaDoorBitsK
import Derived.Laws.BitsAllLaws
namespace Go.Proofs.YtakmkjdmonmilaaDoor
set_option linter.unusedSimpArgs false
set_option linter.unusedVariables false
open Go Go.RowKit

/-! golomb: parameters, Put, Cost. -/

theorem wrong_ok (k wide : Int) (w : World) (h0 : 0 ≤ k) (h1 : k ≤ 15) (h2 : 1 ≤ wide) (h3 : wide ≤ 16) :
    Calls Tryd.prog 43 #[.int .i64 k, .int .i64 wide] w fun e w' => e = .returned (.bool false) ∧ w = w' := by
  have t1 : decide (k < 0) = false := by rw [decide_eq_false_iff_not]; omega
  have t2 : decide (15 < k) = false := by rw [decide_eq_false_iff_not]; omega
  have t3 : decide (wide < 1) = false := by rw [decide_eq_false_iff_not]; omega
  have t4 : decide (16 < wide) = false := by rw [decide_eq_false_iff_not]; omega
  go_enter Tryd.func43, Tryd.ntmps43
  go_wp2
  go_ret
  exact ⟨rfl, rfl⟩

theorem pow_wrap (n : Nat) (h : n ≤ 40) : wrap64 ((2 : Int) ^ n) = ((2 ^ n : Nat) : Int) := by
  have h1 : 2 ^ n ≤ 2 ^ 40 := Nat.pow_le_pow_right (by decide) h
  rw [show (2 : Int) ^ n = ((2 ^ n : Nat) : Int) by push_cast; rfl]
  generalize 2 ^ n = p at *
  unfold wrap64
  omega

theorem asked_ok (v k wide : Nat) (w : World) (h1 : k ≤ 15) (h2 : 1 ≤ wide) (h3 : wide ≤ 16) (hv : v < 2 ^ wide) :
    Calls Tryd.prog 41 #[.int .i64 v, .int .i64 k, .int .i64 wide] w fun e w' => e = .returned (.int .i64 0) ∧ w = w' := by
  have hp := pow_wrap wide (by omega)
  generalize 2 ^ wide = p at *
  have t1 : decide ((v : Int) < 0) = false := by rw [decide_eq_false_iff_not]; omega
  have t2 : decide ((p : Int) ≤ v) = false := by rw [decide_eq_false_iff_not]; omega
  have t3 : decide (p ≤ v) = false := by rw [decide_eq_false_iff_not]; omega
  go_enter Tryd.func41, Tryd.ntmps41
  go_wp2_with (go_at_call 43; refine (wrong_ok _ _ _ (by omega) (by omega) (by omega) (by omega)).mono ?_; rintro e w' ⟨rfl, rfl⟩)
  go_ret
  exact ⟨rfl, rfl⟩

/-- A number's form. -/
def gform (v k wide : Nat) : List Bool :=
  if v / 2 ^ k < 24 then List.replicate (v / 2 ^ k) false ++ (true :: bitsOf (v % 2 ^ k) k) else List.replicate 24 false ++ bitsOf v wide

theorem bitsOf_one (u : Nat) : bitsOf 1 (u + 1) = List.replicate u false ++ [true] := by
  apply List.ext_getElem
  · simp [bitsOf]
  · intro i h1 h2
    simp only [bitsOf, List.length_map, List.length_range] at h1
    simp only [bitsOf, List.getElem_map, List.getElem_range]
    rw [show u + 1 - 1 - i = u - i by omega]
    rcases Nat.lt_or_ge i u with h | h
    · rw [List.getElem_append_left (by simpa using h), List.getElem_replicate]
      have : u - i = (u - i - 1) + 1 := by omega
      rw [this, Nat.testBit_succ]
      simp
    · have : u - i = 0 := by omega
      rw [this, List.getElem_append_right (by simpa using h)]
      simp

theorem bitsOf_zero (n : Nat) : bitsOf 0 n = List.replicate n false := by
  apply List.ext_getElem
  · simp [bitsOf]
  · intro i h1 h2
    simp [bitsOf]

theorem gform_length (v k wide : Nat) : (gform v k wide).length = if v / 2 ^ k < 24 then v / 2 ^ k + 1 + k else 24 + wide := by
  unfold gform
  split <;> simp [bitsOf_length] <;> omega
theorem gform_le (v k wide : Nat) (h1 : k ≤ 15) (h3 : wide ≤ 16) : (gform v k wide).length ≤ 40 := by
  rw [gform_length]; split <;> omega

theorem i64_and_nat (a b : Nat) (ha : a < 9223372036854775808) (hb : b < 9223372036854775808) : bits .and .i64 (a : Int) (b : Int) = ((a &&& b : Nat) : Int) := by
  have hx : a &&& b ≤ a := Nat.and_le_left
  show IntKind.i64.wrap ((BitVec.ofInt 64 (a : Int) &&& BitVec.ofInt 64 (b : Int)).toNat : Int) = _
  rw [BitVec.toNat_and, ofInt_u64 a (by omega), ofInt_u64 b (by omega), IntKind.wrap_i64]
  omega
theorem and_mask (v k : Nat) (hv : v < 4294967296) (hk : k ≤ 15) : bits .and .i64 (v : Int) (((2 ^ k : Nat) : Int) - 1) = ((v % 2 ^ k : Nat) : Int) := by
  have h1 : 2 ^ k ≤ 2 ^ 15 := Nat.pow_le_pow_right (by decide) hk
  have h2 : 0 < 2 ^ k := Nat.two_pow_pos k
  rw [show (((2 ^ k : Nat) : Int) - 1) = ((2 ^ k - 1 : Nat) : Int) by omega]
  rw [i64_and_nat _ _ (by omega) (by omega), Nat.and_two_pow_sub_one_eq_mod]

theorem mask_q (pk : Nat) (h0 : 0 < pk) (h1 : pk ≤ 32768) : ∃ q : Nat, wrap64 ((pk : Int) - 1) = q ∧ ((pk : Int) - 1) = q := ⟨pk - 1, by unfold wrap64; omega, by omega⟩

set_option maxHeartbeats 1000000 in
set_option maxRecDepth 100000 in
theorem GPut_ok (c : Ctx) (R : List HP) (g : Nat) (l : List Bool) (v k wide : Nat) (w : World) (hS : St c (writer g l :: R) w) (h1 : k ≤ 15) (h2 : 1 ≤ wide) (h3 : wide ≤ 16) (hv : v < 2 ^ wide) (hl : l.length ≤ 562949953421000) :
    Calls Tryd.prog 21 #[.pointer (some ⟨g, 0, none⟩), .int .i64 v, .int .i64 k, .int .i64 wide] w fun e w' => e = .returned (.int .i64 0) ∧ St c (writer g (l ++ gform v k wide) :: R) w' := by
  have HS := Lib.hid hS
  clear hS
  have hv16 : v < 65536 := Nat.lt_of_lt_of_le hv (Nat.pow_le_pow_right (n := 2) (by decide) h3)
  have HV := Lib.hid hv
  clear hv
  have hpk := pow_wrap k (by omega)
  have hand := and_mask v k (by omega) h1
  have hdiv : ((v : Int) / 2 ^ k) = ((v / 2 ^ k : Nat) : Int) := by push_cast; rfl
  have hm : v % 2 ^ k < 2 ^ k := Nat.mod_lt _ (Nat.two_pow_pos k)
  have hpk15 : 2 ^ k ≤ 32768 := (Nat.pow_le_pow_right (n := 2) (by decide) h1 : 2 ^ k ≤ 2 ^ 15)
  by_cases hu : v / 2 ^ k < 24
  · have Hf : Hid (gform v k wide = bitsOf 1 (v / 2 ^ k + 1) ++ bitsOf (v % 2 ^ k) k) := by unfold gform; rw [if_pos hu, bitsOf_one]; simp [Hid]
    have HM := Lib.hid hm
    have HM2 : Hid (v % 2 ^ k < 2 ^ k) := HM
    have t1 : decide (((v / 2 ^ k : Nat) : Int) < 24) = true := by rw [decide_eq_true_iff]; omega
    generalize gform v k wide = f at *
    generalize v / 2 ^ k = u at *
    generalize v % 2 ^ k = m at *
    have hm2 : m < 32768 := by omega
    clear hm
    have hmm : (m : Int) % 4294967296 = m := by omega
    obtain ⟨pk, hPK⟩ : ∃ pk, pk = 2 ^ k := ⟨_, rfl⟩
    rw [← hPK] at hpk hand hpk15
    have hpk0 : 0 < pk := by rw [hPK]; exact Nat.two_pow_pos k
    clear hPK
    obtain ⟨q, hq, hqe⟩ := mask_q pk hpk0 hpk15
    rw [hqe] at hand
    clear hqe hpk15 hpk0
    have H1 : Hid ((1 : Int).toNat < 2 ^ ((u : Int) + 1).toNat) := by
      have : ((u : Int) + 1).toNat = u + 1 := by omega
      rw [this]
      exact Nat.lt_of_lt_of_le (show 1 < 2 by decide) (Nat.pow_le_pow_right (n := 2) (by decide) (show 1 ≤ u + 1 by omega))
    have L1 : Hid (l ++ bitsOf (1 : Int).toNat ((u : Int) + 1).toNat = l ++ bitsOf 1 (u + 1)) := by
      have : ((u : Int) + 1).toNat = u + 1 := by omega
      rw [this]; rfl
    have HL2 : Hid ((l ++ bitsOf 1 (u + 1)).length ≤ 562949953421312) := by show _ ≤ _; rw [List.length_append, bitsOf_length]; omega
    have H2 : Hid ((m : Int).toNat < 2 ^ (k : Int).toNat) := HM2.out
    have L2 : Hid ((l ++ bitsOf 1 (u + 1)) ++ bitsOf (m : Int).toNat (k : Int).toNat = l ++ f) := by
      show _ ++ bitsOf m k = _
      rw [Hf.out, List.append_assoc]
    go_enter Tryd.func21, Tryd.ntmps21
    go_wp2_with (go_at_call 41; refine (asked_ok v k wide _ h1 h2 h3 HV.out).mono ?_; rintro e w' ⟨rfl, rfl⟩)
    refine (Put_I c R g l _ 1 _ _ HS.out (by omega) (by omega) (by omega) H1.out (by omega) L1.out).mono ?_
    rintro e w1 ⟨rfl, hS1⟩
    have HS1 := Lib.hid hS1
    clear hS1
    go_wp2_with fail
    refine (Put_I c R g _ _ _ _ _ HS1.out (by omega) (by omega) (by omega) H2.out HL2.out L2.out).mono ?_
    rintro e w2 ⟨rfl, hS2⟩
    have HS2 := Lib.hid hS2
    clear hS2
    go_wp2_with fail
    go_ret
    exact ⟨rfl, HS2.out⟩
  · have Hf : Hid (gform v k wide = List.replicate 24 false ++ bitsOf v wide) := by unfold gform; rw [if_neg hu]; trivial
    have t1 : decide (((v / 2 ^ k : Nat) : Int) < 24) = false := by rw [decide_eq_false_iff_not]; omega
    have t2 : decide (v / 2 ^ k < 24) = false := by rw [decide_eq_false_iff_not]; omega
    generalize gform v k wide = f at *
    generalize v / 2 ^ k = u at *
    generalize v % 2 ^ k = m at *
    clear hm hand
    generalize 2 ^ k = pk at *
    have hvv : (v : Int) % 4294967296 = v := by omega
    have L1 : Hid (l ++ bitsOf (0 : Int).toNat (24 : Int).toNat = l ++ List.replicate 24 false) := by
      show _ ++ bitsOf 0 24 = _
      rw [bitsOf_zero]
    have HL2 : Hid ((l ++ List.replicate 24 false).length ≤ 562949953421312) := by show _ ≤ _; rw [List.length_append, List.length_replicate]; omega
    have L2 : Hid ((l ++ List.replicate 24 false) ++ bitsOf (v : Int).toNat (wide : Int).toNat = l ++ f) := by
      show _ ++ bitsOf v wide = _
      rw [Hf.out, List.append_assoc]
    have H2 : Hid ((v : Int).toNat < 2 ^ (wide : Int).toNat) := HV.out
    go_enter Tryd.func21, Tryd.ntmps21
    go_wp2_with (go_at_call 41; refine (asked_ok v k wide _ h1 h2 h3 HV.out).mono ?_; rintro e w' ⟨rfl, rfl⟩)
    refine (Put_I c R g l _ 0 24 _ HS.out (by omega) (by omega) (by omega) (by decide) (by omega) L1.out).mono ?_
    rintro e w1 ⟨rfl, hS1⟩
    have HS1 := Lib.hid hS1
    clear hS1
    go_wp2_with fail
    refine (Put_I c R g _ _ _ _ _ HS1.out (by omega) (by omega) (by omega) H2.out HL2.out L2.out).mono ?_
    rintro e w2 ⟨rfl, hS2⟩
    have HS2 := Lib.hid hS2
    clear hS2
    go_wp2_with fail
    go_ret
    exact ⟨rfl, HS2.out⟩

/-- Cost tells how long the form is. -/
theorem Cost_ok (v k wide : Nat) (w : World) (h1 : k ≤ 15) (h2 : 1 ≤ wide) (h3 : wide ≤ 16) (hv : v < 2 ^ wide) :
    Calls Tryd.prog 20 #[.int .i64 v, .int .i64 k, .int .i64 wide] w fun e w' => e = .returned (.tuple #[.int .i64 (gform v k wide).length, .int .i64 0]) ∧ w = w' := by
  have HV := Lib.hid hv
  have hdiv : ((v : Int) / 2 ^ k) = ((v / 2 ^ k : Nat) : Int) := by push_cast; rfl
  have HL := Lib.hid (gform_length v k wide)
  have hle := gform_le v k wide h1 h3
  clear hv
  generalize (gform v k wide).length = n at *
  generalize v / 2 ^ k = u at *
  by_cases hu : u < 24
  · have hn : n = u + 1 + k := by rw [HL.out, if_pos hu]
    subst hn
    have t1 : decide ((u : Int) < 24) = true := by rw [decide_eq_true_iff]; omega
    go_enter Tryd.func20, Tryd.ntmps20
    go_wp2_with (go_at_call 41; refine (asked_ok v k wide _ h1 h2 h3 HV.out).mono ?_; rintro e w' ⟨rfl, rfl⟩)
    go_ret2
    exact ⟨by simp, rfl⟩
  · have hn : n = 24 + wide := by rw [HL.out, if_neg hu]
    subst hn
    have t1 : decide ((u : Int) < 24) = false := by rw [decide_eq_false_iff_not]; omega
    have t2 : decide (u < 24) = false := by rw [decide_eq_false_iff_not]; omega
    go_enter Tryd.func20, Tryd.ntmps20
    go_wp2_with (go_at_call 41; refine (asked_ok v k wide _ h1 h2 h3 HV.out).mono ?_; rintro e w' ⟨rfl, rfl⟩)
    go_ret2
    exact ⟨by simp, rfl⟩

end Go.Proofs.YtakmkjdmonmilaaDoor
