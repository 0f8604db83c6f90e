import Derived.Test.YtakmkjdmonmilaaDoorGoL
namespace Go.Proofs.YtakmkjdmonmilaaDoor
set_option linter.unusedSimpArgs false
set_option linter.unusedVariables false
open Go Go.RowKit

/-! The bits of a number as a string. -/
def chars (l : List Bool) : List Nat := l.map fun b => 48 + b2n b
theorem chars_length (l : List Bool) : (chars l).length = l.length := by simp [chars]
theorem chars_snoc (l : List Bool) (b : Bool) : chars (l ++ [b]) = chars l ++ [48 + b2n b] := by simp [chars]
theorem chars_lt (l : List Bool) : ∀ c ∈ chars l, c < 256 := by
  intro c hc
  obtain ⟨b, _, rfl⟩ := List.mem_map.1 hc
  have := b2n_lt b
  omega
theorem chars_next {F : List Bool} {k b : Nat} (hk : k < F.length) (hb : num (bitsAt (pack F) k 1) = b) {u : Value} (hu : u = .int .u8 ((48 + b : Nat) : Int)) : bytesV (chars (F.take k)) ++ [u] = bytesV (chars (F.take (k + 1))) ∧ b < 2 := by
  have e : bitsAt (pack F) k 1 = [F[k]] := by
    rw [bitsAt_pack F k 1 (by omega)]
    rw [List.drop_eq_getElem_cons hk]
    rfl
  have e2 : b = b2n F[k] := by rw [← hb, e]; simp [num]
  refine ⟨?_, by rw [e2]; exact b2n_lt _⟩
  rw [List.take_succ_eq_append_getElem hk, chars_snoc, hu, e2]
  simp [bytesV]

set_option maxHeartbeats 2000000 in
set_option maxRecDepth 100000 in
theorem form_ok (c : Ctx) (R : List HP) (v k wide : Nat) (F : List Bool) (w : World) (hS : St c R w) (h1 : k ≤ 15) (h2 : 1 ≤ wide) (h3 : wide ≤ 16) (hv : v < 2 ^ wide) (hF : gform v k wide = F) :
    Calls Tryd.prog 13 #[.int .i64 v, .int .i64 k, .int .i64 wide] w fun e w' => e = .returned (.tuple #[.string (strB (chars F)), .bool true]) ∧ St c R w' := by
  have HS := Lib.hid hS
  have HV := Lib.hid hv
  have hle := gform_le v k wide h1 h3
  rw [hF] at hle
  have HF := Lib.hid hF
  clear hS hv hF
  have hpl : (pack F).length ≤ 140737488355328 := by rw [pack_length]; omega
  have hp8 : F.length ≤ 8 * (pack F).length := by rw [pack_length]; omega
  have HPL := Lib.hid hpl
  have HBT := Lib.hid (pack_lt F)
  have HP8 := Lib.hid hp8
  clear hpl hp8
  obtain ⟨N, hN⟩ : ∃ N, F.length = N := ⟨_, rfl⟩
  have hN40 : N ≤ 40 := by omega
  have HN := Lib.hid hN
  clear hN hle
  go_enter Tryd.func13, Tryd.ntmps13
  go_wp2_with fail
  refine (NewWriter_ok c R _ HS.out).mono ?_
  rintro en w2 ⟨g, rfl, hS2⟩
  have HS2 := Lib.hid hS2
  clear hS2
  go_wp2_with fail
  refine (GPut_ok c R g [] v k wide _ HS2.out h1 h2 h3 HV.out (by decide)).mono ?_
  rw [HF.out]
  rintro en w3 ⟨rfl, hS3⟩
  have HS3 : Hid (St c (writer g F :: R) w3) := hS3
  clear hS3
  go_wp2_with fail
  refine (Bytes_ok c R g F _ HS3.out (by rw [HN.out]; omega)).mono ?_
  rintro en w4 ⟨g2, m, cp, rfl, hm, hS4⟩
  have HS4 := Lib.hid hS4
  clear hS4 hm
  go_wp2_with fail
  refine (NewReader_ok c _ _ (pack F) _ HS4.out (Rd.of_mem (List.mem_cons_self ..)) HPL.out).mono ?_
  rintro en w5 ⟨g3, rfl, hS5⟩
  have HS5 := Lib.hid (hS5.swap.drop.nilRow 5 1)
  clear hS5
  go_wp2_with fail
  go_loopw [11, 12] (fun out v w' => ∃ (k : Nat) (x : Value), v = .int .i64 (k : Nat) ∧ k ≤ N ∧ out = x ∧ Hid (St c (row 5 1 x k (bytesV (chars (F.take k))) :: reader g3 (pack F) k :: writer g F :: R) w')) (fun _ v _ => N - (intOf v).toNat)
  case atStart => exact ⟨0, _, rfl, by omega, rfl, HS5⟩
  case round =>
    obtain ⟨i, x, rfl, hi, rfl, hS6⟩ := hrel
    go_wp2_with fail
    refine (Len_q c _ g F _ hS6.out.drop.swap).mono ?_
    rw [HN.out]
    rintro en w6 ⟨rfl, m, rfl⟩
    have HS7 := Lib.hid (hS6.out.drewN m)
    by_cases hlt : i < N
    · have t1 : decide ((i : Int) < N) = true := by rw [decide_eq_true_iff]; omega
      have t2 : decide (i < N) = true := by rw [decide_eq_true_iff]; omega
      have t3 : decide ((i : Int) < 50) = true := by rw [decide_eq_true_iff]; omega
      have t4 : decide (i < 50) = true := by rw [decide_eq_true_iff]; omega
      obtain ⟨b, hb⟩ : ∃ b, num (bitsAt (pack F) i 1) = b := ⟨_, rfl⟩
      have hb2 := (chars_next (by rw [HN.out]; exact hlt) hb rfl).2
      have HB := Lib.hid hb
      clear hb
      go_wp2_with fail
      refine (Get_is c _ g3 (pack F) i 1 b _ HS7.out.swap (by decide) (by have := HP8.out; rw [HN.out] at this; omega) HPL.out HBT.out HB.out (i + 1) rfl).mono ?_
      rintro en w8 ⟨rfl, hS8⟩
      have HS8 := Lib.hid hS8.swap
      clear hS8
      go_wp2_with (at_builtin; go_must (refine St.append1 rfl (.tmp 49) (.tmp 53) _ rfl elemU8 rfl HS8.out _ _ rfl rfl (by omega) (by simp [maxLen]; omega) ?_))
      intro g4 cp4 w9 hcp hS9
      rw [(chars_next (by rw [HN.out]; exact hlt) HB.out (by first | rfl | (congr 1; omega))).1] at hS9
      have HS9 := Lib.hid hS9
      clear hS9 HS7 hS6 HS8 HS5 HS4 HS3 HS2
      go_wp2_with fail
      go_roundw
      case rel => exact ⟨i + 1, _, by go_num, by omega, rfl, HS9⟩
      case measure => simp [intOf]; omega
    · have hiN : i = N := by omega
      subst hiN
      have hstr := HS7.out.rowReads
      rw [List.take_of_length_le (by rw [HN.out]; exact Nat.le_refl _)] at hstr
      have hstr := hstr.str (P := Tryd.prog) (src := 48) (dst := 9) Tryd.underlying48 Tryd.underlying5 Tryd.underlying9
      have HS9 := Lib.hid HS7.out.drop.drop.drop
      go_wp2_with fail
      go_ret2
      exact ⟨rfl, HS9.out⟩

end Go.Proofs.YtakmkjdmonmilaaDoor
