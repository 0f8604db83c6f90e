import Derived.Test.YtakmkjdmonmilaaDoorGoL
namespace Go.Proofs.YtakmkjdmonmilaaDoor
set_option linter.unusedSimpArgs false
set_option linter.unusedVariables false
open Go Go.RowKit

def rAll (l : List Raw) : List Bool := l.flatMap rBits
theorem rAll_snoc (l : List Raw) (p : Raw) : rAll (l ++ [p]) = rAll l ++ rBits p := by simp [rAll]
theorem rAll_append (l m : List Raw) : rAll (l ++ m) = rAll l ++ rAll m := by simp [rAll]
theorem rAll_length (l : List Raw) : (rAll l).length ≤ 40 * l.length := by
  induction l with
  | nil => simp [rAll]
  | cons p l ih =>
    have h1 := gform_le (rV p) (rK p) (rWide p) (rK_le p) (rWide_le p).2
    have e : rAll (p :: l) = rBits p ++ rAll l := by simp [rAll]
    rw [e, List.length_append, List.length_cons]
    unfold rBits
    omega

theorem form_pack {A F rest B : List Bool} {v k wide : Nat} (hF : gform v k wide = F) (hB : A ++ F ++ rest = B) : hasForm (pack B) A.length v k wide := by
  subst hF hB
  refine ⟨?_, ?_⟩
  · rw [pack_length]; simp only [List.length_append]; omega
  · rw [bitsAt_pack _ _ _ (by simp only [List.length_append]; omega), List.append_assoc, List.drop_left, List.take_left' rfl]

theorem restOk_pack (l : List Bool) : restOk (pack l) l.length := by
  refine ⟨by rw [pack_length]; omega, fun k h1 h2 => ?_⟩
  rw [ubit_pack' l k (by rw [pack_length] at h2; exact h2)]
  simp [List.getD, List.getElem?_eq_none h1]

theorem gform_pos (v k wide : Nat) : 1 ≤ (gform v k wide).length := by
  rw [gform_length]; generalize v / 2 ^ k = u; split <;> omega

set_option maxHeartbeats 4000000 in
set_option maxRecDepth 100000 in
theorem golombBack_walk {H : Type} {enc : TypeId × Value → H} (W : World) (hT : Tab W) (base : Nat) (v0 : Value) (a0 : Arg enc Tryd.prog W base 43 v0) :
    Calls Tryd.prog 6 #[v0] W fun e W' => e = .returned (.bool true) ∧ Below W.heap.size W W' := by
  obtain ⟨ao, cap, l, rfl, hlc, hw, ha⟩ := arg_raws a0
  have HT := Lib.hid hT
  have HA := Lib.hid ha
  clear hT a0 ha
  go_enter Tryd.func6, Tryd.ntmps6
  go_wp2_with fail
  refine (awake_ok W HT.out [] _ (St.top W)).mono ?_
  rintro en w1 ⟨rfl, hS⟩
  have HS := Lib.hid hS
  clear hS
  go_wp2_with fail
  refine (NewWriter_ok (top W) _ _ HS.out).mono ?_
  rintro en w2 ⟨g, rfl, hS2⟩
  have HS2 := Lib.hid hS2
  clear hS2
  go_wp2_with fail
  go_loopw [5, 6] (fun sum v w' => ∃ k s : Nat, v = .int .i64 (k : Nat) ∧ k ≤ l.length ∧ sum = .int .i64 (s : Nat) ∧ Hid (s = (rAll (l.take k)).length) ∧ Hid (St (top W) [writer g (rAll (l.take k))] w')) (fun _ v _ => l.length - (intOf v).toNat)
  case atStart => exact ⟨0, 0, rfl, by omega, rfl, rfl, HS2⟩
  case round =>
    obtain ⟨k, s, rfl, hk, rfl, hs, hS⟩ := hrel
    by_cases hkl : k < l.length
    · obtain ⟨b, off, rfl, hc0, hc1, hc2, i0, i1, i2⟩ := HA.out k hkl
      have hsn := rAll_snoc (l.take k) l[k]
      rw [← List.take_succ_eq_append_getElem hkl] at hsn
      have HSN := Lib.hid hsn
      have hlen := rAll_length (l.take k)
      rw [List.length_take, Nat.min_eq_left hk] at hlen
      have hc0 := top_cell hS.out hc0
      have hc1 := top_cell hS.out hc1
      have hc2 := top_cell hS.out hc2
      generalize rAll (l.take k) = bl at *
      obtain ⟨bl', hbl'⟩ : ∃ x, rAll (l.take (k + 1)) = x := ⟨_, rfl⟩
      rw [hbl'] at HSN
      have HBL := Lib.hid hbl'
      clear hbl' hsn
      obtain ⟨⟨x0, x1, x2⟩, hvx⟩ : ∃ p, p = l[k] := ⟨_, rfl⟩
      rw [← hvx] at hc0 hc1 hc2 i0 i1 i2 HSN
      clear hvx
      simp only at hc0 hc1 hc2 i0 i1 i2
      have hww := rWide_le (x0, x1, x2)
      have hvv := rV_lt (x0, x1, x2)
      have hkk := rK_le (x0, x1, x2)
      obtain ⟨wd, hwd⟩ : ∃ q, rWide (x0, x1, x2) = q := ⟨_, rfl⟩
      obtain ⟨vv, hv⟩ : ∃ q, rV (x0, x1, x2) = q := ⟨_, rfl⟩
      obtain ⟨kk, hkq⟩ : ∃ q, rK (x0, x1, x2) = q := ⟨_, rfl⟩
      unfold rBits at HSN
      rw [hwd, hv] at hvv
      rw [hwd] at hww
      rw [hkq] at hkk
      rw [hwd, hv, hkq] at HSN
      have HWD := Lib.hid hwd
      have HV := Lib.hid hv
      have HK := Lib.hid hkq
      have HVV := Lib.hid hvv
      have I0 := Lib.hid i0
      have I1 := Lib.hid i1
      have I2 := Lib.hid i2
      have hle := gform_le vv kk wd hkk hww.2
      have hge := gform_pos vv kk wd
      have hlen2 : bl'.length = s + (gform vv kk wd).length := by rw [HSN.out, List.length_append, hs.out]
      have HL := Lib.hid hlen2
      clear hwd hv hkq hvv i0 i1 i2 hlen2
      go_wp2_with fail
      refine (of_ok (top W) _ x0 x1 x2 vv kk wd _ hS.out I0.out I1.out I2.out HWD.out HV.out HK.out).mono ?_
      rintro en w3 ⟨rfl, hS3⟩
      have HS3 := Lib.hid hS3
      clear hS3 hS hc0 hc1 hc2
      go_wp2_with fail
      refine (Cost_ok vv kk wd _ hkk hww.1 hww.2 HVV.out).mono ?_
      rintro en w' ⟨rfl, rfl⟩
      obtain ⟨F, hF⟩ : ∃ F, gform vv kk wd = F := ⟨_, rfl⟩
      rw [hF] at hle hge HL HSN
      rw [hF]
      have hs2 : s ≤ 40 * k := by rw [hs.out]; exact hlen
      go_wp2_with fail
      refine (GPut_ok (top W) _ g bl vv kk wd _ HS3.out hkk hww.1 hww.2 HVV.out (by omega)).mono ?_
      rw [hF, ← HSN.out]
      rintro en w4 ⟨rfl, hS4⟩
      have HS4 := Lib.hid hS4
      clear hS4 HS3 hF
      obtain ⟨fl, hfl⟩ : ∃ n, F.length = n := ⟨_, rfl⟩
      rw [hfl] at hle hge HL ⊢
      clear hfl
      have t1 : decide ((fl : Int) < 1) = false := by rw [decide_eq_false_iff_not]; omega
      have t2 : decide ((40 : Int) < fl) = false := by rw [decide_eq_false_iff_not]; omega
      have t3 : decide (fl < 1) = false := by rw [decide_eq_false_iff_not]; omega
      have t4 : decide (40 < fl) = false := by rw [decide_eq_false_iff_not]; omega
      go_wp2_with fail
      refine (Len_q (top W) _ g bl' _ HS4.out).mono ?_
      rw [HL.out]
      rintro en w6 ⟨rfl, m, rfl⟩
      have ne : (((s + fl : Nat) : Int) != (s : Int) + fl) = false := by rw [bne_eq_false_iff_eq]; omega
      go_wp2_with fail
      go_roundw
      case rel => exact ⟨k + 1, s + fl, by go_num, by omega, by go_num, by rw [HBL.out]; exact HL.out.symm, by rw [HBL.out]; exact HS4.out.drewN m⟩
      case measure => simp [intOf]; omega
    · have hkl : k = l.length := by omega
      subst hkl
      rw [List.take_of_length_le (Nat.le_refl _)] at hs hS
      have hBl := rAll_length l
      obtain ⟨B, hB⟩ : ∃ B, rAll l = B := ⟨_, rfl⟩
      rw [hB] at hs hS hBl
      have HB := Lib.hid hB
      have HSS := hS
      clear hB hS HS HS2
      have hpl : (pack B).length ≤ 140737488355328 := by rw [pack_length]; omega
      have hbits := pack_lt B
      have HPL := Lib.hid hpl
      have HBT := Lib.hid hbits
      clear hpl hbits
      go_wp2_with fail
      refine (Bytes_ok (top W) _ g B _ HSS.out (by omega)).mono ?_
      rintro en w3 ⟨g2, m, cp, rfl, hm, hS3⟩
      have HS3 := Lib.hid hS3
      clear hS3 hm
      go_wp2_with fail
      refine (NewReader_ok (top W) _ _ (pack B) _ HS3.out (Rd.of_mem (List.mem_cons_self ..)) HPL.out).mono ?_
      rintro en w4 ⟨g3, rfl, hS4⟩
      have HS4 := Lib.hid hS4
      clear hS4
      go_wp2_with fail
      go_loopw [14] (fun v w' => ∃ k : Nat, v = .int .i64 (k : Nat) ∧ k ≤ l.length ∧ Hid (St (top W) [reader g3 (pack B) (rAll (l.take k)).length] w')) (fun v _ => l.length - (intOf v).toNat)
      case atStart => exact ⟨0, rfl, by omega, HS4.out.swap.drop.swap.drop⟩
      case round =>
        obtain ⟨k, rfl, hk, hS⟩ := hrel
        by_cases hkl : k < l.length
        · obtain ⟨b, off, rfl, hc0, hc1, hc2, i0, i1, i2⟩ := HA.out k hkl
          have hsn := rAll_snoc (l.take k) l[k]
          rw [← List.take_succ_eq_append_getElem hkl] at hsn
          have hB2 : rAll (l.take k) ++ rBits l[k] ++ rAll (l.drop (k + 1)) = B := by
            rw [← hsn, ← rAll_append, List.take_append_drop]; exact HB.out
          have hc0 := top_cell hS.out hc0
          have hc1 := top_cell hS.out hc1
          have hc2 := top_cell hS.out hc2
          obtain ⟨bl, hbl⟩ : ∃ x, rAll (l.take k) = x := ⟨_, rfl⟩
          obtain ⟨bl', hbl'⟩ : ∃ x, rAll (l.take (k + 1)) = x := ⟨_, rfl⟩
          rw [hbl, hbl'] at hsn
          rw [hbl] at hB2 hS
          obtain ⟨⟨x0, x1, x2⟩, hvx⟩ : ∃ p, p = l[k] := ⟨_, rfl⟩
          rw [← hvx] at hc0 hc1 hc2 i0 i1 i2 hsn hB2
          clear hvx
          simp only at hc0 hc1 hc2 i0 i1 i2
          have hww := rWide_le (x0, x1, x2)
          have hvv := rV_lt (x0, x1, x2)
          have hkk := rK_le (x0, x1, x2)
          obtain ⟨wd, hwd⟩ : ∃ q, rWide (x0, x1, x2) = q := ⟨_, rfl⟩
          obtain ⟨vv, hv⟩ : ∃ q, rV (x0, x1, x2) = q := ⟨_, rfl⟩
          obtain ⟨kk, hkq⟩ : ∃ q, rK (x0, x1, x2) = q := ⟨_, rfl⟩
          unfold rBits at hsn hB2
          rw [hwd, hv] at hvv
          rw [hwd] at hww
          rw [hkq] at hkk
          rw [hwd, hv, hkq] at hsn hB2
          have HWD := Lib.hid hwd
          have HV := Lib.hid hv
          have HK := Lib.hid hkq
          have HVV := Lib.hid hvv
          have I0 := Lib.hid i0
          have I1 := Lib.hid i1
          have I2 := Lib.hid i2
          have HBL := Lib.hid hbl'
          have HF := Lib.hid (form_pack (v := vv) (k := kk) (wide := wd) rfl hB2)
          have hlb : bl.length ≤ 8 * (pack B).length := by
            rw [← hB2, pack_length]; simp only [List.length_append]; omega
          have HLB := Lib.hid hlb
          have HNX : Hid (bl.length + (gform vv kk wd).length = bl'.length) := by rw [hsn]; simp [Hid]
          clear hwd hv hkq hvv i0 i1 i2 hbl hbl' hsn hB2 hlb
          go_wp2_with fail
          refine (of_ok (top W) _ x0 x1 x2 vv kk wd _ hS.out I0.out I1.out I2.out HWD.out HV.out HK.out).mono ?_
          rintro en w5 ⟨rfl, hS5⟩
          have HS5 := Lib.hid hS5
          clear hS5 hS hc0 hc1 hc2
          go_wp2_with fail
          refine (GGet_ok (top W) _ g3 (pack B) bl.length kk wd _ HS5.out hkk hww.1 hww.2 HLB.out HPL.out HBT.out).mono ?_
          rintro en w6 (⟨n, hn, hf, rfl, hS6⟩ | ⟨y, _, hno, _, _⟩)
          · obtain rfl : n = vv := form_one hn HVV.out hf HF.out
            rw [HNX.out] at hS6
            have HS6 := Lib.hid hS6
            clear hS6 hf hn
            go_wp2_with fail
            go_roundw
            case rel => exact ⟨k + 1, by go_num, by omega, by rw [HBL.out]; exact HS6⟩
            case measure => simp [intOf]; omega
          · exact absurd HF.out (hno vv HVV.out)
        · have hkl : k = l.length := by omega
          subst hkl
          rw [List.take_of_length_le (Nat.le_refl _), HB.out] at hS
          have hle : B.length ≤ 8 * (pack B).length := by rw [pack_length]; omega
          go_wp2_with fail
          refine (Rest_ok (top W) _ _ (pack B) B.length _ hS.out hle HPL.out HBT.out (restOk_pack B)).mono ?_
          rintro en w4 ⟨rfl, m2, rfl⟩
          go_wp2_with fail
          go_ret
          exact ⟨rfl, (hS.out.drewN m2).below⟩

end Go.Proofs.YtakmkjdmonmilaaDoor
