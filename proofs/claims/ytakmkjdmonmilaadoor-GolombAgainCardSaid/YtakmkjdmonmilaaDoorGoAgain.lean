import Derived.Test.YtakmkjdmonmilaaDoorGoV
import Derived.Test.YtakmkjdmonmilaaDoorGoL
namespace Go.Proofs.YtakmkjdmonmilaaDoor
set_option linter.unusedSimpArgs false
set_option linter.unusedVariables false
open Go Go.RowKit

theorem St.rot5 {c : Ctx} {A B C D E : HP} {R : List HP} {w : World} (h : St c (A :: B :: C :: D :: E :: R) w) : St c (E :: A :: B :: C :: D :: R) w :=
  h.perm (List.perm_middle (l₁ := [A, B, C, D]))

set_option maxHeartbeats 8000000 in
set_option maxRecDepth 100000 in
theorem golombAgain_walk {H : Type} {enc : TypeId × Value → H} (W : World) (hT : Tab W) (base : Nat) (v0 v1 : Value) (a0 : Arg enc Tryd.prog W base 9 v0) (a1 : Arg enc Tryd.prog W base 43 v1) :
    Calls Tryd.prog 7 #[v0, v1] W fun e W' => e = .returned (.bool true) ∧ Below W.heap.size W W' := by
  obtain ⟨s, rfl, hs⟩ := arg_string Tryd.underlying9 a0
  obtain ⟨ao, cap, l, rfl, hlc, hw, ha⟩ := arg_raws a1
  have hs' : s.size ≤ 140737488351232 := hs
  obtain ⟨bs, hbsE⟩ : ∃ bs, bytesS s = bs := ⟨_, rfl⟩
  have hbl : bs.length ≤ 140737488355328 := by rw [← hbsE, bytesS_length]; omega
  have hblt := bytesS_lt s
  rw [hbsE] at hblt
  have HRD := fun (R : List HP) (g cap : Nat) (hc : s.size ≤ cap) => Rd.of_bytesB (c := top W) (R := R) (g := g) hc
  rw [hbsE] at HRD
  have HBL := Lib.hid hbl
  have HBS := Lib.hid hblt
  have HT := Lib.hid hT
  have HA := Lib.hid ha
  have HR := Lib.hid HRD
  clear hT a0 a1 ha hs hblt hbsE HRD
  have kb := fun (w : World) => Lib.run_convert_string_bytes (P := Tryd.prog) w 9 48 5 s Tryd.underlying9 Tryd.underlying48 Tryd.underlying5
  go_enter Tryd.func7, Tryd.ntmps7
  go_wp2_with fail
  refine (awake_ok W HT.out [] _ (St.top W)).mono ?_
  rintro en w1 ⟨rfl, hS⟩
  have HS := Lib.hid (hS.strBytes 5 s)
  clear hS
  go_wp2_with fail
  refine (NewReader_ok (top W) _ _ bs _ HS.out (HR.out _ _ _ (grownCap_ge ..)) HBL.out).mono ?_
  rintro en w2 ⟨gr, rfl, hS2⟩
  have HS2 := Lib.hid (hS2.swap.drop.strBytes 5 s)
  clear hS2 HS
  go_wp2_with fail
  refine (NewReader_ok (top W) _ _ bs _ HS2.out (HR.out _ _ _ (grownCap_ge ..)) HBL.out).mono ?_
  rintro en w3 ⟨ga, rfl, hS3⟩
  have HS3 := Lib.hid hS3.swap.drop.swap
  clear hS3 HS2 HR kb
  go_wp2_with fail
  refine (NewRuns_ok (top W) _ _ HS3.out).mono ?_
  rintro en w4 ⟨gx, rfl, hS4⟩
  have HS4 := Lib.hid hS4
  clear hS4 HS3
  go_wp2_with fail
  refine (NewRuns_ok (top W) _ _ HS4.out).mono ?_
  rintro en w5 ⟨gy, rfl, hS5⟩
  have HS5 := Lib.hid hS5.back4.back3
  clear hS5 HS4
  go_wp2_with fail
  go_loopw [10] (fun v w' => ∃ k a r : Nat, v = .int .i64 (k : Nat) ∧ k ≤ l.length ∧ r ≤ 22 ∧ a ≤ 8 * bs.length ∧ Hid (St (top W) [reader gr bs a, reader ga bs a, runs gx r, runs gy r] w')) (fun v _ => l.length - (intOf v).toNat)
  case atStart => exact ⟨0, 0, 0, rfl, by omega, by omega, by omega, HS5.out⟩
  case round =>
    obtain ⟨k, a, r, rfl, hk, hr, ha, hS⟩ := hrel
    by_cases hkl : k < l.length
    · obtain ⟨b, off, rfl, hc0, hc1, hc2, i0, i1, i2⟩ := HA.out k hkl
      obtain ⟨⟨x0, x1, x2⟩, hvx⟩ : ∃ p, p = l[k] := ⟨_, rfl⟩
      rw [← hvx] at hc0 hc1 hc2 i0 i1 i2
      clear hvx
      simp only at hc0 hc1 hc2 i0 i1 i2
      obtain ⟨wl, hwl⟩ : ∃ q, 8 * bs.length - a = q := ⟨_, rfl⟩
      have hwl2 : wl ≤ 1125899906842624 := by have := HBL.out; omega
      have hwa : a + wl = 8 * bs.length := by omega
      have HWL := Lib.hid hwl
      have HWA := Lib.hid hwa
      have I0 := Lib.hid i0
      have I1 := Lib.hid i1
      have I2 := Lib.hid i2
      have C0 := Lib.hid hc0
      have C1 := Lib.hid hc1
      have C2 := Lib.hid hc2
      have HSA := hS
      clear hwl hwa i0 i1 i2 hc0 hc1 hc2 hS HS5
      go_wp2_with fail
      refine (NewWriter_ok (top W) _ _ HSA.out).mono ?_
      rintro en w1 ⟨gw, rfl, hS1⟩
      have HS1 := Lib.hid hS1.swap
      clear hS1
      go_wp2_with fail
      refine (Left_is (top W) _ gr bs a wl _ HS1.out ha HBL.out HWL.out).mono ?_
      rintro en w2 ⟨rfl, m2, rfl⟩
      have HS2 := Lib.hid (HS1.out.drewN m2)
      clear HS1 HSA
      by_cases hpar : k % 2 = 0
      · have p1 : ((k : Int) % 2 == 0) = true := by rw [beq_iff_eq]; omega
        have p2 : (k % 2 == 0) = true := by rw [beq_iff_eq]; omega
        obtain ⟨m, hm⟩ : ∃ m, pickN x2 16 = m := ⟨_, rfl⟩
        have hm2 : m < 16 := by rw [← hm]; exact pickN_lt _ _ (by decide)
        obtain ⟨kk, hkk⟩ : ∃ m, pickN x1 16 = m := ⟨_, rfl⟩
        have hk2 : kk < 16 := by rw [← hkk]; exact pickN_lt _ _ (by decide)
        have eq1 : (1 : Int) + (m : Int) = ((m + 1 : Nat) : Int) := by omega
        have HM := Lib.hid hm
        have HKK := Lib.hid hkk
        have c2 := top_cell HS2.out C2.out
        have c1 := top_cell HS2.out C1.out
        clear hm hkk hpar
        go_wp2_with fail
        refine (pick_is x2 16 m _ I2.out (by decide) (by decide) HM.out).mono ?_
        rintro en w' ⟨rfl, rfl⟩
        go_wp2_with fail
        refine (pick_is x1 16 kk _ I1.out (by decide) (by decide) HKK.out).mono ?_
        rintro en w' ⟨rfl, rfl⟩
        clear c1 c2
        go_wp2_with fail
        refine (GGet_ok (top W) _ gr bs a kk (m + 1) _ HS2.out (by omega) (by omega) (by omega) ha HBL.out HBS.out).mono ?_
        rintro en w3 (⟨n, hn, hf, rfl, hS3⟩ | ⟨q, hq, hno, rfl, hS3⟩)
        · have hle := gform_le n kk (m + 1) (by omega) (by omega)
          have HN := Lib.hid hn
          have HS3 := Lib.hid hS3.swap
          clear hn hS3 HS2
          go_wp2_with fail
          refine (GPut_ok (top W) _ gw [] n kk (m + 1) _ HS3.out (by omega) (by omega) (by omega) HN.out (by decide)).mono ?_
          rw [List.nil_append]
          obtain ⟨F, hF⟩ : ∃ F, gform n kk (m + 1) = F := ⟨_, rfl⟩
          unfold hasForm at hf
          rw [hF] at hf hle HS3 ⊢
          rintro en w4 ⟨rfl, hS4⟩
          have HS4 := Lib.hid hS4
          obtain ⟨a2, ha2⟩ : ∃ q, a + F.length = q := ⟨_, rfl⟩
          rw [ha2] at HS4
          have HA2 := Lib.hid ha2
          have HF1 := Lib.hid hf.1
          have HF2 := Lib.hid hf.2
          have ha2l : a2 ≤ 8 * bs.length := by rw [← ha2]; exact hf.1
          clear hS4 HS3 hf hF ha2
          go_wp2_with fail
          refine (Rate_q (top W) _ gx r _ HS4.out.rot4).mono ?_
          rintro en w' ⟨rfl, rfl⟩
          go_wp2_with fail
          refine (Rate_q (top W) _ gy r _ HS4.out.rot5).mono ?_
          rintro en w' ⟨rfl, rfl⟩
          go_wp2_with fail
          refine (taken_ok (top W) _ gr ga gw bs a a2 wl F _ HS4.out.back3 HWL.out HA2.out ha2l HBL.out HBS.out HF2.out (by omega)).mono ?_
          rintro en w5 ⟨rfl, hS5⟩
          have HS5 := Lib.hid hS5
          clear hS5 HS4
          go_wp2_with fail
          go_roundw
          case rel => exact ⟨k + 1, a2, r, by go_num, by omega, hr, ha2l, HS5⟩
          case measure => simp [intOf]; omega
        · have HS3 := Lib.hid hS3
          clear hS3 HS2 hno
          obtain ⟨mn, hmn⟩ : ∃ mn : Nat, min 1 wl = mn := ⟨_, rfl⟩
          have hmn1 : mn ≤ 1 ∧ mn ≤ wl := by omega
          obtain ⟨hmn1, hmn2⟩ := hmn1
          obtain ⟨bt, hbt⟩ : ∃ b, num (bitsAt bs a mn) = b := ⟨_, rfl⟩
          have HBT := Lib.hid hbt
          have hamn : a + mn ≤ 8 * bs.length := by have := HWA.out; omega
          have hmin : (if (wl : Int) < 1 then (wl : Int) else 1) = (mn : Nat) := by split <;> omega
          clear hbt hmn
          rcases hq with rfl | rfl
          all_goals
            go_wp2_with fail
            refine (Rate_q (top W) _ gx r _ HS3.out.rot4).mono ?_
            rintro en w' ⟨rfl, rfl⟩
            go_wp2_with fail
            refine (Rate_q (top W) _ gy r _ HS3.out.rot5).mono ?_
            rintro en w' ⟨rfl, rfl⟩
            go_wp2_with fail
            refine (Left_is (top W) _ gr bs a wl _ HS3.out ha HBL.out HWL.out).mono ?_
            rintro en w4 ⟨rfl, m4, rfl⟩
            have HS4 := Lib.hid (HS3.out.drewN m4)
            clear HS3
            go_wp2_with fail
            refine (Get_is (top W) _ gr bs a mn bt _ HS4.out (by omega) hamn HBL.out HBS.out HBT.out (a + mn) rfl).mono ?_
            rintro en w5 ⟨rfl, hS5⟩
            have HS5 := Lib.hid hS5.rot3
            clear hS5 HS4
            go_wp2_with fail
            refine (Get_is (top W) _ ga bs a mn bt _ HS5.out (by omega) hamn HBL.out HBS.out HBT.out (a + mn) rfl).mono ?_
            rintro en w6 ⟨rfl, hS6⟩
            have HS6 := Lib.hid hS6.rot3.drop.swap
            clear hS6 HS5
            go_wp2_with fail
            go_roundw
            case rel => exact ⟨k + 1, a + mn, r, by go_num, by omega, hr, hamn, HS6⟩
            case measure => simp [intOf]; omega
      · have p1 : ((k : Int) % 2 == 0) = false := by rw [beq_eq_false_iff_ne]; omega
        have p2 : (k % 2 == 0) = false := by rw [beq_eq_false_iff_ne]; omega
        obtain ⟨m, hm⟩ : ∃ m, pickN x0 4096 = m := ⟨_, rfl⟩
        have hm2 : m < 4096 := by rw [← hm]; exact pickN_lt _ _ (by decide)
        have eq1 : (1 : Int) + (m : Int) = ((m + 1 : Nat) : Int) := by omega
        have HM := Lib.hid hm
        have c0 := top_cell HS2.out C0.out
        clear hm hpar
        go_wp2_with fail
        refine (pick_is x0 4096 m _ I0.out (by decide) (by decide) HM.out).mono ?_
        rintro en w' ⟨rfl, rfl⟩
        clear c0
        go_wp2_with fail
        refine (RGet_ok W HT.out _ gx gr r (m + 1) bs a _ HS2.out.rot4 hr (by omega) (by omega) ha HBL.out HBS.out).mono ?_
        rintro en w3 (⟨n, hn, hf, rfl, hS3⟩ | ⟨q, hq, hno, rfl, hS3⟩)
        · have hle := rform_len (r := r) (n := n) (room := m + 1) hr (by omega)
          have hr2 := rnext_le (n := n) (room := m + 1) hr
          have HS3 := Lib.hid hS3.rot3.rot5
          clear hS3 HS2
          go_wp2_with fail
          refine (RPut_ok W HT.out _ gy gw r n (m + 1) [] _ HS3.out hr (by omega) (by omega) hn (by decide)).mono ?_
          rw [List.nil_append]
          obtain ⟨F, hF⟩ : ∃ F, rform r n (m + 1) = F := ⟨_, rfl⟩
          obtain ⟨r2, hr2e⟩ : ∃ q, rnext r n (m + 1) = q := ⟨_, rfl⟩
          unfold hasRun at hf
          rw [hF] at hf hle HS3 ⊢
          rw [hr2e] at hr2 HS3 ⊢
          rintro en w4 ⟨rfl, hS4⟩
          have HS4 := Lib.hid hS4
          obtain ⟨a2, ha2⟩ : ∃ q, a + F.length = q := ⟨_, rfl⟩
          rw [ha2] at HS4
          have HA2 := Lib.hid ha2
          have HF2 := Lib.hid hf.2
          have ha2l : a2 ≤ 8 * bs.length := by rw [← ha2]; exact hf.1
          clear hS4 HS3 hf hF ha2 hr2e
          go_wp2_with fail
          refine (Rate_q (top W) _ gx r2 _ HS4.out.rot3).mono ?_
          rintro en w' ⟨rfl, rfl⟩
          go_wp2_with fail
          refine (Rate_q (top W) _ gy r2 _ HS4.out).mono ?_
          rintro en w' ⟨rfl, rfl⟩
          go_wp2_with fail
          refine (taken_ok (top W) _ gr ga gw bs a a2 wl F _ HS4.out.rot5.rot5.rot4.back3 HWL.out HA2.out ha2l HBL.out HBS.out HF2.out (by omega)).mono ?_
          rintro en w5 ⟨rfl, hS5⟩
          have HS5 := Lib.hid hS5.rot4.back3
          clear hS5 HS4
          go_wp2_with fail
          go_roundw
          case rel => exact ⟨k + 1, a2, r2, by go_num, by omega, hr2, ha2l, HS5⟩
          case measure => simp [intOf]; omega
        · have HS3 := Lib.hid hS3.back4
          clear hS3 HS2 hno
          obtain ⟨mn, hmn⟩ : ∃ mn : Nat, min 1 wl = mn := ⟨_, rfl⟩
          have hmn1 : mn ≤ 1 ∧ mn ≤ wl := by omega
          obtain ⟨hmn1, hmn2⟩ := hmn1
          obtain ⟨bt, hbt⟩ : ∃ b, num (bitsAt bs a mn) = b := ⟨_, rfl⟩
          have HBT := Lib.hid hbt
          have hamn : a + mn ≤ 8 * bs.length := by have := HWA.out; omega
          have hmin : (if (wl : Int) < 1 then (wl : Int) else 1) = (mn : Nat) := by split <;> omega
          clear hbt hmn
          rcases hq with rfl | rfl
          all_goals
            go_wp2_with fail
            refine (Rate_q (top W) _ gx r _ HS3.out.rot4).mono ?_
            rintro en w' ⟨rfl, rfl⟩
            go_wp2_with fail
            refine (Rate_q (top W) _ gy r _ HS3.out.rot5).mono ?_
            rintro en w' ⟨rfl, rfl⟩
            go_wp2_with fail
            refine (Left_is (top W) _ gr bs a wl _ HS3.out ha HBL.out HWL.out).mono ?_
            rintro en w4 ⟨rfl, m4, rfl⟩
            have HS4 := Lib.hid (HS3.out.drewN m4)
            clear HS3
            go_wp2_with fail
            refine (Get_is (top W) _ gr bs a mn bt _ HS4.out (by omega) hamn HBL.out HBS.out HBT.out (a + mn) rfl).mono ?_
            rintro en w5 ⟨rfl, hS5⟩
            have HS5 := Lib.hid hS5.rot3
            clear hS5 HS4
            go_wp2_with fail
            refine (Get_is (top W) _ ga bs a mn bt _ HS5.out (by omega) hamn HBL.out HBS.out HBT.out (a + mn) rfl).mono ?_
            rintro en w6 ⟨rfl, hS6⟩
            have HS6 := Lib.hid hS6.rot3.drop.swap
            clear hS6 HS5
            go_wp2_with fail
            go_roundw
            case rel => exact ⟨k + 1, a + mn, r, by go_num, by omega, hr, hamn, HS6⟩
            case measure => simp [intOf]; omega
    · have hkl : k = l.length := by omega
      subst hkl
      go_wp2_with fail
      go_ret
      exact ⟨rfl, hS.out.below⟩

end Go.Proofs.YtakmkjdmonmilaaDoor
