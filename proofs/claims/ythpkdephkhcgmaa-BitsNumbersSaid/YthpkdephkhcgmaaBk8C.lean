import Derived.Test.YthpkdephkhcgmaaBk8B
/-! ends -/
namespace Go.Proofs.Ythpkdephkhcgmaa
set_option linter.unusedSimpArgs false
set_option linter.unusedVariables false
open Go Go.RowKit Go.Proofs.YthpkdephkhcgmaaW.PrintWords Go.Proofs.YthpkdephkhcgmaaW.PrintLast

theorem getD_app_l {α : Type} (l r : List α) (z : α) (i : Nat) (h : i < l.length) : (l ++ r).getD i z = l.getD i z := by
  rw [List.getD_eq_getElem?_getD, List.getElem?_append_left h, ← List.getD_eq_getElem?_getD]
theorem getD_app_r {α : Type} (l r : List α) (z : α) (i : Nat) (h : l.length ≤ i) : (l ++ r).getD i z = r.getD (i - l.length) z := by
  rw [List.getD_eq_getElem?_getD, List.getElem?_append_right h, ← List.getD_eq_getElem?_getD]
set_option maxHeartbeats 16000000 in
set_option maxRecDepth 100000 in
theorem ends8_ok (c : Ctx) (R : List HP) (w : World) (gB : Nat) (ls : List (List Int)) (hS : St c (book8 gB ls :: R) w) (hl : ∀ x ∈ ls, x.length ≤ 268435456) (hn : ls.length ≤ 100000) :
    Calls Try.prog 16 #[.pointer (some ⟨gB, 0, none⟩)] w fun e w' => e = .returned (.bool true) ∧ St c (book8 gB [] :: R) w' := by
  obtain ⟨v1, v2, h0⟩ := hS.book8Open
  obtain ⟨ao1, cap1, rfl, hcap1, -⟩ := (h0.swap).matC
  obtain ⟨ao2, cap2, rfl, hcap2, -⟩ := (h0.rot3).matC
  obtain ⟨n, hn0⟩ : ∃ q, ls.length = q := ⟨_, rfl⟩
  rw [hn0] at h0 hn
  have HN := Lib.hid hn0
  have HL := Lib.hid hl
  have H0 := Lib.hid h0
  clear hS h0 hn0 hl hcap1 hcap2
  go_enter Try.func16, Try.ntmps16
  go_wp2_with fail
  go_loopw [3] (fun v w' => ∃ i : Nat, v = .int .i64 (i : Nat) ∧ i ≤ n ∧ Hid (St c (blk gB [.slice ao1 n cap1, .slice ao2 n cap2] 28 :: mat 24 5 .u8 (.slice ao1 n cap1) ls :: mat 24 5 .u8 (.slice ao2 n cap2) ls :: R) w')) (fun v _ => n - (intOf v).toNat)
  case atStart => exact ⟨0, rfl, by omega, H0⟩
  case round =>
    clear H0
    obtain ⟨i, rfl, hi, hS⟩ := hrel
    have b0 : wr.cell? ⟨gB, 0, none⟩ = some (.slice ao1 n cap1) := St.cells_mem hS.out mm0 0
    by_cases hil : i < n
    · have hC1 := hS.out.drew.swap.matC'.2.2
      have hC2 := hS.out.drew.rot3.matC'.2.2
      obtain ⟨bb1, o1, A1, c1, rfl, hc1, -, hr1⟩ := C_rowAt hC1 i (by rw [HN.out]; exact hil)
      obtain ⟨bb2, o2, A2, c2, rfl, hc2, -, hr2⟩ := C_rowAt hC2 i (by rw [HN.out]; exact hil)
      have k0 : wr.drew.cell? ⟨gB, 0, none⟩ = some (.slice (some ⟨bb1, o1, none⟩) n cap1) := St.cells_mem hS.out.drew mm0 0
      have k1 : wr.drew.cell? ⟨gB, 1, none⟩ = some (.slice (some ⟨bb2, o2, none⟩) n cap2) := St.cells_mem hS.out.drew mm0 1
      obtain ⟨row_, hrow⟩ : ∃ q, ls.getD i [] = q := ⟨_, rfl⟩
      rw [hrow] at hc1 hc2 hr1 hr2
      have v1 := conv8_ok wr.drew c1 hr1
      have v2 := conv8_ok wr.drew c2 hr2
      obtain ⟨nr, hnr⟩ : ∃ q, row_.length = q := ⟨_, rfl⟩
      obtain ⟨sr, hsr⟩ : ∃ q, strOfNums row_ = q := ⟨_, rfl⟩
      rw [hnr] at hc1 hc2 v1 v2
      rw [hsr] at v1 v2
      have t1 : (0 : Int) ≤ (i : Int) := by omega
      have t2 : (i : Int) < n := by omega
      have HS1 := Lib.hid hS.out.drew
      clear hC1 hC2 hr1 hr2 hrow hnr hsr hS
      go_wp2_with fail
      clear b0
      refine start_ (n := 17) (S := fun w' => w'.cell? ⟨gB, 0, none⟩ = some (.slice (some ⟨bb1, o1, none⟩) n cap1) ∧ w'.cell? ⟨gB, 1, none⟩ = some (.slice (some ⟨bb2, o2, none⟩) n cap2) ∧ w'.cell? ⟨bb1, o1 + i, none⟩ = some (.slice A1 nr c1) ∧ w'.cell? ⟨bb2, o2 + i, none⟩ = some (.slice A2 nr c2) ∧ (convert 24 9 (.slice A1 nr c1)).run Try.prog w' = .ok (.string sr) w' ∧ (convert 24 9 (.slice A2 nr c2)).run Try.prog w' = .ok (.string sr) w') (ds := []) #[false, false, false, false, false, false, false, false, false, false, false, false, false, false, false, false, false] (by kernel_rfl) rfl rfl ⟨k0, k1, hc1, hc2, v1, v2⟩ (fun hHeld => ?_)
      refine pu 0 25 #[true, false, false, false, false, false, false, false, false, false, false, false, false, false, false, false, false] ?_
      refine pu 1 26 #[true, true, false, false, false, false, false, false, false, false, false, false, false, false, false, false, false] ?_
      refine pu 2 27 #[true, true, true, false, false, false, false, false, false, false, false, false, false, false, false, false, false] ?_
      refine pu 4 29 #[true, true, true, false, true, false, false, false, false, false, false, false, false, false, false, false, false] ?_
      refine pu 8 33 #[true, true, true, false, true, false, false, false, true, false, false, false, false, false, false, false, false] ?_
      refine pu 9 34 #[true, true, true, false, true, false, false, false, true, true, false, false, false, false, false, false, false] ?_
      refine pu 10 35 #[true, true, true, false, true, false, false, false, true, true, true, false, false, false, false, false, false] ?_
      refine pu 12 37 #[true, true, true, false, true, false, false, false, true, true, true, false, true, false, false, false, false] ?_
      refine ta 3 28 #[true, true, true, true, true, false, false, false, true, true, true, false, true, false, false, false, false] hHeld ?_
      refine pu 5 30 #[true, true, true, true, true, true, false, false, true, true, true, false, true, false, false, false, false] ?_
      refine ta 6 31 #[true, true, true, true, true, true, true, false, true, true, true, false, true, false, false, false, false] hHeld ?_
      refine ta 7 32 #[true, true, true, true, true, true, true, true, true, true, true, false, true, false, false, false, false] hHeld ?_
      refine ta 11 36 #[true, true, true, true, true, true, true, true, true, true, true, true, true, false, false, false, false] hHeld ?_
      refine pu 13 38 #[true, true, true, true, true, true, true, true, true, true, true, true, true, true, false, false, false] ?_
      refine ta 14 39 #[true, true, true, true, true, true, true, true, true, true, true, true, true, true, true, false, false] hHeld ?_
      refine ta 15 40 #[true, true, true, true, true, true, true, true, true, true, true, true, true, true, true, true, false] hHeld ?_
      refine pu 16 41 #[true, true, true, true, true, true, true, true, true, true, true, true, true, true, true, true, true] ?_
      refine done_ (by kernel_rfl) ?_
      go_wp2_with fail
      go_roundw
      case rel => exact ⟨i + 1, by go_num, by omega, HS1⟩
      case measure => simp [intOf]; omega
    · have hil : i = n := by omega
      subst hil
      go_wp2_with fail
      clear b0
      go_loopw [4] (fun v w' => ∃ j : Nat, v = .int .i64 (j : Nat) ∧ j ≤ i ∧ Hid (St c (blk gB [.slice ao1 i cap1, .slice ao2 i cap2] 28 :: mat 24 5 .u8 (.slice ao1 i cap1) (fillL mk8 ls j 0) :: mat 24 5 .u8 (.slice ao2 i cap2) ls :: R) w')) (fun v _ => i - (intOf v).toNat)
      case atStart => exact ⟨0, rfl, by omega, by rw [fillL_zero]; exact hS⟩
      case round =>
        clear hS
        obtain ⟨j, rfl, hj, hS⟩ := hrel
        have b0 : wr.cell? ⟨gB, 0, none⟩ = some (.slice ao1 i cap1) := St.cells_mem hS.out mm0 0
        by_cases hjl : j < i
        · obtain ⟨len, hlen⟩ : ∃ q, (ls.getD j []).length = q := ⟨_, rfl⟩
          have hjn : j < ls.length := by rw [HN.out]; exact hjl
          have hlb : len ≤ 268435456 := by rw [← hlen]; exact HL.out _ (by rw [List.getD_eq_getElem?_getD, List.getElem?_eq_getElem hjn]; exact List.getElem_mem hjn)
          have HLEN := Lib.hid hlen
          clear hlen
          go_wp2_with fail
          clear b0
          go_loopw [5] (fun v w' => ∃ k : Nat, v = .int .i64 (k : Nat) ∧ k ≤ len ∧ Hid (St c (blk gB [.slice ao1 i cap1, .slice ao2 i cap2] 28 :: mat 24 5 .u8 (.slice ao1 i cap1) (fillL mk8 ls j k) :: mat 24 5 .u8 (.slice ao2 i cap2) ls :: R) w')) (fun v _ => len - (intOf v).toNat)
          case atStart => exact ⟨0, rfl, by omega, hS⟩
          case round =>
            clear hS
            obtain ⟨k, rfl, hk, hS⟩ := hrel
            have b0 : wr.cell? ⟨gB, 0, none⟩ = some (.slice ao1 i cap1) := St.cells_mem hS.out mm0 0
            have hx : ((fillL mk8 ls j k).getD j []).length = len := by rw [fillL_at _ _ _ _ hjn, fillR_length _ _ _ (by rw [HLEN.out]; exact hk), HLEN.out]
            have t1 : (0 : Int) ≤ (j : Int) := by omega
            have t2 : (j : Int) < i := by omega
            by_cases hkl : k < len
            · have hk2 : k < (ls.getD j []).length := by rw [HLEN.out]; exact hkl
              obtain ⟨gv, cp, g, cap, E0, hv, hcap, hcell, -, -⟩ := hS.out.swap.matPick j (by rw [fillL_length]; exact hjn) (by rw [hx]; omega)
              rw [fillL_length, HN.out] at hv
              cases hv
              rw [hx] at hcell
              obtain ⟨gv2, cp2, g2, cap2, E2, hv2, hcap2, hcell2, hrow, hback⟩ := hS.out.drew.swap.matPick j (by rw [fillL_length]; exact hjn) (by rw [hx]; omega)
              rw [fillL_length, HN.out] at hv2
              cases hv2
              rw [hx] at hcap2 hcell2 hrow hback
              obtain ⟨g3, cap3, e3, -, -, hcells, hfro⟩ := hrow.rowAt (by omega)
              cases e3
              have hold := hcells k (by omega)
              rw [nums_at _ _ _ (by rw [hx]; exact hkl)] at hold
              have hfr := hfro k
              have hnew := hrow.setRow k (.int .u8 (mk8 j))
              rw [nums_set] at hnew
              have hz := hback _ _ (by rw [List.length_set, hx]) hnew
              rw [fillL_at _ _ _ _ hjn, fillL_set _ _ _ _ hjn hk2] at hz
              have HZ := Lib.hid hz.swap
              have k0 : wr.drew.cell? ⟨gB, 0, none⟩ = some (.slice (some ⟨gv, 0, none⟩) i cap1) := St.cells_mem hS.out.drew mm0 0
              have t3 : (0 : Int) ≤ (k : Int) := by omega
              have t4 : (k : Int) < len := by omega
              clear hx hcap hcap2 hrow hback hcells hfro hnew hz hS hk2
              go_wp2_with fail
              clear b0 hcell
              refine start_ (n := 12) (S := fun w' => w'.cell? ⟨gB, 0, none⟩ = some (.slice (some ⟨gv, 0, none⟩) i cap1) ∧ w'.cell? ⟨gv, j, none⟩ = some (.slice (some ⟨g2, 0, none⟩) len cap2)) (ds := [11]) #[false, false, false, false, false, false, false, false, false, false, false, false] (by kernel_rfl) rfl rfl ⟨k0, hcell2⟩ (fun hHeld => ?_)
              refine pu 0 63 #[true, false, false, false, false, false, false, false, false, false, false, false] ?_
              refine pu 1 64 #[true, true, false, false, false, false, false, false, false, false, false, false] ?_
              refine pu 2 65 #[true, true, true, false, false, false, false, false, false, false, false, false] ?_
              refine pu 4 67 #[true, true, true, false, true, false, false, false, false, false, false, false] ?_
              refine pu 7 70 #[true, true, true, false, true, false, false, true, false, false, false, false] ?_
              refine pu 8 71 #[true, true, true, false, true, false, false, true, true, false, false, false] ?_
              refine ta 3 66 #[true, true, true, true, true, false, false, true, true, false, false, false] hHeld ?_
              refine pu 5 68 #[true, true, true, true, true, true, false, true, true, false, false, false] ?_
              refine ta 6 69 #[true, true, true, true, true, true, true, true, true, false, false, false] hHeld ?_
              refine one_ (i := 9) (N := some 72) #[true, true, true, true, true, true, true, true, true, true, false, false] rfl rfl (by kernel_rfl) (by decide) (fun K hK => ?_)
              refine goes_ Try.func29 (by kernel_rfl) rfl #[.int .i64 (j : Nat)] (by rfl) rfl rfl (by simp only [List.map_toArray, List.map_cons, List.map_nil]; rfl) ?_
              with_reducible refine (mark8_ok j _ (by omega)).mono ?_
              rintro en x1 ⟨rfl, rfl⟩
              refine ⟨_, rfl, ?_⟩
              refine hK.out _ _ ⟨k0, hcell2⟩ (fun hHeld => ?_)
              clear hK K
              refine norm_ (a' := ?_) ?_ ?_
              rotate_left
              · show Act.put _ (some 72) _ = _
                simp only [Act.put, List.setIfInBounds_toArray, List.set_cons_zero, List.set_cons_succ, i64_w, i32_w]
                rfl
              refine pu 10 73 #[true, true, true, true, true, true, true, true, true, true, true, false] ?_
              refine last_ (i := 11) (N := none) #[true, true, true, true, true, true, true, true, true, true, true, true] rfl rfl (by kernel_rfl) (by decide) (fun K hK => ?_)
              refine skip_ (w1 := ?_) (by rfl) rfl ?_ ?_
              rotate_left
              · go_simp
                rfl
              refine hK.out _ _ ?_
              clear hK K
              refine done_ (by kernel_rfl) ?_
              clear k0 hcell2 hold hfr
              go_wp2_with fail
              go_roundw
              case rel => exact ⟨k + 1, by go_num, by omega, HZ⟩
              case measure => simp [intOf]; omega
            · have hkl : len = k := by omega
              subst hkl
              have hC1 := hS.out.swap.matC'.2.2
              rw [fillL_length, HN.out] at hC1
              obtain ⟨bb1, o1, A1, c1, rfl, hc1, -, -⟩ := C_rowAt (ls := fillL mk8 ls j len) (by rw [fillL_length, HN.out]; exact hC1) j (by rw [fillL_length]; exact hjn)
              rw [hx] at hc1
              have hZ := hS.out
              rw [← HLEN.out, fillL_next] at hZ
              have HZ := Lib.hid hZ
              clear hS hx hC1 hZ
              go_wp2_with fail
              go_roundw
              case rel => exact ⟨j + 1, by go_num, by omega, HZ⟩
              case measure => simp [intOf]; omega
        · have hjl : i = j := by omega
          subst hjl
          have h0 := hS.out
          rw [← HN.out, fillL_all, HN.out] at h0
          obtain ⟨vs, hvs, h1⟩ := h0.swap.matOpen
          have hfl : (fullL mk8 ls).length = i := by rw [fullL_length, HN.out]
          have hC := h0.swap.matC'.2.2
          have hvl : ∀ j, j < i → ∃ A1 c1, vs.getD j (.slice none 0 0) = .slice A1 (ls.getD j []).length c1 := by
            intro j hj
            have hjn : j < ls.length := by rw [HN.out]; exact hj
            obtain ⟨b, off, A', cp, e1, hcell, -, -⟩ := C_rowAt hC j (by rw [hfl]; exact hj)
            obtain ⟨g, cap, e2, -, -, hcs, -⟩ := h1.rowAt (by omega)
            simp only [Value.slice.injEq] at e2
            rw [e1] at e2
            simp only [Option.some.injEq, Addr.mk.injEq, and_true] at e2
            obtain ⟨⟨rfl, rfl⟩, -⟩ := e2
            have h2 := hcs j (by omega)
            rw [Nat.zero_add] at hcell
            rw [hcell, fullL_get _ _ _ hjn, List.length_replicate] at h2
            refine ⟨A', cp, ?_⟩
            rw [List.getD_eq_getElem?_getD, ← h2]; rfl
          rw [hfl] at h1 hvs
          have h2 : St c (Sep (List.zipWith (inner 5 .u8) vs (fullL mk8 ls)) :: pool 5 [] :: row 24 1 (.slice ao1 i cap1) i vs :: blk gB [.slice ao1 i cap1, .slice ao2 i cap2] 28 :: mat 24 5 .u8 (.slice ao2 i cap2) ls :: R) wr := (h1.poolNil 5).reo 3 [2, 0, 1] (by decide)
          obtain ⟨P0, -, hp0, h3⟩ := sepPool mk8 vs (fullL mk8 ls) _ [] (by rw [hvs, hfl]) (fun j hj => by rw [fullL_length] at hj; rw [fullL_get _ _ _ hj, List.length_replicate]) h2
          rw [hvs] at hp0
          have h4 : St c (blk gB [.slice ao1 i cap1, .slice ao2 i cap2] 28 :: row 24 1 (.slice ao1 i cap1) i vs :: pool 5 P0 :: row 24 1 (.slice none 0 0) (2 * 0) [] :: mat 24 5 .u8 (.slice ao2 i cap2) ls :: R) wr := (h3.nilRow 24 1).reo 4 [3, 2, 1, 0] (by decide)
          have H4 := Lib.hid h4
          have HVL := Lib.hid hvl
          have HP0 := Lib.hid hp0
          have HVS := Lib.hid hvs
          clear hS h0 h1 h2 h3 h4 hvl hp0 hvs hC hfl
          go_wp2_with fail
          clear b0
          go_loopw [6, 7] (fun v6 v w' => ∃ (j : Nat) (lv : List Value) (P : List (Value × Value)), v = .int .i64 (j : Nat) ∧ j ≤ i ∧ Hid (lv.length = 2 * j) ∧ Hid (∀ t, t < i → (vs.getD t (.slice none 0 0), .int .u8 (mk8 t)) ∈ P) ∧ Hid (∀ t, t < j → (lv.getD (2 * t) (.slice none 0 0), .int .u8 (mk8 t)) ∈ P ∧ (lv.getD (2 * t + 1) (.slice none 0 0), .int .u8 (mk8 t)) ∈ P) ∧ Hid (∀ t, lenV (lv.getD t (.slice none 0 0)) ≤ 268435600) ∧ Hid (St c (blk gB [.slice ao1 i cap1, .slice ao2 i cap2] 28 :: row 24 1 (.slice ao1 i cap1) i vs :: pool 5 P :: row 24 1 v6 (2 * j) lv :: mat 24 5 .u8 (.slice ao2 i cap2) ls :: R) w')) (fun _ v _ => i - (intOf v).toNat)
          case atStart => exact ⟨0, [], P0, rfl, by omega, rfl, HP0, fun t ht => absurd ht (Nat.not_lt_zero _), fun t => by simp [lenV], H4⟩
          case round =>
            clear H4 HP0
            obtain ⟨j, lv, P, rfl, hj, HLV, HPV, HPL, HLN, hS⟩ := hrel
            obtain ⟨aoW, capW, rfl, -, -, -, -⟩ := hS.out.rot4.rowShape
            have b0 : wr.cell? ⟨gB, 0, none⟩ = some (.slice ao1 i cap1) := St.cells_mem hS.out mm0 0
            by_cases hjl : j < i
            · obtain ⟨len, hlen⟩ : ∃ q, (ls.getD j []).length = q := ⟨_, rfl⟩
              have hjn : j < ls.length := by rw [HN.out]; exact hjl
              have hlb : len ≤ 268435456 := by rw [← hlen]; exact HL.out _ (by rw [List.getD_eq_getElem?_getD, List.getElem?_eq_getElem hjn]; exact List.getElem_mem hjn)
              obtain ⟨Av, cv, hvj⟩ := HVL.out j hjl
              rw [hlen] at hvj
              have hpj := HPV.out j hjl
              rw [hvj] at hpj
              obtain ⟨gv, cp, e1, -, -, hcs, -⟩ := hS.out.swap.rowAt (by omega)
              simp only [Value.slice.injEq] at e1
              obtain ⟨rfl, -, rfl⟩ := e1
              have hcj := hcs j (by omega)
              have hjv : vs[j]? = some (.slice Av len cv) := by
                have hlt : j < vs.length := by rw [HVS.out]; exact hjl
                rw [List.getD_eq_getElem?_getD, List.getElem?_eq_getElem hlt] at hvj
                rw [List.getElem?_eq_getElem hlt]
                exact congrArg some hvj
              rw [hjv] at hcj
              have t1 : (0 : Int) ≤ (j : Int) := by omega
              have t2 : (j : Int) < i := by omega
              have HPJ := Lib.hid hpj
              have HCJ : Hid (∀ (w' : World) (R' : List HP), St c (row 24 1 (.slice (some ⟨gv, 0, none⟩) i cap1) i vs :: R') w' → w'.cell? ⟨gv, j, none⟩ = some (.slice Av len cv)) := by
                intro w' R' h
                obtain ⟨g2, cp2, e2, -, -, hc2, -⟩ := h.rowAt (by omega)
                simp only [Value.slice.injEq, Option.some.injEq, Addr.mk.injEq, and_true, true_and] at e2
                obtain ⟨rfl, rfl⟩ := e2
                rw [hc2 j (by omega)]
                exact hjv
              clear hlen hvj hpj hcs hjv
              go_wp2_with fail
              clear b0 hcj
              go_loopw [8, 9] (fun vg v w' => ∃ (k : Nat) (A : Option Addr) (cg : Nat) (P1 : List (Value × Value)), v = .int .i64 (k : Nat) ∧ k ≤ 20 ∧ vg = .slice A (len + k) cg ∧ Hid ((.slice A (len + k) cg, .int .u8 (mk8 j)) ∈ P1) ∧ Hid (∀ q ∈ P, q ∈ P1) ∧ Hid (St c (blk gB [.slice (some ⟨gv, 0, none⟩) i cap1, .slice ao2 i cap2] 28 :: row 24 1 (.slice (some ⟨gv, 0, none⟩) i cap1) i vs :: pool 5 P1 :: row 24 1 (.slice aoW (2 * j) capW) (2 * j) lv :: mat 24 5 .u8 (.slice ao2 i cap2) ls :: R) w')) (fun _ v _ => 20 - (intOf v).toNat)
              case atStart => exact ⟨0, Av, cv, P, rfl, by omega, rfl, HPJ, fun q hq => hq, hS⟩
              case round =>
                clear hS
                obtain ⟨k9, A8, c8, P1, rfl, hk, rfl, HG8, HS8, hS⟩ := hrel
                by_cases hkl : k9 < 20
                · go_wp2_with fail
                  refine (mark8_ok j _ (by omega)).mono ?_
                  rintro en w1 ⟨rfl, rfl⟩
                  have hp : St c (pool 5 P1 :: _) _ := hS.out.rot3
                  have HPP := Lib.hid hp
                  clear hS hp
                  go_wp2_with (at_builtin; go_must (refine St.poolAppend1 rfl (.tmp 94) (.tmp 97) _ rfl elemE8 rfl HPP.out HG8.out _ rfl rfl (by omega) (by simp [maxLen]; omega) ?_))
                  intro g' cp' w' hcp h1
                  have h2 : St c (blk gB [.slice (some ⟨gv, 0, none⟩) i cap1, .slice ao2 i cap2] 28 :: row 24 1 (.slice (some ⟨gv, 0, none⟩) i cap1) i vs :: pool 5 ((.slice (some ⟨g', 0, none⟩) (len + k9 + 1) cp', .int .u8 (mk8 j)) :: P1) :: row 24 1 (.slice aoW (2 * j) capW) (2 * j) lv :: mat 24 5 .u8 (.slice ao2 i cap2) ls :: R) w' := h1.reo 3 [1, 2, 0] (by decide)
                  have HZ := Lib.hid h2
                  clear h1 h2 HPP
                  go_wp2_with fail
                  go_roundw
                  case rel => exact ⟨k9 + 1, _, _, _, by go_num, by omega, rfl, List.mem_cons_self, fun q hq => List.mem_cons_of_mem _ (HS8.out q hq), HZ⟩
                  case measure => simp [intOf]; omega
                · have hkl : k9 = 20 := by omega
                  have HKL := Lib.hid hkl
                  have b0 : wr.cell? ⟨gB, 0, none⟩ = some (.slice (some ⟨gv, 0, none⟩) i cap1) := St.cells_mem hS.out mm0 0
                  have hcj := HCJ.out _ _ hS.out.swap
                  obtain ⟨lg, hlg⟩ : ∃ q, len + k9 = q := ⟨_, rfl⟩
                  have HLG := Lib.hid hlg
                  rw [hlg] at HG8
                  have HPJ2 : Hid ((.slice Av len cv, .int .u8 (mk8 j)) ∈ P1) := HS8.out _ HPJ.out
                  rw [hlg]
                  clear hlg hkl
                  go_wp2_with fail
                  clear b0 hcj
                  go_loopw [10, 11] (fun vg v w' => ∃ (k : Nat) (A : Option Addr) (cg : Nat) (P2 : List (Value × Value)), v = .int .i64 (k : Nat) ∧ k ≤ 80 ∧ vg = .slice A (len + k) cg ∧ Hid ((.slice A (len + k) cg, .int .u8 (mk8 j)) ∈ P2) ∧ Hid (∀ q ∈ P1, q ∈ P2) ∧ Hid (St c (blk gB [.slice (some ⟨gv, 0, none⟩) i cap1, .slice ao2 i cap2] 28 :: row 24 1 (.slice (some ⟨gv, 0, none⟩) i cap1) i vs :: pool 5 P2 :: row 24 1 (.slice aoW (2 * j) capW) (2 * j) lv :: mat 24 5 .u8 (.slice ao2 i cap2) ls :: R) w')) (fun _ v _ => 80 - (intOf v).toNat)
                  case atStart => exact ⟨0, Av, cv, P1, rfl, by omega, rfl, HPJ2, fun q hq => hq, hS⟩
                  case round =>
                    clear hS
                    obtain ⟨k11, A10, c10, P2, rfl, hk, rfl, HG10, HS10, hS⟩ := hrel
                    by_cases hkl : k11 < 80
                    · go_wp2_with fail
                      refine (mark8_ok j _ (by omega)).mono ?_
                      rintro en w1 ⟨rfl, rfl⟩
                      have hp : St c (pool 5 P2 :: _) _ := hS.out.rot3
                      have HPP := Lib.hid hp
                      clear hS hp
                      go_wp2_with (at_builtin; go_must (refine St.poolAppend1 rfl (.tmp 110) (.tmp 113) _ rfl elemE8 rfl HPP.out HG10.out _ rfl rfl (by omega) (by simp [maxLen]; omega) ?_))
                      intro g' cp' w' hcp h1
                      have h2 : St c (blk gB [.slice (some ⟨gv, 0, none⟩) i cap1, .slice ao2 i cap2] 28 :: row 24 1 (.slice (some ⟨gv, 0, none⟩) i cap1) i vs :: pool 5 ((.slice (some ⟨g', 0, none⟩) (len + k11 + 1) cp', .int .u8 (mk8 j)) :: P2) :: row 24 1 (.slice aoW (2 * j) capW) (2 * j) lv :: mat 24 5 .u8 (.slice ao2 i cap2) ls :: R) w' := h1.reo 3 [1, 2, 0] (by decide)
                      have HZ := Lib.hid h2
                      clear h1 h2 HPP
                      go_wp2_with fail
                      go_roundw
                      case rel => exact ⟨k11 + 1, _, _, _, by go_num, by omega, rfl, List.mem_cons_self, fun q hq => List.mem_cons_of_mem _ (HS10.out q hq), HZ⟩
                      case measure => simp [intOf]; omega
                    · have hkl : k11 = 80 := by omega
                      obtain ⟨lh, hlh⟩ : ∃ q, len + k11 = q := ⟨_, rfl⟩
                      have hlgb : lg ≤ 268435600 := by have := HLG.out; have := HKL.out; omega
                      have hlhb : lh ≤ 268435600 := by omega
                      rw [hlh] at HG10
                      rw [hlh]
                      have hA0 : St c (row 24 1 (.slice aoW (2 * j) capW) (2 * j) lv :: _) _ := hS.out.rot4
                      have hA := (hA0.alloc' rfl [.slice A8 lg c8, .slice A10 lh c10] 24).swap
                      have HA := Lib.hid hA
                      have z0 := hA.swap.cell 0
                      have z1 := hA.swap.cell 1
                      have HZ0 := Lib.hid z0
                      have HZ1 := Lib.hid z1
                      have hj5 : j ≤ 100000 := by omega
                      clear hS hA0 hA z0 z1 hlh hkl
                      go_wp2_with (at_builtin; go_must (refine St.append rfl (.tmp 115) (.tmp 118) _ rfl elemS8 rfl HA.out (some ⟨wr.heap.size, 0, none⟩) 2 2 [.slice A8 lg c8, .slice A10 lh c10] rfl rfl (fun h => by cases h) (fun ad had q u hq => by (cases had; match q, hq with | 0, hq => (cases hq; exact HZ0.out) | 1, hq => (cases hq; exact HZ1.out))) (fun u hu => by (simp only [List.mem_cons, List.not_mem_nil, or_false] at hu; rcases hu with rfl | rfl <;> rfl)) (by omega) (by simp [maxLen]; omega) ?_))
                      intro v' w' h1 _
                      have h2 : St c (blk gB [.slice (some ⟨gv, 0, none⟩) i cap1, .slice ao2 i cap2] 28 :: row 24 1 (.slice (some ⟨gv, 0, none⟩) i cap1) i vs :: pool 5 P2 :: row 24 1 v' (2 * j + 2) (lv ++ [.slice A8 lg c8, .slice A10 lh c10]) :: mat 24 5 .u8 (.slice ao2 i cap2) ls :: R) w' := (h1.reo 5 [1, 2, 3, 4, 0] (by decide)).drop
                      have HZ := Lib.hid h2
                      clear h1 h2 HA HZ0 HZ1
                      go_wp2_with fail
                      go_roundw
                      case rel =>
                        refine ⟨j + 1, lv ++ [.slice A8 lg c8, .slice A10 lh c10], P2, by go_num, by omega, ?_, fun t ht => HS10.out _ (HS8.out _ (HPV.out t ht)), fun t ht => ?_, fun t => ?_, HZ⟩
                        · show _ = _
                          rw [List.length_append, HLV.out]; rfl
                        · by_cases htj : t < j
                          · obtain ⟨q1, q2⟩ := HPL.out t htj
                            rw [getD_app_l _ _ _ _ (by rw [HLV.out]; omega), getD_app_l _ _ _ _ (by rw [HLV.out]; omega)]
                            exact ⟨HS10.out _ (HS8.out _ q1), HS10.out _ (HS8.out _ q2)⟩
                          · have htj : t = j := by omega
                            subst htj
                            rw [getD_app_r _ _ _ _ (by rw [HLV.out]; omega), getD_app_r _ _ _ _ (by rw [HLV.out]; omega), HLV.out, Nat.sub_self, show 2 * t + 1 - 2 * t = 1 by omega]
                            exact ⟨HS10.out _ HG8.out, HG10.out⟩
                        · by_cases htl : t < lv.length
                          · rw [getD_app_l _ _ _ _ htl]; exact HLN.out t
                          · rw [getD_app_r _ _ _ _ (by omega)]
                            match hq : t - lv.length with
                            | 0 => exact hlgb
                            | 1 => exact hlhb
                            | q + 2 => simp [lenV]
                      case measure => simp [intOf]; omega
            · have hjl : i = j := by omega
              subst hjl
              have hWne : 0 < i → ∃ gW, aoW = some ⟨gW, 0, none⟩ := fun h0 => by
                obtain ⟨g, cap, e, -⟩ := hS.out.rot4.rowAt (by omega)
                simp only [Value.slice.injEq] at e
                exact ⟨g, e.1⟩
              have HWN := Lib.hid hWne
              clear hWne
              go_wp2_with fail
              clear b0
              go_loopw [12] (fun v w' => ∃ t : Nat, v = .int .i64 (t : Nat) ∧ t ≤ i ∧ Hid (St c (blk gB [.slice ao1 i cap1, .slice ao2 i cap2] 28 :: row 24 1 (.slice ao1 i cap1) i vs :: pool 5 P :: row 24 1 (.slice aoW (2 * i) capW) (2 * i) lv :: mat 24 5 .u8 (.slice ao2 i cap2) ls :: R) w')) (fun v _ => i - (intOf v).toNat)
              case atStart => exact ⟨0, rfl, by omega, hS⟩
              case round =>
                clear hS
                obtain ⟨t, rfl, ht, hS⟩ := hrel
                have b0 : wr.cell? ⟨gB, 0, none⟩ = some (.slice ao1 i cap1) := St.cells_mem hS.out mm0 0
                by_cases htl : t < i
                · obtain ⟨gW, rfl⟩ := HWN.out (by omega)
                  obtain ⟨A0, c0, hv0⟩ := HVL.out t htl
                  have hp0 := HPV.out t htl
                  rw [hv0] at hp0
                  obtain ⟨hp1, hp2⟩ := HPL.out t htl
                  have hn1 := HLN.out (2 * t)
                  have hn2 := HLN.out (2 * t + 1)
                  obtain ⟨x1, hx1⟩ : ∃ q, lv.getD (2 * t) (.slice none 0 0) = q := ⟨_, rfl⟩
                  obtain ⟨x2, hx2⟩ : ∃ q, lv.getD (2 * t + 1) (.slice none 0 0) = q := ⟨_, rfl⟩
                  rw [hx1] at hp1 hn1
                  rw [hx2] at hp2 hn2
                  obtain ⟨A1, n1, c1, rfl, -, -, hA1, -⟩ := hS.out.rot3.poolAt hp1
                  obtain ⟨A2, n2, c2, rfl, -, -, hA2, -⟩ := hS.out.rot3.poolAt hp2
                  obtain ⟨n0, hn0⟩ : ∃ q, (ls.getD t []).length = q := ⟨_, rfl⟩
                  have htn : t < ls.length := by rw [HN.out]; exact htl
                  have hn0b : n0 ≤ 268435456 := by rw [← hn0]; exact HL.out _ (by rw [List.getD_eq_getElem?_getD, List.getElem?_eq_getElem htn]; exact List.getElem_mem htn)
                  rw [hn0] at hp0 hv0
                  obtain ⟨gv, cp, e1, -, -, -, -⟩ := hS.out.swap.rowAt (by omega)
                  simp only [Value.slice.injEq] at e1
                  obtain ⟨rfl, -, rfl⟩ := e1
                  have FULL : ∀ (w' : World) (R' : List HP) (A : Option Addr) (nn cc : Nat), (.slice A nn cc, .int .u8 (mk8 t)) ∈ P → nn ≤ 268435600 → St c (pool 5 P :: R') w' → Calls Try.prog 30 #[.slice A nn cc, .int .u8 (mk8 t)] w' fun e w'' => e = .returned (.bool true) ∧ w'' = w' := by
                    intro w' R' A nn cc hm hb h
                    obtain ⟨ao, n3, cap3, e3, -, -, h4, h5⟩ := h.poolAt hm
                    simp only [Value.slice.injEq] at e3
                    obtain ⟨rfl, rfl, rfl⟩ := e3
                    exact full8_ok w' _ _ _ _ (fun h => (h4 h).1) (by omega) h5
                  have HFULL := Lib.hid FULL
                  have HC0 : Hid (∀ (w' : World) (R' : List HP), St c (row 24 1 (.slice (some ⟨gv, 0, none⟩) i cap1) i vs :: R') w' → w'.cell? ⟨gv, t, none⟩ = some (.slice A0 n0 c0)) := by
                    intro w' R' h
                    obtain ⟨g2, cp2, e2, -, -, hc2, -⟩ := h.rowAt (by omega)
                    simp only [Value.slice.injEq, Option.some.injEq, Addr.mk.injEq, and_true, true_and] at e2
                    obtain ⟨rfl, rfl⟩ := e2
                    rw [hc2 t (by omega)]
                    have hlt : t < vs.length := by rw [HVS.out]; exact htl
                    rw [List.getD_eq_getElem?_getD, List.getElem?_eq_getElem hlt] at hv0
                    rw [List.getElem?_eq_getElem hlt]
                    exact congrArg some hv0
                  have HCW : Hid (∀ (w' : World) (R' : List HP), St c (row 24 1 (.slice (some ⟨gW, 0, none⟩) (2 * i) capW) (2 * i) lv :: R') w' → w'.cell? ⟨gW, 2 * t, none⟩ = some (.slice A1 n1 c1) ∧ w'.cell? ⟨gW, 2 * t + 1, none⟩ = some (.slice A2 n2 c2)) := by
                    intro w' R' h
                    obtain ⟨g2, cp2, e2, -, -, hc2, -⟩ := h.rowAt (by omega)
                    simp only [Value.slice.injEq, Option.some.injEq, Addr.mk.injEq, and_true, true_and] at e2
                    obtain ⟨rfl, rfl⟩ := e2
                    rw [hc2 (2 * t) (by omega), hc2 (2 * t + 1) (by omega)]
                    have h1 : 2 * t < lv.length := by rw [HLV.out]; omega
                    have h2 : 2 * t + 1 < lv.length := by rw [HLV.out]; omega
                    rw [List.getD_eq_getElem?_getD, List.getElem?_eq_getElem h1] at hx1
                    rw [List.getD_eq_getElem?_getD, List.getElem?_eq_getElem h2] at hx2
                    rw [List.getElem?_eq_getElem h1, List.getElem?_eq_getElem h2]
                    exact ⟨congrArg some hx1, congrArg some hx2⟩
                  have HP0 := Lib.hid hp0
                  have HP1 := Lib.hid hp1
                  have HP2 := Lib.hid hp2
                  have hb1 : n1 ≤ 268435600 := hn1
                  have hb2 : n2 ≤ 268435600 := hn2
                  obtain ⟨d2, hd2⟩ : ∃ q, 2 * t = q := ⟨_, rfl⟩
                  obtain ⟨d3, hd3⟩ : ∃ q, d2 + 1 = q := ⟨_, rfl⟩
                  rw [hd2, hd3] at HCW
                  have E2 : (2 : Int) * (t : Int) = (d2 : Int) := by omega
                  have E3 : (d2 : Int) + 1 = (d3 : Int) := by omega
                  have t1 : (0 : Int) ≤ (t : Int) := by omega
                  have t2 : (t : Int) < i := by omega
                  have t3 : (0 : Int) ≤ (d2 : Int) := by omega
                  have t4 : (d2 : Int) < 2 * (i : Int) := by omega
                  have t5 : (0 : Int) ≤ (d3 : Int) := by omega
                  have t6 : (d3 : Int) < 2 * (i : Int) := by omega
                  have HWW : Hid (wrap64 (d2 : Int) = (d2 : Int) ∧ wrap64 (d3 : Int) = (d3 : Int)) := ⟨w64k (by omega) (by omega), w64k (by omega) (by omega)⟩
                  have HD1 := Lib.hid hS.out.drew
                  have HD2 := Lib.hid HD1.out.drew
                  have HD3 := Lib.hid HD2.out.drew
                  have HE23 := Lib.hid (And.intro E2 E3)
                  clear hv0 hp0 hp1 hp2 hn1 hn2 hx1 hx2 hA1 hA2 hn0 htn FULL E2 E3 hd2 hd3
                  go_wp2_with fail
                  clear b0
                  have k0 : wr.drew.cell? ⟨gB, 0, none⟩ = some (.slice (some ⟨gv, 0, none⟩) i cap1) := St.cells_mem HD1.out mm0 0
                  have k1 := HC0.out _ _ HD1.out.swap
                  refine start_ (n := 11) (S := fun w' => w'.cell? ⟨gB, 0, none⟩ = some (.slice (some ⟨gv, 0, none⟩) i cap1) ∧ w'.cell? ⟨gv, t, none⟩ = some (.slice A0 n0 c0)) (ds := []) #[false, false, false, false, false, false, false, false, false, false, false] (by kernel_rfl) rfl rfl ⟨k0, k1⟩ (fun hHeld => ?_)
                  refine pu 0 129 #[true, false, false, false, false, false, false, false, false, false, false] ?_
                  refine pu 1 130 #[true, true, false, false, false, false, false, false, false, false, false] ?_
                  refine pu 2 131 #[true, true, true, false, false, false, false, false, false, false, false] ?_
                  refine pu 4 133 #[true, true, true, false, true, false, false, false, false, false, false] ?_
                  refine pu 7 136 #[true, true, true, false, true, false, false, true, false, false, false] ?_
                  refine ta 3 132 #[true, true, true, true, true, false, false, true, false, false, false] hHeld ?_
                  refine pu 5 134 #[true, true, true, true, true, true, false, true, false, false, false] ?_
                  refine ta 6 135 #[true, true, true, true, true, true, true, true, false, false, false] hHeld ?_
                  refine one_ (i := 8) (N := some 137) #[true, true, true, true, true, true, true, true, true, false, false] rfl rfl (by kernel_rfl) (by decide) (fun K hK => ?_)
                  refine goes_ Try.func29 (by kernel_rfl) rfl #[.int .i64 (t : Nat)] (by rfl) rfl rfl (by simp only [List.map_toArray, List.map_cons, List.map_nil]; rfl) ?_
                  with_reducible refine (mark8_ok t _ (by omega)).mono ?_
                  rintro en y1 ⟨rfl, rfl⟩
                  refine ⟨_, rfl, ?_⟩
                  refine hK.out _ _ ⟨k0, k1⟩ (fun hHeld => ?_)
                  clear hK K
                  refine norm_ (a' := ?_) ?_ ?_
                  rotate_left
                  · show Act.put _ (some 137) _ = _
                    simp only [Act.put, List.setIfInBounds_toArray, List.set_cons_zero, List.set_cons_succ, i64_w, i32_w]
                    rfl
                  refine one_ (i := 9) (N := some 138) #[true, true, true, true, true, true, true, true, true, true, false] rfl rfl (by kernel_rfl) (by decide) (fun K hK => ?_)
                  refine goes_ Try.func30 (by kernel_rfl) rfl #[.slice A0 n0 c0, .int .u8 (mk8 t)] (by rfl) rfl rfl (by simp only [List.map_toArray, List.map_cons, List.map_nil]; rfl) ?_
                  with_reducible refine (HFULL.out _ _ _ _ _ HP0.out (by omega) HD1.out.rot3).mono ?_
                  rintro en y2 ⟨rfl, rfl⟩
                  refine ⟨_, rfl, ?_⟩
                  refine hK.out _ _ ⟨k0, k1⟩ (fun hHeld => ?_)
                  clear hK K
                  refine norm_ (a' := ?_) ?_ ?_
                  rotate_left
                  · show Act.put _ (some 138) _ = _
                    simp only [Act.put, List.setIfInBounds_toArray, List.set_cons_zero, List.set_cons_succ, i64_w, i32_w]
                    rfl
                  refine pu 10 13 #[true, true, true, true, true, true, true, true, true, true, true] ?_
                  refine done_ (by kernel_rfl) ?_
                  clear k0 k1 hHeld
                  go_wp2_with fail
                  have hcw := HCW.out _ _ HD2.out.rot4
                  obtain ⟨E2, E3⟩ := HE23.out
                  obtain ⟨W2, W3⟩ := HWW.out
                  refine start_ (n := 9) (S := fun w' => w'.cell? ⟨gW, d2, none⟩ = some (.slice A1 n1 c1) ∧ w'.cell? ⟨gW, d3, none⟩ = some (.slice A2 n2 c2)) (ds := []) #[false, false, false, false, false, false, false, false, false] (by kernel_rfl) rfl rfl ⟨hcw.1, hcw.2⟩ (fun hHeld => ?_)
                  refine pu 0 139 #[true, false, false, false, false, false, false, false, false] ?_
                  refine pu 1 140 #[true, true, false, false, false, false, false, false, false] ?_
                  refine pu 2 141 #[true, true, true, false, false, false, false, false, false] ?_
                  refine pu 3 142 #[true, true, true, true, false, false, false, false, false] ?_
                  refine pu 5 144 #[true, true, true, true, false, true, false, false, false] ?_
                  refine ta 4 143 #[true, true, true, true, true, true, false, false, false] hHeld ?_
                  refine one_ (i := 6) (N := some 145) #[true, true, true, true, true, true, true, false, false] rfl rfl (by kernel_rfl) (by decide) (fun K hK => ?_)
                  refine goes_ Try.func29 (by kernel_rfl) rfl #[.int .i64 (t : Nat)] (by rfl) rfl rfl (by simp only [List.map_toArray, List.map_cons, List.map_nil]; rfl) ?_
                  with_reducible refine (mark8_ok t _ (by omega)).mono ?_
                  rintro en y1 ⟨rfl, rfl⟩
                  refine ⟨_, rfl, ?_⟩
                  refine hK.out _ _ ⟨hcw.1, hcw.2⟩ (fun hHeld => ?_)
                  clear hK K
                  refine norm_ (a' := ?_) ?_ ?_
                  rotate_left
                  · show Act.put _ (some 145) _ = _
                    simp only [Act.put, List.setIfInBounds_toArray, List.set_cons_zero, List.set_cons_succ, i64_w, i32_w]
                    rfl
                  refine one_ (i := 7) (N := some 146) #[true, true, true, true, true, true, true, true, false] rfl rfl (by kernel_rfl) (by decide) (fun K hK => ?_)
                  refine goes_ Try.func30 (by kernel_rfl) rfl #[.slice A1 n1 c1, .int .u8 (mk8 t)] (by rfl) rfl rfl (by simp only [List.map_toArray, List.map_cons, List.map_nil]; rfl) ?_
                  with_reducible refine (HFULL.out _ _ _ _ _ HP1.out hb1 HD2.out.rot3).mono ?_
                  rintro en y2 ⟨rfl, rfl⟩
                  refine ⟨_, rfl, ?_⟩
                  refine hK.out _ _ ⟨hcw.1, hcw.2⟩ (fun hHeld => ?_)
                  clear hK K
                  refine norm_ (a' := ?_) ?_ ?_
                  rotate_left
                  · show Act.put _ (some 146) _ = _
                    simp only [Act.put, List.setIfInBounds_toArray, List.set_cons_zero, List.set_cons_succ, i64_w, i32_w]
                    rfl
                  refine pu 8 14 #[true, true, true, true, true, true, true, true, true] ?_
                  refine done_ (by kernel_rfl) ?_
                  clear hcw E2 E3 W2 W3 hHeld
                  go_wp2_with fail
                  have hcw := HCW.out _ _ HD3.out.rot4
                  obtain ⟨E2, E3⟩ := HE23.out
                  obtain ⟨W2, W3⟩ := HWW.out
                  refine start_ (n := 10) (S := fun w' => w'.cell? ⟨gW, d2, none⟩ = some (.slice A1 n1 c1) ∧ w'.cell? ⟨gW, d3, none⟩ = some (.slice A2 n2 c2)) (ds := []) #[false, false, false, false, false, false, false, false, false, false] (by kernel_rfl) rfl rfl ⟨hcw.1, hcw.2⟩ (fun hHeld => ?_)
                  refine pu 0 147 #[true, false, false, false, false, false, false, false, false, false] ?_
                  refine pu 1 148 #[true, true, false, false, false, false, false, false, false, false] ?_
                  refine pu 2 149 #[true, true, true, false, false, false, false, false, false, false] ?_
                  refine pu 3 150 #[true, true, true, true, false, false, false, false, false, false] ?_
                  refine pu 4 151 #[true, true, true, true, true, false, false, false, false, false] ?_
                  refine pu 6 153 #[true, true, true, true, true, false, true, false, false, false] ?_
                  refine ta 5 152 #[true, true, true, true, true, true, true, false, false, false] hHeld ?_
                  refine one_ (i := 7) (N := some 154) #[true, true, true, true, true, true, true, true, false, false] rfl rfl (by kernel_rfl) (by decide) (fun K hK => ?_)
                  refine goes_ Try.func29 (by kernel_rfl) rfl #[.int .i64 (t : Nat)] (by rfl) rfl rfl (by simp only [List.map_toArray, List.map_cons, List.map_nil]; rfl) ?_
                  with_reducible refine (mark8_ok t _ (by omega)).mono ?_
                  rintro en y1 ⟨rfl, rfl⟩
                  refine ⟨_, rfl, ?_⟩
                  refine hK.out _ _ ⟨hcw.1, hcw.2⟩ (fun hHeld => ?_)
                  clear hK K
                  refine norm_ (a' := ?_) ?_ ?_
                  rotate_left
                  · show Act.put _ (some 154) _ = _
                    simp only [Act.put, List.setIfInBounds_toArray, List.set_cons_zero, List.set_cons_succ, i64_w, i32_w]
                    rfl
                  refine one_ (i := 8) (N := some 155) #[true, true, true, true, true, true, true, true, true, false] rfl rfl (by kernel_rfl) (by decide) (fun K hK => ?_)
                  refine goes_ Try.func30 (by kernel_rfl) rfl #[.slice A2 n2 c2, .int .u8 (mk8 t)] (by rfl) rfl rfl (by simp only [List.map_toArray, List.map_cons, List.map_nil]; rfl) ?_
                  with_reducible refine (HFULL.out _ _ _ _ _ HP2.out hb2 HD3.out.rot3).mono ?_
                  rintro en y2 ⟨rfl, rfl⟩
                  refine ⟨_, rfl, ?_⟩
                  refine hK.out _ _ ⟨hcw.1, hcw.2⟩ (fun hHeld => ?_)
                  clear hK K
                  refine norm_ (a' := ?_) ?_ ?_
                  rotate_left
                  · show Act.put _ (some 155) _ = _
                    simp only [Act.put, List.setIfInBounds_toArray, List.set_cons_zero, List.set_cons_succ, i64_w, i32_w]
                    rfl
                  refine pu 9 15 #[true, true, true, true, true, true, true, true, true, true] ?_
                  refine done_ (by kernel_rfl) ?_
                  clear hcw E2 E3 W2 W3 hHeld
                  go_wp2_with fail
                  go_roundw
                  case rel => exact ⟨t + 1, by go_num, by omega, HD3⟩
                  case measure => simp [intOf]; omega
                · have htl : t = i := by omega
                  subst htl
                  have b1 : wr.cell? ⟨gB, 1, none⟩ = some (.slice ao2 t cap2) := St.cells_mem hS.out mm0 1
                  have f0 := hS.out.frozen 0
                  have f1 := hS.out.frozen 1
                  have hF := ((((hS.out.setCell 0 (.slice none 0 0)).setCell 1 (.slice none 0 0)).reo 5 [1, 2, 3, 4, 0] (by decide)).drop.drop.drop.drop).book8New
                  have HF := Lib.hid hF
                  clear hS hF
                  go_wp2_with fail
                  go_ret
                  exact ⟨rfl, HF.out⟩
end Go.Proofs.Ythpkdephkhcgmaa
