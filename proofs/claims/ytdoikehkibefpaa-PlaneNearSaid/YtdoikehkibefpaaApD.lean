import Derived.Test.YtdoikehkibefpaaPPbx6
import Derived.Test.YtdoikehkibefpaaPPbx9
import Derived.Test.YtdoikehkibefpaaApC
import Derived.Test.YtdoikehkibefpaaApB
/-! The reference's Error -/
namespace Go.Proofs.Ytdoikehkibefpaa
set_option linter.unusedSimpArgs false
set_option linter.unusedVariables false
open Go Go.RowKit Go.Proofs.Ytdoikehkibefpaa.PPb Go.Proofs.YtdoikehkibefpaaW.PrintWords Go.Proofs.YtdoikehkibefpaaW.PrintLast

section
variable (w : World) (W H D : Int) (A : Bool) (A0 : Option Addr) (n : Nat) (l : List (List Int)) (W2 H2 D2 : Int) (A2 : Bool) (B0 : Option Addr) (n2 : Nat) (m : List (List Int)) (p : Int) (hC : Kd.C (Kd.slice 72 (Kd.int .u16)) w A0 l.length l) (hn : l.length ≤ n) (hC2 : Kd.C (Kd.slice 72 (Kd.int .u16)) w B0 m.length m) (hn2 : m.length ≤ n2) (hs : smp l) (hm : smp m) (hl : ∀ x ∈ l, x.length * 2 ≤ 140737488351232) (hl2 : ∀ x ∈ m, x.length * 2 ≤ 140737488351232)
include hC hn hC2 hn2 hs hm hl hl2
set_option maxHeartbeats 8000000 in
set_option maxRecDepth 100000 in
theorem rerror_ok : Calls Try.prog 77 #[.agg #[.int .i64 W, .int .i64 H, .int .i64 D, .bool A, .slice A0 l.length n], .agg #[.int .i64 W2, .int .i64 H2, .int .i64 D2, .bool A2, .slice B0 m.length n2], .int .i64 p] w (erPost w (errF W H D A l W2 H2 D2 A2 m p)) := by
  obtain ⟨ev, hev⟩ : ∃ q, pairF W H D A l W2 H2 D2 A2 m = q := ⟨_, rfl⟩
  have CP := Lib.hid (fun (w : World) h1 h2 h3 h4 => dailiesref06_both.calls (0 + 140737488355328 + 14) W H D A A0 n l W2 H2 D2 A2 B0 n2 m ev w h1 h2 h3 h4 (by rw [both_f W H D W2 H2 D2 A A2 l m hs hm (fun x hx => by have := hl x hx; omega) (fun x hx => by have := hl2 x hx; omega), hev]))
  have CT := Lib.hid (fun (r : Bool) (hr : decide (0 ≤ p ∧ p < plN A) = r) (w : World) => dailiesref06_there.calls W H D A p r w (by rw [rthere_d, hr]))
  have HS := Lib.hid (((St.top w).alloc' rfl [.int .i64 W, .int .i64 H, .int .i64 D, .bool A, .slice A0 l.length n] 39).alloc' (n := w.heap.size + 1) (by simp) [.int .i64 W2, .int .i64 H2, .int .i64 D2, .bool A2, .slice B0 m.length n2] 39)
  have HC := Lib.hid (Kd.C_below hC HS.out.below)
  have HC2 := Lib.hid (Kd.C_below hC2 HS.out.below)
  have HC0 := Lib.hid hC
  have HC20 := Lib.hid hC2
  have HS0 := Lib.hid hs
  have HM0 := Lib.hid hm
  have HEV := Lib.hid hev
  have hM := hl
  have hM2 := hl2
  clear hM hM2
  clear hC hC2 hl hl2 hev hs hm
  go_enter Try.func77, Try.ntmps77
  obtain ⟨x0, x1, x2, x3, x4⟩ := HS.out.cells5 mm1
  obtain ⟨y0, y1, y2, y3, y4⟩ := HS.out.cells5 mm0
  go_wp2_with fail
  refine (CP.out _ HC.out hn HC2.out hn2).mono ?_
  rintro en w1 ⟨rfl, hb⟩
  have H1 := Lib.hid (HS.out.of_below hb)
  clear HS HC HC2 CP hb x0 x1 x2 x3 x4 y0 y1 y2 y3 y4
  by_cases hz : ev = 0
  · subst hz
    obtain ⟨hok, hok2, rfl, rfl, rfl, rfl⟩ := pairF_zero HEV.out
    obtain ⟨x0, x1, x2, x3, x4⟩ := H1.out.cells5 mm1
    by_cases hp : 0 ≤ p ∧ p < plN A
    · obtain ⟨pn, rfl⟩ : ∃ k : Nat, p = k := ⟨p.toNat, by omega⟩
      have hpl : pn < l.length := by have := hok.len; omega
      have hpl2 : pn < m.length := by have := hok2.len; omega
      obtain ⟨hr1, hr2, hr3⟩ : (m.getD pn []).length = (l.getD pn []).length ∧ 0 < (l.getD pn []).length ∧ (l.getD pn []).length ≤ 16777216 := by
        have h1 := rows_at hok.rows hok.shape.1 hok.shape.2.1 pn hpl
        have h2 := rows_at hok2.rows hok.shape.1 hok.shape.2.1 pn hpl2
        have h3 := wd_bd (p := (pn : Int)) hok.shape.1.1 hok.shape.1.2
        have hH := hok.shape.2.1
        refine ⟨by rw [h1, h2], by rw [h1]; exact Nat.mul_pos (by omega) (by omega), ?_⟩
        rw [h1]
        exact Nat.le_trans (Nat.mul_le_mul (show (wd W pn).toNat ≤ 4096 by omega) (show H.toNat ≤ 4096 by omega)) (by decide)
      have hF : errF W H D A l W H D A m (pn : Int) = (quoF (sqK (l.getD pn []) (m.getD pn []) (l.getD pn []).length) (l.getD pn []).length, 0) := by unfold errF; rw [HEV.out, if_pos rfl, if_pos hp, Int.toNat_natCast]
      obtain ⟨b1, o1, A1, c1, rfl, hc1, hle1, hC1⟩ := C_rowAt HC0.out pn hpl
      obtain ⟨b2, o2, A3, c2, rfl, hc2, hle2, hC3⟩ := C_rowAt HC20.out pn hpl2
      obtain ⟨X, hX⟩ : ∃ q, l.getD pn [] = q := ⟨_, rfl⟩
      obtain ⟨Y, hY⟩ : ∃ q, m.getD pn [] = q := ⟨_, rfl⟩
      have hXin : rowIn X := by rw [← hX]; exact HS0.out _ (getD_mem [] l pn hpl)
      have hYin : rowIn Y := by rw [← hY]; exact HM0.out _ (getD_mem [] m pn hpl2)
      rw [hX, hY] at hr1 hF
      rw [hX] at hr2 hr3 hc1 hle1 hC1
      rw [hY] at hc2 hle2 hC3
      obtain ⟨e1, q1, rfl, hd1⟩ := C_reads hC1 hr2
      obtain ⟨e2, q2, rfl, hd2⟩ := C_reads hC3 (by omega)
      rw [hr1] at hc2
      obtain ⟨nX, hnX⟩ : ∃ q, X.length = q := ⟨_, rfl⟩
      rw [hnX] at hr2 hr3 hF hc1 hc2
      have hsq := sqK_bd hXin hYin nX
      have HXI := Lib.hid hXin
      have HYI := Lib.hid hYin
      have HC1 := Lib.hid hc1
      have HC2 := Lib.hid hc2
      have HD1 := Lib.hid hd1
      have HD2 := Lib.hid hd2
      have HR1 := Lib.hid (hr1.trans hnX)
      have HNX := Lib.hid hnX
      have HF := Lib.hid hF
      have HT1 := Lib.hid (CT.out true (decide_eq_true hp))
      have t1 : (0 : Int) ≤ (pn : Int) := by omega
      have t2 : (pn : Int) < l.length := by omega
      have t5 : (pn : Int) < m.length := by omega
      obtain ⟨hq1, hq2⟩ := quoF_ok (sqK X Y nX) nX hsq.1 hr2 hr3
      have HQ := Lib.hid hq1
      clear hX hY hXin hYin hc1 hc2 hd1 hd2 hr1 hC1 hC3 hle1 hle2 hnX hok hok2 hp hF hq1 hq2 CT hpl2
      go_wp2_with fail
      refine (HT1.out _).mono ?_
      rintro en w2 ⟨rfl, hb⟩
      have H2 := Lib.hid (H1.out.of_below hb)
      clear H1 hb x0 x1 x2 x3 x4
      have x4 : w2.cell? ⟨w.heap.size, 4, none⟩ = some (.slice (some ⟨b1, o1, none⟩) l.length n) := St.cells_mem H2.out mm1 4
      go_wp2_with fail
      clear x4
      go_loopw [10, 11] (fun s v w' => ∃ k : Nat, v = .int .i64 (k : Nat) ∧ k ≤ nX ∧ s = .int .i64 (sqK X Y k) ∧ Hid (St (top w) (blk (w.heap.size + 1) [.int .i64 W, .int .i64 H, .int .i64 D, .bool A, .slice (some ⟨b2, o2, none⟩) m.length n2] 39 :: blk w.heap.size [.int .i64 W, .int .i64 H, .int .i64 D, .bool A, .slice (some ⟨b1, o1, none⟩) l.length n] 39 :: []) w')) (fun _ v _ => nX - (intOf v).toNat)
      case atStart => exact ⟨0, rfl, by omega, rfl, H2⟩
      case round =>
        clear H2
        obtain ⟨k, rfl, hk, rfl, hT0⟩ := hrel
        have z4 : wr.cell? ⟨w.heap.size, 4, none⟩ = some (.slice (some ⟨b1, o1, none⟩) l.length n) := St.cells_mem hT0.out mm1 4
        have zcc := top_cell hT0.out HC1.out
        by_cases hkl : k < nX
        · have hT := Lib.hid hT0.out.drew
          have x4 : wr.drew.cell? ⟨w.heap.size, 4, none⟩ = some (.slice (some ⟨b1, o1, none⟩) l.length n) := St.cells_mem hT.out mm1 4
          have y4 : wr.drew.cell? ⟨w.heap.size + 1, 4, none⟩ = some (.slice (some ⟨b2, o2, none⟩) m.length n2) := St.cells_mem hT.out mm0 4
          have hcc := top_cell hT.out HC1.out
          have hcc2 := top_cell hT.out HC2.out
          have hu := top_cell hT.out (HD1.out k (by rw [HNX.out]; exact hkl))
          have hv := top_cell hT.out (HD2.out k (by rw [HR1.out]; exact hkl))
          have bu := rowIn_at HXI.out k
          have bv := rowIn_at HYI.out k
          have bs := sqK_bd HXI.out HYI.out k
          have bs2 := sqK_bd HXI.out HYI.out (k + 1)
          have hsn : sqK X Y (k + 1) = sqK X Y k + adf (X.getD k 0) (Y.getD k 0) * adf (X.getD k 0) (Y.getD k 0) := rfl
          obtain ⟨s, hs1⟩ : ∃ q, sqK X Y k = q := ⟨_, rfl⟩
          obtain ⟨s2, hs2⟩ : ∃ q, sqK X Y (k + 1) = q := ⟨_, rfl⟩
          rw [hs1] at bs
          rw [hs2] at bs2
          rw [hs1, hs2] at hsn
          rw [hs1]
          obtain ⟨u, hu1⟩ : ∃ q, X.getD k 0 = q := ⟨_, rfl⟩
          obtain ⟨v, hv1⟩ : ∃ q, Y.getD k 0 = q := ⟨_, rfl⟩
          rw [hu1] at hu bu hsn
          rw [hv1] at hv bv hsn
          have ha := adf_bd bu bv
          obtain ⟨d, hd⟩ : ∃ q, adf u v = q := ⟨_, rfl⟩
          rw [hd] at hsn ha
          obtain ⟨dd, hdd⟩ : ∃ q, d * d = q := ⟨_, rfl⟩
          have bdd : 0 ≤ dd ∧ dd ≤ 4294836225 := by
            rw [← hdd]
            exact mul_bd ha.1 ha.2 ha.1 ha.2
          rw [hdd] at hsn
          have HWW : Hid (wrap64 dd = dd ∧ wrap64 s2 = s2) := ⟨w64 (by omega) (by omega), w64 (by omega) (by omega)⟩
          have HS2 := Lib.hid hs2
          have HD := Lib.hid hd
          have t3 : (0 : Int) ≤ (k : Int) := by omega
          have t4 : (k : Int) < nX := by omega
          have HSS := Lib.hid hsn
          have HDD := Lib.hid hdd
          clear hT0 hu1 hv1 hs1 hs2 hsn bs bs2 bdd hd hdd
          go_wp2_with fail
          clear z4 zcc
          refine start_ (n := 18) (S := fun w' => w'.cell? ⟨w.heap.size, 4, none⟩ = some (.slice (some ⟨b1, o1, none⟩) l.length n) ∧ w'.cell? ⟨b1, o1 + pn, none⟩ = some (.slice (some ⟨e1, q1, none⟩) nX c1) ∧ w'.cell? ⟨e1, q1 + k, none⟩ = some (.int .u16 u) ∧ w'.cell? ⟨w.heap.size + 1, 4, none⟩ = some (.slice (some ⟨b2, o2, none⟩) m.length n2) ∧ w'.cell? ⟨b2, o2 + pn, none⟩ = some (.slice (some ⟨e2, q2, none⟩) nX c2) ∧ w'.cell? ⟨e2, q2 + k, none⟩ = some (.int .u16 v)) (ds := []) #[false, false, false, false, false, false, false, false, false, false, false, false, false, false, false, false, false, false] (by kernel_rfl) rfl rfl ⟨x4, hcc, hu, y4, hcc2, hv⟩ (fun hHeld => ?_)
          refine pu 0 35 #[true, false, false, false, false, false, false, false, false, false, false, false, false, false, false, false, false, false] ?_
          refine pu 2 37 #[true, false, true, false, false, false, false, false, false, false, false, false, false, false, false, false, false, false] ?_
          refine pu 5 40 #[true, false, true, false, false, true, false, false, false, false, false, false, false, false, false, false, false, false] ?_
          refine pu 8 43 #[true, false, true, false, false, true, false, false, true, false, false, false, false, false, false, false, false, false] ?_
          refine pu 10 45 #[true, false, true, false, false, true, false, false, true, false, true, false, false, false, false, false, false, false] ?_
          refine pu 13 48 #[true, false, true, false, false, true, false, false, true, false, true, false, false, true, false, false, false, false] ?_
          refine ta 1 36 #[true, true, true, false, false, true, false, false, true, false, true, false, false, true, false, false, false, false] hHeld ?_
          refine pu 3 38 #[true, true, true, true, false, true, false, false, true, false, true, false, false, true, false, false, false, false] ?_
          refine ta 4 39 #[true, true, true, true, true, true, false, false, true, false, true, false, false, true, false, false, false, false] hHeld ?_
          refine pu 6 41 #[true, true, true, true, true, true, true, false, true, false, true, false, false, true, false, false, false, false] ?_
          refine ta 7 42 #[true, true, true, true, true, true, true, true, true, false, true, false, false, true, false, false, false, false] hHeld ?_
          refine ta 9 44 #[true, true, true, true, true, true, true, true, true, true, true, false, false, true, false, false, false, false] hHeld ?_
          refine pu 11 46 #[true, true, true, true, true, true, true, true, true, true, true, true, false, true, false, false, false, false] ?_
          refine ta 12 47 #[true, true, true, true, true, true, true, true, true, true, true, true, true, true, false, false, false, false] hHeld ?_
          refine pu 14 49 #[true, true, true, true, true, true, true, true, true, true, true, true, true, true, true, false, false, false] ?_
          refine ta 15 50 #[true, true, true, true, true, true, true, true, true, true, true, true, true, true, true, true, false, false] hHeld ?_
          refine one_ (i := 16) (N := some 51) #[true, true, true, true, true, true, true, true, true, true, true, true, true, true, true, true, true, false] rfl rfl (by kernel_rfl) (by decide) (fun K hK => ?_)
          refine goes_ Try.func84 (by kernel_rfl) rfl #[.int .u16 u, .int .u16 v] (by rfl) rfl rfl (by simp only [List.map_toArray, List.map_cons, List.map_nil]; rfl) ?_
          with_reducible refine (rfar_ok u v _ bu bv).mono ?_
          rintro en x1 ⟨rfl, rfl⟩
          refine ⟨_, rfl, ?_⟩
          refine hK.out _ _ ⟨x4, hcc, hu, y4, hcc2, hv⟩ (fun hHeld => ?_)
          clear hK K
          refine norm_ (a' := ?_) ?_ ?_
          rotate_left
          · show Act.put _ (some 51) _ = _
            simp only [Act.put, List.setIfInBounds_toArray, List.set_cons_zero, List.set_cons_succ, i64_w, i32_w]
            rfl
          refine pu 17 12 #[true, true, true, true, true, true, true, true, true, true, true, true, true, true, true, true, true, true] ?_
          refine done_ (by kernel_rfl) ?_
          clear x4 hcc hu y4 hcc2 hv hHeld
          rw [HD.out]
          obtain ⟨W1, W2⟩ := HWW.out
          have hss := HSS.out.symm
          have hdd := HDD.out
          go_wp2_with fail
          clear W1 W2 hss hdd
          go_roundw
          case rel => exact ⟨k + 1, by go_num, by omega, by rw [HS2.out, HWW.out.2], hT⟩
          case measure => simp [intOf]; omega
        · have hkl : k = nX := by omega
          subst hkl
          obtain ⟨sq, hsq2⟩ : ∃ q, sqK X Y k = q := ⟨_, rfl⟩
          have hq3 := HQ.out
          rw [hsq2] at hq3
          rw [hsq2]
          obtain ⟨qq, hqq⟩ : ∃ q, quoF sq k = q := ⟨_, rfl⟩
          rw [hqq] at hq3
          have HF2 := HF.out
          rw [hsq2, hqq] at HF2
          have HF3 := Lib.hid HF2
          have hqr : (binOp .quo 86 (.float .f64 (floatOfInt .f64 sq)) (.float .f64 (floatOfInt .f64 (k : Int)))).run Try.prog wr = .ok (.float .f64 qq) wr := run_float_arith (P := Try.prog) wr .quo 86 .f64 _ _ qq hq3
          clear hsq2 hqq HF2 HF hq3
          go_wp2_with fail
          go_ret2
          exact ⟨by rw [HF3.out]; rfl, hT0.out.below⟩
    · have HT1 := Lib.hid (CT.out false (decide_eq_false hp))
      have HF : Hid (errF W H D A l W H D A m p = (0, 65)) := by show _ = _; unfold errF; rw [HEV.out, if_pos rfl, if_neg hp]
      clear hok hok2 CT hp
      go_wp2_with fail
      refine (HT1.out _).mono ?_
      rintro en w2 ⟨rfl, hb⟩
      have H2 := Lib.hid (H1.out.of_below hb)
      clear H1 hb x0 x1 x2 x3 x4
      go_wp2_with fail
      go_ret2
      exact ⟨by rw [HF.out]; rfl, H2.out.below⟩
  · have hne : (ev != 0) = true := by simpa using hz
    have HF : Hid (errF W H D A l W2 H2 D2 A2 m p = (0, ev)) := by show _ = _; unfold errF; rw [HEV.out, if_neg hz]
    go_wp2_with fail
    go_ret2
    exact ⟨by rw [HF.out]; rfl, H1.out.below⟩
end
end Go.Proofs.Ytdoikehkibefpaa
