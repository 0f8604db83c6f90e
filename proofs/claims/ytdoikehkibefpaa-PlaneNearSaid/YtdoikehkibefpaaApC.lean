import Derived.Test.YtdoikehkibefpaaPPbx6
import Derived.Test.YtdoikehkibefpaaPPbx8
import Derived.Test.YtdoikehkibefpaaApA
/-! plane.Error -/
namespace Go.Proofs.Ytdoikehkibefpaa
set_option linter.unusedSimpArgs false
set_option linter.unusedVariables false
open Go Go.RowKit Go.Proofs.Ytdoikehkibefpaa.PPb Go.Proofs.YtdoikehkibefpaaW.PrintWords Go.Proofs.YtdoikehkibefpaaW.PrintLast

/-- Error's answer. -/
def erPost (w : World) (F : Nat × Int) (e : Ending) (w' : World) : Prop := e = .returned (.tuple #[.float .f64 F.1, .int .i64 F.2]) ∧ Below w.heap.size w w'
theorem ret_er {a a' : Nat} {b b' : Int} (h1 : a = a') (h2 : b = b') : Ending.returned (.tuple #[.float .f64 a, .int .i64 b]) = .returned (.tuple #[.float .f64 a', .int .i64 b']) := by rw [h1, h2]

section
variable (w : World) (W H D : Int) (A : Bool) (A0 : Option Addr) (n : Nat) (l : List (List Int)) (W2 H2 D2 : Int) (A2 : Bool) (B0 : Option Addr) (n2 : Nat) (m : List (List Int)) (p : Int) (hC : Kd.C (Kd.slice 72 (Kd.int .u16)) w A0 l.length l) (hn : l.length ≤ n) (hC2 : Kd.C (Kd.slice 72 (Kd.int .u16)) w B0 m.length m) (hn2 : m.length ≤ n2) (hs : smp l) (hm : smp m) (hl : ∀ x ∈ l, x.length * 2 ≤ 140737488351232) (hl2 : ∀ x ∈ m, x.length * 2 ≤ 140737488351232)
include hC hn hC2 hn2 hs hm hl hl2
set_option maxHeartbeats 8000000 in
set_option maxRecDepth 100000 in
theorem perror_ok : Calls Try.prog 50 #[.agg #[.int .i64 W, .int .i64 H, .int .i64 D, .bool A, .slice A0 l.length n], .agg #[.int .i64 W2, .int .i64 H2, .int .i64 D2, .bool A2, .slice B0 m.length n2], .int .i64 p] w (erPost w (errF W H D A l W2 H2 D2 A2 m p)) := by
  obtain ⟨ev, hev⟩ : ∃ q, pairF W H D A l W2 H2 D2 A2 m = q := ⟨_, rfl⟩
  have CP := Lib.hid (fun (w : World) h1 h2 h3 h4 => plane_pair.calls (0 + 12) W H D A A0 n l W2 H2 D2 A2 B0 n2 m ev w h1 h2 h3 h4 (by rw [pair_f W H D W2 H2 D2 A A2 l m hs hm, hev]))
  have CT := Lib.hid (fun (r : Bool) (hr : decide (0 ≤ p ∧ p < plN A) = r) (w : World) => plane_there.calls W H D A p r w (by rw [there_f, hr]))
  have HS := Lib.hid (((St.top w).alloc' rfl [.int .i64 W, .int .i64 H, .int .i64 D, .bool A, .slice A0 l.length n] 39).alloc' (n := w.heap.size + 1) (by simp) [.int .i64 W2, .int .i64 H2, .int .i64 D2, .bool A2, .slice B0 m.length n2] 39)
  have HC := Lib.hid (Kd.C_below hC HS.out.below)
  have HC2 := Lib.hid (Kd.C_below hC2 HS.out.below)
  have HC0 := Lib.hid hC
  have HC20 := Lib.hid hC2
  have HS0 := Lib.hid hs
  have HM0 := Lib.hid hm
  have HEV := Lib.hid hev
  have hM := hl
  have hM2 := hl2
  clear hM hM2
  clear hC hC2 hl hl2 hev hs hm
  go_enter Try.func50, Try.ntmps50
  obtain ⟨x0, x1, x2, x3, x4⟩ := HS.out.cells5 mm1
  obtain ⟨y0, y1, y2, y3, y4⟩ := HS.out.cells5 mm0
  go_wp2_with fail
  refine (CP.out _ HC.out hn HC2.out hn2).mono ?_
  rintro en w1 ⟨rfl, hb⟩
  have H1 := Lib.hid (HS.out.of_below hb)
  clear HS HC HC2 CP hb x0 x1 x2 x3 x4 y0 y1 y2 y3 y4
  by_cases hz : ev = 0
  · subst hz
    obtain ⟨hok, hok2, rfl, rfl, rfl, rfl⟩ := pairF_zero HEV.out
    obtain ⟨x0, x1, x2, x3, x4⟩ := H1.out.cells5 mm1
    by_cases hp : 0 ≤ p ∧ p < plN A
    · obtain ⟨pn, rfl⟩ : ∃ k : Nat, p = k := ⟨p.toNat, by omega⟩
      have hpl : pn < l.length := by have := hok.len; omega
      have hpl2 : pn < m.length := by have := hok2.len; omega
      obtain ⟨hr1, hr2, hr3⟩ : (m.getD pn []).length = (l.getD pn []).length ∧ 0 < (l.getD pn []).length ∧ (l.getD pn []).length ≤ 16777216 := by
        have h1 := rows_at hok.rows hok.shape.1 hok.shape.2.1 pn hpl
        have h2 := rows_at hok2.rows hok.shape.1 hok.shape.2.1 pn hpl2
        have h3 := wd_bd (p := (pn : Int)) hok.shape.1.1 hok.shape.1.2
        have hH := hok.shape.2.1
        refine ⟨by rw [h1, h2], by rw [h1]; exact Nat.mul_pos (by omega) (by omega), ?_⟩
        rw [h1]
        exact Nat.le_trans (Nat.mul_le_mul (show (wd W pn).toNat ≤ 4096 by omega) (show H.toNat ≤ 4096 by omega)) (by decide)
      have hF : errF W H D A l W H D A m (pn : Int) = (quoF (sqK (l.getD pn []) (m.getD pn []) (l.getD pn []).length) (l.getD pn []).length, 0) := by unfold errF; rw [HEV.out, if_pos rfl, if_pos hp, Int.toNat_natCast]
      obtain ⟨b1, o1, A1, c1, rfl, hc1, hle1, hC1⟩ := C_rowAt HC0.out pn hpl
      obtain ⟨b2, o2, A3, c2, rfl, hc2, hle2, hC3⟩ := C_rowAt HC20.out pn hpl2
      obtain ⟨X, hX⟩ : ∃ q, l.getD pn [] = q := ⟨_, rfl⟩
      obtain ⟨Y, hY⟩ : ∃ q, m.getD pn [] = q := ⟨_, rfl⟩
      have hXin : rowIn X := by rw [← hX]; exact HS0.out _ (getD_mem [] l pn hpl)
      have hYin : rowIn Y := by rw [← hY]; exact HM0.out _ (getD_mem [] m pn hpl2)
      rw [hX, hY] at hr1 hF
      rw [hX] at hr2 hr3 hc1 hle1 hC1
      rw [hY] at hc2 hle2 hC3
      obtain ⟨e1, q1, rfl, hd1⟩ := C_reads hC1 hr2
      obtain ⟨e2, q2, rfl, hd2⟩ := C_reads hC3 (by omega)
      rw [hr1] at hc2
      obtain ⟨nX, hnX⟩ : ∃ q, X.length = q := ⟨_, rfl⟩
      rw [hnX] at hr2 hr3 hF hc1 hc2
      have hsq := sqK_bd hXin hYin nX
      have HXI := Lib.hid hXin
      have HYI := Lib.hid hYin
      have HC1 := Lib.hid hc1
      have HC2 := Lib.hid hc2
      have HD1 := Lib.hid hd1
      have HD2 := Lib.hid hd2
      have HR1 := Lib.hid (hr1.trans hnX)
      have HNX := Lib.hid hnX
      have HF := Lib.hid hF
      have HT1 := Lib.hid (CT.out true (decide_eq_true hp))
      have t1 : (0 : Int) ≤ (pn : Int) := by omega
      have t2 : (pn : Int) < l.length := by omega
      have t5 : (pn : Int) < m.length := by omega
      obtain ⟨hq1, hq2⟩ := quoF_ok (sqK X Y nX) nX hsq.1 hr2 hr3
      have HQ := Lib.hid hq1
      clear hX hY hXin hYin hc1 hc2 hd1 hd2 hr1 hC1 hC3 hle1 hle2 hnX hok hok2 hp hF hq1 hq2 CT hpl2
      go_wp2_with fail
      refine (HT1.out _).mono ?_
      rintro en w2 ⟨rfl, hb⟩
      have H2 := Lib.hid (H1.out.of_below hb)
      clear H1 hb x0 x1 x2 x3 x4
      have x4 : w2.cell? ⟨w.heap.size, 4, none⟩ = some (.slice (some ⟨b1, o1, none⟩) l.length n) := St.cells_mem H2.out mm1 4
      have y4 : w2.cell? ⟨w.heap.size + 1, 4, none⟩ = some (.slice (some ⟨b2, o2, none⟩) m.length n2) := St.cells_mem H2.out mm0 4
      have hcc := top_cell H2.out HC1.out
      have hcc2 := top_cell H2.out HC2.out
      go_wp2_with fail
      go_loop [9, 30] (fun s v => ∃ k : Nat, v = .int .i64 (k : Nat) ∧ k ≤ nX ∧ s = .int .i64 (sqK X Y k)) (fun _ v => nX - (intOf v).toNat)
      case atStart => exact ⟨0, rfl, by omega, rfl⟩
      case round =>
        obtain ⟨k, rfl, hk, rfl⟩ := hrel
        by_cases hkl : k < nX
        · have hu := top_cell H2.out (HD1.out k (by rw [HNX.out]; exact hkl))
          have hv := top_cell H2.out (HD2.out k (by rw [HR1.out]; exact hkl))
          have bu := rowIn_at HXI.out k
          have bv := rowIn_at HYI.out k
          have bs := sqK_bd HXI.out HYI.out k
          have bs2 := sqK_bd HXI.out HYI.out (k + 1)
          have hsn : sqK X Y (k + 1) = sqK X Y k + adf (X.getD k 0) (Y.getD k 0) * adf (X.getD k 0) (Y.getD k 0) := rfl
          rw [← adf_sq] at hsn
          obtain ⟨s, hs1⟩ : ∃ q, sqK X Y k = q := ⟨_, rfl⟩
          obtain ⟨s2, hs2⟩ : ∃ q, sqK X Y (k + 1) = q := ⟨_, rfl⟩
          rw [hs1] at bs
          rw [hs2] at bs2
          rw [hs1, hs2] at hsn
          rw [hs1]
          obtain ⟨u, hu1⟩ : ∃ q, X.getD k 0 = q := ⟨_, rfl⟩
          obtain ⟨v, hv1⟩ : ∃ q, Y.getD k 0 = q := ⟨_, rfl⟩
          rw [hu1] at hu bu hsn
          rw [hv1] at hv bv hsn
          obtain ⟨d, hd⟩ : ∃ q, u - v = q := ⟨_, rfl⟩
          rw [hd] at hsn
          obtain ⟨dd, hdd⟩ : ∃ q, d * d = q := ⟨_, rfl⟩
          rw [hdd] at hsn
          have bd1 : -65535 ≤ d := by omega
          have bd2 : d ≤ 65535 := by omega
          have bdd : 0 ≤ dd ∧ dd ≤ 4294836225 := by
            have ha := adf_bd bu bv
            rw [← hdd, ← hd, adf_sq]
            exact mul_bd ha.1 ha.2 ha.1 ha.2
          have HWW : Hid (wrap64 dd = dd ∧ wrap64 s2 = s2) := ⟨w64 (by omega) (by omega), w64 (by omega) (by omega)⟩
          have HS2 := Lib.hid hs2
          have t3 : (0 : Int) ≤ (k : Int) := by omega
          have t4 : (k : Int) < nX := by omega
          have hss : s + dd = s2 := hsn.symm
          clear hu1 hv1 hs1 hs2 hsn bs bs2 bdd
          obtain ⟨W1, W2⟩ := HWW.out
          go_wp2_with fail
          clear W1 W2 hss hdd hd
          go_round
          case rel => exact ⟨k + 1, by go_num, by omega, by rw [HS2.out, HWW.out.2]⟩
          case measure => simp [intOf]; omega
        · have hkl : k = nX := by omega
          subst hkl
          obtain ⟨sq, hsq2⟩ : ∃ q, sqK X Y k = q := ⟨_, rfl⟩
          have hq3 := HQ.out
          rw [hsq2] at hq3
          rw [hsq2]
          obtain ⟨qq, hqq⟩ : ∃ q, quoF sq k = q := ⟨_, rfl⟩
          rw [hqq] at hq3
          have HF2 := HF.out
          rw [hsq2, hqq] at HF2
          have HF3 := Lib.hid HF2
          have hqr : (binOp .quo 86 (.float .f64 (floatOfInt .f64 sq)) (.float .f64 (floatOfInt .f64 (k : Int)))).run Try.prog w2 = .ok (.float .f64 qq) w2 := run_float_arith (P := Try.prog) w2 .quo 86 .f64 _ _ qq hq3
          clear hsq2 hqq HF2 HF hq3
          go_wp2_with fail
          go_ret2
          exact ⟨by rw [HF3.out]; rfl, H2.out.below⟩
    · have HT1 := Lib.hid (CT.out false (decide_eq_false hp))
      have HF : Hid (errF W H D A l W H D A m p = (0, 65)) := by show _ = _; unfold errF; rw [HEV.out, if_pos rfl, if_neg hp]
      clear hok hok2 CT hp
      go_wp2_with fail
      refine (HT1.out _).mono ?_
      rintro en w2 ⟨rfl, hb⟩
      have H2 := Lib.hid (H1.out.of_below hb)
      clear H1 hb x0 x1 x2 x3 x4
      go_wp2_with fail
      go_ret2
      exact ⟨by rw [HF.out]; rfl, H2.out.below⟩
  · have hne : (ev != 0) = true := by simpa using hz
    have HF : Hid (errF W H D A l W2 H2 D2 A2 m p = (0, ev)) := by show _ = _; unfold errF; rw [HEV.out, if_neg hz]
    go_wp2_with fail
    go_ret2
    exact ⟨by rw [HF.out]; rfl, H1.out.below⟩
end
end Go.Proofs.Ytdoikehkibefpaa
