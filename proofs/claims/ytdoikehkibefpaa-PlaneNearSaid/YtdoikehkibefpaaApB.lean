import Derived.Test.YtdoikehkibefpaaPPbx9
import Derived.Test.YtdoikehkibefpaaApA
import Derived.Test.YtdoikehkibefpaaSteps
import Derived.Test.YtdoikehkibefpaaRgK
/-! The reference's Apart -/
namespace Go.Proofs.Ytdoikehkibefpaa
set_option linter.unusedSimpArgs false
set_option linter.unusedVariables false
open Go Go.RowKit Go.Proofs.Ytdoikehkibefpaa.PPb Go.Proofs.YtdoikehkibefpaaW.PrintWords Go.Proofs.YtdoikehkibefpaaW.PrintLast

set_option maxHeartbeats 1000000 in
theorem rfar_ok (u v : Int) (w : World) (hu : 0 ≤ u ∧ u ≤ 65535) (hv : 0 ≤ v ∧ v ≤ 65535) : Calls Try.prog 84 #[.int .u16 u, .int .u16 v] w fun e w' => e = .returned (.int .i64 (adf u v)) ∧ w' = w := by
  by_cases h : v < u
  · have HA : Hid (adf u v = u - v) := if_pos h
    go_enter Try.func84, Try.ntmps84
    go_wp2_with fail
    go_ret
    exact ⟨by rw [HA.out]; rfl, rfl⟩
  · have HA : Hid (adf u v = v - u) := if_neg h
    go_enter Try.func84, Try.ntmps84
    go_wp2_with fail
    go_ret
    exact ⟨by rw [HA.out]; rfl, rfl⟩
section
variable (w : World) (W H D : Int) (A : Bool) (A0 : Option Addr) (n : Nat) (l : List (List Int)) (W2 H2 D2 : Int) (A2 : Bool) (B0 : Option Addr) (n2 : Nat) (m : List (List Int)) (hC : Kd.C (Kd.slice 72 (Kd.int .u16)) w A0 l.length l) (hn : l.length ≤ n) (hC2 : Kd.C (Kd.slice 72 (Kd.int .u16)) w B0 m.length m) (hn2 : m.length ≤ n2) (hs : smp l) (hm : smp m) (hl : ∀ x ∈ l, x.length * 2 ≤ 140737488351232) (hl2 : ∀ x ∈ m, x.length * 2 ≤ 140737488351232)
include hC hn hC2 hn2 hs hm hl hl2
set_option maxHeartbeats 8000000 in
set_option maxRecDepth 100000 in
theorem rapart_ok : Calls Try.prog 76 #[.agg #[.int .i64 W, .int .i64 H, .int .i64 D, .bool A, .slice A0 l.length n], .agg #[.int .i64 W2, .int .i64 H2, .int .i64 D2, .bool A2, .slice B0 m.length n2]] w (apPost w (apartF W H D A l W2 H2 D2 A2 m)) := by
  obtain ⟨ev, hev⟩ : ∃ q, pairF W H D A l W2 H2 D2 A2 m = q := ⟨_, rfl⟩
  have CP := Lib.hid (fun (w : World) h1 h2 h3 h4 => dailiesref06_both.calls (0 + 140737488355328 + 14) W H D A A0 n l W2 H2 D2 A2 B0 n2 m ev w h1 h2 h3 h4 (by rw [both_f W H D W2 H2 D2 A A2 l m hs hm (fun x hx => by have := hl x hx; omega) (fun x hx => by have := hl2 x hx; omega), hev]))
  have HS := Lib.hid (((((St.top w).alloc' rfl [.int .i64 W, .int .i64 H, .int .i64 D, .bool A, .slice A0 l.length n] 39).alloc' (n := w.heap.size + 1) (by simp) [.int .i64 W2, .int .i64 H2, .int .i64 D2, .bool A2, .slice B0 m.length n2] 39).alloc' (n := w.heap.size + 2) (by simp) [.int .i64 0, .int .i64 0, .int .i64 0, .int .i64 0] 83))
  have HC := Lib.hid (Kd.C_below hC HS.out.below)
  have HC2 := Lib.hid (Kd.C_below hC2 HS.out.below)
  have HC0 := Lib.hid hC
  have HC20 := Lib.hid hC2
  have HS0 := Lib.hid hs
  have HM0 := Lib.hid hm
  have HEV := Lib.hid hev
  have hM := hl
  have hM2 := hl2
  clear hM hM2
  clear hC hC2 hl hl2 hev hs hm
  go_enter Try.func76, Try.ntmps76
  obtain ⟨x0, x1, x2, x3, x4⟩ := HS.out.cells5 mm2
  obtain ⟨y0, y1, y2, y3, y4⟩ := HS.out.cells5 mm1
  go_wp2_with fail
  refine (CP.out _ HC.out hn HC2.out hn2).mono ?_
  rintro en w1 ⟨rfl, hb⟩
  have H1 := Lib.hid (HS.out.of_below hb)
  clear HS HC HC2 CP hb x0 x1 x2 x3 x4 y0 y1 y2 y3 y4
  by_cases hz : ev = 0
  · subst hz
    obtain ⟨hok, hok2, rfl, rfl, rfl, rfl⟩ := pairF_zero HEV.out
    have hlen := hok.len
    have hlen2 := hok2.len
    have hl4 := plN_le A
    have hrow : ∀ i, i < l.length → (m.getD i []).length = (l.getD i []).length ∧ 0 < (l.getD i []).length ∧ (l.getD i []).length ≤ 16777216 := fun i hi => by
      have h1 := rows_at hok.rows hok.shape.1 hok.shape.2.1 i hi
      have h2 := rows_at hok2.rows hok.shape.1 hok.shape.2.1 i (by omega)
      have h3 := wd_bd (p := (i : Int)) hok.shape.1.1 hok.shape.1.2
      have hH := hok.shape.2.1
      refine ⟨by rw [h1, h2], by rw [h1]; exact Nat.mul_pos (by omega) (by omega), ?_⟩
      rw [h1]
      exact Nat.le_trans (Nat.mul_le_mul (show (wd W i).toNat ≤ 4096 by omega) (show H.toNat ≤ 4096 by omega)) (by decide)
    have HROW := Lib.hid hrow
    have hml : m.length = l.length := by omega
    have HML := Lib.hid hml
    have hl5 : l.length ≤ 4 := by omega
    clear hok hok2 hrow hlen2 hlen hl4 hml
    go_wp2_with fail
    have H2 := Lib.hid (H1.out.alloc' rfl [.int .i64 0, .int .i64 0, .int .i64 0, .int .i64 0] 83)
    clear H1
    generalize w1.heap.size = gT at *
    generalize w1.alloc (.cells #[.int .i64 0, .int .i64 0, .int .i64 0, .int .i64 0] 83) = w2 at *
    go_loopw [8] (fun v w' => ∃ (i : Nat), v = .int .i64 (i : Nat) ∧ i ≤ l.length ∧ Hid (St (top w) (blk gT (nums .i64 (farL l m i 0)) 83 :: blk (w.heap.size + 2) [.int .i64 0, .int .i64 0, .int .i64 0, .int .i64 0] 83 :: blk (w.heap.size + 1) [.int .i64 W, .int .i64 H, .int .i64 D, .bool A, .slice B0 m.length n2] 39 :: blk w.heap.size [.int .i64 W, .int .i64 H, .int .i64 D, .bool A, .slice A0 l.length n] 39 :: []) w')) (fun v _ => l.length - (intOf v).toNat)
    case atStart => exact ⟨0, rfl, by omega, by rw [farL_zero]; exact H2⟩
    case round =>
      clear H2
      obtain ⟨i, rfl, hi, hS⟩ := hrel
      have x4 : wr.cell? ⟨w.heap.size, 4, none⟩ = some (.slice A0 l.length n) := St.cells_mem hS.out mm3 4
      by_cases hil : i < l.length
      · obtain ⟨hr1, hr2, hr3⟩ := HROW.out i hil
        obtain ⟨b1, o1, A1, c1, rfl, hc1, hle1, hC1⟩ := C_rowAt HC0.out i hil
        obtain ⟨b2, o2, A3, c2, rfl, hc2, hle2, hC3⟩ := C_rowAt HC20.out i (by have := HML.out; omega)
        obtain ⟨X, hX⟩ : ∃ q, l.getD i [] = q := ⟨_, rfl⟩
        obtain ⟨Y, hY⟩ : ∃ q, m.getD i [] = q := ⟨_, rfl⟩
        rw [hX, hY] at hr1
        rw [hX] at hr2 hr3 hc1 hle1 hC1
        rw [hY] at hc2 hle2 hC3
        obtain ⟨e1, q1, rfl, hd1⟩ := C_reads hC1 hr2
        obtain ⟨e2, q2, rfl, hd2⟩ := C_reads hC3 (by omega)
        have hXin : rowIn X := by rw [← hX]; exact HS0.out _ (getD_mem [] l i hil)
        have hYin : rowIn Y := by rw [← hY]; exact HM0.out _ (getD_mem [] m i (by have := HML.out; omega))
        rw [hr1] at hc2
        have HX := Lib.hid hX
        have HY := Lib.hid hY
        have HXI := Lib.hid hXin
        have HYI := Lib.hid hYin
        have HC1 := Lib.hid hc1
        have HC2 := Lib.hid hc2
        have HD1 := Lib.hid hd1
        have HD2 := Lib.hid hd2
        have HR1 := Lib.hid hr1
        have t1 : (0 : Int) ≤ (i : Int) := by omega
        have t2 : (i : Int) < l.length := by omega
        obtain ⟨nX, hnX⟩ : ∃ q, X.length = q := ⟨_, rfl⟩
        rw [hnX] at hr2 hr3
        have HNX := Lib.hid hnX
        clear hX hY hXin hYin hc1 hc2 hd1 hd2 hr1 hC1 hC3 hle1 hle2 hnX
        go_wp2_with fail
        clear x4
        go_loopw [9] (fun v w' => ∃ (k : Nat), v = .int .i64 (k : Nat) ∧ k ≤ nX ∧ Hid (St (top w) (blk gT (nums .i64 (farL l m i k)) 83 :: blk (w.heap.size + 2) [.int .i64 0, .int .i64 0, .int .i64 0, .int .i64 0] 83 :: blk (w.heap.size + 1) [.int .i64 W, .int .i64 H, .int .i64 D, .bool A, .slice (some ⟨b2, o2, none⟩) m.length n2] 39 :: blk w.heap.size [.int .i64 W, .int .i64 H, .int .i64 D, .bool A, .slice (some ⟨b1, o1, none⟩) l.length n] 39 :: []) w')) (fun v _ => nX - (intOf v).toNat)
        case atStart => exact ⟨0, rfl, by omega, hS⟩
        case round =>
          obtain ⟨k, rfl, hk, hT0⟩ := hrel
          clear hS
          have z4 : wr.cell? ⟨w.heap.size, 4, none⟩ = some (.slice (some ⟨b1, o1, none⟩) l.length n) := St.cells_mem hT0.out mm3 4
          have zcc := top_cell hT0.out HC1.out
          rw [HNX.out] at zcc
          by_cases hkl : k < nX
          · have hT := Lib.hid hT0.out.drew
            have x4 : wr.drew.cell? ⟨w.heap.size, 4, none⟩ = some (.slice (some ⟨b1, o1, none⟩) l.length n) := St.cells_mem hT.out mm3 4
            have y4 : wr.drew.cell? ⟨w.heap.size + 1, 4, none⟩ = some (.slice (some ⟨b2, o2, none⟩) m.length n2) := St.cells_mem hT.out mm2 4
            have hcc := top_cell hT.out HC1.out
            rw [HNX.out] at hcc
            have hi4 : i < 4 := by omega
            have hu := top_cell hT.out (HD1.out k (by rw [HNX.out]; exact hkl))
            have hv := top_cell hT.out (HD2.out k (by rw [HR1.out, HNX.out]; exact hkl))
            have bu := rowIn_at HXI.out k
            have bv := rowIn_at HYI.out k
            have hrow2 := top_cell hT.out HC2.out
            rw [HNX.out] at hrow2
            have hf : wr.drew.cell? ⟨gT, i, none⟩ = some (.int .i64 (farK X Y k)) := by
              rw [St.cells_mem hT.out mm0 i, nums_at _ _ _ (by rw [farL_len]; exact hi4), farL_at l m i k hi4, HX.out, HY.out]
            have hfr := hT.out.frozen i
            have hfs : farK X Y (k + 1) = if farK X Y k < adf (X.getD k 0) (Y.getD k 0) then adf (X.getD k 0) (Y.getD k 0) else farK X Y k := rfl
            have hz1 := farL_set l m i k (k + 1) hi4
            have hz2 := farL_set l m i k k hi4
            have hz3 : (farL l m i k).set i (farK (l.getD i []) (m.getD i []) k) = farL l m i k := hz2
            rw [HX.out, HY.out] at hz1 hz3
            obtain ⟨u, hu1⟩ : ∃ q, X.getD k 0 = q := ⟨_, rfl⟩
            obtain ⟨v, hv1⟩ : ∃ q, Y.getD k 0 = q := ⟨_, rfl⟩
            obtain ⟨f, hf1⟩ : ∃ q, farK X Y k = q := ⟨_, rfl⟩
            rw [hu1] at hu bu
            rw [hv1] at hv bv
            rw [hf1] at hf
            rw [hu1, hv1, hf1] at hfs
            have HFS := Lib.hid hfs
            have HZ1 := Lib.hid hz1
            have t3 : (0 : Int) ≤ (k : Int) := by omega
            have t4 : (k : Int) < nX := by omega
            have t1 : (0 : Int) ≤ (i : Int) := by omega
            have t2 : (i : Int) < l.length := by omega
            have t5 : (i : Int) < m.length := by have := HML.out; omega
            have t6 : (i : Int) < 4 := by omega
            have HF1 := Lib.hid hf1
            have hab := adf_bd bu bv
            clear hT0 hfs hu1 hv1 hz1 hz2 hz3 hf1
            go_wp2_with fail
            clear z4 zcc
            refine start_ (n := 18) (S := fun w' => w'.cell? ⟨w.heap.size, 4, none⟩ = some (.slice (some ⟨b1, o1, none⟩) l.length n) ∧ w'.cell? ⟨b1, o1 + i, none⟩ = some (.slice (some ⟨e1, q1, none⟩) nX c1) ∧ w'.cell? ⟨e1, q1 + k, none⟩ = some (.int .u16 u) ∧ w'.cell? ⟨w.heap.size + 1, 4, none⟩ = some (.slice (some ⟨b2, o2, none⟩) m.length n2) ∧ w'.cell? ⟨b2, o2 + i, none⟩ = some (.slice (some ⟨e2, q2, none⟩) nX c2) ∧ w'.cell? ⟨e2, q2 + k, none⟩ = some (.int .u16 v)) (ds := []) #[false, false, false, false, false, false, false, false, false, false, false, false, false, false, false, false, false, false] (by kernel_rfl) rfl rfl ⟨x4, hcc, hu, y4, hrow2, hv⟩ (fun hHeld => ?_)
            refine pu 0 36 #[true, false, false, false, false, false, false, false, false, false, false, false, false, false, false, false, false, false] ?_
            refine pu 2 38 #[true, false, true, false, false, false, false, false, false, false, false, false, false, false, false, false, false, false] ?_
            refine pu 5 41 #[true, false, true, false, false, true, false, false, false, false, false, false, false, false, false, false, false, false] ?_
            refine pu 8 44 #[true, false, true, false, false, true, false, false, true, false, false, false, false, false, false, false, false, false] ?_
            refine pu 10 46 #[true, false, true, false, false, true, false, false, true, false, true, false, false, false, false, false, false, false] ?_
            refine pu 13 49 #[true, false, true, false, false, true, false, false, true, false, true, false, false, true, false, false, false, false] ?_
            refine ta 1 37 #[true, true, true, false, false, true, false, false, true, false, true, false, false, true, false, false, false, false] hHeld ?_
            refine pu 3 39 #[true, true, true, true, false, true, false, false, true, false, true, false, false, true, false, false, false, false] ?_
            refine ta 4 40 #[true, true, true, true, true, true, false, false, true, false, true, false, false, true, false, false, false, false] hHeld ?_
            refine pu 6 42 #[true, true, true, true, true, true, true, false, true, false, true, false, false, true, false, false, false, false] ?_
            refine ta 7 43 #[true, true, true, true, true, true, true, true, true, false, true, false, false, true, false, false, false, false] hHeld ?_
            refine ta 9 45 #[true, true, true, true, true, true, true, true, true, true, true, false, false, true, false, false, false, false] hHeld ?_
            refine pu 11 47 #[true, true, true, true, true, true, true, true, true, true, true, true, false, true, false, false, false, false] ?_
            refine ta 12 48 #[true, true, true, true, true, true, true, true, true, true, true, true, true, true, false, false, false, false] hHeld ?_
            refine pu 14 50 #[true, true, true, true, true, true, true, true, true, true, true, true, true, true, true, false, false, false] ?_
            refine ta 15 51 #[true, true, true, true, true, true, true, true, true, true, true, true, true, true, true, true, false, false] hHeld ?_
            refine one_ (i := 16) (N := some 52) #[true, true, true, true, true, true, true, true, true, true, true, true, true, true, true, true, true, false] rfl rfl (by kernel_rfl) (by decide) (fun K hK => ?_)
            refine goes_ Try.func84 (by kernel_rfl) rfl #[.int .u16 u, .int .u16 v] (by rfl) rfl rfl (by simp only [List.map_toArray, List.map_cons, List.map_nil]; rfl) ?_
            with_reducible refine (rfar_ok u v _ bu bv).mono ?_
            rintro en x1 ⟨rfl, rfl⟩
            refine ⟨_, rfl, ?_⟩
            refine hK.out _ _ ⟨x4, hcc, hu, y4, hrow2, hv⟩ (fun hHeld => ?_)
            clear hK K
            refine norm_ (a' := ?_) ?_ ?_
            rotate_left
            · show Act.put _ (some 52) _ = _
              simp only [Act.put, List.setIfInBounds_toArray, List.set_cons_zero, List.set_cons_succ, i64_w, i32_w]
              rfl
            refine pu 17 10 #[true, true, true, true, true, true, true, true, true, true, true, true, true, true, true, true, true, true] ?_
            refine done_ (by kernel_rfl) ?_
            clear x4 hcc hu y4 hrow2 hv hHeld
            obtain ⟨g, hg⟩ : ∃ q, adf u v = q := ⟨_, rfl⟩
            rw [hg]
            have HG := Lib.hid hg
            clear hg
            by_cases hfg : f < g
            · have hZ0 := hT.out.setCell i (.int .i64 g)
              have e6 : farK X Y (k + 1) = g := by rw [HFS.out, HG.out, if_pos hfg]
              rw [nums_set, ← e6, HZ1.out] at hZ0
              rw [e6] at hZ0
              have HZ := Lib.hid hZ0
              clear hZ0 e6 hT
              go_wp2_with fail
              go_roundw
              case rel => exact ⟨k + 1, by go_num, by omega, HZ⟩
              case measure => simp [intOf]; omega
            · have e6 : farK X Y (k + 1) = farK X Y k := by rw [HFS.out, HG.out, if_neg hfg, HF1.out]
              have hZ0 : St (top w) (blk gT (nums .i64 (farL l m i (k + 1))) 83 :: blk (w.heap.size + 2) [.int .i64 0, .int .i64 0, .int .i64 0, .int .i64 0] 83 :: blk (w.heap.size + 1) [.int .i64 W, .int .i64 H, .int .i64 D, .bool A, .slice (some ⟨b2, o2, none⟩) m.length n2] 39 :: blk w.heap.size [.int .i64 W, .int .i64 H, .int .i64 D, .bool A, .slice (some ⟨b1, o1, none⟩) l.length n] 39 :: []) wr.drew := by
                have h1 := HZ1.out
                rw [e6] at h1
                rw [← h1]
                have h2 := farL_set l m i k k hi4
                rw [HX.out, HY.out] at h2
                rw [h2]
                exact hT.out
              have HZ := Lib.hid hZ0
              clear hZ0 e6 hT
              go_wp2_with fail
              go_roundw
              case rel => exact ⟨k + 1, by go_num, by omega, HZ⟩
              case measure => simp [intOf]; omega
          · have hkl : k = nX := by omega
            subst hkl
            have t1 : (0 : Int) ≤ (i : Int) := by omega
            have t2 : (i : Int) < l.length := by omega
            have hnx := farL_next l m i
            rw [HX.out, HNX.out] at hnx
            rw [hnx] at hT0
            clear hnx
            go_wp2_with fail
            go_roundw
            case rel => exact ⟨i + 1, by go_num, by omega, hT0⟩
            case measure => simp [intOf]; omega
      · have hil : i = l.length := by omega
        subst hil
        obtain ⟨r0, r1, r2, r3, hF⟩ := four (farL_len l m l.length 0)
        have HF := Lib.hid hF
        have hS2 := hS.out
        rw [hF] at hS2
        have HT := Lib.hid hS2
        clear hS hS2 hF
        obtain ⟨f0, f1, f2, f3⟩ := HT.out.cells4 (a := .int .i64 r0) (b := .int .i64 r1) (d := .int .i64 r2) (e := .int .i64 r3) mm0
        obtain ⟨d0, d1, d2, d3⟩ := HT.out.cells4 mm1
        have hr := HT.out.blk_mem (g := w.heap.size + 2) mm1
        have fr : ∀ j, wr.frozen? ⟨w.heap.size + 2, j, none⟩ = false := fun j => by simp [World.frozen?, hr]
        have fr0 := fr 0
        have fr1 := fr 1
        have fr2 := fr 2
        have fr3 := fr 3
        clear fr hr
        go_wp2_with fail
        have h3 := (((HT.out.swap.setCell 0 (.int .i64 r0)).setCell 1 (.int .i64 r1)).setCell 2 (.int .i64 r2)).setCell 3 (.int .i64 r3)
        have h4 := h3.blk_at
        exact bodyPost_ret (results_ct rfl _ _ (w.heap.size + 2) 83 #[.int .i64 r0, .int .i64 r1, .int .i64 r2, .int .i64 r3] (0, 0) _ rfl h4 Try.underlying83 rfl (by kernel_rfl)) rfl ⟨r0, r1, r2, r3, by unfold apartF; rw [HEV.out, if_pos rfl]; exact HF.out, by unfold apartF; rw [HEV.out, if_pos rfl]; rfl, h3.below⟩
  · have hne : (ev != 0) = true := by simpa using hz
    obtain ⟨d0, d1, d2, d3⟩ := H1.out.cells4 mm0
    have hr := H1.out.blk_mem (g := w.heap.size + 2) mm0
    have fr : ∀ j, w1.frozen? ⟨w.heap.size + 2, j, none⟩ = false := fun j => by simp [World.frozen?, hr]
    have fr0 := fr 0
    have fr1 := fr 1
    have fr2 := fr 2
    have fr3 := fr 3
    clear fr hr
    go_wp2_with fail
    have h3 := (((H1.out.setCell 0 (.int .i64 0)).setCell 1 (.int .i64 0)).setCell 2 (.int .i64 0)).setCell 3 (.int .i64 0)
    have h4 := h3.blk_at
    exact bodyPost_ret (results_ct rfl _ _ (w.heap.size + 2) 83 #[.int .i64 0, .int .i64 0, .int .i64 0, .int .i64 0] (0, 0) _ rfl h4 Try.underlying83 rfl (by kernel_rfl)) rfl ⟨0, 0, 0, 0, by unfold apartF; rw [HEV.out, if_neg hz], by unfold apartF; rw [HEV.out, if_neg hz]; rfl, h3.below⟩
end
end Go.Proofs.Ytdoikehkibefpaa
