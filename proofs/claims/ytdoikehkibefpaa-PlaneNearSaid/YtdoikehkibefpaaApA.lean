import Derived.Test.YtdoikehkibefpaaPPbx8
import Derived.Test.YtdoikehkibefpaaApP
import Derived.Test.YtdoikehkibefpaaSteps
import Derived.Test.YtdoikehkibefpaaRgK
/-! plane.Apart -/
namespace Go.Proofs.Ytdoikehkibefpaa
set_option linter.unusedSimpArgs false
set_option linter.unusedVariables false
open Go Go.RowKit Go.Proofs.Ytdoikehkibefpaa.PPb Go.Proofs.YtdoikehkibefpaaW.PrintWords Go.Proofs.YtdoikehkibefpaaW.PrintLast

/-- Apart's answer. -/
def apPost (w : World) (F : List Int × Int) (e : Ending) (w' : World) : Prop := ∃ r0 r1 r2 r3 : Int, F.1 = [r0, r1, r2, r3] ∧ e = .returned (.tuple #[.agg #[.int .i64 r0, .int .i64 r1, .int .i64 r2, .int .i64 r3], .int .i64 F.2]) ∧ Below w.heap.size w w'
theorem four {L : List Int} (h : L.length = 4) : ∃ r0 r1 r2 r3 : Int, L = [r0, r1, r2, r3] := by
  match L, h with
  | [r0, r1, r2, r3], _ => exact ⟨_, _, _, _, rfl⟩

section
variable (w : World) (W H D : Int) (A : Bool) (A0 : Option Addr) (n : Nat) (l : List (List Int)) (W2 H2 D2 : Int) (A2 : Bool) (B0 : Option Addr) (n2 : Nat) (m : List (List Int)) (hC : Kd.C (Kd.slice 72 (Kd.int .u16)) w A0 l.length l) (hn : l.length ≤ n) (hC2 : Kd.C (Kd.slice 72 (Kd.int .u16)) w B0 m.length m) (hn2 : m.length ≤ n2) (hs : smp l) (hm : smp m) (hl : ∀ x ∈ l, x.length * 2 ≤ 140737488351232) (hl2 : ∀ x ∈ m, x.length * 2 ≤ 140737488351232)
include hC hn hC2 hn2 hs hm hl hl2
set_option maxHeartbeats 8000000 in
set_option maxRecDepth 100000 in
theorem papart_ok : Calls Try.prog 49 #[.agg #[.int .i64 W, .int .i64 H, .int .i64 D, .bool A, .slice A0 l.length n], .agg #[.int .i64 W2, .int .i64 H2, .int .i64 D2, .bool A2, .slice B0 m.length n2]] w (apPost w (apartF W H D A l W2 H2 D2 A2 m)) := by
  obtain ⟨ev, hev⟩ : ∃ q, pairF W H D A l W2 H2 D2 A2 m = q := ⟨_, rfl⟩
  have CP := Lib.hid (fun (w : World) h1 h2 h3 h4 => plane_pair.calls (0 + 12) W H D A A0 n l W2 H2 D2 A2 B0 n2 m ev w h1 h2 h3 h4 (by rw [pair_f W H D W2 H2 D2 A A2 l m hs hm, hev]))
  have HS := Lib.hid ((((((St.top w).alloc' rfl [.int .i64 W, .int .i64 H, .int .i64 D, .bool A, .slice A0 l.length n] 39).alloc' (n := w.heap.size + 1) (by simp) [.int .i64 W2, .int .i64 H2, .int .i64 D2, .bool A2, .slice B0 m.length n2] 39).alloc' (n := w.heap.size + 2) (by simp) [.int .i64 0, .int .i64 0, .int .i64 0, .int .i64 0] 83).alloc' (n := w.heap.size + 3) (by simp) [.int .i64 0, .int .i64 0, .int .i64 0, .int .i64 0] 83))
  have HC := Lib.hid (Kd.C_below hC HS.out.below)
  have HC2 := Lib.hid (Kd.C_below hC2 HS.out.below)
  have HC0 := Lib.hid hC
  have HC20 := Lib.hid hC2
  have HS0 := Lib.hid hs
  have HM0 := Lib.hid hm
  have HEV := Lib.hid hev
  have hM := hl
  have hM2 := hl2
  clear hM hM2
  clear hC hC2 hl hl2 hev hs hm
  go_enter Try.func49, Try.ntmps49
  obtain ⟨x0, x1, x2, x3, x4⟩ := HS.out.cells5 mm3
  obtain ⟨y0, y1, y2, y3, y4⟩ := HS.out.cells5 mm2
  go_wp2_with fail
  refine (CP.out _ HC.out hn HC2.out hn2).mono ?_
  rintro en w1 ⟨rfl, hb⟩
  have H1 := Lib.hid (HS.out.of_below hb)
  clear HS HC HC2 CP hb x0 x1 x2 x3 x4 y0 y1 y2 y3 y4
  by_cases hz : ev = 0
  · subst hz
    obtain ⟨hok, hok2, rfl, rfl, rfl, rfl⟩ := pairF_zero HEV.out
    have hlen := hok.len
    have hlen2 := hok2.len
    have hl4 := plN_le A
    have hrow : ∀ i, i < l.length → (m.getD i []).length = (l.getD i []).length ∧ 0 < (l.getD i []).length ∧ (l.getD i []).length ≤ 16777216 := fun i hi => by
      have h1 := rows_at hok.rows hok.shape.1 hok.shape.2.1 i hi
      have h2 := rows_at hok2.rows hok.shape.1 hok.shape.2.1 i (by omega)
      have h3 := wd_bd (p := (i : Int)) hok.shape.1.1 hok.shape.1.2
      have hH := hok.shape.2.1
      refine ⟨by rw [h1, h2], by rw [h1]; exact Nat.mul_pos (by omega) (by omega), ?_⟩
      rw [h1]
      exact Nat.le_trans (Nat.mul_le_mul (show (wd W i).toNat ≤ 4096 by omega) (show H.toNat ≤ 4096 by omega)) (by decide)
    have HROW := Lib.hid hrow
    have hml : m.length = l.length := by omega
    have HML := Lib.hid hml
    have hl5 : l.length ≤ 4 := by omega
    clear hok hok2 hrow hlen2 hlen hl4 hml
    have x4 : w1.cell? ⟨w.heap.size, 4, none⟩ = some (.slice A0 l.length n) := St.cells_mem H1.out mm3 4
    go_wp2_with fail
    clear x4
    go_loopw [23] (fun v w' => ∃ (i : Nat), v = .int .i64 (i : Nat) ∧ i ≤ l.length ∧ Hid (St (top w) (blk (w.heap.size + 3) (nums .i64 (farL l m i 0)) 83 :: blk (w.heap.size + 2) [.int .i64 0, .int .i64 0, .int .i64 0, .int .i64 0] 83 :: blk (w.heap.size + 1) [.int .i64 W, .int .i64 H, .int .i64 D, .bool A, .slice B0 m.length n2] 39 :: blk w.heap.size [.int .i64 W, .int .i64 H, .int .i64 D, .bool A, .slice A0 l.length n] 39 :: []) w')) (fun v _ => l.length - (intOf v).toNat)
    case atStart => exact ⟨0, rfl, by omega, by rw [farL_zero]; exact H1⟩
    case round =>
      clear H1
      obtain ⟨i, rfl, hi, hS⟩ := hrel
      by_cases hil : i < l.length
      · obtain ⟨hr1, hr2, hr3⟩ := HROW.out i hil
        obtain ⟨b1, o1, A1, c1, rfl, hc1, hle1, hC1⟩ := C_rowAt HC0.out i hil
        obtain ⟨b2, o2, A3, c2, rfl, hc2, hle2, hC3⟩ := C_rowAt HC20.out i (by have := HML.out; omega)
        obtain ⟨X, hX⟩ : ∃ q, l.getD i [] = q := ⟨_, rfl⟩
        obtain ⟨Y, hY⟩ : ∃ q, m.getD i [] = q := ⟨_, rfl⟩
        rw [hX, hY] at hr1
        rw [hX] at hr2 hr3 hc1 hle1 hC1
        rw [hY] at hc2 hle2 hC3
        obtain ⟨e1, q1, rfl, hd1⟩ := C_reads hC1 hr2
        obtain ⟨e2, q2, rfl, hd2⟩ := C_reads hC3 (by omega)
        have hXin : rowIn X := by rw [← hX]; exact HS0.out _ (getD_mem [] l i hil)
        have hYin : rowIn Y := by rw [← hY]; exact HM0.out _ (getD_mem [] m i (by have := HML.out; omega))
        rw [hr1] at hc2
        have HX := Lib.hid hX
        have HY := Lib.hid hY
        have HXI := Lib.hid hXin
        have HYI := Lib.hid hYin
        have HC1 := Lib.hid hc1
        have HC2 := Lib.hid hc2
        have HD1 := Lib.hid hd1
        have HD2 := Lib.hid hd2
        have HR1 := Lib.hid hr1
        have t1 : (0 : Int) ≤ (i : Int) := by omega
        have t2 : (i : Int) < l.length := by omega
        have hcc := top_cell hS.out hc1
        obtain ⟨nX, hnX⟩ : ∃ q, X.length = q := ⟨_, rfl⟩
        rw [hnX] at hcc hr2 hr3
        have HNX := Lib.hid hnX
        clear hX hY hXin hYin hc1 hc2 hd1 hd2 hr1 hC1 hC3 hle1 hle2 hnX
        go_wp2_with fail
        clear hcc
        go_loopw [30] (fun v w' => ∃ (k : Nat), v = .int .i64 (k : Nat) ∧ k ≤ nX ∧ Hid (St (top w) (blk (w.heap.size + 3) (nums .i64 (farL l m i k)) 83 :: blk (w.heap.size + 2) [.int .i64 0, .int .i64 0, .int .i64 0, .int .i64 0] 83 :: blk (w.heap.size + 1) [.int .i64 W, .int .i64 H, .int .i64 D, .bool A, .slice (some ⟨b2, o2, none⟩) m.length n2] 39 :: blk w.heap.size [.int .i64 W, .int .i64 H, .int .i64 D, .bool A, .slice (some ⟨b1, o1, none⟩) l.length n] 39 :: []) w')) (fun v _ => nX - (intOf v).toNat)
        case atStart => exact ⟨0, rfl, by omega, hS⟩
        case round =>
          obtain ⟨k, rfl, hk, hT⟩ := hrel
          clear hS
          by_cases hkl : k < nX
          · have hi4 : i < 4 := by omega
            have hu := top_cell hT.out (HD1.out k (by rw [HNX.out]; exact hkl))
            have hv := top_cell hT.out (HD2.out k (by rw [HR1.out, HNX.out]; exact hkl))
            have bu := rowIn_at HXI.out k
            have bv := rowIn_at HYI.out k
            have bf := farK_bd HXI.out HYI.out k
            have hrow2 := top_cell hT.out HC2.out
            rw [HNX.out] at hrow2
            have x4 : wr.cell? ⟨w.heap.size + 1, 4, none⟩ = some (.slice (some ⟨b2, o2, none⟩) m.length n2) := St.cells_mem hT.out mm2 4
            have hf : wr.cell? ⟨w.heap.size + 3, i, none⟩ = some (.int .i64 (farK X Y k)) := by
              rw [St.cells_mem hT.out mm0 i, nums_at _ _ _ (by rw [farL_len]; exact hi4), farL_at l m i k hi4, HX.out, HY.out]
            have hfr := hT.out.frozen i
            have hZ0 := hT.out.setCell i (.int .i64 (farK X Y (k + 1)))
            rw [nums_set, ← HX.out, ← HY.out, farL_set l m i k (k + 1) hi4, HX.out, HY.out] at hZ0
            have e3 := far3 (farK X Y k) (X.getD k 0) (Y.getD k 0)
            have hfs : farK X Y (k + 1) = if farK X Y k < adf (X.getD k 0) (Y.getD k 0) then adf (X.getD k 0) (Y.getD k 0) else farK X Y k := rfl
            rw [← hfs] at e3
            obtain ⟨u, hu1⟩ : ∃ q, X.getD k 0 = q := ⟨_, rfl⟩
            obtain ⟨v, hv1⟩ : ∃ q, Y.getD k 0 = q := ⟨_, rfl⟩
            obtain ⟨f, hf1⟩ : ∃ q, farK X Y k = q := ⟨_, rfl⟩
            obtain ⟨g, hg1⟩ : ∃ q, farK X Y (k + 1) = q := ⟨_, rfl⟩
            rw [hu1] at hu bu e3
            rw [hv1] at hv bv e3
            rw [hf1] at hf bf e3
            rw [hg1] at hZ0 e3
            have e4 := e3.resolve_right (by omega)
            obtain ⟨d, hd⟩ : ∃ q, u - v = q := ⟨_, rfl⟩
            obtain ⟨nd, hnd⟩ : ∃ q, -d = q := ⟨_, rfl⟩
            rw [hd, hnd] at e4
            have bd1 : -65535 ≤ d := by omega
            have bd2 : d ≤ 65535 := by omega
            have bn1 : -65535 ≤ nd := by omega
            have bn2 : nd ≤ 65535 := by omega
            have HZ := Lib.hid hZ0
            have HE4 := Lib.hid e4
            have t3 : (0 : Int) ≤ (k : Int) := by omega
            have t4 : (k : Int) < nX := by omega
            have t5 : (i : Int) < m.length := by have := HML.out; omega
            have t6 : (i : Int) < 4 := by omega
            have hmx : (Builtin.max_ #[3, 3, 3] 3 #[.int .i64 f, .int .i64 d, .int .i64 nd]).run Try.prog wr = .ok (.int .i64 g) wr := by
              rw [← e4]
              rfl
            clear hT e3 e4 hZ0 hfs hu1 hv1 hf1 hg1 HE4
            go_wp2_with fail
            go_roundw
            case rel => exact ⟨k + 1, by go_num, by omega, HZ⟩
            case measure => simp [intOf]; omega
          · have hkl : k = nX := by omega
            subst hkl
            have hnx := farL_next l m i
            rw [HX.out, HNX.out] at hnx
            rw [hnx] at hT
            clear hnx
            go_wp2_with fail
            go_roundw
            case rel => exact ⟨i + 1, by go_num, by omega, hT⟩
            case measure => simp [intOf]; omega
      · have hil : i = l.length := by omega
        subst hil
        obtain ⟨r0, r1, r2, r3, hF⟩ := four (farL_len l m l.length 0)
        have HF := Lib.hid hF
        have hS2 := hS.out
        rw [hF] at hS2
        have HT := Lib.hid hS2
        clear hS hS2 hF
        obtain ⟨f0, f1, f2, f3⟩ := HT.out.cells4 (a := .int .i64 r0) (b := .int .i64 r1) (d := .int .i64 r2) (e := .int .i64 r3) mm0
        obtain ⟨d0, d1, d2, d3⟩ := HT.out.cells4 mm1
        have hr := HT.out.blk_mem (g := w.heap.size + 2) mm1
        have fr : ∀ j, wr.frozen? ⟨w.heap.size + 2, j, none⟩ = false := fun j => by simp [World.frozen?, hr]
        have fr0 := fr 0
        have fr1 := fr 1
        have fr2 := fr 2
        have fr3 := fr 3
        clear fr hr
        go_wp2_with fail
        have h3 := (((HT.out.swap.setCell 0 (.int .i64 r0)).setCell 1 (.int .i64 r1)).setCell 2 (.int .i64 r2)).setCell 3 (.int .i64 r3)
        have h4 := h3.blk_at
        exact bodyPost_ret (results_ct rfl _ _ (w.heap.size + 2) 83 #[.int .i64 r0, .int .i64 r1, .int .i64 r2, .int .i64 r3] (0, 0) _ rfl h4 Try.underlying83 rfl (by kernel_rfl)) rfl ⟨r0, r1, r2, r3, by unfold apartF; rw [HEV.out, if_pos rfl]; exact HF.out, by unfold apartF; rw [HEV.out, if_pos rfl]; rfl, h3.below⟩
  · have hne : (ev != 0) = true := by simpa using hz
    obtain ⟨f0, f1, f2, f3⟩ := H1.out.cells4 mm0
    obtain ⟨d0, d1, d2, d3⟩ := H1.out.cells4 mm1
    have hr := H1.out.blk_mem (g := w.heap.size + 2) mm1
    have fr : ∀ j, w1.frozen? ⟨w.heap.size + 2, j, none⟩ = false := fun j => by simp [World.frozen?, hr]
    have fr0 := fr 0
    have fr1 := fr 1
    have fr2 := fr 2
    have fr3 := fr 3
    clear fr hr
    go_wp2_with fail
    have h3 := (((H1.out.swap.setCell 0 (.int .i64 0)).setCell 1 (.int .i64 0)).setCell 2 (.int .i64 0)).setCell 3 (.int .i64 0)
    have h4 := h3.blk_at
    exact bodyPost_ret (results_ct rfl _ _ (w.heap.size + 2) 83 #[.int .i64 0, .int .i64 0, .int .i64 0, .int .i64 0] (0, 0) _ rfl h4 Try.underlying83 rfl (by kernel_rfl)) rfl ⟨0, 0, 0, 0, by unfold apartF; rw [HEV.out, if_neg hz], by unfold apartF; rw [HEV.out, if_neg hz]; rfl, h3.below⟩
end
end Go.Proofs.Ytdoikehkibefpaa
