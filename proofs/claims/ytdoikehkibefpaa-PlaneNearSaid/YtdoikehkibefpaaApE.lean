import Derived.Test.YtdoikehkibefpaaPPbx8
import Derived.Test.YtdoikehkibefpaaPPbx9
import Derived.Test.YtdoikehkibefpaaApD
import Derived.Test.YtdoikehkibefpaaEqArr
/-! apart -/
namespace Go.Proofs.Ytdoikehkibefpaa
set_option linter.unusedSimpArgs false
set_option linter.unusedVariables false
open Go Go.RowKit Go.Proofs.Ytdoikehkibefpaa.PPb Go.Proofs.YtdoikehkibefpaaW.PrintWords Go.Proofs.YtdoikehkibefpaaW.PrintLast

theorem apPost_is {w : World} {F : List Int × Int} {r0 r1 r2 r3 ev : Int} (h : F.1 = [r0, r1, r2, r3]) (h2 : F.2 = ev) {e : Ending} {w' : World} (hp : apPost w F e w') : e = .returned (.tuple #[.agg #[.int .i64 r0, .int .i64 r1, .int .i64 r2, .int .i64 r3], .int .i64 ev]) ∧ Below w.heap.size w w' := by
  obtain ⟨x0, x1, x2, x3, h3, h4, h5⟩ := hp
  rw [h] at h3
  simp only [List.cons.injEq, and_true] at h3
  obtain ⟨rfl, rfl, rfl, rfl⟩ := h3
  rw [← h2]
  exact ⟨h4, h5⟩
theorem errF_order {W H D : Int} {A : Bool} {l : List (List Int)} {W2 H2 D2 : Int} {A2 : Bool} {m : List (List Int)} {p : Int} (hs : smp l) (hm : smp m) : FloatKind.f64.format.order (errF W H D A l W2 H2 D2 A2 m p).1 (errF W H D A l W2 H2 D2 A2 m p).1 = some .eq := by
  unfold errF
  split
  · rename_i h
    obtain ⟨hok, hok2, -⟩ := pairF_zero h
    split
    · rename_i hp
      obtain ⟨pn, rfl⟩ : ∃ k : Nat, p = k := ⟨p.toNat, by omega⟩
      have hpl : pn < l.length := by have := hok.len; omega
      have hpl2 : pn < m.length := by have := hok2.len; omega
      have h1 := rows_at hok.rows hok.shape.1 hok.shape.2.1 pn hpl
      have h3 := wd_bd (p := (pn : Int)) hok.shape.1.1 hok.shape.1.2
      have hH := hok.shape.2.1
      rw [Int.toNat_natCast]
      refine (quoF_ok _ _ (sqK_bd (hs _ (getD_mem [] l pn hpl)) (hm _ (getD_mem [] m pn hpl2)) _).1 ?_ ?_).2
      · rw [h1]; exact Nat.mul_pos (by omega) (by omega)
      · rw [h1]
        exact Nat.le_trans (Nat.mul_le_mul (show (wd W pn).toNat ≤ 4096 by omega) (show H.toNat ≤ 4096 by omega)) (by decide)
    · exact f64_order (Nat.zero_le _)
  · exact f64_order (Nat.zero_le _)

set_option maxHeartbeats 8000000 in
set_option maxRecDepth 100000 in
theorem apart_ok (w : World) (W H D : Int) (A : Bool) (l : List (List Int)) (W2 H2 D2 : Int) (A2 : Bool) (m : List (List Int)) (Ax Ay Aa Ab : Option Addr) (nx ny na nb : Nat) (p : Int)
    (hx : Kd.C (Kd.slice 72 (Kd.int .u16)) w Ax l.length l) (hy : Kd.C (Kd.slice 72 (Kd.int .u16)) w Ay m.length m) (ha : Kd.C (Kd.slice 72 (Kd.int .u16)) w Aa l.length l) (hb : Kd.C (Kd.slice 72 (Kd.int .u16)) w Ab m.length m) (hnx : l.length ≤ nx) (hny : m.length ≤ ny) (hna : l.length ≤ na) (hnb : m.length ≤ nb)
    (hs : smp l) (hm : smp m) (hl : ∀ x ∈ l, x.length * 2 ≤ 140737488351232) (hl2 : ∀ x ∈ m, x.length * 2 ≤ 140737488351232) (hll : l.length * 24 ≤ 140737488351232) :
    Calls Try.prog 48 #[.agg #[.int .i64 W, .int .i64 H, .int .i64 D, .bool A, .slice Ax l.length nx], .agg #[.int .i64 W2, .int .i64 H2, .int .i64 D2, .bool A2, .slice Ay m.length ny], .agg #[.int .i64 W, .int .i64 H, .int .i64 D, .bool A, .slice Aa l.length na], .agg #[.int .i64 W2, .int .i64 H2, .int .i64 D2, .bool A2, .slice Ab m.length nb], .int .i64 p] w fun e w' => e = .returned (.bool true) ∧ Below w.heap.size w w' := by
  obtain ⟨s0, s1, s2, s3, h1⟩ := four (apartF_len (W := W2) (H := H2) (D := D2) (A := A2) (l := m) (W2 := W) (H2 := H) (D2 := D) (A2 := A) (m := l))
  obtain ⟨r0, r1, r2, r3, h2⟩ := four (apartF_len (W := W) (H := H) (D := D) (A := A) (l := l) (W2 := W2) (H2 := H2) (D2 := D2) (A2 := A2) (m := m))
  obtain ⟨ev1, he1⟩ : ∃ q, (apartF W2 H2 D2 A2 m W H D A l).2 = q := ⟨_, rfl⟩
  obtain ⟨ev2, he2⟩ : ∃ q, (apartF W H D A l W2 H2 D2 A2 m).2 = q := ⟨_, rfl⟩
  have hord := errF_order (W := W) (H := H) (D := D) (A := A) (W2 := W2) (H2 := H2) (D2 := D2) (A2 := A2) (p := p) hs hm
  obtain ⟨⟨qf, ev3⟩, hef⟩ : ∃ q, errF W H D A l W2 H2 D2 A2 m p = q := ⟨_, rfl⟩
  rw [hef] at hord
  have hord : FloatKind.f64.format.order qf qf = some .eq := hord
  obtain ⟨k2, hk2⟩ := rs_f W H D W2 H2 D2 A A2 l m (by omega) (fun x hx => by have := hl x hx; omega)
  obtain ⟨sv, hsv⟩ : ∃ q, sameF W H D A l W2 H2 D2 A2 m = q := ⟨_, rfl⟩
  rw [hsv] at hk2
  have C1 := Lib.hid (fun (w : World) q1 q2 => (papart_ok w W2 H2 D2 A2 Ay ny m W H D A Ax nx l q1 hny q2 hnx hm hs hl2 hl).mono fun _ _ h => apPost_is h1 he1 h)
  have C2 := Lib.hid (fun (w : World) q1 q2 => (rapart_ok w W2 H2 D2 A2 Ab nb m W H D A Aa na l q1 hnb q2 hna hm hs hl2 hl).mono fun _ _ h => apPost_is h1 he1 h)
  have C3 := Lib.hid (fun (w : World) q1 q2 => plane_Same.calls W H D A Ax nx l W H D A Ax nx l true w q1 hnx q2 hnx (by simp [plane_Same.f, sameF]))
  have C4 := Lib.hid (fun (w : World) q1 q2 => (papart_ok w W H D A Ax nx l W2 H2 D2 A2 Ay ny m q1 hnx q2 hny hs hm hl hl2).mono fun _ _ h => apPost_is h2 he2 h)
  have C5 := Lib.hid (fun (w : World) q1 q2 => (rapart_ok w W H D A Aa na l W2 H2 D2 A2 Ab nb m q1 hna q2 hnb hs hm hl hl2).mono fun _ _ h => apPost_is h2 he2 h)
  have h6 := fun (w : World) q1 q2 => perror_ok w W H D A Ax nx l W2 H2 D2 A2 Ay ny m p q1 hnx q2 hny hs hm hl hl2
  have h7 := fun (w : World) q1 q2 => rerror_ok w W H D A Aa na l W2 H2 D2 A2 Ab nb m p q1 hna q2 hnb hs hm hl hl2
  rw [hef] at h6 h7
  have C6 := Lib.hid h6
  have C7 := Lib.hid h7
  have C8 := Lib.hid (fun (w : World) q1 q2 => plane_Same.calls W H D A Ax nx l W2 H2 D2 A2 Ay ny m sv w q1 hnx q2 hny (by unfold plane_Same.f; rw [hsv]))
  have C9 := Lib.hid (fun (w : World) q1 q2 => dailiesref06_Same.calls k2 W H D A Aa na l W2 H2 D2 A2 Ab nb m sv w q1 hna q2 hnb hk2)
  have HS := Lib.hid (((((St.top w).alloc' rfl [.int .i64 W, .int .i64 H, .int .i64 D, .bool A, .slice Ax l.length nx] 39).alloc' (n := w.heap.size + 1) (by simp) [.int .i64 W2, .int .i64 H2, .int .i64 D2, .bool A2, .slice Ay m.length ny] 39).alloc' (n := w.heap.size + 2) (by simp) [.int .i64 W, .int .i64 H, .int .i64 D, .bool A, .slice Aa l.length na] 39).alloc' (n := w.heap.size + 3) (by simp) [.int .i64 W2, .int .i64 H2, .int .i64 D2, .bool A2, .slice Ab m.length nb] 39)
  have HX := Lib.hid hx
  have HY := Lib.hid hy
  have HA := Lib.hid ha
  have HB := Lib.hid hb
  have HORD := Lib.hid hord
  clear h1 h2 he1 he2 hord hef hk2 hsv h6 h7 hx hy ha hb hs hm hl hl2 hll
  go_enter Try.func48, Try.ntmps48
  have x0 := St.cells_mem HS.out mm2 0
  have x1 := St.cells_mem HS.out mm2 1
  have x2 := St.cells_mem HS.out mm2 2
  have x3 := St.cells_mem HS.out mm2 3
  have x4 := St.cells_mem HS.out mm2 4
  simp only [List.getElem?_cons_zero, List.getElem?_cons_succ] at x0 x1 x2 x3 x4
  have y0 := St.cells_mem HS.out mm3 0
  have y1 := St.cells_mem HS.out mm3 1
  have y2 := St.cells_mem HS.out mm3 2
  have y3 := St.cells_mem HS.out mm3 3
  have y4 := St.cells_mem HS.out mm3 4
  simp only [List.getElem?_cons_zero, List.getElem?_cons_succ] at y0 y1 y2 y3 y4
  go_wp2_with fail
  refine (C1.out _ (Kd.C_below HY.out HS.out.below) (Kd.C_below HX.out HS.out.below)).mono ?_
  rintro en w1 ⟨rfl, hbl⟩
  have H1 := Lib.hid ((HS.out.of_below hbl).alloc' rfl [.int .i64 s0, .int .i64 s1, .int .i64 s2, .int .i64 s3] 83)
  clear HS hbl x0 x1 x2 x3 x4 y0 y1 y2 y3 y4
  have x0 := St.cells_mem H1.out mm1 0
  have x1 := St.cells_mem H1.out mm1 1
  have x2 := St.cells_mem H1.out mm1 2
  have x3 := St.cells_mem H1.out mm1 3
  have x4 := St.cells_mem H1.out mm1 4
  simp only [List.getElem?_cons_zero, List.getElem?_cons_succ] at x0 x1 x2 x3 x4
  have y0 := St.cells_mem H1.out mm2 0
  have y1 := St.cells_mem H1.out mm2 1
  have y2 := St.cells_mem H1.out mm2 2
  have y3 := St.cells_mem H1.out mm2 3
  have y4 := St.cells_mem H1.out mm2 4
  simp only [List.getElem?_cons_zero, List.getElem?_cons_succ] at y0 y1 y2 y3 y4
  go_wp2_with fail
  refine (C2.out _ (Kd.C_below HB.out H1.out.below) (Kd.C_below HA.out H1.out.below)).mono ?_
  rintro en w2 ⟨rfl, hbl⟩
  have H2 := Lib.hid ((H1.out.of_below hbl).alloc' rfl [.int .i64 s0, .int .i64 s1, .int .i64 s2, .int .i64 s3] 83)
  clear H1 hbl x0 x1 x2 x3 x4 y0 y1 y2 y3 y4
  have x0 := St.cells_mem H2.out mm5 0
  have x1 := St.cells_mem H2.out mm5 1
  have x2 := St.cells_mem H2.out mm5 2
  have x3 := St.cells_mem H2.out mm5 3
  have x4 := St.cells_mem H2.out mm5 4
  simp only [List.getElem?_cons_zero, List.getElem?_cons_succ] at x0 x1 x2 x3 x4
  go_wp2_with fail
  refine (C3.out _ (Kd.C_below HX.out H2.out.below) (Kd.C_below HX.out H2.out.below)).mono ?_
  rintro en w3 ⟨rfl, hbl⟩
  have H3 := Lib.hid (H2.out.of_below hbl)
  clear H2 hbl x0 x1 x2 x3 x4
  have x0 := St.cells_mem H3.out mm5 0
  have x1 := St.cells_mem H3.out mm5 1
  have x2 := St.cells_mem H3.out mm5 2
  have x3 := St.cells_mem H3.out mm5 3
  have x4 := St.cells_mem H3.out mm5 4
  simp only [List.getElem?_cons_zero, List.getElem?_cons_succ] at x0 x1 x2 x3 x4
  have y0 := St.cells_mem H3.out mm4 0
  have y1 := St.cells_mem H3.out mm4 1
  have y2 := St.cells_mem H3.out mm4 2
  have y3 := St.cells_mem H3.out mm4 3
  have y4 := St.cells_mem H3.out mm4 4
  simp only [List.getElem?_cons_zero, List.getElem?_cons_succ] at y0 y1 y2 y3 y4
  go_wp2_with fail
  refine (C4.out _ (Kd.C_below HX.out H3.out.below) (Kd.C_below HY.out H3.out.below)).mono ?_
  rintro en w4 ⟨rfl, hbl⟩
  have H4 := Lib.hid ((H3.out.of_below hbl).alloc' rfl [.int .i64 r0, .int .i64 r1, .int .i64 r2, .int .i64 r3] 83)
  clear H3 hbl x0 x1 x2 x3 x4 y0 y1 y2 y3 y4
  have x0 := St.cells_mem H4.out mm4 0
  have x1 := St.cells_mem H4.out mm4 1
  have x2 := St.cells_mem H4.out mm4 2
  have x3 := St.cells_mem H4.out mm4 3
  have x4 := St.cells_mem H4.out mm4 4
  simp only [List.getElem?_cons_zero, List.getElem?_cons_succ] at x0 x1 x2 x3 x4
  have y0 := St.cells_mem H4.out mm3 0
  have y1 := St.cells_mem H4.out mm3 1
  have y2 := St.cells_mem H4.out mm3 2
  have y3 := St.cells_mem H4.out mm3 3
  have y4 := St.cells_mem H4.out mm3 4
  simp only [List.getElem?_cons_zero, List.getElem?_cons_succ] at y0 y1 y2 y3 y4
  go_wp2_with fail
  refine (C5.out _ (Kd.C_below HA.out H4.out.below) (Kd.C_below HB.out H4.out.below)).mono ?_
  rintro en w5 ⟨rfl, hbl⟩
  have H5 := Lib.hid ((H4.out.of_below hbl).alloc' rfl [.int .i64 r0, .int .i64 r1, .int .i64 r2, .int .i64 r3] 83)
  clear H4 hbl x0 x1 x2 x3 x4 y0 y1 y2 y3 y4
  have x0 := St.cells_mem H5.out mm7 0
  have x1 := St.cells_mem H5.out mm7 1
  have x2 := St.cells_mem H5.out mm7 2
  have x3 := St.cells_mem H5.out mm7 3
  have x4 := St.cells_mem H5.out mm7 4
  simp only [List.getElem?_cons_zero, List.getElem?_cons_succ] at x0 x1 x2 x3 x4
  have y0 := St.cells_mem H5.out mm6 0
  have y1 := St.cells_mem H5.out mm6 1
  have y2 := St.cells_mem H5.out mm6 2
  have y3 := St.cells_mem H5.out mm6 3
  have y4 := St.cells_mem H5.out mm6 4
  simp only [List.getElem?_cons_zero, List.getElem?_cons_succ] at y0 y1 y2 y3 y4
  go_wp2_with fail
  refine (C6.out _ (Kd.C_below HX.out H5.out.below) (Kd.C_below HY.out H5.out.below)).mono ?_
  rintro en w6 ⟨rfl, hbl⟩
  have H6 := Lib.hid (H5.out.of_below hbl)
  clear H5 hbl x0 x1 x2 x3 x4 y0 y1 y2 y3 y4
  have x0 := St.cells_mem H6.out mm5 0
  have x1 := St.cells_mem H6.out mm5 1
  have x2 := St.cells_mem H6.out mm5 2
  have x3 := St.cells_mem H6.out mm5 3
  have x4 := St.cells_mem H6.out mm5 4
  simp only [List.getElem?_cons_zero, List.getElem?_cons_succ] at x0 x1 x2 x3 x4
  have y0 := St.cells_mem H6.out mm4 0
  have y1 := St.cells_mem H6.out mm4 1
  have y2 := St.cells_mem H6.out mm4 2
  have y3 := St.cells_mem H6.out mm4 3
  have y4 := St.cells_mem H6.out mm4 4
  simp only [List.getElem?_cons_zero, List.getElem?_cons_succ] at y0 y1 y2 y3 y4
  go_wp2_with fail
  refine (C7.out _ (Kd.C_below HA.out H6.out.below) (Kd.C_below HB.out H6.out.below)).mono ?_
  rintro en w7 ⟨rfl, hbl⟩
  have H7 := Lib.hid (H6.out.of_below hbl)
  clear H6 hbl x0 x1 x2 x3 x4 y0 y1 y2 y3 y4
  have x0 := St.cells_mem H7.out mm7 0
  have x1 := St.cells_mem H7.out mm7 1
  have x2 := St.cells_mem H7.out mm7 2
  have x3 := St.cells_mem H7.out mm7 3
  have x4 := St.cells_mem H7.out mm7 4
  simp only [List.getElem?_cons_zero, List.getElem?_cons_succ] at x0 x1 x2 x3 x4
  have y0 := St.cells_mem H7.out mm6 0
  have y1 := St.cells_mem H7.out mm6 1
  have y2 := St.cells_mem H7.out mm6 2
  have y3 := St.cells_mem H7.out mm6 3
  have y4 := St.cells_mem H7.out mm6 4
  simp only [List.getElem?_cons_zero, List.getElem?_cons_succ] at y0 y1 y2 y3 y4
  go_wp2_with fail
  refine (C8.out _ (Kd.C_below HX.out H7.out.below) (Kd.C_below HY.out H7.out.below)).mono ?_
  rintro en w8 ⟨rfl, hbl⟩
  have H8 := Lib.hid (H7.out.of_below hbl)
  clear H7 hbl x0 x1 x2 x3 x4 y0 y1 y2 y3 y4
  have a0 := St.cells_mem H8.out mm0 0
  have a1 := St.cells_mem H8.out mm0 1
  have a2 := St.cells_mem H8.out mm0 2
  have a3 := St.cells_mem H8.out mm0 3
  simp only [List.getElem?_cons_zero, List.getElem?_cons_succ] at a0 a1 a2 a3
  have b0 := St.cells_mem H8.out mm1 0
  have b1 := St.cells_mem H8.out mm1 1
  have b2 := St.cells_mem H8.out mm1 2
  have b3 := St.cells_mem H8.out mm1 3
  simp only [List.getElem?_cons_zero, List.getElem?_cons_succ] at b0 b1 b2 b3
  have c0 := St.cells_mem H8.out mm2 0
  have c1 := St.cells_mem H8.out mm2 1
  have c2 := St.cells_mem H8.out mm2 2
  have c3 := St.cells_mem H8.out mm2 3
  simp only [List.getElem?_cons_zero, List.getElem?_cons_succ] at c0 c1 c2 c3
  have d0 := St.cells_mem H8.out mm3 0
  have d1 := St.cells_mem H8.out mm3 1
  have d2 := St.cells_mem H8.out mm3 2
  have d3 := St.cells_mem H8.out mm3 3
  simp only [List.getElem?_cons_zero, List.getElem?_cons_succ] at d0 d1 d2 d3
  have x0 := St.cells_mem H8.out mm5 0
  have x1 := St.cells_mem H8.out mm5 1
  have x2 := St.cells_mem H8.out mm5 2
  have x3 := St.cells_mem H8.out mm5 3
  have x4 := St.cells_mem H8.out mm5 4
  simp only [List.getElem?_cons_zero, List.getElem?_cons_succ] at x0 x1 x2 x3 x4
  have y0 := St.cells_mem H8.out mm4 0
  have y1 := St.cells_mem H8.out mm4 1
  have y2 := St.cells_mem H8.out mm4 2
  have y3 := St.cells_mem H8.out mm4 3
  have y4 := St.cells_mem H8.out mm4 4
  simp only [List.getElem?_cons_zero, List.getElem?_cons_succ] at y0 y1 y2 y3 y4
  have q1 := equalIn_rung w8 r0 r1 r2 r3 r0 r1 r2 r3
  have q2 := equalIn_rung w8 s0 s1 s2 s3 s0 s1 s2 s3
  have q3 := HORD.out
  have z1 : ([r0, r1, r2, r3] == [r0, r1, r2, r3]) = true := beq_self_eq_true _
  have z2 : ([s0, s1, s2, s3] == [s0, s1, s2, s3]) = true := beq_self_eq_true _
  rw [z1] at q1
  rw [z2] at q2
  clear z1 z2
  go_wp2_with fail
  refine (C9.out _ (Kd.C_below HA.out H8.out.below) (Kd.C_below HB.out H8.out.below)).mono ?_
  rintro en w9 ⟨rfl, hbl⟩
  have t_s : (sv == sv) = true := beq_self_eq_true _
  have HF := Lib.hid (H8.out.of_below hbl)
  clear H8 hbl q1 q2 q3
  go_wp2_with fail
  go_ret
  exact ⟨rfl, HF.out.below⟩
end Go.Proofs.Ytdoikehkibefpaa
