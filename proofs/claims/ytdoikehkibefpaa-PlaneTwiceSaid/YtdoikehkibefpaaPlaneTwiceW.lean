import Derived.Test.YtdoikehkibefpaaPPfx3
import Derived.Test.YtdoikehkibefpaaPPfx5
import Derived.Test.YtdoikehkibefpaaPPfx7
import Derived.Test.YtdoikehkibefpaaPPfx8
import Derived.Test.YtdoikehkibefpaaPPfx9
import Derived.Test.YtdoikehkibefpaaPlaneCf
import Derived.Test.YtdoikehkibefpaaPlaneR
import Derived.Test.YtdoikehkibefpaaPlaneS
import Derived.Lib.Hide
namespace Go.Proofs.Ytdoikehkibefpaa
set_option linter.unusedSimpArgs false
set_option linter.unusedVariables false
open Go Go.RowKit Go.Proofs.Ytdoikehkibefpaa.PPf Go.Proofs.YtdoikehkibefpaaW.PrintWords Go.Proofs.YtdoikehkibefpaaW.PrintMore

set_option maxHeartbeats 4000000 in
set_option maxRecDepth 100000 in
theorem planeTwice_walk {H : Type} {enc : TypeId × Value → H} (W : World) (base : Nat) (v0 v1 v2 : Value) (a0 : Arg enc Try.prog W base 39 v0) (a1 : Arg enc Try.prog W base 77 v1) (a2 : Arg enc Try.prog W base 77 v2) :
    Calls Try.prog 11 #[v0, v1, v2] W fun e W' => e = .returned (.bool true) ∧ Below W.heap.size W W' := by
  obtain ⟨a, b, c, d, A, n, l, rfl, hn, hC, hs, M, hM, hM2⟩ := arg_frame a0
  obtain ⟨x0, x1, x2, rfl, -, hx1, hx2⟩ := arg_at a1
  obtain ⟨y0, y1, y2, rfl, -, hy1, hy2⟩ := arg_at a2
  clear a0 a1 a2
  have HS := Lib.hid ((((St.top W).alloc' rfl [.int .i64 a, .int .i64 b, .int .i64 c, .bool d, .slice A l.length n] 39).alloc' (n := W.heap.size + 1) (by simp) [.int .i64 x0, .int .i64 x1, .int .i64 x2] 77).alloc' (n := W.heap.size + 2) (by simp) [.int .i64 y0, .int .i64 y1, .int .i64 y2] 77)
  have HC := Lib.hid (Kd.C_alloc (Kd.C_alloc (Kd.C_alloc hC (.cells #[.int .i64 a, .int .i64 b, .int .i64 c, .bool d, .slice A l.length n] 39)) (.cells #[.int .i64 x0, .int .i64 x1, .int .i64 x2] 77)) (.cells #[.int .i64 y0, .int .i64 y1, .int .i64 y2] 77))
  have HN := Lib.hid hn
  have HSM := Lib.hid hs
  have HM := Lib.hid hM
  have HX1 := Lib.hid hx1
  have HX2 := Lib.hid hx2
  have HY1 := Lib.hid hy1
  have HY2 := Lib.hid hy2
  clear hC hn hs hM hx1 hx2 hy1 hy2
  go_enter Try.func11, Try.ntmps11
  go_wp2_with fail
  refine (dailieslaw06_shown.calls 40 true _ shown_f).mono ?_
  rintro en w1 ⟨rfl, hb⟩
  have HS1 := Lib.hid (HS.out.of_below hb)
  have HC1 := Lib.hid (Kd.C_below HC.out hb)
  clear HS HC hb
  obtain ⟨f0, f1, f2, f3, f4⟩ := HS1.out.cells5 mm2
  go_wp2_with fail
  refine (dailiesref06_Valid.calls (5986 + M + 14) a b c d A n l _ _ HC1.out HN.out (rvalid_f a b c d l M HM.out hM2 HSM.out 5986)).mono ?_
  rintro en w2 ⟨rfl, hb⟩
  have HS2 := Lib.hid (HS1.out.of_below hb)
  have HC2 := Lib.hid (Kd.C_below HC1.out hb)
  clear HS1 HC1 hb f0 f1 f2 f3 f4
  by_cases hok : valF a b c d l = 0
  · rw [hok]
    have hf := ok_of_valF hok
    have hW := hf.shape.1
    have hH := hf.shape.2.1
    obtain ⟨X, Y, w, h, e1, ra⟩ := whole_law c d hW hH HX1.out HX2.out
    have hc := cut_ok hf ra
    have hcs := cut_smp hf HSM.out ra
    obtain ⟨X2, Y2, w3, h3, e2, rb⟩ := whole_law c d hc.shape.1 hc.shape.2.1 HY1.out HY2.out
    have hab := whole_add ra rb
    have hcut1 := cut_f hf HSM.out ra 0
    have hcut2 := cut_f hc hcs rb 0
    have hcut3 := cut_f hf HSM.out hab 0
    rw [cut_cut hf ra rb] at hcut2
    have hd := cut_ok hf hab
    have hval := valid_f w3 h3 c d _ (cut_smp hf HSM.out hab) 0
    rw [valF_ok hd] at hval
    obtain ⟨L1, hL1⟩ : ∃ L, cutL a l X Y w h = L := ⟨_, rfl⟩
    obtain ⟨L2, hL2⟩ : ∃ L, cutL a l (X + X2) (Y + Y2) w3 h3 = L := ⟨_, rfl⟩
    rw [hL1] at hcut1 hcut2
    rw [hL2] at hcut2 hcut3 hval
    have a' := ra.1
    obtain ⟨a1, a2, a3, a4, a5, a6, a7, a8⟩ := a'
    have b' := rb.1
    obtain ⟨b1, b2, b3, b4, b5, b6, b7, b8⟩ := b'
    have E1 := Lib.hid e1
    have E2 := Lib.hid e2
    have CUT1 := Lib.hid hcut1
    have CUT2 := Lib.hid hcut2
    have CUT3 := Lib.hid hcut3
    have VAL := Lib.hid hval
    clear hok hf hc hcs ra rb hab hcut1 hcut2 hcut3 hd hval hL1 hL2 e1 e2
    obtain ⟨f0, f1, f2, f3, f4⟩ := HS2.out.cells5 mm2
    obtain ⟨p0, p1, p2⟩ := HS2.out.cells3 mm1
    clear f4 p0
    go_wp2_with fail
    refine (dailieslaw06_whole.calls a b c d x1 x2 X Y w h _ E1.out).mono ?_
    rintro en w3' ⟨rfl, hb⟩
    have HS3 := Lib.hid ((HS2.out.of_below hb).alloc [.int .i64 X, .int .i64 Y, .int .i64 w, .int .i64 h] 52)
    have HC3 := Lib.hid (Kd.C_alloc (Kd.C_below HC2.out hb) (.cells #[.int .i64 X, .int .i64 Y, .int .i64 w, .int .i64 h] 52))
    clear HS2 HC2 hb f0 f1 f2 f3 p1 p2
    obtain ⟨f0, f1, f2, f3, f4⟩ := HS3.out.cells5 mm3
    obtain ⟨r0, r1, r2, r3⟩ := HS3.out.cells4 mm0
    go_wp2_with fail
    refine (plane_Cut.calls 5000 a b c d A n l X Y w h w h c d L1 0 _ HC3.out HN.out CUT1.out).mono ?_
    rintro en w4 ⟨u1, rfl, hS, hb⟩
    obtain ⟨A1, n1, rfl, hn1, hC1⟩ := Kd.S_reads hS
    have HN1 := Lib.hid hn1
    have HS4 := Lib.hid ((HS3.out.of_below hb).alloc [.int .i64 w, .int .i64 h, .int .i64 c, .bool d, .slice A1 L1.length n1] 39)
    have HC4 := Lib.hid (Kd.C_alloc (Kd.C_below HC3.out hb) (.cells #[.int .i64 w, .int .i64 h, .int .i64 c, .bool d, .slice A1 L1.length n1] 39))
    have HD4 := Lib.hid (Kd.C_alloc hC1 (.cells #[.int .i64 w, .int .i64 h, .int .i64 c, .bool d, .slice A1 L1.length n1] 39))
    clear HS3 HC3 hb hS hC1 hn1 f0 f1 f2 f3 f4 r0 r1 r2 r3
    obtain ⟨f0, f1, f2, f3, f4⟩ := HS4.out.cells5 mm0
    obtain ⟨r0, r1, r2, r3⟩ := HS4.out.cells4 mm1
    obtain ⟨q0, q1, q2⟩ := HS4.out.cells3 mm2
    go_wp2_with fail
    refine (dailieslaw06_whole.calls w h c d y1 y2 X2 Y2 w3 h3 _ E2.out).mono ?_
    rintro en w5 ⟨rfl, hb⟩
    have HS5 := Lib.hid ((HS4.out.of_below hb).alloc [.int .i64 X2, .int .i64 Y2, .int .i64 w3, .int .i64 h3] 52)
    have HC5 := Lib.hid (Kd.C_alloc (Kd.C_below HC4.out hb) (.cells #[.int .i64 X2, .int .i64 Y2, .int .i64 w3, .int .i64 h3] 52))
    have HD5 := Lib.hid (Kd.C_alloc (Kd.C_below HD4.out hb) (.cells #[.int .i64 X2, .int .i64 Y2, .int .i64 w3, .int .i64 h3] 52))
    clear HS4 HC4 HD4 hb f0 f1 f2 f3 f4 r0 r1 r2 r3 q0 q1 q2
    obtain ⟨f0, f1, f2, f3, f4⟩ := HS5.out.cells5 mm1
    obtain ⟨r0, r1, r2, r3⟩ := HS5.out.cells4 mm0
    go_wp2_with fail
    refine (plane_Cut.calls 5000 w h c d A1 n1 L1 X2 Y2 w3 h3 w3 h3 c d L2 0 _ HD5.out HN1.out CUT2.out).mono ?_
    rintro en w6 ⟨u1, rfl, hS, hb⟩
    obtain ⟨A2, n2, rfl, hn2, hC2⟩ := Kd.S_reads hS
    have HN2 := Lib.hid hn2
    have HS6 := Lib.hid ((HS5.out.of_below hb).alloc [.int .i64 w3, .int .i64 h3, .int .i64 c, .bool d, .slice A2 L2.length n2] 39)
    have HC6 := Lib.hid (Kd.C_alloc (Kd.C_below HC5.out hb) (.cells #[.int .i64 w3, .int .i64 h3, .int .i64 c, .bool d, .slice A2 L2.length n2] 39))
    have HD6 := Lib.hid (Kd.C_alloc hC2 (.cells #[.int .i64 w3, .int .i64 h3, .int .i64 c, .bool d, .slice A2 L2.length n2] 39))
    clear HS5 HC5 HD5 hb hS hC2 hn2 f0 f1 f2 f3 f4 r0 r1 r2 r3
    have hu5 := HS6.out.cells5 (List.mem_cons_of_mem _ mm5)
    obtain ⟨f0, f1, f2, f3, f4⟩ := hu5
    obtain ⟨r0, r1, r2, r3⟩ := HS6.out.cells4 mm1
    obtain ⟨q0, q1, q2, q3⟩ := HS6.out.cells4 mm3
    go_wp2_with fail
    refine (plane_Cut.calls 5000 a b c d A n l (X + X2) (Y + Y2) w3 h3 w3 h3 c d L2 0 _ HC6.out HN.out CUT3.out).mono ?_
    rintro en w7 ⟨u1, rfl, hS, hb⟩
    obtain ⟨A3, n3, rfl, hn3, hC3⟩ := Kd.S_reads hS
    have HN3 := Lib.hid hn3
    have HS7 := Lib.hid ((HS6.out.of_below hb).alloc [.int .i64 w3, .int .i64 h3, .int .i64 c, .bool d, .slice A3 L2.length n3] 39)
    have HC7 := Lib.hid (Kd.C_alloc hC3 (.cells #[.int .i64 w3, .int .i64 h3, .int .i64 c, .bool d, .slice A3 L2.length n3] 39))
    have HD7 := Lib.hid (Kd.C_alloc (Kd.C_below HD6.out hb) (.cells #[.int .i64 w3, .int .i64 h3, .int .i64 c, .bool d, .slice A3 L2.length n3] 39))
    clear HS6 HC6 HD6 hb hS hC3 hn3 f0 f1 f2 f3 f4 r0 r1 r2 r3 q0 q1 q2 q3
    obtain ⟨f0, f1, f2, f3, f4⟩ := HS7.out.cells5 mm1
    obtain ⟨r0, r1, r2, r3, r4⟩ := HS7.out.cells5 mm0
    have hsame : plane_Same.f w3 h3 c d L2 w3 h3 c d L2 = some true := by simp [plane_Same.f, sameF]
    have SAME := Lib.hid hsame
    clear hsame
    go_wp2_with fail
    refine (plane_Same.calls w3 h3 c d A2 n2 L2 w3 h3 c d A3 n3 L2 true _ HD7.out HN2.out HC7.out HN3.out SAME.out).mono ?_
    rintro en w8 ⟨rfl, hb⟩
    have HS8 := Lib.hid (HS7.out.of_below hb)
    have HD8 := Lib.hid (Kd.C_below HD7.out hb)
    clear HS7 HC7 HD7 hb f0 f1 f2 f3 f4 r0 r1 r2 r3 r4
    obtain ⟨f0, f1, f2, f3, f4⟩ := HS8.out.cells5 mm1
    go_wp2_with fail
    refine (plane_Valid.calls 12 w3 h3 c d A2 n2 L2 0 _ HD8.out HN2.out VAL.out).mono ?_
    rintro en w9 ⟨rfl, hb⟩
    go_wp2_with fail
    go_ret
    exact ⟨rfl, (HS8.out.of_below hb).below⟩
  · have t1 : (valF a b c d l == 0) = false := by rw [beq_eq_false_iff_ne]; exact hok
    have t2 : (valF a b c d l != 0) = true := by rw [bne_iff_ne]; exact hok
    generalize valF a b c d l = q at *
    clear hok
    go_wp2_with fail
    go_ret
    exact ⟨rfl, HS2.out.below⟩

end Go.Proofs.Ytdoikehkibefpaa
