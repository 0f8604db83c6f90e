import Derived.Test.YtdoikehkibefpaaPPbx10
import Derived.Test.YtdoikehkibefpaaPPbx3
import Derived.Test.YtdoikehkibefpaaPPbx5
import Derived.Test.YtdoikehkibefpaaPPbx6
import Derived.Test.YtdoikehkibefpaaPPbx7
import Derived.Test.YtdoikehkibefpaaPPbx8
import Derived.Test.YtdoikehkibefpaaPasteW
import Derived.Test.YtdoikehkibefpaaPlaneDb
import Derived.Test.YtdoikehkibefpaaPlaneR
import Derived.Lib.Hide
namespace Go.Proofs.Ytdoikehkibefpaa
set_option linter.unusedSimpArgs false
set_option linter.unusedVariables false
open Go Go.RowKit Go.WideShapes Go.Proofs.Ytdoikehkibefpaa.PPb Go.Proofs.YtdoikehkibefpaaW.PrintWords Go.Proofs.YtdoikehkibefpaaW.PrintMore

set_option maxRecDepth 100000 in
theorem arg_block {H : Type} {enc : TypeId × Value → H} {W : World} {base : Nat} {v : Value} (h : Arg enc Try.prog W base 55 v) : ∃ (a b : Int) (A : Option Addr) (n : Nat) (l : List Int), v = .agg #[.int .i64 a, .int .i64 b, .slice A l.length n] ∧ l.length ≤ n ∧ Kd.C (Kd.int .u16) W A l.length l ∧ (∀ x ∈ l, 0 ≤ x ∧ x ≤ 65535) ∧ (-9223372036854775808 ≤ a ∧ a ≤ 9223372036854775807) ∧ (-9223372036854775808 ≤ b ∧ b ≤ 9223372036854775807) ∧ n * 2 ≤ 140737488351232 := by
  have h2 := h.2
  obtain ⟨cs, rfl, _, _⟩ := arg_struct Try.underlying55 h
  have h3 : Ok enc Try.prog W 55 cs := by simpa [Value.cells] using h2
  obtain ⟨hl, hf⟩ := ok_struct Try.underlying55 h3
  have hlen : cs.length = 3 := hl.trans (by kernel_rfl)
  have c1 : Try.prog.cellsOf 53 = 1 := by kernel_rfl
  match cs, hlen with
  | [y0, y1, y2], _ =>
    obtain ⟨n0, q0, w0⟩ := ok_int (k := .i64) Try.underlying3 (hf 0 _ rfl)
    obtain ⟨n1, q1, w1⟩ := ok_int (k := .i64) Try.underlying3 (hf 1 _ rfl)
    have f2 := hf 2 _ rfl
    simp [cInt] at q0 q1
    have f2' : Ok enc Try.prog W 53 [y2] := by simpa [cInt, c1] using f2
    obtain ⟨A, n, l, e2, hln, hC, hb, hg⟩ := C_ints (k := .u16) (e := 72) (B := 2) Try.underlying53 Try.underlying72 (by kernel_rfl) (by kernel_rfl) (by decide) f2'
    subst q0; subst q1; subst e2
    exact ⟨n0, n1, A, n, l, rfl, hln, hC, fun x hx => by have := bounds_u16 (hg x hx); omega, i64_wf w0, i64_wf w1, hb⟩

theorem cropV_facts {W H D : Int} {A : Bool} {l : List (List Int)} (hok : FrameOk W H D A l) (hs : smp l) {p : Nat} (hp : p < l.length) {x y w h : Int} (hl : liesIn x y w h (wd W p) H) :
    (∀ v ∈ cropV W l p x y w h, 0 ≤ v ∧ v ≤ 65535) ∧ goodB W H D p x.toNat y.toNat w h (cropV W l p x y w h) ∧ pasted W l p x.toNat y.toNat w h (cropV W l p x y w h) = l ∧ (cropV W l p x y w h).length ≤ 16777216 := by
  have hlen := hok.len
  have hpp : 0 ≤ (p : Int) ∧ (p : Int) < plN A := by omega
  obtain ⟨f1, f2, f3⟩ := row_fits hok hpp hl
  have hl' := hl
  obtain ⟨h1, h2, h3, h4, h5, h6, h7, h8⟩ := hl'
  have e : rd_L1 l (p : Int) = l.getD p [] := rfl
  rw [e] at f1 f3
  have hmem := takenS_mem (l := l.getD p []) f2 f3
  have hlm : l.getD p [] ∈ l := getD_mem [] l p hp
  have hle : (cropV W l p x y w h).length = w.toNat * h.toNat := takenS_length _ _ _ _ _ _
  refine ⟨fun v hv => hs _ hlm v (hmem v hv), ⟨?_, ?_, ?_⟩, ?_, ?_⟩
  · rw [Int.toNat_of_nonneg h3, Int.toNat_of_nonneg h4]; exact hl
  · rw [hle, Int.natCast_mul, Int.toNat_of_nonneg (by omega), Int.toNat_of_nonneg (by omega)]
  · exact low_of hmem (any_false_mem hok.low _ hlm)
  · unfold pasted cropV
    rw [e, pst_taken f2 f3 (by omega) h.toNat (Nat.le_refl _)]
    apply List.ext_getElem
    · simp
    · intro i h1 h2
      rw [List.getElem_set]
      split
      · rename_i hpi
        subst hpi
        rw [List.getD_eq_getElem?_getD, List.getElem?_eq_getElem h2]
        rfl
      · rfl
  · rw [hle]
    have : w.toNat * h.toNat ≤ (y.toNat + h.toNat) * (wd W p).toNat := by rw [Nat.mul_comm]; exact Nat.mul_le_mul (by omega) (by omega)
    omega

theorem pasted_facts {W H D : Int} {A : Bool} {l : List (List Int)} (hok : FrameOk W H D A l) (hs : smp l) {p : Nat} (hp : p < l.length) {x y : Nat} {w h : Int} {b : List Int} (hb : ∀ v ∈ b, 0 ≤ v ∧ v ≤ 65535) (hg : goodB W H D p x y w h b) :
    FrameOk W H D A (pasted W l p x y w h b) ∧ smp (pasted W l p x y w h b) ∧ cropV W (pasted W l p x y w h b) p x y w h = b := by
  obtain ⟨hl, hlen, hlow⟩ := hg
  have hle := hok.len
  have hpp : 0 ≤ (p : Int) ∧ (p : Int) < plN A := by omega
  obtain ⟨f1, f2, f3⟩ := row_fits hok hpp hl
  have hl' := hl
  obtain ⟨h1, h2, h3, h4, h5, h6, h7, h8⟩ := hl'
  have e : rd_L1 l (p : Int) = l.getD p [] := rfl
  rw [e] at f1 f3
  simp only [Int.toNat_natCast] at f2 f3
  have hbl : b.length = w.toNat * h.toNat := by
    have : (b.length : Int) = ((w.toNat * h.toNat : Nat) : Int) := by rw [hlen, Int.natCast_mul, Int.toNat_of_nonneg (by omega), Int.toNat_of_nonneg (by omega)]
    exact_mod_cast this
  have hpl := pst_length (w := (wd W p).toNat) (x := x) (y := y) hbl f2 f3 h.toNat (Nat.le_refl _)
  have hmem : ∀ j, j ≤ h.toNat → ∀ v ∈ pst (l.getD p []) b (wd W p).toNat x y w.toNat j, v ∈ l.getD p [] ∨ v ∈ b := by
    intro j
    induction j with
    | zero => intro _ v hv; exact .inl hv
    | succ j ih =>
      intro hj v hv
      simp only [pst, spl, List.mem_append] at hv
      rcases hv with hv | hv | hv
      · exact ih (by omega) v (List.mem_of_mem_take hv)
      · exact .inr (List.mem_of_mem_take (List.mem_of_mem_drop hv))
      · exact ih (by omega) v (List.mem_of_mem_drop hv)
  have hlm : l.getD p [] ∈ l := getD_mem [] l p hp
  refine ⟨set_ok hok p _ hpl ?_, set_smp hs p _ fun v hv => (hmem _ (Nat.le_refl _) v hv).elim (hs _ hlm v) (hb v), ?_⟩
  · unfold bigIn
    rw [List.any_eq_false]
    intro v hv
    have h9 := any_false_mem hok.low _ hlm
    unfold bigIn at h9 hlow
    rw [List.any_eq_false] at h9 hlow
    exact (hmem _ (Nat.le_refl _) v hv).elim (h9 v) (hlow v)
  · have e2 : rd_L1 (pasted W l p x y w h b) (p : Int) = pst (l.getD p []) b (wd W p).toNat x y w.toNat h.toNat := by
      show (pasted W l p x y w h b).getD p [] = _
      unfold pasted
      rw [set_getD, if_pos ⟨rfl, hp⟩]
    unfold cropV
    rw [e2]
    simp only [Int.toNat_natCast]
    exact taken_pst hbl f2 f3 (by omega)

set_option maxHeartbeats 4000000 in
set_option maxRecDepth 100000 in
theorem planeBack_walk {H : Type} {enc : TypeId × Value → H} (W : World) (base : Nat) (v0 v1 v2 : Value) (a0 : Arg enc Try.prog W base 39 v0) (a1 : Arg enc Try.prog W base 77 v1) (a2 : Arg enc Try.prog W base 55 v2) :
    Calls Try.prog 14 #[v0, v1, v2] W fun e W' => e = .returned (.bool true) ∧ Below W.heap.size W W' := by
  obtain ⟨a, b, c, d, A, n, l, rfl, hn, hC, hs, M, hM, hM2⟩ := arg_frame a0
  obtain ⟨x0, x1, x2, rfl, hx0, hx1, hx2⟩ := arg_at a1
  obtain ⟨bw, bh, Ab, bn, bl, rfl, hbn, hCb, hbs, hbw, hbh, hb2⟩ := arg_block a2
  clear a0 a1 a2
  have HS := Lib.hid ((((St.top W).alloc' rfl [.int .i64 a, .int .i64 b, .int .i64 c, .bool d, .slice A l.length n] 39).alloc' (n := W.heap.size + 1) (by simp) [.int .i64 x0, .int .i64 x1, .int .i64 x2] 77).alloc' (n := W.heap.size + 2) (by simp) [.int .i64 bw, .int .i64 bh, .slice Ab bl.length bn] 55)
  have HC := Lib.hid (Kd.C_alloc (Kd.C_alloc (Kd.C_alloc hC (.cells #[.int .i64 a, .int .i64 b, .int .i64 c, .bool d, .slice A l.length n] 39)) (.cells #[.int .i64 x0, .int .i64 x1, .int .i64 x2] 77)) (.cells #[.int .i64 bw, .int .i64 bh, .slice Ab bl.length bn] 55))
  have HB := Lib.hid (Kd.C_alloc (Kd.C_alloc (Kd.C_alloc hCb (.cells #[.int .i64 a, .int .i64 b, .int .i64 c, .bool d, .slice A l.length n] 39)) (.cells #[.int .i64 x0, .int .i64 x1, .int .i64 x2] 77)) (.cells #[.int .i64 bw, .int .i64 bh, .slice Ab bl.length bn] 55))
  have HN := Lib.hid hn
  have HBN := Lib.hid hbn
  have HBS := Lib.hid hbs
  have HSM := Lib.hid hs
  have HM := Lib.hid hM
  have HX0 := Lib.hid hx0
  have HX1 := Lib.hid hx1
  have HX2 := Lib.hid hx2
  have HBW := Lib.hid hbw
  have HBH := Lib.hid hbh
  have HB2 := Lib.hid hb2
  clear hC hCb hn hbn hs hbs hM hx0 hx1 hx2 hbw hbh hb2
  go_enter Try.func14, Try.ntmps14
  go_wp2_with fail
  refine (dailieslaw06_shown.calls 40 true _ shown_f).mono ?_
  rintro en w1 ⟨rfl, hb⟩
  have HS1 := Lib.hid (HS.out.of_below hb)
  have HC1 := Lib.hid (Kd.C_below HC.out hb)
  have HB1 := Lib.hid (Kd.C_below HB.out hb)
  clear HS HC HB hb
  obtain ⟨f0, f1, f2, f3, f4⟩ := HS1.out.cells5 mm2
  go_wp2_with fail
  refine (dailiesref06_Valid.calls (5986 + M + 14) a b c d A n l _ _ HC1.out HN.out (rvalid_f a b c d l M HM.out hM2 HSM.out 5986)).mono ?_
  rintro en w2 ⟨rfl, hb⟩
  have HS2 := Lib.hid (HS1.out.of_below hb)
  have HC2 := Lib.hid (Kd.C_below HC1.out hb)
  have HB2' := Lib.hid (Kd.C_below HB1.out hb)
  clear HS1 HC1 HB1 hb f0 f1 f2 f3 f4
  by_cases hok : valF a b c d l = 0
  · rw [hok]
    have hf := ok_of_valF hok
    have hW := hf.shape.1
    have hH := hf.shape.2.1
    have hlen := hf.len
    have hpl : 3 ≤ l.length := by cases d <;> simp [plN] at hlen <;> omega
    obtain ⟨p', hp1, hp2, hp3⟩ := place_f (c := x0) (n := (l.length : Int)) HX0.out (by omega)
    obtain ⟨p, rfl⟩ := Int.eq_ofNat_of_zero_le hp2
    have hp : p < l.length := by omega
    have hwd := wd_bd (p := (p : Int)) hW.1 hW.2
    have hsz := size_f hf.shape (p := (p : Int)) (by omega) 35
    obtain ⟨X, Y, w, h, e1, ra⟩ := part_law (W := wd a p) (H := b) (x := x1) (y := x2) hwd hH HX1.out HX2.out
    have hpart := part_is (W := wd a p) (H := b) (x := x1) (y := x2) hwd hH HX1.out HX2.out
    rw [e1] at hpart
    obtain ⟨k1, k2, k3, k4⟩ := cropV_facts hf HSM.out hp ra
    have hcrop := crop_f a b c d l HSM.out p X Y w h 0
    unfold cropF at hcrop
    rw [if_pos hok, if_pos ⟨by omega, ra⟩] at hcrop
    have hXY : X ≤ 4096 ∧ Y ≤ 4096 := by unfold liesIn at ra; omega
    have hwh : (-9223372036854775808 ≤ w ∧ w ≤ 9223372036854775807) ∧ (-9223372036854775808 ≤ h ∧ h ≤ 9223372036854775807) := by unfold liesIn at ra; omega
    obtain ⟨x, rfl⟩ := Int.eq_ofNat_of_zero_le ra.2.2.1
    obtain ⟨y, rfl⟩ := Int.eq_ofNat_of_zero_le ra.2.2.2.1
    simp only [Int.toNat_natCast] at k2 k3
    obtain ⟨cl, hcl⟩ : ∃ q, cropV a l p (x : Nat) (y : Nat) w h = q := ⟨_, rfl⟩
    rw [hcl] at k1 k2 k3 k4 hcrop
    have hback := fun (hg : goodB a b c p x y bw bh bl) => pasted_facts (A := d) hf HSM.out hp HBS.out hg
    obtain ⟨wp, hwp⟩ : ∃ q, wd a (p : Nat) = q := ⟨_, rfl⟩
    have t1 : decide (wp < 1) = false := by rw [decide_eq_false_iff_not]; omega
    have t2 : decide (b < 1) = false := by rw [decide_eq_false_iff_not]; omega
    rw [hwp] at hsz hpart
    have HF := Lib.hid hf
    have HPL := Lib.hid hp1
    have HSZ := Lib.hid hsz
    have HPA := Lib.hid hpart
    have HCR := Lib.hid hcrop
    have K1 := Lib.hid k1
    have K2 := Lib.hid k2
    have K3 := Lib.hid k3
    have HBK := Lib.hid hback
    have HWH := Lib.hid hwh
    have HXY := Lib.hid hXY
    have HRA := Lib.hid ra
    have HOK := Lib.hid hok
    clear hok hf hW hH hlen hpl hp1 hp2 hp3 hwd hsz e1 ra hpart k1 k2 k3 hcrop hwh hXY hback hcl hwp
    obtain ⟨f0, f1, f2, f3, f4⟩ := HS2.out.cells5 mm2
    obtain ⟨p0, p1, p2⟩ := HS2.out.cells3 mm1
    clear f0 f1 f2 f3 p1 p2
    go_wp2_with fail
    refine (dailieslaw06_place.calls x0 l.length p _ HPL.out).mono ?_
    rintro en w3 ⟨rfl, hb⟩
    have HS3 := Lib.hid (HS2.out.of_below hb.below)
    have HC3 := Lib.hid (Kd.C_below HC2.out hb.below)
    have HB3 := Lib.hid (Kd.C_below HB2'.out hb.below)
    clear HS2 HC2 HB2' hb f4 p0
    obtain ⟨f0, f1, f2, f3, f4⟩ := HS3.out.cells5 mm2
    clear f4
    go_wp2_with fail
    refine (plane_Size.calls (35 + 5) a b c d p wp b 0 _ HSZ.out).mono ?_
    rintro en w4 ⟨rfl, hb⟩
    have HS4 := Lib.hid (HS3.out.of_below hb)
    have HC4 := Lib.hid (Kd.C_below HC3.out hb)
    have HB4 := Lib.hid (Kd.C_below HB3.out hb)
    clear HS3 HC3 HB3 hb f0 f1 f2 f3
    obtain ⟨p0, p1, p2⟩ := HS4.out.cells3 mm1
    clear p0
    go_wp2_with fail
    refine (dailieslaw06_part.calls wp b x1 x2 x y w h _ HPA.out).mono ?_
    rintro en w5 ⟨rfl, hb⟩
    have HS5 := Lib.hid ((HS4.out.of_below hb).alloc [.int .i64 (x : Nat), .int .i64 (y : Nat), .int .i64 w, .int .i64 h] 52)
    have HC5 := Lib.hid (Kd.C_alloc (Kd.C_below HC4.out hb) (.cells #[.int .i64 (x : Nat), .int .i64 (y : Nat), .int .i64 w, .int .i64 h] 52))
    have HB5 := Lib.hid (Kd.C_alloc (Kd.C_below HB4.out hb) (.cells #[.int .i64 (x : Nat), .int .i64 (y : Nat), .int .i64 w, .int .i64 h] 52))
    clear HS4 HC4 HB4 hb p1 p2
    obtain ⟨f0, f1, f2, f3, f4⟩ := HS5.out.cells5 mm3
    obtain ⟨r0, r1, r2, r3⟩ := HS5.out.cells4 mm0
    go_wp2_with fail
    refine (plane_Crop.calls (0 + 5000) a b c d A n l p x y w h w h cl 0 _ HC5.out HN.out HCR.out).mono ?_
    rintro en w6 ⟨u1, rfl, hR, hb⟩
    obtain ⟨A1, n1, rfl, hn1, hC1⟩ := Kd.R_reads hR
    have HN1 := Lib.hid hn1
    have HS6 := Lib.hid ((HS5.out.of_below hb).alloc [.int .i64 w, .int .i64 h, .slice A1 cl.length n1] 55)
    have HC6 := Lib.hid (Kd.C_alloc (Kd.C_below HC5.out hb) (.cells #[.int .i64 w, .int .i64 h, .slice A1 cl.length n1] 55))
    have HB6 := Lib.hid (Kd.C_alloc (Kd.C_below HB5.out hb) (.cells #[.int .i64 w, .int .i64 h, .slice A1 cl.length n1] 55))
    have HD6 := Lib.hid (Kd.C_alloc hC1 (.cells #[.int .i64 w, .int .i64 h, .slice A1 cl.length n1] 55))
    clear HS5 HC5 HB5 hb hR hC1 hn1 f0 f1 f2 f3 f4 r0 r1 r2 r3
    obtain ⟨f0, f1, f2, f3, f4⟩ := HS6.out.cells5 mm4
    obtain ⟨r0, r1, r2, r3⟩ := HS6.out.cells4 mm1
    obtain ⟨c0, c1, c2⟩ := HS6.out.cells3 mm0
    clear r2 r3
    go_wp2_with fail
    refine (paste_ok _ a b c d A n l HC6.out HN.out HF.out HSM.out p x y hp (by have := HXY.out; omega) (by have := HXY.out; omega) w h A1 n1 cl HD6.out HN1.out K1.out HWH.out.1 HWH.out.2).mono ?_
    rintro en w7 (⟨hng, _⟩ | ⟨-, v, rfl, hS7⟩)
    · exact absurd K2.out hng
    rw [K3.out] at hS7
    have hb := hS7.below
    obtain ⟨A2, n2, rfl, hn2, hC2⟩ := hS7.matC
    have HN2 := Lib.hid hn2
    have HS7 := Lib.hid ((HS6.out.of_below hb).alloc [.int .i64 a, .int .i64 b, .int .i64 c, .bool d, .slice A2 l.length n2] 39)
    have HC7 := Lib.hid (Kd.C_alloc (Kd.C_below HC6.out hb) (.cells #[.int .i64 a, .int .i64 b, .int .i64 c, .bool d, .slice A2 l.length n2] 39))
    have HB7 := Lib.hid (Kd.C_alloc (Kd.C_below HB6.out hb) (.cells #[.int .i64 a, .int .i64 b, .int .i64 c, .bool d, .slice A2 l.length n2] 39))
    have HD7 := Lib.hid (Kd.C_alloc hC2 (.cells #[.int .i64 a, .int .i64 b, .int .i64 c, .bool d, .slice A2 l.length n2] 39))
    clear HS6 HC6 HB6 HD6 hb hS7 hC2 hn2 f0 f1 f2 f3 f4 r0 r1 c0 c1 c2
    obtain ⟨f0, f1, f2, f3, f4⟩ := HS7.out.cells5 mm5
    obtain ⟨r0, r1, r2, r3, r4⟩ := HS7.out.cells5 mm0
    have hsame : plane_Same.f a b c d l a b c d l = some true := by simp [plane_Same.f, sameF]
    have SAME := Lib.hid hsame
    clear hsame
    go_wp2_with fail
    refine (plane_Same.calls a b c d A2 n2 l a b c d A n l true _ HD7.out HN2.out HC7.out HN.out SAME.out).mono ?_
    rintro en w8 ⟨rfl, hb⟩
    have HS8 := Lib.hid (HS7.out.of_below hb)
    have HC8 := Lib.hid (Kd.C_below HC7.out hb)
    have HB8 := Lib.hid (Kd.C_below HB7.out hb)
    clear HS7 HC7 HB7 HD7 hb f0 f1 f2 f3 f4 r0 r1 r2 r3 r4
    obtain ⟨f0, f1, f2, f3, f4⟩ := HS8.out.cells5 mm5
    obtain ⟨r0, r1, r2, r3⟩ := HS8.out.cells4 mm2
    obtain ⟨c0, c1, c2⟩ := HS8.out.cells3 mm3
    clear r2 r3
    go_wp2_with fail
    refine (paste_ok _ a b c d A n l HC8.out HN.out HF.out HSM.out p x y hp (by have := HXY.out; omega) (by have := HXY.out; omega) bw bh Ab bn bl HB8.out HBN.out HBS.out HBW.out HBH.out).mono ?_
    clear f0 f1 f2 f3 f4 r0 r1 c0 c1 c2
    rintro en w9 (⟨hng, ⟨er, her, rfl⟩, hb⟩ | ⟨hg, v, rfl, hS9⟩)
    · have HS9 := Lib.hid ((HS8.out.of_below hb).alloc [.int .i64 0, .int .i64 0, .int .i64 0, .bool false, .slice none 0 0] 39)
      clear HS8 HC8 HB8 hb hng
      obtain ⟨f0, f1, f2, f3, f4⟩ := HS9.out.cells5 mm0
      clear f0 f1 f2 f3
      have t3 : (er != 0) = true := by rw [bne_iff_ne]; exact her
      clear her
      go_wp2_with fail
      go_ret
      exact ⟨rfl, HS9.out.below⟩
    · obtain ⟨q1, q2, q3⟩ := HBK.out hg
      obtain ⟨L2, hL2⟩ : ∃ q, pasted a l p x y bw bh bl = q := ⟨_, rfl⟩
      rw [hL2] at q1 q2 q3 hS9
      have hb := hS9.below
      obtain ⟨A3, n3, rfl, hn3, hC3⟩ := hS9.matC
      have hcr := crop_f a b c d L2 q2 p x y bw bh 0
      unfold cropF at hcr
      have hlen := q1.len
      have hl2 : L2.length = l.length := by rw [← hL2]; exact List.length_set ..
      rw [valF_ok q1, if_pos rfl, if_pos ⟨by omega, hg.1⟩, q3] at hcr
      have HCR2 := Lib.hid hcr
      have HN3 := Lib.hid hn3
      have HS9 := Lib.hid ((HS8.out.of_below hb).alloc [.int .i64 a, .int .i64 b, .int .i64 c, .bool d, .slice A3 L2.length n3] 39)
      have HB9 := Lib.hid (Kd.C_alloc (Kd.C_below HB8.out hb) (.cells #[.int .i64 a, .int .i64 b, .int .i64 c, .bool d, .slice A3 L2.length n3] 39))
      have HD9 := Lib.hid (Kd.C_alloc hC3 (.cells #[.int .i64 a, .int .i64 b, .int .i64 c, .bool d, .slice A3 L2.length n3] 39))
      clear HS8 HC8 HB8 hb hS9 hC3 hn3 hg q1 q2 q3 hL2 hcr hlen hl2
      obtain ⟨f0, f1, f2, f3, f4⟩ := HS9.out.cells5 mm0
      obtain ⟨r0, r1, r2, r3⟩ := HS9.out.cells4 mm3
      obtain ⟨c0, c1, c2⟩ := HS9.out.cells3 mm4
      clear r2 r3 c2
      go_wp2_with fail
      refine (plane_Crop.calls (0 + 5000) a b c d A3 n3 L2 p x y bw bh bw bh bl 0 _ HD9.out HN3.out HCR2.out).mono ?_
      rintro en w10 ⟨u1, rfl, hR, hb⟩
      obtain ⟨A4, n4, rfl, hn4, hC4⟩ := Kd.R_reads hR
      have HN4 := Lib.hid hn4
      have HS10 := Lib.hid ((HS9.out.of_below hb).alloc [.int .i64 bw, .int .i64 bh, .slice A4 bl.length n4] 55)
      have HB10 := Lib.hid (Kd.C_alloc (Kd.C_below HB9.out hb) (.cells #[.int .i64 bw, .int .i64 bh, .slice A4 bl.length n4] 55))
      have HD10 := Lib.hid (Kd.C_alloc hC4 (.cells #[.int .i64 bw, .int .i64 bh, .slice A4 bl.length n4] 55))
      clear HS9 HB9 HD9 hb hR hC4 hn4 f0 f1 f2 f3 f4 r0 r1 c0 c1
      obtain ⟨c0, c1, c2⟩ := HS10.out.cells3 mm0
      obtain ⟨d0, d1, d2⟩ := HS10.out.cells3 mm5
      have hsm := sameBlock_f bw bh bl (by have := HB2.out; have := HBN.out; omega) 0
      have SAME2 := Lib.hid hsm
      clear hsm
      go_wp2_with fail
      refine (dailieslaw06_sameBlock.calls (0 + bl.length + 2) bw bh A4 n4 bl bw bh Ab bn bl true _ HD10.out HN4.out HB10.out HBN.out SAME2.out).mono ?_
      rintro en w11 ⟨rfl, hb⟩
      go_wp2_with fail
      go_ret
      exact ⟨rfl, (HS10.out.of_below hb).below⟩
  · have t1 : (valF a b c d l == 0) = false := by rw [beq_eq_false_iff_ne]; exact hok
    have t2 : (valF a b c d l != 0) = true := by rw [bne_iff_ne]; exact hok
    generalize valF a b c d l = q at *
    clear hok
    go_wp2_with fail
    go_ret
    exact ⟨rfl, HS2.out.below⟩

end Go.Proofs.Ytdoikehkibefpaa
