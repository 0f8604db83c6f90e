import Derived.Test.YtdoikehkibefpaaPPbx10
import Derived.Test.YtdoikehkibefpaaPCut
import Derived.Test.YtdoikehkibefpaaRCut
import Derived.Test.YtdoikehkibefpaaRSame
import Derived.Test.YtdoikehkibefpaaShown
import Derived.Test.YtdoikehkibefpaaLendFb
import Derived.Test.YtdoikehkibefpaaBookO
import Derived.Test.YtdoikehkibefpaaBookT
namespace Go.Proofs.Ytdoikehkibefpaa
set_option linter.unusedSimpArgs false
set_option linter.unusedVariables false
open Go Go.RowKit Go.WideShapes Go.Proofs.Ytdoikehkibefpaa.PPb Go.Proofs.YtdoikehkibefpaaW.PrintWords Go.Proofs.YtdoikehkibefpaaW.PrintLast

theorem St.bring {c : Ctx} {L : List HP} {w : World} (h : St c L w) (i : Nat) (hi : i < L.length := by simp only [List.length_cons]; omega) : St c (L[i] :: L.eraseIdx i) w := h.perm (perm_pick L i hi)
set_option maxHeartbeats 32000000 in
set_option maxRecDepth 100000 in
theorem planeCuts_walk {H : Type} {enc : TypeId × Value → H} (W : World) (base : Nat) (v0 v1 : Value) (a0 : Arg enc Try.prog W base 39 v0) (a1 : Arg enc Try.prog W base 52 v1) :
  Calls Try.prog 10 #[v0, v1] W fun e W' => e = .returned (.bool true) ∧ Below W.heap.size W W' := by
 obtain ⟨a, b, c, d, A, n, l, rfl, hn, hC, hs, hn2, hl2⟩ := arg_frame2 a0
 obtain ⟨rx, ry, rw, rh, rfl, _⟩ := arg_rect a1
 clear a0 a1
 obtain ⟨nL, hnL⟩ : ∃ q, l.length = q := ⟨_, rfl⟩
 have HS := Lib.hid (((St.top W).alloc' rfl [.int .i64 a, .int .i64 b, .int .i64 c, .bool d, .slice A l.length n] 39).alloc' (n := W.heap.size + 1) (by simp) [.int .i64 rx, .int .i64 ry, .int .i64 rw, .int .i64 rh] 52)
 have HC := Lib.hid hC
 have HSM := Lib.hid hs
 have HL := Lib.hid hl2
 have HN := Lib.hid hn
 have HNL := Lib.hid hnL
 clear hC hs hl2 hn hnL
 go_enter Try.func10, Try.ntmps10
 go_wp2_with fail
 refine (shown_ok _).mono ?_
 rintro en w1 ⟨rfl, hb⟩
 have HS1 := Lib.hid (HS.out.of_below hb)
 clear HS hb
 have HS2 := Lib.hid (St.bookNew (HS1.out.alloc' rfl [.slice none 0 0, .int .i64 0, .slice none 0 0] 36))
 clear HS1
 obtain ⟨f0, f1, f2, f3, f4⟩ := HS2.out.cells5 mm2
 go_wp2_with fail
 refine (lend_ok _ a b c d A n l (Kd.C_below HC.out HS2.out.below) hn2 HL.out HN.out).mono ?_
 rintro en w2 ⟨va, gL, gs, rfl, hgs, hS2⟩
 have hS2' := HS2.out.frame hS2
 simp only [List.cons_append, List.nil_append] at hS2'
 obtain ⟨aoA, capA, rfl, -, -, -, -⟩ := hS2'.lentOpen.rowShape
 have HS3 := Lib.hid (hS2'.alloc [.int .i64 a, .int .i64 b, .int .i64 c, .bool d, .slice (some ⟨gL, 0, none⟩) l.length (l.length + 2), .slice aoA l.length capA, .slice (some ⟨gL, 0, none⟩) (l.length + 2) (l.length + 2)] 46)
 have HGS := Lib.hid hgs
 clear HS2 hS2 hS2' hgs f0 f1 f2 f3 f4
 obtain ⟨f0, f1, f2, f3, f4⟩ := HS3.out.cells5 mm4
 go_wp2_with fail
 clear f0 f1 f2 f3 f4
 rw [HNL.out] at HS3 ⊢
 have HS4 := Lib.hid (HS3.out.alloc' (n := w2.heap.size + 1) (by simp) [.int .i64 a, .int .i64 b, .int .i64 c, .bool d, .slice A nL n] 39)
 clear HS3
 have HG : Hid (∀ w' R', St (top W) (emp :: R') w' → Kd.C (Kd.slice 72 (Kd.int .u16)) w' A nL l) := fun w' R' h => by rw [← HNL.out]; exact Kd.C_below HC.out h.below
 have HST := Lib.hid ((St.add (p := True) trivial HS4.out).reo 7 [4, 3, 0, 1, 2, 5, 6] (by decide))
 have HN' : Hid (nL ≤ n) := by rw [← HNL.out]; exact HN.out
 have HGS' : Hid (gs.length = nL) := by rw [← HNL.out]; exact HGS.out
 have hn2' : nL * 24 ≤ 140737488351232 := by rw [← HNL.out]; exact hn2
 clear HS4 HGS hn2
 generalize w1.heap.size = gB at *
 generalize w2.heap.size = gX at *
 go_loopw [9] (fun v w' => ∃ (t nb : Nat) (os : List Nat) (ls : List (List Int)) (Ag : Option Addr) (capg : Nat) (G : HP), v = .int .i64 (t : Nat) ∧ t ≤ 2 ∧ (t < 2 → nb ≤ 100 * t ∧ os.length ≤ 2 * t ∧ ∀ x ∈ os, x ≤ 4 + 2 * t) ∧ Hid (t = 0 → ls = l) ∧ Hid (ls.length = nL) ∧ Hid (smp ls) ∧ Hid (∀ x ∈ ls, x.length * 2 ≤ 140737488351232) ∧ Hid (nL ≤ capg) ∧ Hid (∀ w' R', St (top W) (G :: R') w' → Kd.C (Kd.slice 72 (Kd.int .u16)) w' Ag nL ls) ∧ Hid (St (top W) (book gB nb os :: lentIs (.slice aoA nL capA) gL gs ls :: G :: blk (gX + 1) [.int .i64 a, .int .i64 b, .int .i64 c, .bool d, .slice Ag nL capg] 39 :: blk gX [.int .i64 a, .int .i64 b, .int .i64 c, .bool d, .slice (some ⟨gL, 0, none⟩) nL (nL + 2), .slice aoA nL capA, .slice (some ⟨gL, 0, none⟩) (nL + 2) (nL + 2)] 46 :: blk (W.heap.size + 1) [.int .i64 rx, .int .i64 ry, .int .i64 rw, .int .i64 rh] 52 :: blk W.heap.size [.int .i64 a, .int .i64 b, .int .i64 c, .bool d, .slice A nL n] 39 :: []) w')) (fun v _ => 2 - (intOf v).toNat)
 case atStart => exact ⟨0, 0, [], l, A, n, emp, rfl, by omega, fun _ => ⟨by omega, by simp, fun x hx => by cases hx⟩, fun _ => rfl, HNL, HSM, HL, HN', HG, HST⟩
 case round =>
  clear HST HG
  obtain ⟨t, nb, os, ls, Ag, capg, G, rfl, ht, hbd, HT0, HLN, HSMs, HLs, HCG, HGC, hS⟩ := hrel
  by_cases htl : t < 2
  ·obtain ⟨hnb, hos, hox⟩ := hbd htl
   have HOX := Lib.hid hox
   obtain ⟨⟨u1, u2, u3, u4, cl, u6⟩, hcf⟩ : ∃ r, cutF a b c d ls rx ry rw rh = r := ⟨_, rfl⟩
   obtain ⟨hcl, hcl2⟩ := cutF_len hcf
   obtain ⟨k1, hk1⟩ := rsame_f u1 u2 u3 u4 cl (by omega) (fun x hx => by have := hcl2 x hx; omega)
   have h1 := fun (w : World) hr hc => pcut_ok w a b c d (some ⟨gL, 0, none⟩) (nL + 2) ls rx ry rw rh hr hc HSMs.out HLs.out hcf
   have h3 := fun (w : World) hr hc => rcut_ok w a b c d Ag capg ls rx ry rw rh hr hc HSMs.out HLs.out hcf
   rw [HLN.out] at h1 h3
   have CP := Lib.hid h1
   have CR := Lib.hid h3
   have CS := Lib.hid (fun (A1 : Option Addr) (n1 : Nat) (A2 : Option Addr) (n2 : Nat) (w : World) h1 h2 h3 h4 => dailiesref06_Same.calls k1 u1 u2 u3 u4 A1 n1 cl u1 u2 u3 u4 A2 n2 cl true w h1 h2 h3 h4 hk1)
   have HCL := Lib.hid hcl2
   have LC : Hid (∀ w' R', St (top W) (lentIs (.slice aoA nL capA) gL gs ls :: R') w' → Kd.C (Kd.slice 72 (Kd.int .u16)) w' (some ⟨gL, 0, none⟩) nL ls) := by
    intro w' R' h
    have h5 := lentC h (by rw [HLN.out]; exact HGS'.out) (by rw [HLN.out]; exact hn2')
    rw [HLN.out] at h5
    exact h5
   have H0 := hS
   clear hS hbd hox hcf hk1 h1 h3 hcl2
   have x0 := St.cells_mem H0.out mm4 0
   have x1 := St.cells_mem H0.out mm4 1
   have x2 := St.cells_mem H0.out mm4 2
   have x3 := St.cells_mem H0.out mm4 3
   have x4 := St.cells_mem H0.out mm4 4
   simp only [List.getElem?_cons_zero, List.getElem?_cons_succ] at x0 x1 x2 x3 x4
   have y0 := St.cells_mem H0.out mm5 0
   have y1 := St.cells_mem H0.out mm5 1
   have y2 := St.cells_mem H0.out mm5 2
   have y3 := St.cells_mem H0.out mm5 3
   simp only [List.getElem?_cons_zero, List.getElem?_cons_succ] at y0 y1 y2 y3
   go_wp2_with fail
   refine (CP.out _ (LC.out _ _ (St.bring H0.out 1)) (by omega)).mono ?_
   rintro en w3 ⟨v1, rfl, hR⟩
   have hm := H0.out.frame hR
   simp only [List.cons_append, List.nil_append] at hm
   obtain ⟨P1, n1, rfl, -, -⟩ := hm.matC
   have H1 := Lib.hid (hm.alloc [.int .i64 u1, .int .i64 u2, .int .i64 u3, .bool u4, (.slice P1 cl.length n1)] 39)
   clear H0 hm hR x0 x1 x2 x3 x4 y0 y1 y2 y3
   have x0 := St.cells_mem H1.out mm6 0
   have x1 := St.cells_mem H1.out mm6 1
   have x2 := St.cells_mem H1.out mm6 2
   have x3 := St.cells_mem H1.out mm6 3
   have x4 := St.cells_mem H1.out mm6 4
   simp only [List.getElem?_cons_zero, List.getElem?_cons_succ] at x0 x1 x2 x3 x4
   have y0 := St.cells_mem H1.out mm7 0
   have y1 := St.cells_mem H1.out mm7 1
   have y2 := St.cells_mem H1.out mm7 2
   have y3 := St.cells_mem H1.out mm7 3
   simp only [List.getElem?_cons_zero, List.getElem?_cons_succ] at y0 y1 y2 y3
   go_wp2_with fail
   generalize w3.heap.size = g1 at *
   refine (CP.out _ (LC.out _ _ (St.bring H1.out 3)) (by omega)).mono ?_
   rintro en w4 ⟨v2, rfl, hR⟩
   have hm := H1.out.frame hR
   simp only [List.cons_append, List.nil_append] at hm
   obtain ⟨P2, n2, rfl, -, -⟩ := hm.matC
   have H2 := Lib.hid (hm.alloc [.int .i64 u1, .int .i64 u2, .int .i64 u3, .bool u4, (.slice P2 cl.length n2)] 39)
   clear H1 hm hR x0 x1 x2 x3 x4 y0 y1 y2 y3
   have x0 := St.cells_mem H2.out mm7 0
   have x1 := St.cells_mem H2.out mm7 1
   have x2 := St.cells_mem H2.out mm7 2
   have x3 := St.cells_mem H2.out mm7 3
   have x4 := St.cells_mem H2.out mm7 4
   simp only [List.getElem?_cons_zero, List.getElem?_cons_succ] at x0 x1 x2 x3 x4
   have y0 := St.cells_mem H2.out mm9 0
   have y1 := St.cells_mem H2.out mm9 1
   have y2 := St.cells_mem H2.out mm9 2
   have y3 := St.cells_mem H2.out mm9 3
   simp only [List.getElem?_cons_zero, List.getElem?_cons_succ] at y0 y1 y2 y3
   go_wp2_with fail
   generalize w4.heap.size = g2 at *
   refine (CR.out _ (HGC.out _ _ (St.bring H2.out 6)) HCG.out).mono ?_
   rintro en w5 ⟨v3, rfl, hR⟩
   have hm := H2.out.frame hR
   simp only [List.cons_append, List.nil_append] at hm
   obtain ⟨P3, n3, rfl, -, -⟩ := hm.matC
   have H3 := Lib.hid (hm.alloc [.int .i64 u1, .int .i64 u2, .int .i64 u3, .bool u4, (.slice P3 cl.length n3)] 39)
   clear H2 hm hR x0 x1 x2 x3 x4 y0 y1 y2 y3
   have x0 := St.cells_mem H3.out mm4 0
   have x1 := St.cells_mem H3.out mm4 1
   have x2 := St.cells_mem H3.out mm4 2
   have x3 := St.cells_mem H3.out mm4 3
   have x4 := St.cells_mem H3.out mm4 4
   simp only [List.getElem?_cons_zero, List.getElem?_cons_succ] at x0 x1 x2 x3 x4
   have y0 := St.cells_mem H3.out mm0 0
   have y1 := St.cells_mem H3.out mm0 1
   have y2 := St.cells_mem H3.out mm0 2
   have y3 := St.cells_mem H3.out mm0 3
   have y4 := St.cells_mem H3.out mm0 4
   simp only [List.getElem?_cons_zero, List.getElem?_cons_succ] at y0 y1 y2 y3 y4
   go_wp2_with fail
   generalize w5.heap.size = g3 at *
   refine (CS.out _ _ _ _ _ (St.bring H3.out 5).matC'.2.2 (St.bring H3.out 5).matC'.2.1 (St.bring H3.out 1).matC'.2.2 (St.bring H3.out 1).matC'.2.1).mono ?_
   rintro en w6 ⟨rfl, hb⟩
   have H4 := Lib.hid (H3.out.of_below hb)
   clear H3 hb x0 x1 x2 x3 x4 y0 y1 y2 y3 y4
   have x0 := St.cells_mem H4.out mm2 0
   have x1 := St.cells_mem H4.out mm2 1
   have x2 := St.cells_mem H4.out mm2 2
   have x3 := St.cells_mem H4.out mm2 3
   have x4 := St.cells_mem H4.out mm2 4
   simp only [List.getElem?_cons_zero, List.getElem?_cons_succ] at x0 x1 x2 x3 x4
   have y0 := St.cells_mem H4.out mm0 0
   have y1 := St.cells_mem H4.out mm0 1
   have y2 := St.cells_mem H4.out mm0 2
   have y3 := St.cells_mem H4.out mm0 3
   have y4 := St.cells_mem H4.out mm0 4
   simp only [List.getElem?_cons_zero, List.getElem?_cons_succ] at y0 y1 y2 y3 y4
   go_wp2_with fail
   refine (CS.out _ _ _ _ _ (St.bring H4.out 3).matC'.2.2 (St.bring H4.out 3).matC'.2.1 (St.bring H4.out 1).matC'.2.2 (St.bring H4.out 1).matC'.2.1).mono ?_
   rintro en w7 ⟨rfl, hb⟩
   have HY := Lib.hid (H4.out.of_below hb)
   clear H4 hb x0 x1 x2 x3 x4 y0 y1 y2 y3 y4
   have t_u : (u6 != u6) = false := by simp
   by_cases ht0 : t = 0
   ·have hll := HT0.out ht0
    have HY0 := HY
    clear HY
    have t_t : decide ((0 : Int) < (t : Int)) = false := decide_eq_false (by omega)
    have q0 := St.cells_mem HY0.out mm10 0
    have q1 := St.cells_mem HY0.out mm10 1
    have q2 := St.cells_mem HY0.out mm10 2
    have q3 := St.cells_mem HY0.out mm10 3
    have q4 := St.cells_mem HY0.out mm10 4
    have q5 := St.cells_mem HY0.out mm10 5
    have q6 := St.cells_mem HY0.out mm10 6
    simp only [List.getElem?_cons_zero, List.getElem?_cons_succ] at q0 q1 q2 q3 q4 q5 q6
    have y0 := St.cells_mem HY0.out mm12 0
    have y1 := St.cells_mem HY0.out mm12 1
    have y2 := St.cells_mem HY0.out mm12 2
    have y3 := St.cells_mem HY0.out mm12 3
    have y4 := St.cells_mem HY0.out mm12 4
    simp only [List.getElem?_cons_zero, List.getElem?_cons_succ] at y0 y1 y2 y3 y4
    go_wp2_with fail
    have hst := fun (w : World) hS hC => still_ok (top W) [blk g3 [.int .i64 u1, .int .i64 u2, .int .i64 u3, .bool u4, (.slice P3 cl.length n3)] 39, mat 53 72 .u16 (.slice P3 cl.length n3) cl, blk g2 [.int .i64 u1, .int .i64 u2, .int .i64 u3, .bool u4, (.slice P2 cl.length n2)] 39, mat 53 72 .u16 (.slice P2 cl.length n2) cl, blk g1 [.int .i64 u1, .int .i64 u2, .int .i64 u3, .bool u4, (.slice P1 cl.length n1)] 39, mat 53 72 .u16 (.slice P1 cl.length n1) cl, book gB nb os, G, blk (gX + 1) [.int .i64 a, .int .i64 b, .int .i64 c, .bool d, .slice Ag nL capg] 39, blk gX [.int .i64 a, .int .i64 b, .int .i64 c, .bool d, .slice (some ⟨gL, 0, none⟩) nL (nL + 2), .slice aoA nL capA, .slice (some ⟨gL, 0, none⟩) (nL + 2) (nL + 2)] 46, blk (W.heap.size + 1) [.int .i64 rx, .int .i64 ry, .int .i64 rw, .int .i64 rh] 52, blk W.heap.size [.int .i64 a, .int .i64 b, .int .i64 c, .bool d, .slice A nL n] 39] w (.slice aoA nL capA) gL gs ls a b c d A n hS (by rw [HLN.out]; exact HGS'.out) hC (by rw [HLN.out]; exact HN'.out) (by rw [HLN.out]; exact hn2') HLs.out
    rw [HLN.out] at hst
    refine (hst _ (St.bring HY0.out 7) (by rw [hll, ← HNL.out]; exact Kd.C_below HC.out HY0.out.below)).mono ?_
    rintro en w11 ⟨rfl, hb⟩
    have HY := Lib.hid (HY0.out.of_below hb)
    clear HY0 hb q0 q1 q2 q3 q4 q5 q6 y0 y1 y2 y3 y4 hst hll
    have x0 := St.cells_mem HY.out mm4 0
    have x1 := St.cells_mem HY.out mm4 1
    have x2 := St.cells_mem HY.out mm4 2
    have x3 := St.cells_mem HY.out mm4 3
    have x4 := St.cells_mem HY.out mm4 4
    simp only [List.getElem?_cons_zero, List.getElem?_cons_succ] at x0 x1 x2 x3 x4
    go_wp2_with fail
    clear t_t t_u
    clear x0 x1 x2 x3 x4
    have h2 : St (top W) (book gB nb os :: mat 53 72 .u16 (.slice P1 cl.length n1) cl :: blk g2 [.int .i64 u1, .int .i64 u2, .int .i64 u3, .bool u4, (.slice P2 cl.length n2)] 39 :: mat 53 72 .u16 (.slice P2 cl.length n2) cl :: lentIs (.slice aoA nL capA) gL gs ls :: G :: blk (gX + 1) [.int .i64 a, .int .i64 b, .int .i64 c, .bool d, .slice Ag nL capg] 39 :: blk gX [.int .i64 a, .int .i64 b, .int .i64 c, .bool d, .slice (some ⟨gL, 0, none⟩) nL (nL + 2), .slice aoA nL capA, .slice (some ⟨gL, 0, none⟩) (nL + 2) (nL + 2)] 46 :: blk (W.heap.size + 1) [.int .i64 rx, .int .i64 ry, .int .i64 rw, .int .i64 rh] 52 :: blk W.heap.size [.int .i64 a, .int .i64 b, .int .i64 c, .bool d, .slice A nL n] 39 :: []) _ := ((HY.out.reo 13 [0, 1, 4, 6, 5, 2, 3, 7, 8, 9, 10, 11, 12] (by decide)).drop).drop.drop
    have HM := Lib.hid h2
    clear h2 HY
    refine (take_ok (top W) [blk g2 [.int .i64 u1, .int .i64 u2, .int .i64 u3, .bool u4, (.slice P2 cl.length n2)] 39, mat 53 72 .u16 (.slice P2 cl.length n2) cl, lentIs (.slice aoA nL capA) gL gs ls, G, blk (gX + 1) [.int .i64 a, .int .i64 b, .int .i64 c, .bool d, .slice Ag nL capg] 39, blk gX [.int .i64 a, .int .i64 b, .int .i64 c, .bool d, .slice (some ⟨gL, 0, none⟩) nL (nL + 2), .slice aoA nL capA, .slice (some ⟨gL, 0, none⟩) (nL + 2) (nL + 2)] 46, blk (W.heap.size + 1) [.int .i64 rx, .int .i64 ry, .int .i64 rw, .int .i64 rh] 52, blk W.heap.size [.int .i64 a, .int .i64 b, .int .i64 c, .bool d, .slice A nL n] 39] _ gB nb os _ cl HM.out (fun l hl => by
     have hb : BIG = 134217728 := rfl
     have := HCL.out l hl
     omega) (by omega)).mono ?_
    rintro en w12 ⟨rfl, hS⟩
    have H10 := Lib.hid hS
    clear HM hS
    have x0 := St.cells_mem H10.out mm1 0
    have x1 := St.cells_mem H10.out mm1 1
    have x2 := St.cells_mem H10.out mm1 2
    have x3 := St.cells_mem H10.out mm1 3
    have x4 := St.cells_mem H10.out mm1 4
    simp only [List.getElem?_cons_zero, List.getElem?_cons_succ] at x0 x1 x2 x3 x4
    go_wp2_with fail
    clear x0 x1 x2 x3 x4
    have h2 : St (top W) (book gB nb (os ++ [cl.length]) :: mat 53 72 .u16 (.slice P2 cl.length n2) cl :: blk g2 [.int .i64 u1, .int .i64 u2, .int .i64 u3, .bool u4, (.slice P2 cl.length n2)] 39 :: lentIs (.slice aoA nL capA) gL gs ls :: G :: blk (gX + 1) [.int .i64 a, .int .i64 b, .int .i64 c, .bool d, .slice Ag nL capg] 39 :: blk gX [.int .i64 a, .int .i64 b, .int .i64 c, .bool d, .slice (some ⟨gL, 0, none⟩) nL (nL + 2), .slice aoA nL capA, .slice (some ⟨gL, 0, none⟩) (nL + 2) (nL + 2)] 46 :: blk (W.heap.size + 1) [.int .i64 rx, .int .i64 ry, .int .i64 rw, .int .i64 rh] 52 :: blk W.heap.size [.int .i64 a, .int .i64 b, .int .i64 c, .bool d, .slice A nL n] 39 :: []) _ := H10.out.reo 3 [0, 2, 1] (by decide)
    have HM := Lib.hid h2
    clear h2 H10
    refine (take_ok (top W) [blk g2 [.int .i64 u1, .int .i64 u2, .int .i64 u3, .bool u4, (.slice P2 cl.length n2)] 39, lentIs (.slice aoA nL capA) gL gs ls, G, blk (gX + 1) [.int .i64 a, .int .i64 b, .int .i64 c, .bool d, .slice Ag nL capg] 39, blk gX [.int .i64 a, .int .i64 b, .int .i64 c, .bool d, .slice (some ⟨gL, 0, none⟩) nL (nL + 2), .slice aoA nL capA, .slice (some ⟨gL, 0, none⟩) (nL + 2) (nL + 2)] 46, blk (W.heap.size + 1) [.int .i64 rx, .int .i64 ry, .int .i64 rw, .int .i64 rh] 52, blk W.heap.size [.int .i64 a, .int .i64 b, .int .i64 c, .bool d, .slice A nL n] 39] _ gB nb (os ++ [cl.length]) _ cl HM.out (fun l hl => by
     have hb : BIG = 134217728 := rfl
     have := HCL.out l hl
     omega) (by simp; omega)).mono ?_
    rintro en w13 ⟨rfl, hS⟩
    have H12 := Lib.hid hS.swap.drop
    clear HM hS
    go_wp2_with fail
    refine (own_ok (top W) [lentIs (.slice aoA nL capA) gL gs ls, G, blk (gX + 1) [.int .i64 a, .int .i64 b, .int .i64 c, .bool d, .slice Ag nL capg] 39, blk gX [.int .i64 a, .int .i64 b, .int .i64 c, .bool d, .slice (some ⟨gL, 0, none⟩) nL (nL + 2), .slice aoA nL capA, .slice (some ⟨gL, 0, none⟩) (nL + 2) (nL + 2)] 46, blk (W.heap.size + 1) [.int .i64 rx, .int .i64 ry, .int .i64 rw, .int .i64 rh] 52, blk W.heap.size [.int .i64 a, .int .i64 b, .int .i64 c, .bool d, .slice A nL n] 39] _ gB nb (os ++ [cl.length] ++ [cl.length]) H12.out (by omega) (by simp; omega) (fun x hx => by
     simp only [List.mem_append, List.mem_cons, List.not_mem_nil, or_false] at hx
     rcases hx with (hx | hx) | hx
     ·have := HOX.out x hx; omega
     ·omega
     ·omega)).mono ?_
    rintro en w14 ⟨rfl, hS⟩
    have H13 := Lib.hid hS
    clear H12 hS
    have q0 := St.cells_mem H13.out mm4 0
    have q1 := St.cells_mem H13.out mm4 1
    have q2 := St.cells_mem H13.out mm4 2
    have q3 := St.cells_mem H13.out mm4 3
    have q4 := St.cells_mem H13.out mm4 4
    have q5 := St.cells_mem H13.out mm4 5
    have q6 := St.cells_mem H13.out mm4 6
    simp only [List.getElem?_cons_zero, List.getElem?_cons_succ] at q0 q1 q2 q3 q4 q5 q6
    go_wp2_with fail
    clear q0 q1 q2 q3 q4 q5 q6
    have hT := fun (w : World) R' hS => turn_ok (top W) R' w (.slice aoA nL capA) gL gs ls a b c d hS (by rw [HLN.out]; exact HGS'.out) (by rw [HLN.out]; exact hn2') HLs.out
    rw [HLN.out] at hT
    refine (hT _ _ H13.out.swap).mono ?_
    rintro en w15 ⟨v, rfl, hS⟩
    have hlm : (ls.map turnRow).length = nL := by rw [List.length_map]; exact HLN.out
    obtain ⟨A7, cap7, e7, hcap7, -⟩ := hS.matC
    rw [hlm] at e7 hcap7
    subst e7
    have HLM := Lib.hid hlm
    have HCAP := Lib.hid hcap7
    have x0 := St.cells_mem hS mm4 0
    have x1 := St.cells_mem hS mm4 1
    have x2 := St.cells_mem hS mm4 2
    have x3 := St.cells_mem hS mm4 3
    have x4 := St.cells_mem hS mm4 4
    simp only [List.getElem?_cons_zero, List.getElem?_cons_succ] at x0 x1 x2 x3 x4
    have hbg : St (top W) (blk (gX + 1) [.int .i64 a, .int .i64 b, .int .i64 c, .bool d, .slice Ag nL capg] 39 :: _) w15 := St.bring hS 4
    have y0 := hbg.frozen 0
    have y1 := hbg.frozen 1
    have y2 := hbg.frozen 2
    have y3 := hbg.frozen 3
    have y4 := hbg.frozen 4
    have h5 : St (top W) (blk (gX + 1) [.int .i64 a, .int .i64 b, .int .i64 c, .bool d, .slice A7 nL cap7] 39 :: mat 53 72 .u16 (.slice A7 nL cap7) (ls.map turnRow) :: lentIs (.slice aoA nL capA) gL gs (ls.map turnRow) :: book gB (2 * nb + 40 * (os ++ [cl.length] ++ [cl.length]).length) ((os ++ [cl.length] ++ [cl.length]).map (· + 2)) :: G :: blk gX [.int .i64 a, .int .i64 b, .int .i64 c, .bool d, .slice (some ⟨gL, 0, none⟩) nL (nL + 2), .slice aoA nL capA, .slice (some ⟨gL, 0, none⟩) (nL + 2) (nL + 2)] 46 :: blk (W.heap.size + 1) [.int .i64 rx, .int .i64 ry, .int .i64 rw, .int .i64 rh] 52 :: blk W.heap.size [.int .i64 a, .int .i64 b, .int .i64 c, .bool d, .slice A nL n] 39 :: []) _ := (((((hS.reo 8 [4, 0, 1, 2, 3, 5, 6, 7] (by decide)).setCell 0 (.int .i64 a)).setCell 1 (.int .i64 b)).setCell 2 (.int .i64 c)).setCell 3 (.bool d)).setCell 4 (.slice A7 nL cap7)
    have h6 : St (top W) (book gB (2 * nb + 40 * (os ++ [cl.length] ++ [cl.length]).length) ((os ++ [cl.length] ++ [cl.length]).map (· + 2)) :: lentIs (.slice aoA nL capA) gL gs (ls.map turnRow) :: mat 53 72 .u16 (.slice A7 nL cap7) (ls.map turnRow) :: blk (gX + 1) [.int .i64 a, .int .i64 b, .int .i64 c, .bool d, .slice A7 nL cap7] 39 :: blk gX [.int .i64 a, .int .i64 b, .int .i64 c, .bool d, .slice (some ⟨gL, 0, none⟩) nL (nL + 2), .slice aoA nL capA, .slice (some ⟨gL, 0, none⟩) (nL + 2) (nL + 2)] 46 :: blk (W.heap.size + 1) [.int .i64 rx, .int .i64 ry, .int .i64 rw, .int .i64 rh] 52 :: blk W.heap.size [.int .i64 a, .int .i64 b, .int .i64 c, .bool d, .slice A nL n] 39 :: []) _ := (h5.reo 8 [4, 3, 2, 1, 0, 5, 6, 7] (by decide)).drop
    have HZ := Lib.hid h6
    clear H13 hS hlm hcap7 hbg h5 hT h6
    go_wp2_with fail
    go_roundw
    case rel =>
     refine ⟨t + 1, 2 * nb + 40 * (os ++ [cl.length] ++ [cl.length]).length, (os ++ [cl.length] ++ [cl.length]).map (· + 2), ls.map turnRow, A7, cap7, mat 53 72 .u16 (.slice A7 nL cap7) (ls.map turnRow), by go_num, by omega, fun h2 => ⟨by simp; omega, by simp; omega, fun x hx => ?_⟩, fun h => absurd h (by omega), HLM, smp_turn HSMs.out, fun x hx => ?_, HCAP, fun w' R' h => ?_, HZ⟩
     ·obtain ⟨y, hy, rfl⟩ := List.mem_map.1 hx
      simp only [List.mem_append, List.mem_cons, List.not_mem_nil, or_false] at hy
      rcases hy with (hy | hy) | hy
      ·have := HOX.out y hy; omega
      ·omega
      ·omega
     ·obtain ⟨y, hy, rfl⟩ := List.mem_map.1 hx
      rw [turnRow_length]
      exact HLs.out y hy
     ·have h6 := h.matC'.2.2
      rw [HLM.out] at h6
      exact h6
    case measure => simp [intOf]; omega
   ·have t_t : decide ((0 : Int) < (t : Int)) = true := decide_eq_true (by omega)
    have x0 := St.cells_mem HY.out mm4 0
    have x1 := St.cells_mem HY.out mm4 1
    have x2 := St.cells_mem HY.out mm4 2
    have x3 := St.cells_mem HY.out mm4 3
    have x4 := St.cells_mem HY.out mm4 4
    simp only [List.getElem?_cons_zero, List.getElem?_cons_succ] at x0 x1 x2 x3 x4
    go_wp2_with fail
    clear t_t t_u
    clear x0 x1 x2 x3 x4
    have h2 : St (top W) (book gB nb os :: mat 53 72 .u16 (.slice P1 cl.length n1) cl :: blk g2 [.int .i64 u1, .int .i64 u2, .int .i64 u3, .bool u4, (.slice P2 cl.length n2)] 39 :: mat 53 72 .u16 (.slice P2 cl.length n2) cl :: lentIs (.slice aoA nL capA) gL gs ls :: G :: blk (gX + 1) [.int .i64 a, .int .i64 b, .int .i64 c, .bool d, .slice Ag nL capg] 39 :: blk gX [.int .i64 a, .int .i64 b, .int .i64 c, .bool d, .slice (some ⟨gL, 0, none⟩) nL (nL + 2), .slice aoA nL capA, .slice (some ⟨gL, 0, none⟩) (nL + 2) (nL + 2)] 46 :: blk (W.heap.size + 1) [.int .i64 rx, .int .i64 ry, .int .i64 rw, .int .i64 rh] 52 :: blk W.heap.size [.int .i64 a, .int .i64 b, .int .i64 c, .bool d, .slice A nL n] 39 :: []) _ := ((HY.out.reo 13 [0, 1, 4, 6, 5, 2, 3, 7, 8, 9, 10, 11, 12] (by decide)).drop).drop.drop
    have HM := Lib.hid h2
    clear h2 HY
    refine (take_ok (top W) [blk g2 [.int .i64 u1, .int .i64 u2, .int .i64 u3, .bool u4, (.slice P2 cl.length n2)] 39, mat 53 72 .u16 (.slice P2 cl.length n2) cl, lentIs (.slice aoA nL capA) gL gs ls, G, blk (gX + 1) [.int .i64 a, .int .i64 b, .int .i64 c, .bool d, .slice Ag nL capg] 39, blk gX [.int .i64 a, .int .i64 b, .int .i64 c, .bool d, .slice (some ⟨gL, 0, none⟩) nL (nL + 2), .slice aoA nL capA, .slice (some ⟨gL, 0, none⟩) (nL + 2) (nL + 2)] 46, blk (W.heap.size + 1) [.int .i64 rx, .int .i64 ry, .int .i64 rw, .int .i64 rh] 52, blk W.heap.size [.int .i64 a, .int .i64 b, .int .i64 c, .bool d, .slice A nL n] 39] _ gB nb os _ cl HM.out (fun l hl => by
     have hb : BIG = 134217728 := rfl
     have := HCL.out l hl
     omega) (by omega)).mono ?_
    rintro en w12 ⟨rfl, hS⟩
    have H10 := Lib.hid hS
    clear HM hS
    have x0 := St.cells_mem H10.out mm1 0
    have x1 := St.cells_mem H10.out mm1 1
    have x2 := St.cells_mem H10.out mm1 2
    have x3 := St.cells_mem H10.out mm1 3
    have x4 := St.cells_mem H10.out mm1 4
    simp only [List.getElem?_cons_zero, List.getElem?_cons_succ] at x0 x1 x2 x3 x4
    go_wp2_with fail
    clear x0 x1 x2 x3 x4
    have h2 : St (top W) (book gB nb (os ++ [cl.length]) :: mat 53 72 .u16 (.slice P2 cl.length n2) cl :: blk g2 [.int .i64 u1, .int .i64 u2, .int .i64 u3, .bool u4, (.slice P2 cl.length n2)] 39 :: lentIs (.slice aoA nL capA) gL gs ls :: G :: blk (gX + 1) [.int .i64 a, .int .i64 b, .int .i64 c, .bool d, .slice Ag nL capg] 39 :: blk gX [.int .i64 a, .int .i64 b, .int .i64 c, .bool d, .slice (some ⟨gL, 0, none⟩) nL (nL + 2), .slice aoA nL capA, .slice (some ⟨gL, 0, none⟩) (nL + 2) (nL + 2)] 46 :: blk (W.heap.size + 1) [.int .i64 rx, .int .i64 ry, .int .i64 rw, .int .i64 rh] 52 :: blk W.heap.size [.int .i64 a, .int .i64 b, .int .i64 c, .bool d, .slice A nL n] 39 :: []) _ := H10.out.reo 3 [0, 2, 1] (by decide)
    have HM := Lib.hid h2
    clear h2 H10
    refine (take_ok (top W) [blk g2 [.int .i64 u1, .int .i64 u2, .int .i64 u3, .bool u4, (.slice P2 cl.length n2)] 39, lentIs (.slice aoA nL capA) gL gs ls, G, blk (gX + 1) [.int .i64 a, .int .i64 b, .int .i64 c, .bool d, .slice Ag nL capg] 39, blk gX [.int .i64 a, .int .i64 b, .int .i64 c, .bool d, .slice (some ⟨gL, 0, none⟩) nL (nL + 2), .slice aoA nL capA, .slice (some ⟨gL, 0, none⟩) (nL + 2) (nL + 2)] 46, blk (W.heap.size + 1) [.int .i64 rx, .int .i64 ry, .int .i64 rw, .int .i64 rh] 52, blk W.heap.size [.int .i64 a, .int .i64 b, .int .i64 c, .bool d, .slice A nL n] 39] _ gB nb (os ++ [cl.length]) _ cl HM.out (fun l hl => by
     have hb : BIG = 134217728 := rfl
     have := HCL.out l hl
     omega) (by simp; omega)).mono ?_
    rintro en w13 ⟨rfl, hS⟩
    have H12 := Lib.hid hS.swap.drop
    clear HM hS
    go_wp2_with fail
    refine (own_ok (top W) [lentIs (.slice aoA nL capA) gL gs ls, G, blk (gX + 1) [.int .i64 a, .int .i64 b, .int .i64 c, .bool d, .slice Ag nL capg] 39, blk gX [.int .i64 a, .int .i64 b, .int .i64 c, .bool d, .slice (some ⟨gL, 0, none⟩) nL (nL + 2), .slice aoA nL capA, .slice (some ⟨gL, 0, none⟩) (nL + 2) (nL + 2)] 46, blk (W.heap.size + 1) [.int .i64 rx, .int .i64 ry, .int .i64 rw, .int .i64 rh] 52, blk W.heap.size [.int .i64 a, .int .i64 b, .int .i64 c, .bool d, .slice A nL n] 39] _ gB nb (os ++ [cl.length] ++ [cl.length]) H12.out (by omega) (by simp; omega) (fun x hx => by
     simp only [List.mem_append, List.mem_cons, List.not_mem_nil, or_false] at hx
     rcases hx with (hx | hx) | hx
     ·have := HOX.out x hx; omega
     ·omega
     ·omega)).mono ?_
    rintro en w14 ⟨rfl, hS⟩
    have H13 := Lib.hid hS
    clear H12 hS
    have q0 := St.cells_mem H13.out mm4 0
    have q1 := St.cells_mem H13.out mm4 1
    have q2 := St.cells_mem H13.out mm4 2
    have q3 := St.cells_mem H13.out mm4 3
    have q4 := St.cells_mem H13.out mm4 4
    have q5 := St.cells_mem H13.out mm4 5
    have q6 := St.cells_mem H13.out mm4 6
    simp only [List.getElem?_cons_zero, List.getElem?_cons_succ] at q0 q1 q2 q3 q4 q5 q6
    go_wp2_with fail
    clear q0 q1 q2 q3 q4 q5 q6
    have hT := fun (w : World) R' hS => turn_ok (top W) R' w (.slice aoA nL capA) gL gs ls a b c d hS (by rw [HLN.out]; exact HGS'.out) (by rw [HLN.out]; exact hn2') HLs.out
    rw [HLN.out] at hT
    refine (hT _ _ H13.out.swap).mono ?_
    rintro en w15 ⟨v, rfl, hS⟩
    have hlm : (ls.map turnRow).length = nL := by rw [List.length_map]; exact HLN.out
    obtain ⟨A7, cap7, e7, hcap7, -⟩ := hS.matC
    rw [hlm] at e7 hcap7
    subst e7
    have HLM := Lib.hid hlm
    have HCAP := Lib.hid hcap7
    have x0 := St.cells_mem hS mm4 0
    have x1 := St.cells_mem hS mm4 1
    have x2 := St.cells_mem hS mm4 2
    have x3 := St.cells_mem hS mm4 3
    have x4 := St.cells_mem hS mm4 4
    simp only [List.getElem?_cons_zero, List.getElem?_cons_succ] at x0 x1 x2 x3 x4
    have hbg : St (top W) (blk (gX + 1) [.int .i64 a, .int .i64 b, .int .i64 c, .bool d, .slice Ag nL capg] 39 :: _) w15 := St.bring hS 4
    have y0 := hbg.frozen 0
    have y1 := hbg.frozen 1
    have y2 := hbg.frozen 2
    have y3 := hbg.frozen 3
    have y4 := hbg.frozen 4
    have h5 : St (top W) (blk (gX + 1) [.int .i64 a, .int .i64 b, .int .i64 c, .bool d, .slice A7 nL cap7] 39 :: mat 53 72 .u16 (.slice A7 nL cap7) (ls.map turnRow) :: lentIs (.slice aoA nL capA) gL gs (ls.map turnRow) :: book gB (2 * nb + 40 * (os ++ [cl.length] ++ [cl.length]).length) ((os ++ [cl.length] ++ [cl.length]).map (· + 2)) :: G :: blk gX [.int .i64 a, .int .i64 b, .int .i64 c, .bool d, .slice (some ⟨gL, 0, none⟩) nL (nL + 2), .slice aoA nL capA, .slice (some ⟨gL, 0, none⟩) (nL + 2) (nL + 2)] 46 :: blk (W.heap.size + 1) [.int .i64 rx, .int .i64 ry, .int .i64 rw, .int .i64 rh] 52 :: blk W.heap.size [.int .i64 a, .int .i64 b, .int .i64 c, .bool d, .slice A nL n] 39 :: []) _ := (((((hS.reo 8 [4, 0, 1, 2, 3, 5, 6, 7] (by decide)).setCell 0 (.int .i64 a)).setCell 1 (.int .i64 b)).setCell 2 (.int .i64 c)).setCell 3 (.bool d)).setCell 4 (.slice A7 nL cap7)
    have h6 : St (top W) (book gB (2 * nb + 40 * (os ++ [cl.length] ++ [cl.length]).length) ((os ++ [cl.length] ++ [cl.length]).map (· + 2)) :: lentIs (.slice aoA nL capA) gL gs (ls.map turnRow) :: mat 53 72 .u16 (.slice A7 nL cap7) (ls.map turnRow) :: blk (gX + 1) [.int .i64 a, .int .i64 b, .int .i64 c, .bool d, .slice A7 nL cap7] 39 :: blk gX [.int .i64 a, .int .i64 b, .int .i64 c, .bool d, .slice (some ⟨gL, 0, none⟩) nL (nL + 2), .slice aoA nL capA, .slice (some ⟨gL, 0, none⟩) (nL + 2) (nL + 2)] 46 :: blk (W.heap.size + 1) [.int .i64 rx, .int .i64 ry, .int .i64 rw, .int .i64 rh] 52 :: blk W.heap.size [.int .i64 a, .int .i64 b, .int .i64 c, .bool d, .slice A nL n] 39 :: []) _ := (h5.reo 8 [4, 3, 2, 1, 0, 5, 6, 7] (by decide)).drop
    have HZ := Lib.hid h6
    clear H13 hS hlm hcap7 hbg h5 hT h6
    go_wp2_with fail
    go_roundw
    case rel =>
     refine ⟨t + 1, 2 * nb + 40 * (os ++ [cl.length] ++ [cl.length]).length, (os ++ [cl.length] ++ [cl.length]).map (· + 2), ls.map turnRow, A7, cap7, mat 53 72 .u16 (.slice A7 nL cap7) (ls.map turnRow), by go_num, by omega, fun h2 => ⟨by simp; omega, by simp; omega, fun x hx => ?_⟩, fun h => absurd h (by omega), HLM, smp_turn HSMs.out, fun x hx => ?_, HCAP, fun w' R' h => ?_, HZ⟩
     ·obtain ⟨y, hy, rfl⟩ := List.mem_map.1 hx
      simp only [List.mem_append, List.mem_cons, List.not_mem_nil, or_false] at hy
      rcases hy with (hy | hy) | hy
      ·have := HOX.out y hy; omega
      ·omega
      ·omega
     ·obtain ⟨y, hy, rfl⟩ := List.mem_map.1 hx
      rw [turnRow_length]
      exact HLs.out y hy
     ·have h6 := h.matC'.2.2
      rw [HLM.out] at h6
      exact h6
    case measure => simp [intOf]; omega
  ·go_wp2_with fail
   go_ret
   exact ⟨rfl, hS.out.below⟩
end Go.Proofs.Ytdoikehkibefpaa
