import Derived.Test.YtdoikehkibefpaaApE
import Derived.Test.YtdoikehkibefpaaRowC
import Derived.Test.YtdoikehkibefpaaLendFb
import Derived.Test.YtdoikehkibefpaaShown
/-! PlaneApart. -/
namespace Go.Proofs.Ytdoikehkibefpaa
set_option linter.unusedSimpArgs false
set_option linter.unusedVariables false
open Go Go.RowKit Go.WideShapes Go.Proofs.Ytdoikehkibefpaa.PPb Go.Proofs.YtdoikehkibefpaaW.PrintWords Go.Proofs.YtdoikehkibefpaaW.PrintLast

theorem St.bring {c : Ctx} {L : List HP} {w : World} (h : St c L w) (i : Nat) (hi : i < L.length := by simp only [List.length_cons]; omega) : St c (L[i] :: L.eraseIdx i) w := h.perm (perm_pick L i hi)
theorem turn_lens {ls : List (List Int)} (h : ∀ x ∈ ls, x.length * 2 ≤ 140737488351232) : ∀ x ∈ ls.map turnRow, x.length * 2 ≤ 140737488351232 := by
  intro x hx
  obtain ⟨y, hy, rfl⟩ := List.mem_map.1 hx
  rw [turnRow_length]
  exact h y hy
set_option maxHeartbeats 32000000 in
set_option maxRecDepth 100000 in
theorem planeApart_walk {H : Type} {enc : TypeId × Value → H} (W : World) (base : Nat) (v0 v1 v2 : Value) (a0 : Arg enc Try.prog W base 39 v0) (a1 : Arg enc Try.prog W base 39 v1) (a9 : Arg enc Try.prog W base 3 v2) :
  Calls Try.prog 12 #[v0, v1, v2] W fun e W' => e = .returned (.bool true) ∧ Below W.heap.size W W' := by
 obtain ⟨a, b, c, d, A, n, l, rfl, hn, hC, hs, hn2, hl2⟩ := arg_frame2 a0
 obtain ⟨a2, b2, c2, d2, B, n2, m, rfl, hm, hD, hs2, hm2, hl3⟩ := arg_frame2 a1
 obtain ⟨pn, rfl, -⟩ := arg_int (k := .i64) Try.underlying3 a9
 obtain ⟨nL, hnL⟩ : ∃ q, l.length = q := ⟨_, rfl⟩
 obtain ⟨nM, hnM⟩ : ∃ q, m.length = q := ⟨_, rfl⟩
 rw [hnL, hnM]
 rw [hnL] at hn
 rw [hnM] at hm
 have HS := Lib.hid (((St.top W).alloc' rfl [.int .i64 a, .int .i64 b, .int .i64 c, .bool d, .slice A nL n] 39).alloc' (n := W.heap.size + 1) (by simp) [.int .i64 a2, .int .i64 b2, .int .i64 c2, .bool d2, .slice B nM n2] 39)
 have hll := hn2
 have hmm := hm2
 rw [hnL] at hn2
 rw [hnM] at hm2
 have hCn := hC
 have hDn := hD
 rw [hnL] at hCn
 rw [hnM] at hDn
 have HC := Lib.hid hCn
 have HD := Lib.hid hDn
 have HSM := Lib.hid hs
 have HSM2 := Lib.hid hs2
 have HL := Lib.hid hl2
 have HL2 := Lib.hid hl3
 have HNL := Lib.hid hnL
 have HNM := Lib.hid hnM
 -- the contracts
 have cl1 := fun (w : World) h => lend_ok w a b c d A n l h hll hl2 (by rw [hnL]; exact hn)
 have cl2 := fun (w : World) h => lend_ok w a2 b2 c2 d2 B n2 m h hmm hl3 (by rw [hnM]; exact hm)
 rw [hnL] at cl1
 rw [hnM] at cl2
 have CL1 := Lib.hid cl1
 have CL2 := Lib.hid cl2
 have hA : ∀ (x y : List (List Int)), x.length = nL → y.length = nM → smp x → smp y → (∀ r ∈ x, r.length * 2 ≤ 140737488351232) → (∀ r ∈ y, r.length * 2 ≤ 140737488351232) → ∀ (w : World) (Ax Ay Aa Ab : Option Addr) (nx ny na nb : Nat), Kd.C (Kd.slice 72 (Kd.int .u16)) w Ax nL x → Kd.C (Kd.slice 72 (Kd.int .u16)) w Ay nM y → Kd.C (Kd.slice 72 (Kd.int .u16)) w Aa nL x → Kd.C (Kd.slice 72 (Kd.int .u16)) w Ab nM y → nL ≤ nx → nM ≤ ny → nL ≤ na → nM ≤ nb →
   Calls Try.prog 48 #[.agg #[.int .i64 a, .int .i64 b, .int .i64 c, .bool d, .slice Ax nL nx], .agg #[.int .i64 a2, .int .i64 b2, .int .i64 c2, .bool d2, .slice Ay nM ny], .agg #[.int .i64 a, .int .i64 b, .int .i64 c, .bool d, .slice Aa nL na], .agg #[.int .i64 a2, .int .i64 b2, .int .i64 c2, .bool d2, .slice Ab nM nb], .int .i64 pn] w fun e w' => e = .returned (.bool true) ∧ Below w.heap.size w w' := by
  intro x y hx hy q1 q2 q3 q4 w Ax Ay Aa Ab nx ny na nb k1 k2 k3 k4 k5 k6 k7 k8
  rw [← hx] at k1 k3 k5 k7 ⊢
  rw [← hy] at k2 k4 k6 k8 ⊢
  exact apart_ok w a b c d x a2 b2 c2 d2 y Ax Ay Aa Ab nx ny na nb pn k1 k2 k3 k4 k5 k6 k7 k8 q1 q2 q3 q4 (by rw [hx]; exact hn2)
 have CA := Lib.hid hA
 clear a0 a1 a9 hC hD hs hs2 hl2 hl3 hnL hnM cl1 cl2 hA hCn hDn hll hmm
 go_enter Try.func12, Try.ntmps12
 go_wp2_with fail
 refine (shown_ok _).mono ?_
 rintro en w1 ⟨rfl, hb⟩
 have H1 := Lib.hid (HS.out.of_below hb)
 clear HS hb
 have f0 := St.cells_mem H1.out mm1 0
 have f1 := St.cells_mem H1.out mm1 1
 have f2 := St.cells_mem H1.out mm1 2
 have f3 := St.cells_mem H1.out mm1 3
 have f4 := St.cells_mem H1.out mm1 4
 simp only [List.getElem?_cons_zero, List.getElem?_cons_succ] at f0 f1 f2 f3 f4
 go_wp2_with fail
 refine (CL1.out _ (Kd.C_below HC.out H1.out.below)).mono ?_
 rintro en w2 ⟨va, gL, gs, rfl, hgs, hS2⟩
 have hS2' := H1.out.frame hS2
 simp only [List.cons_append, List.nil_append] at hS2'
 obtain ⟨aoA, capA, rfl, -, -, -, -⟩ := hS2'.lentOpen.rowShape
 rw [HNL.out] at hS2' ⊢
 have H2 := Lib.hid (hS2'.alloc [.int .i64 a, .int .i64 b, .int .i64 c, .bool d, .slice (some ⟨gL, 0, none⟩) nL (nL + 2), .slice aoA nL capA, .slice (some ⟨gL, 0, none⟩) (nL + 2) (nL + 2)] 46)
 have HGS := Lib.hid hgs
 clear H1 hS2 hS2' hgs CL1 f0 f1 f2 f3 f4
 have f0 := St.cells_mem H2.out mm2 0
 have f1 := St.cells_mem H2.out mm2 1
 have f2 := St.cells_mem H2.out mm2 2
 have f3 := St.cells_mem H2.out mm2 3
 have f4 := St.cells_mem H2.out mm2 4
 simp only [List.getElem?_cons_zero, List.getElem?_cons_succ] at f0 f1 f2 f3 f4
 go_wp2_with fail
 generalize w2.heap.size = gX at *
 refine (CL2.out _ (Kd.C_below HD.out H2.out.below)).mono ?_
 rintro en w3 ⟨vb, gM, gt, rfl, hgt, hS3⟩
 have hS3' := H2.out.frame hS3
 simp only [List.cons_append, List.nil_append] at hS3'
 obtain ⟨aoB, capB, rfl, -, -, -, -⟩ := hS3'.lentOpen.rowShape
 rw [HNM.out] at hS3' ⊢
 have H3 := Lib.hid (hS3'.alloc [.int .i64 a2, .int .i64 b2, .int .i64 c2, .bool d2, .slice (some ⟨gM, 0, none⟩) nM (nM + 2), .slice aoB nM capB, .slice (some ⟨gM, 0, none⟩) (nM + 2) (nM + 2)] 46)
 have HGT := Lib.hid hgt
 clear H2 hS3 hS3' hgt CL2 f0 f1 f2 f3 f4
 have h3 : St (top W) (blk w3.heap.size [.int .i64 a2, .int .i64 b2, .int .i64 c2, .bool d2, .slice (some ⟨gM, 0, none⟩) nM (nM + 2), .slice aoB nM capB, .slice (some ⟨gM, 0, none⟩) (nM + 2) (nM + 2)] 46 :: lentIs (.slice aoB nM capB) gM gt m :: blk gX [.int .i64 a, .int .i64 b, .int .i64 c, .bool d, .slice (some ⟨gL, 0, none⟩) nL (nL + 2), .slice aoA nL capA, .slice (some ⟨gL, 0, none⟩) (nL + 2) (nL + 2)] 46 :: lentIs (.slice aoA nL capA) gL gs l :: blk (W.heap.size + 1) [.int .i64 a2, .int .i64 b2, .int .i64 c2, .bool d2, .slice B nM n2] 39 :: blk W.heap.size [.int .i64 a, .int .i64 b, .int .i64 c, .bool d, .slice A nL n] 39 :: []) _ := H3.out
 have LC : Hid (∀ (ls : List (List Int)) w' R', ls.length = nL → St (top W) (lentIs (.slice aoA nL capA) gL gs ls :: R') w' → Kd.C (Kd.slice 72 (Kd.int .u16)) w' (some ⟨gL, 0, none⟩) nL ls) := by
  intro ls w' R' hl h
  have h5 := lentC h (by rw [hl]; exact HGS.out) (by rw [hl]; exact hn2)
  rw [hl] at h5
  exact h5
 have MC : Hid (∀ (ls : List (List Int)) w' R', ls.length = nM → St (top W) (lentIs (.slice aoB nM capB) gM gt ls :: R') w' → Kd.C (Kd.slice 72 (Kd.int .u16)) w' (some ⟨gM, 0, none⟩) nM ls) := by
  intro ls w' R' hl h
  have h5 := lentC h (by rw [hl]; exact HGT.out) (by rw [hl]; exact hm2)
  rw [hl] at h5
  exact h5
 clear h3
 have x0 := St.cells_mem H3.out mm2 0
 have x1 := St.cells_mem H3.out mm2 1
 have x2 := St.cells_mem H3.out mm2 2
 have x3 := St.cells_mem H3.out mm2 3
 have x4 := St.cells_mem H3.out mm2 4
 simp only [List.getElem?_cons_zero, List.getElem?_cons_succ] at x0 x1 x2 x3 x4
 have y0 := St.cells_mem H3.out mm0 0
 have y1 := St.cells_mem H3.out mm0 1
 have y2 := St.cells_mem H3.out mm0 2
 have y3 := St.cells_mem H3.out mm0 3
 have y4 := St.cells_mem H3.out mm0 4
 simp only [List.getElem?_cons_zero, List.getElem?_cons_succ] at y0 y1 y2 y3 y4
 have f0 := St.cells_mem H3.out mm5 0
 have f1 := St.cells_mem H3.out mm5 1
 have f2 := St.cells_mem H3.out mm5 2
 have f3 := St.cells_mem H3.out mm5 3
 have f4 := St.cells_mem H3.out mm5 4
 simp only [List.getElem?_cons_zero, List.getElem?_cons_succ] at f0 f1 f2 f3 f4
 have g0 := St.cells_mem H3.out mm4 0
 have g1 := St.cells_mem H3.out mm4 1
 have g2 := St.cells_mem H3.out mm4 2
 have g3 := St.cells_mem H3.out mm4 3
 have g4 := St.cells_mem H3.out mm4 4
 simp only [List.getElem?_cons_zero, List.getElem?_cons_succ] at g0 g1 g2 g3 g4
 go_wp2_with fail
 generalize w3.heap.size = gY at *
 refine (CA.out l m HNL.out HNM.out HSM.out HSM2.out HL.out HL2.out _ _ _ _ _ _ _ _ _ (LC.out _ _ _ HNL.out (St.bring H3.out 3)) (MC.out _ _ _ HNM.out (St.bring H3.out 1)) (Kd.C_below HC.out H3.out.below) (Kd.C_below HD.out H3.out.below) (by omega) (by omega) hn hm).mono ?_
 rintro en w4 ⟨rfl, hb⟩
 have H4 := Lib.hid (H3.out.of_below hb)
 clear H3 hb x0 x1 x2 x3 x4 y0 y1 y2 y3 y4 f0 f1 f2 f3 f4 g0 g1 g2 g3 g4
 have x0 := St.cells_mem H4.out mm2 0
 have x1 := St.cells_mem H4.out mm2 1
 have x2 := St.cells_mem H4.out mm2 2
 have x3 := St.cells_mem H4.out mm2 3
 have x4 := St.cells_mem H4.out mm2 4
 have x5 := St.cells_mem H4.out mm2 5
 have x6 := St.cells_mem H4.out mm2 6
 simp only [List.getElem?_cons_zero, List.getElem?_cons_succ] at x0 x1 x2 x3 x4 x5 x6
 have f0 := St.cells_mem H4.out mm5 0
 have f1 := St.cells_mem H4.out mm5 1
 have f2 := St.cells_mem H4.out mm5 2
 have f3 := St.cells_mem H4.out mm5 3
 have f4 := St.cells_mem H4.out mm5 4
 simp only [List.getElem?_cons_zero, List.getElem?_cons_succ] at f0 f1 f2 f3 f4
 go_wp2_with fail
 have hst := fun (w : World) R' hS hC => still_ok (top W) R' w (.slice aoA nL capA) gL gs l a b c d A n hS (by rw [HNL.out]; exact HGS.out) hC (by rw [HNL.out]; exact hn) (by rw [HNL.out]; exact hn2) HL.out
 rw [HNL.out] at hst
 refine (hst _ _ (St.bring H4.out 3) (Kd.C_below HC.out H4.out.below)).mono ?_
 rintro en w5 ⟨rfl, hb⟩
 have H5 := Lib.hid (H4.out.of_below hb)
 clear H4 hb hst x0 x1 x2 x3 x4 x5 x6 f0 f1 f2 f3 f4
 have x0 := St.cells_mem H5.out mm0 0
 have x1 := St.cells_mem H5.out mm0 1
 have x2 := St.cells_mem H5.out mm0 2
 have x3 := St.cells_mem H5.out mm0 3
 have x4 := St.cells_mem H5.out mm0 4
 have x5 := St.cells_mem H5.out mm0 5
 have x6 := St.cells_mem H5.out mm0 6
 simp only [List.getElem?_cons_zero, List.getElem?_cons_succ] at x0 x1 x2 x3 x4 x5 x6
 have f0 := St.cells_mem H5.out mm4 0
 have f1 := St.cells_mem H5.out mm4 1
 have f2 := St.cells_mem H5.out mm4 2
 have f3 := St.cells_mem H5.out mm4 3
 have f4 := St.cells_mem H5.out mm4 4
 simp only [List.getElem?_cons_zero, List.getElem?_cons_succ] at f0 f1 f2 f3 f4
 go_wp2_with fail
 have hst := fun (w : World) R' hS hC => still_ok (top W) R' w (.slice aoB nM capB) gM gt m a2 b2 c2 d2 B n2 hS (by rw [HNM.out]; exact HGT.out) hC (by rw [HNM.out]; exact hm) (by rw [HNM.out]; exact hm2) HL2.out
 rw [HNM.out] at hst
 refine (hst _ _ (St.bring H5.out 1) (Kd.C_below HD.out H5.out.below)).mono ?_
 rintro en w6 ⟨rfl, hb⟩
 have H6 := Lib.hid (H5.out.of_below hb)
 clear H5 hb hst x0 x1 x2 x3 x4 x5 x6 f0 f1 f2 f3 f4
 have x0 := St.cells_mem H6.out mm2 0
 have x1 := St.cells_mem H6.out mm2 1
 have x2 := St.cells_mem H6.out mm2 2
 have x3 := St.cells_mem H6.out mm2 3
 have x4 := St.cells_mem H6.out mm2 4
 have x5 := St.cells_mem H6.out mm2 5
 have x6 := St.cells_mem H6.out mm2 6
 simp only [List.getElem?_cons_zero, List.getElem?_cons_succ] at x0 x1 x2 x3 x4 x5 x6
 go_wp2_with fail
 have hT := fun (w : World) R' hS => turn_ok (top W) R' w (.slice aoA nL capA) gL gs l a b c d hS (by rw [HNL.out]; exact HGS.out) (by rw [HNL.out]; exact hn2) HL.out
 rw [HNL.out] at hT
 refine (hT _ _ (St.bring H6.out 3)).mono ?_
 rintro en w7 ⟨v, rfl, hS⟩
 obtain ⟨X, hX⟩ : ∃ q, l.map turnRow = q := ⟨_, rfl⟩
 have hlm : X.length = nL := by rw [← hX, List.length_map]; exact HNL.out
 have HSX : Hid (smp X) := by rw [← hX]; exact smp_turn HSM.out
 have HLX : Hid (∀ r ∈ X, r.length * 2 ≤ 140737488351232) := by rw [← hX]; exact turn_lens HL.out
 rw [hX] at hS
 obtain ⟨AX, capX, e7, hcap7, -⟩ := hS.matC
 rw [hlm] at e7 hcap7
 subst e7
 have HNX := Lib.hid hlm
 have HPX := Lib.hid hcap7
 have h7 : St (top W) (mat 53 72 .u16 (.slice AX nL capX) X :: lentIs (.slice aoA nL capA) gL gs X :: blk gY [.int .i64 a2, .int .i64 b2, .int .i64 c2, .bool d2, .slice (some ⟨gM, 0, none⟩) nM (nM + 2), .slice aoB nM capB, .slice (some ⟨gM, 0, none⟩) (nM + 2) (nM + 2)] 46 :: lentIs (.slice aoB nM capB) gM gt m :: blk gX [.int .i64 a, .int .i64 b, .int .i64 c, .bool d, .slice (some ⟨gL, 0, none⟩) nL (nL + 2), .slice aoA nL capA, .slice (some ⟨gL, 0, none⟩) (nL + 2) (nL + 2)] 46 :: blk (W.heap.size + 1) [.int .i64 a2, .int .i64 b2, .int .i64 c2, .bool d2, .slice B nM n2] 39 :: blk W.heap.size [.int .i64 a, .int .i64 b, .int .i64 c, .bool d, .slice A nL n] 39 :: []) _ := hS
 have H7 := Lib.hid (h7.alloc [.int .i64 a, .int .i64 b, .int .i64 c, .bool d, .slice AX nL capX] 39)
 clear h7 H6 hS hT hlm hcap7 hX x0 x1 x2 x3 x4 x5 x6
 have x0 := St.cells_mem H7.out mm5 0
 have x1 := St.cells_mem H7.out mm5 1
 have x2 := St.cells_mem H7.out mm5 2
 have x3 := St.cells_mem H7.out mm5 3
 have x4 := St.cells_mem H7.out mm5 4
 simp only [List.getElem?_cons_zero, List.getElem?_cons_succ] at x0 x1 x2 x3 x4
 have y0 := St.cells_mem H7.out mm3 0
 have y1 := St.cells_mem H7.out mm3 1
 have y2 := St.cells_mem H7.out mm3 2
 have y3 := St.cells_mem H7.out mm3 3
 have y4 := St.cells_mem H7.out mm3 4
 simp only [List.getElem?_cons_zero, List.getElem?_cons_succ] at y0 y1 y2 y3 y4
 have f0 := St.cells_mem H7.out mm0 0
 have f1 := St.cells_mem H7.out mm0 1
 have f2 := St.cells_mem H7.out mm0 2
 have f3 := St.cells_mem H7.out mm0 3
 have f4 := St.cells_mem H7.out mm0 4
 simp only [List.getElem?_cons_zero, List.getElem?_cons_succ] at f0 f1 f2 f3 f4
 have g0 := St.cells_mem H7.out mm6 0
 have g1 := St.cells_mem H7.out mm6 1
 have g2 := St.cells_mem H7.out mm6 2
 have g3 := St.cells_mem H7.out mm6 3
 have g4 := St.cells_mem H7.out mm6 4
 simp only [List.getElem?_cons_zero, List.getElem?_cons_succ] at g0 g1 g2 g3 g4
 go_wp2_with fail
 generalize w7.heap.size = gC at *
 refine (CA.out X m HNX.out HNM.out HSX.out HSM2.out HLX.out HL2.out _ _ _ _ _ _ _ _ _ (LC.out _ _ _ HNX.out (St.bring H7.out 2)) (MC.out _ _ _ HNM.out (St.bring H7.out 4)) (by have h6 := (St.bring H7.out 1).matC'.2.2; rw [HNX.out] at h6; exact h6) (Kd.C_below HD.out H7.out.below) (by omega) (by omega) HPX.out hm).mono ?_
 rintro en w8 ⟨rfl, hb⟩
 have H8 := Lib.hid (H7.out.of_below hb)
 clear H7 hb x0 x1 x2 x3 x4 y0 y1 y2 y3 y4 f0 f1 f2 f3 f4 g0 g1 g2 g3 g4
 have x0 := St.cells_mem H8.out mm3 0
 have x1 := St.cells_mem H8.out mm3 1
 have x2 := St.cells_mem H8.out mm3 2
 have x3 := St.cells_mem H8.out mm3 3
 have x4 := St.cells_mem H8.out mm3 4
 have x5 := St.cells_mem H8.out mm3 5
 have x6 := St.cells_mem H8.out mm3 6
 simp only [List.getElem?_cons_zero, List.getElem?_cons_succ] at x0 x1 x2 x3 x4 x5 x6
 go_wp2_with fail
 have hT := fun (w : World) R' hS => turn_ok (top W) R' w (.slice aoB nM capB) gM gt m a2 b2 c2 d2 hS (by rw [HNM.out]; exact HGT.out) (by rw [HNM.out]; exact hm2) HL2.out
 rw [HNM.out] at hT
 refine (hT _ _ (St.bring H8.out 4)).mono ?_
 rintro en w9 ⟨v, rfl, hS⟩
 obtain ⟨Y, hY⟩ : ∃ q, m.map turnRow = q := ⟨_, rfl⟩
 have hlm : Y.length = nM := by rw [← hY, List.length_map]; exact HNM.out
 have HSY : Hid (smp Y) := by rw [← hY]; exact smp_turn HSM2.out
 have HLY : Hid (∀ r ∈ Y, r.length * 2 ≤ 140737488351232) := by rw [← hY]; exact turn_lens HL2.out
 rw [hY] at hS
 obtain ⟨AY, capY, e7, hcap7, -⟩ := hS.matC
 rw [hlm] at e7 hcap7
 subst e7
 have HNY := Lib.hid hlm
 have HPY := Lib.hid hcap7
 have h9 : St (top W) (mat 53 72 .u16 (.slice AY nM capY) Y :: lentIs (.slice aoB nM capB) gM gt Y :: blk gC [.int .i64 a, .int .i64 b, .int .i64 c, .bool d, .slice AX nL capX] 39 :: mat 53 72 .u16 (.slice AX nL capX) X :: lentIs (.slice aoA nL capA) gL gs X :: blk gY [.int .i64 a2, .int .i64 b2, .int .i64 c2, .bool d2, .slice (some ⟨gM, 0, none⟩) nM (nM + 2), .slice aoB nM capB, .slice (some ⟨gM, 0, none⟩) (nM + 2) (nM + 2)] 46 :: blk gX [.int .i64 a, .int .i64 b, .int .i64 c, .bool d, .slice (some ⟨gL, 0, none⟩) nL (nL + 2), .slice aoA nL capA, .slice (some ⟨gL, 0, none⟩) (nL + 2) (nL + 2)] 46 :: blk (W.heap.size + 1) [.int .i64 a2, .int .i64 b2, .int .i64 c2, .bool d2, .slice B nM n2] 39 :: blk W.heap.size [.int .i64 a, .int .i64 b, .int .i64 c, .bool d, .slice A nL n] 39 :: []) _ := hS
 have H9 := Lib.hid (h9.alloc [.int .i64 a2, .int .i64 b2, .int .i64 c2, .bool d2, .slice AY nM capY] 39)
 clear h9 H8 hS hT hlm hcap7 hY x0 x1 x2 x3 x4 x5 x6
 have x0 := St.cells_mem H9.out mm7 0
 have x1 := St.cells_mem H9.out mm7 1
 have x2 := St.cells_mem H9.out mm7 2
 have x3 := St.cells_mem H9.out mm7 3
 have x4 := St.cells_mem H9.out mm7 4
 simp only [List.getElem?_cons_zero, List.getElem?_cons_succ] at x0 x1 x2 x3 x4
 have y0 := St.cells_mem H9.out mm6 0
 have y1 := St.cells_mem H9.out mm6 1
 have y2 := St.cells_mem H9.out mm6 2
 have y3 := St.cells_mem H9.out mm6 3
 have y4 := St.cells_mem H9.out mm6 4
 simp only [List.getElem?_cons_zero, List.getElem?_cons_succ] at y0 y1 y2 y3 y4
 have f0 := St.cells_mem H9.out mm3 0
 have f1 := St.cells_mem H9.out mm3 1
 have f2 := St.cells_mem H9.out mm3 2
 have f3 := St.cells_mem H9.out mm3 3
 have f4 := St.cells_mem H9.out mm3 4
 simp only [List.getElem?_cons_zero, List.getElem?_cons_succ] at f0 f1 f2 f3 f4
 have g0 := St.cells_mem H9.out mm0 0
 have g1 := St.cells_mem H9.out mm0 1
 have g2 := St.cells_mem H9.out mm0 2
 have g3 := St.cells_mem H9.out mm0 3
 have g4 := St.cells_mem H9.out mm0 4
 simp only [List.getElem?_cons_zero, List.getElem?_cons_succ] at g0 g1 g2 g3 g4
 go_wp2_with fail
 generalize w9.heap.size = gD at *
 refine (CA.out X Y HNX.out HNY.out HSX.out HSY.out HLX.out HLY.out _ _ _ _ _ _ _ _ _ (LC.out _ _ _ HNX.out (St.bring H9.out 5)) (MC.out _ _ _ HNY.out (St.bring H9.out 2)) (by have h6 := (St.bring H9.out 4).matC'.2.2; rw [HNX.out] at h6; exact h6) (by have h6 := (St.bring H9.out 1).matC'.2.2; rw [HNY.out] at h6; exact h6) (by omega) (by omega) HPX.out HPY.out).mono ?_
 rintro en wa ⟨rfl, hb⟩
 have Ha := Lib.hid (H9.out.of_below hb)
 clear H9 hb x0 x1 x2 x3 x4 y0 y1 y2 y3 y4 f0 f1 f2 f3 f4 g0 g1 g2 g3 g4
 go_wp2_with fail
 go_ret
 exact ⟨rfl, Ha.out.below⟩
end Go.Proofs.Ytdoikehkibefpaa
