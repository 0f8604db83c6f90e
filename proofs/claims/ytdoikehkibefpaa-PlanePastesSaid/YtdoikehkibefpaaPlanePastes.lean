import Derived.Test.YtdoikehkibefpaaPPbx8
import Derived.Test.YtdoikehkibefpaaPasteQ
import Derived.Test.YtdoikehkibefpaaRSame
import Derived.Test.YtdoikehkibefpaaShown
import Derived.Test.YtdoikehkibefpaaBookO
import Derived.Test.YtdoikehkibefpaaBookT
/-! PlanePastes. -/
namespace Go.Proofs.Ytdoikehkibefpaa
set_option linter.unusedSimpArgs false
set_option linter.unusedVariables false
open Go Go.RowKit Go.WideShapes Go.Proofs.Ytdoikehkibefpaa.PPb Go.Proofs.YtdoikehkibefpaaW.PrintWords Go.Proofs.YtdoikehkibefpaaW.PrintLast

theorem St.bring {c : Ctx} {L : List HP} {w : World} (h : St c L w) (i : Nat) (hi : i < L.length := by simp only [List.length_cons]; omega) : St c (L[i] :: L.eraseIdx i) w := h.perm (perm_pick L i hi)
set_option maxHeartbeats 32000000 in
set_option maxRecDepth 100000 in
theorem planePastes_walk {H : Type} {enc : TypeId × Value → H} (W : World) (base : Nat) (v0 v1 : Value) (a0 : Arg enc Try.prog W base 39 v0) (a1 : Arg enc Try.prog W base 68 v1) :
  Calls Try.prog 9 #[v0, v1] W fun e W' => e = .returned (.bool true) ∧ Below W.heap.size W W' := by
 obtain ⟨a, b, c, d, A, n, l, rfl, hn, hC, hs, hn2, hl2⟩ := arg_frame2 a0
 obtain ⟨pp, px, py, bw, bh, Ab, bn, bl0, rfl, hbn, hCb, hbs, hw1, hw2, hbb⟩ := arg_put a1
 clear a0 a1
 obtain ⟨nL, hnL⟩ : ∃ q, l.length = q := ⟨_, rfl⟩
 obtain ⟨nB, hnB⟩ : ∃ q, bl0.length = q := ⟨_, rfl⟩
 have HS := Lib.hid (((St.top W).alloc' rfl [.int .i64 a, .int .i64 b, .int .i64 c, .bool d, .slice A l.length n] 39).alloc' (n := W.heap.size + 1) (by simp) [.int .i64 pp, .int .i64 px, .int .i64 py, .int .i64 bw, .int .i64 bh, .slice Ab bl0.length bn] 68)
 have HC := Lib.hid hC
 have HSM := Lib.hid hs
 have HL := Lib.hid hl2
 have HN := Lib.hid hn
 have HNL := Lib.hid hnL
 have HCB := Lib.hid hCb
 have HBS := Lib.hid hbs
 have HNB := Lib.hid hnB
 have HBN : Hid (nB ≤ bn) := by rw [← hnB]; exact hbn
 have hbb2 : nB * 2 ≤ 140737488351232 := by rw [hnB] at hbn; omega
 clear hC hs hl2 hn hnL hCb hbs hnB hbn
 go_enter Try.func9, Try.ntmps9
 go_wp2_with fail
 refine (shown_ok _).mono ?_
 rintro en w1 ⟨rfl, hb⟩
 have HS1 := Lib.hid (HS.out.of_below hb)
 clear HS hb
 have HS2 := Lib.hid (St.bookNew (HS1.out.alloc' rfl [.slice none 0 0, .int .i64 0, .slice none 0 0] 36))
 clear HS1
 obtain ⟨f0, f1, f2, f3, f4⟩ := HS2.out.cells5 mm2
 go_wp2_with fail
 refine (lend_ok _ a b c d A n l (Kd.C_below HC.out HS2.out.below) hn2 HL.out HN.out).mono ?_
 rintro en w2 ⟨va, gL, gs, rfl, hgs, hS2⟩
 have hS2' := HS2.out.frame hS2
 simp only [List.cons_append, List.nil_append] at hS2'
 obtain ⟨aoA, capA, rfl, -, -, -, -⟩ := hS2'.lentOpen.rowShape
 have HS3 := Lib.hid (hS2'.alloc [.int .i64 a, .int .i64 b, .int .i64 c, .bool d, .slice (some ⟨gL, 0, none⟩) l.length (l.length + 2), .slice aoA l.length capA, .slice (some ⟨gL, 0, none⟩) (l.length + 2) (l.length + 2)] 46)
 have HGS := Lib.hid hgs
 clear HS2 hS2 hS2' hgs f0 f1 f2 f3 f4
 have f5 := St.cells_mem HS3.out mm3 5
 simp only [List.getElem?_cons_zero, List.getElem?_cons_succ] at f5
 go_wp2_with fail
 refine (lentList_ok _ Ab bn bl0 (Kd.C_below HCB.out HS3.out.below) (by rw [HNB.out]; exact hbb2)).mono ?_
 rintro en w3 ⟨gA, rfl, hS3⟩
 have hS3' := HS3.out.frame hS3
 simp only [List.cons_append, List.nil_append] at hS3'
 clear HS3 hS3 f5
 unfold lentV
 rw [HNL.out, HNB.out] at hS3' ⊢
 have HD := Lib.hid hS3'
 clear hS3'
 generalize w1.heap.size = gB at *
 generalize w2.heap.size = gX at *
 have hb7 : (nB : Int) ≤ (nB : Int) + 7 := by omega
 have f0 := St.cells_mem HD.out mm4 3
 have f1 := St.cells_mem HD.out mm4 4
 have f2 := St.cells_mem HD.out mm4 5
 have g0 := St.cells_mem HD.out mm5 0
 have g1 := St.cells_mem HD.out mm5 1
 have g2 := St.cells_mem HD.out mm5 2
 have g3 := St.cells_mem HD.out mm5 3
 have g4 := St.cells_mem HD.out mm5 4
 simp only [List.getElem?_cons_zero, List.getElem?_cons_succ] at f0 f1 f2 g0 g1 g2 g3 g4
 go_wp2_with fail
 refine start_ (n := 15) (S := fun w' => w'.cell? ⟨W.heap.size + 1, 3, none⟩ = some (.int .i64 bw) ∧ w'.cell? ⟨W.heap.size + 1, 4, none⟩ = some (.int .i64 bh) ∧ w'.cell? ⟨W.heap.size + 1, 5, none⟩ = some (.slice Ab nB bn)) (ds := [14]) #[false, false, false, false, false, false, false, false, false, false, false, false, false, false, false] (by kernel_rfl) rfl rfl ⟨St.cells_mem HD.out.drew mm4 3, St.cells_mem HD.out.drew mm4 4, St.cells_mem HD.out.drew mm4 5⟩ (fun hHeld => ?_)
 refine pu 0 34 #[true, false, false, false, false, false, false, false, false, false, false, false, false, false, false] ?_
 refine pu 1 35 #[true, true, false, false, false, false, false, false, false, false, false, false, false, false, false] ?_
 refine pu 3 37 #[true, true, false, true, false, false, false, false, false, false, false, false, false, false, false] ?_
 refine pu 4 38 #[true, true, false, true, true, false, false, false, false, false, false, false, false, false, false] ?_
 refine pu 6 40 #[true, true, false, true, true, false, true, false, false, false, false, false, false, false, false] ?_
 refine pu 7 41 #[true, true, false, true, true, false, true, true, false, false, false, false, false, false, false] ?_
 refine pu 8 42 #[true, true, false, true, true, false, true, true, true, false, false, false, false, false, false] ?_
 refine ta 2 36 #[true, true, true, true, true, false, true, true, true, false, false, false, false, false, false] hHeld ?_
 refine ta 5 39 #[true, true, true, true, true, true, true, true, true, false, false, false, false, false, false] hHeld ?_
 refine ta 9 43 #[true, true, true, true, true, true, true, true, true, true, false, false, false, false, false] hHeld ?_
 refine pu 10 44 #[true, true, true, true, true, true, true, true, true, true, true, false, false, false, false] ?_
 refine pu 11 45 #[true, true, true, true, true, true, true, true, true, true, true, true, false, false, false] ?_
 refine pu 12 46 #[true, true, true, true, true, true, true, true, true, true, true, true, true, false, false] ?_
 refine one_ (i := 13) (N := some 9) #[true, true, true, true, true, true, true, true, true, true, true, true, true, true, false] rfl rfl (by kernel_rfl) (by decide) (fun K hK => ?_)
 refine value_ (w1 := ?_) (v := ?_) (by rfl) rfl ?_ ?_
 rotate_left 2
 · go_simp
   constructor
   · rfl
   · rfl
 have HB := Lib.hid (HD.out.drew.alloc' rfl [.int .i64 0, .int .i64 0, .slice none 0 0] 55)
 refine hK.out _ _ ⟨St.cells_mem HB.out mm5 3, St.cells_mem HB.out mm5 4, St.cells_mem HB.out mm5 5⟩ (fun hHeld => ?_)
 clear hK K
 refine norm_ (a' := ?_) ?_ ?_
 rotate_left
 · show Act.put _ (some 9) _ = _
   simp only [Act.put, List.setIfInBounds_toArray, List.set_cons_zero, List.set_cons_succ, i64_w, i32_w]
   rfl
 refine last_ (i := 14) (N := none) #[true, true, true, true, true, true, true, true, true, true, true, true, true, true, true] rfl rfl (by kernel_rfl) (by decide) (fun K hK => ?_)
 refine skip_ (w1 := ?_) (by rfl) rfl ?_ ?_
 rotate_left
 · go_simp
   rfl
 refine hK.out _ _ ?_
 clear hK K
 refine done_ (by kernel_rfl) ?_
 have hb1 : St (top W) (blk w3.heap.size [.int .i64 bw, .int .i64 bh, .slice (some ⟨gA, 0, none⟩) nB (nB + 7)] 55 :: _) _ := (HD.out.alloc' rfl [.int .i64 bw, .int .i64 bh, .slice (some ⟨gA, 0, none⟩) nB (nB + 7)] 55).drew
 have HB1 := Lib.hid hb1
 clear HB hb1 f0 f1 f2 g0 g1 g2 g3 g4 hb7 hHeld
 generalize w3.heap.size = gK at *
 generalize (w3.alloc (.cells #[.int .i64 bw, .int .i64 bh, .slice (some ⟨gA, 0, none⟩) nB (nB + 7)] 55)).drew = w4 at *
 have HB2 := Lib.hid (HB1.out.alloc' rfl [.int .i64 a, .int .i64 b, .int .i64 c, .bool d, .slice A nL n] 39)
 have HB3 := Lib.hid (HB2.out.alloc' (n := w4.heap.size + 1) (by simp) [.int .i64 bw, .int .i64 bh, .slice Ab nB bn] 55)
 have g0 := St.cells_mem HB1.out mm6 0
 have g1 := St.cells_mem HB1.out mm6 1
 have g2 := St.cells_mem HB1.out mm6 2
 have g3 := St.cells_mem HB1.out mm6 3
 have g4 := St.cells_mem HB1.out mm6 4
 have f0 := St.cells_mem HB2.out mm6 3
 have f1 := St.cells_mem HB2.out mm6 4
 have f2 := St.cells_mem HB2.out mm6 5
 simp only [List.getElem?_cons_zero, List.getElem?_cons_succ] at f0 f1 f2 g0 g1 g2 g3 g4
 go_wp2_with fail
 clear f0 f1 f2 g0 g1 g2 g3 g4 HD HB1 HB2
 have HG : Hid (∀ w' R', St (top W) (emp :: R') w' → Kd.C (Kd.slice 72 (Kd.int .u16)) w' A nL l) := fun w' R' h => by rw [← HNL.out]; exact Kd.C_below HC.out h.below
 have HK : Hid (∀ w' R', St (top W) (emp :: R') w' → Kd.C (Kd.int .u16) w' Ab nB bl0) := fun w' R' h => by rw [← HNB.out]; exact Kd.C_below HCB.out h.below
 have HST := Lib.hid ((St.add (p := True) trivial (St.add (p := True) trivial HB3.out)).reo 11 [8, 5, 7, 0, 1, 2, 3, 4, 6, 9, 10] (by decide))
 have HN' : Hid (nL ≤ n) := by rw [← HNL.out]; exact HN.out
 have HGS' : Hid (gs.length = nL) := by rw [← HNL.out]; exact HGS.out
 have hn2' : nL * 24 ≤ 140737488351232 := by rw [← HNL.out]; exact hn2
 clear HB3 HGS hn2
 generalize w4.heap.size = gG at *
 go_loopw [12] (fun v w' => ∃ (t nb : Nat) (os : List Nat) (ls : List (List Int)) (Ag : Option Addr) (capg : Nat) (G : HP) (bl : List Int) (Ac : Option Addr) (capc : Nat) (K : HP), v = .int .i64 (t : Nat) ∧ t ≤ 2 ∧ (t < 2 → nb ≤ 100 * t ∧ os.length ≤ 2 * t ∧ ∀ x ∈ os, x ≤ 4 + 2 * t) ∧ Hid (t = 0 → ls = l) ∧ Hid (ls.length = nL) ∧ Hid (smp ls) ∧ Hid (∀ x ∈ ls, x.length * 2 ≤ 140737488351232) ∧ Hid (nL ≤ capg) ∧ Hid (∀ w' R', St (top W) (G :: R') w' → Kd.C (Kd.slice 72 (Kd.int .u16)) w' Ag nL ls) ∧ Hid (t = 0 → bl = bl0) ∧ Hid (bl.length = nB) ∧ Hid (∀ v ∈ bl, 0 ≤ v ∧ v ≤ 65535) ∧ Hid (nB ≤ capc) ∧ Hid (∀ w' R', St (top W) (K :: R') w' → Kd.C (Kd.int .u16) w' Ac nB bl) ∧ Hid (St (top W) (book gB nb os :: lentRow gA bl :: lentIs (.slice aoA nL capA) gL gs ls :: G :: K :: blk (gG + 1) [.int .i64 bw, .int .i64 bh, .slice Ac nB capc] 55 :: blk gG [.int .i64 a, .int .i64 b, .int .i64 c, .bool d, .slice Ag nL capg] 39 :: blk gK [.int .i64 bw, .int .i64 bh, .slice (some ⟨gA, 0, none⟩) nB (nB + 7)] 55 :: blk gX [.int .i64 a, .int .i64 b, .int .i64 c, .bool d, .slice (some ⟨gL, 0, none⟩) nL (nL + 2), .slice aoA nL capA, .slice (some ⟨gL, 0, none⟩) (nL + 2) (nL + 2)] 46 :: blk (W.heap.size + 1) [.int .i64 pp, .int .i64 px, .int .i64 py, .int .i64 bw, .int .i64 bh, .slice Ab nB bn] 68 :: blk W.heap.size [.int .i64 a, .int .i64 b, .int .i64 c, .bool d, .slice A nL n] 39 :: []) w')) (fun v _ => 2 - (intOf v).toNat)
 case atStart => exact ⟨0, 0, [], l, A, n, emp, bl0, Ab, bn, emp, rfl, by omega, fun _ => ⟨by omega, by simp, fun x hx => by cases hx⟩, fun _ => rfl, HNL, HSM, HL, HN', HG, fun _ => rfl, HNB, HBS, HBN, HK, HST⟩
 case round =>
  clear HST HG HK
  obtain ⟨t, nb, os, ls, Ag, capg, G, bl, Ac, capc, K, rfl, ht, hbd, HT0, HLN, HSMs, HLs, HCG, HGC, HB0, HBL, HBSs, HCC, HKC, hS⟩ := hrel
  by_cases htl : t < 2
  ·obtain ⟨hnb, hos, hox⟩ := hbd htl
   have HOX := Lib.hid hox
   obtain ⟨⟨u1, u2, u3, u4, cl, u6⟩, hcf⟩ : ∃ r, pasteF a b c d ls pp px py bw bh bl = r := ⟨_, rfl⟩
   obtain ⟨hcl, hcl2⟩ := pasteF_len hcf
   obtain ⟨k1, hk1⟩ := rsame_f u1 u2 u3 u4 cl (by omega) (fun x hx => by have := hcl2 x hx; omega)
   have h1 := fun (w : World) hr hc hcb hbn => ppaste_ok w a b c d (some ⟨gL, 0, none⟩) (nL + 2) ls pp px py bw bh (some ⟨gA, 0, none⟩) (nB + 7) bl hr hc HSMs.out HLs.out hcb hbn HBSs.out hw1 hw2 hcf
   have h3 := fun (w : World) hr hc hcb hbn => rpaste_ok w a b c d Ag capg ls pp px py bw bh Ac capc bl hr hc HSMs.out HLs.out hcb hbn HBSs.out hw1 hw2 hcf
   rw [HLN.out, HBL.out] at h1 h3
   have CP := Lib.hid h1
   have CR := Lib.hid h3
   have CS := Lib.hid (fun (A1 : Option Addr) (n1 : Nat) (A2 : Option Addr) (n2 : Nat) (w : World) h1 h2 h3 h4 => dailiesref06_Same.calls k1 u1 u2 u3 u4 A1 n1 cl u1 u2 u3 u4 A2 n2 cl true w h1 h2 h3 h4 hk1)
   have HCL := Lib.hid hcl2
   have LC : Hid (∀ w' R', St (top W) (lentIs (.slice aoA nL capA) gL gs ls :: R') w' → Kd.C (Kd.slice 72 (Kd.int .u16)) w' (some ⟨gL, 0, none⟩) nL ls) := by
    intro w' R' h
    have h5 := lentC h (by rw [HLN.out]; exact HGS'.out) (by rw [HLN.out]; exact hn2')
    rw [HLN.out] at h5
    exact h5
   have BC : Hid (∀ w' R', St (top W) (lentRow gA bl :: R') w' → Kd.C (Kd.int .u16) w' (some ⟨gA, 0, none⟩) nB bl) := by
    intro w' R' h
    have h5 := (lentRowC h).2
    rw [HBL.out] at h5
    exact h5
   have H0 := hS
   clear hS hbd hox hcf hk1 h1 h3 hcl2
   have x0 := St.cells_mem H0.out mm8 0
   have x1 := St.cells_mem H0.out mm8 1
   have x2 := St.cells_mem H0.out mm8 2
   have x3 := St.cells_mem H0.out mm8 3
   have x4 := St.cells_mem H0.out mm8 4
   simp only [List.getElem?_cons_zero, List.getElem?_cons_succ] at x0 x1 x2 x3 x4
   have y0 := St.cells_mem H0.out mm9 0
   have y1 := St.cells_mem H0.out mm9 1
   have y2 := St.cells_mem H0.out mm9 2
   simp only [List.getElem?_cons_zero, List.getElem?_cons_succ] at y0 y1 y2
   have z0 := St.cells_mem H0.out mm7 0
   have z1 := St.cells_mem H0.out mm7 1
   have z2 := St.cells_mem H0.out mm7 2
   simp only [List.getElem?_cons_zero, List.getElem?_cons_succ] at z0 z1 z2
   go_wp2_with fail
   refine (CP.out _ (LC.out _ _ (St.bring H0.out 2)) (by omega) (BC.out _ _ (St.bring H0.out 1)) (by omega)).mono ?_
   rintro en w5 ⟨v1, rfl, hR⟩
   have hm := H0.out.frame hR
   simp only [List.cons_append, List.nil_append] at hm
   obtain ⟨P1, n1, rfl, -, -⟩ := hm.matC
   have H1 := Lib.hid (hm.alloc [.int .i64 u1, .int .i64 u2, .int .i64 u3, .bool u4, (.slice P1 cl.length n1)] 39)
   clear H0 hm hR x0 x1 x2 x3 x4 y0 y1 y2 z0 z1 z2
   have x0 := St.cells_mem H1.out mm10 0
   have x1 := St.cells_mem H1.out mm10 1
   have x2 := St.cells_mem H1.out mm10 2
   have x3 := St.cells_mem H1.out mm10 3
   have x4 := St.cells_mem H1.out mm10 4
   simp only [List.getElem?_cons_zero, List.getElem?_cons_succ] at x0 x1 x2 x3 x4
   have y0 := St.cells_mem H1.out mm11 0
   have y1 := St.cells_mem H1.out mm11 1
   have y2 := St.cells_mem H1.out mm11 2
   simp only [List.getElem?_cons_zero, List.getElem?_cons_succ] at y0 y1 y2
   have z0 := St.cells_mem H1.out mm9 0
   have z1 := St.cells_mem H1.out mm9 1
   have z2 := St.cells_mem H1.out mm9 2
   simp only [List.getElem?_cons_zero, List.getElem?_cons_succ] at z0 z1 z2
   go_wp2_with fail
   generalize w5.heap.size = g1 at *
   refine (CP.out _ (LC.out _ _ (St.bring H1.out 4)) (by omega) (BC.out _ _ (St.bring H1.out 3)) (by omega)).mono ?_
   rintro en w6 ⟨v2, rfl, hR⟩
   have hm := H1.out.frame hR
   simp only [List.cons_append, List.nil_append] at hm
   obtain ⟨P2, n2, rfl, -, -⟩ := hm.matC
   have H2 := Lib.hid (hm.alloc [.int .i64 u1, .int .i64 u2, .int .i64 u3, .bool u4, (.slice P2 cl.length n2)] 39)
   clear H1 hm hR x0 x1 x2 x3 x4 y0 y1 y2 z0 z1 z2
   have x0 := St.cells_mem H2.out mm10 0
   have x1 := St.cells_mem H2.out mm10 1
   have x2 := St.cells_mem H2.out mm10 2
   have x3 := St.cells_mem H2.out mm10 3
   have x4 := St.cells_mem H2.out mm10 4
   simp only [List.getElem?_cons_zero, List.getElem?_cons_succ] at x0 x1 x2 x3 x4
   have y0 := St.cells_mem H2.out mm13 0
   have y1 := St.cells_mem H2.out mm13 1
   have y2 := St.cells_mem H2.out mm13 2
   simp only [List.getElem?_cons_zero, List.getElem?_cons_succ] at y0 y1 y2
   have z0 := St.cells_mem H2.out mm9 0
   have z1 := St.cells_mem H2.out mm9 1
   have z2 := St.cells_mem H2.out mm9 2
   simp only [List.getElem?_cons_zero, List.getElem?_cons_succ] at z0 z1 z2
   go_wp2_with fail
   generalize w6.heap.size = g2 at *
   refine (CR.out _ (HGC.out _ _ (St.bring H2.out 7)) HCG.out (HKC.out _ _ (St.bring H2.out 8)) HCC.out).mono ?_
   rintro en w7 ⟨v3, rfl, hR⟩
   have hm := H2.out.frame hR
   simp only [List.cons_append, List.nil_append] at hm
   obtain ⟨P3, n3, rfl, -, -⟩ := hm.matC
   have H3 := Lib.hid (hm.alloc [.int .i64 u1, .int .i64 u2, .int .i64 u3, .bool u4, (.slice P3 cl.length n3)] 39)
   clear H2 hm hR x0 x1 x2 x3 x4 y0 y1 y2 z0 z1 z2
   have x0 := St.cells_mem H3.out mm4 0
   have x1 := St.cells_mem H3.out mm4 1
   have x2 := St.cells_mem H3.out mm4 2
   have x3 := St.cells_mem H3.out mm4 3
   have x4 := St.cells_mem H3.out mm4 4
   simp only [List.getElem?_cons_zero, List.getElem?_cons_succ] at x0 x1 x2 x3 x4
   have y0 := St.cells_mem H3.out mm0 0
   have y1 := St.cells_mem H3.out mm0 1
   have y2 := St.cells_mem H3.out mm0 2
   have y3 := St.cells_mem H3.out mm0 3
   have y4 := St.cells_mem H3.out mm0 4
   simp only [List.getElem?_cons_zero, List.getElem?_cons_succ] at y0 y1 y2 y3 y4
   go_wp2_with fail
   generalize w7.heap.size = g3 at *
   refine (CS.out _ _ _ _ _ (St.bring H3.out 5).matC'.2.2 (St.bring H3.out 5).matC'.2.1 (St.bring H3.out 1).matC'.2.2 (St.bring H3.out 1).matC'.2.1).mono ?_
   rintro en w8 ⟨rfl, hb⟩
   have H4 := Lib.hid (H3.out.of_below hb)
   clear H3 hb x0 x1 x2 x3 x4 y0 y1 y2 y3 y4
   have x0 := St.cells_mem H4.out mm2 0
   have x1 := St.cells_mem H4.out mm2 1
   have x2 := St.cells_mem H4.out mm2 2
   have x3 := St.cells_mem H4.out mm2 3
   have x4 := St.cells_mem H4.out mm2 4
   simp only [List.getElem?_cons_zero, List.getElem?_cons_succ] at x0 x1 x2 x3 x4
   have y0 := St.cells_mem H4.out mm0 0
   have y1 := St.cells_mem H4.out mm0 1
   have y2 := St.cells_mem H4.out mm0 2
   have y3 := St.cells_mem H4.out mm0 3
   have y4 := St.cells_mem H4.out mm0 4
   simp only [List.getElem?_cons_zero, List.getElem?_cons_succ] at y0 y1 y2 y3 y4
   go_wp2_with fail
   refine (CS.out _ _ _ _ _ (St.bring H4.out 3).matC'.2.2 (St.bring H4.out 3).matC'.2.1 (St.bring H4.out 1).matC'.2.2 (St.bring H4.out 1).matC'.2.1).mono ?_
   rintro en w9 ⟨rfl, hb⟩
   have HY := Lib.hid (H4.out.of_below hb)
   clear H4 hb x0 x1 x2 x3 x4 y0 y1 y2 y3 y4
   have t_u : (u6 != u6) = false := by simp
   by_cases ht0 : t = 0
   ·have hll := HT0.out ht0
    have HY0 := HY
    clear HY
    have t_t : decide ((0 : Int) < (t : Int)) = false := decide_eq_false (by omega)
    have q0 := St.cells_mem HY0.out mm14 0
    have q1 := St.cells_mem HY0.out mm14 1
    have q2 := St.cells_mem HY0.out mm14 2
    have q3 := St.cells_mem HY0.out mm14 3
    have q4 := St.cells_mem HY0.out mm14 4
    have q5 := St.cells_mem HY0.out mm14 5
    have q6 := St.cells_mem HY0.out mm14 6
    simp only [List.getElem?_cons_zero, List.getElem?_cons_succ] at q0 q1 q2 q3 q4 q5 q6
    have y0 := St.cells_mem HY0.out mm16 0
    have y1 := St.cells_mem HY0.out mm16 1
    have y2 := St.cells_mem HY0.out mm16 2
    have y3 := St.cells_mem HY0.out mm16 3
    have y4 := St.cells_mem HY0.out mm16 4
    simp only [List.getElem?_cons_zero, List.getElem?_cons_succ] at y0 y1 y2 y3 y4
    go_wp2_with fail
    have hst := fun (w : World) hS hC => still_ok (top W) [blk g3 [.int .i64 u1, .int .i64 u2, .int .i64 u3, .bool u4, (.slice P3 cl.length n3)] 39, mat 53 72 .u16 (.slice P3 cl.length n3) cl, blk g2 [.int .i64 u1, .int .i64 u2, .int .i64 u3, .bool u4, (.slice P2 cl.length n2)] 39, mat 53 72 .u16 (.slice P2 cl.length n2) cl, blk g1 [.int .i64 u1, .int .i64 u2, .int .i64 u3, .bool u4, (.slice P1 cl.length n1)] 39, mat 53 72 .u16 (.slice P1 cl.length n1) cl, book gB nb os, lentRow gA bl, G, K, blk (gG + 1) [.int .i64 bw, .int .i64 bh, .slice Ac nB capc] 55, blk gG [.int .i64 a, .int .i64 b, .int .i64 c, .bool d, .slice Ag nL capg] 39, blk gK [.int .i64 bw, .int .i64 bh, .slice (some ⟨gA, 0, none⟩) nB (nB + 7)] 55, blk gX [.int .i64 a, .int .i64 b, .int .i64 c, .bool d, .slice (some ⟨gL, 0, none⟩) nL (nL + 2), .slice aoA nL capA, .slice (some ⟨gL, 0, none⟩) (nL + 2) (nL + 2)] 46, blk (W.heap.size + 1) [.int .i64 pp, .int .i64 px, .int .i64 py, .int .i64 bw, .int .i64 bh, .slice Ab nB bn] 68, blk W.heap.size [.int .i64 a, .int .i64 b, .int .i64 c, .bool d, .slice A nL n] 39] w (.slice aoA nL capA) gL gs ls a b c d A n hS (by rw [HLN.out]; exact HGS'.out) hC (by rw [HLN.out]; exact HN'.out) (by rw [HLN.out]; exact hn2') HLs.out
    rw [HLN.out] at hst
    refine (hst _ (St.bring HY0.out 8) (by rw [hll, ← HNL.out]; exact Kd.C_below HC.out HY0.out.below)).mono ?_
    rintro en w10 ⟨rfl, hb⟩
    have HY1 := Lib.hid (HY0.out.of_below hb)
    clear HY0 hb q0 q1 q2 q3 q4 q5 q6 y0 y1 y2 y3 y4 hst hll
    have q5 := St.cells_mem HY1.out mm15 5
    simp only [List.getElem?_cons_zero, List.getElem?_cons_succ] at q5
    go_wp2_with fail
    have hst2 := fun (w : World) h1 h2 => stays_ok w (some ⟨gA, 0, none⟩) Ab (nB + 7) bn bl (by rw [HBL.out]; omega) h1 h2
    rw [HBL.out] at hst2
    refine (hst2 _ (lentRowC (St.bring HY1.out 7)).1 (by rw [HB0.out ht0, ← HNB.out]; exact Kd.C_below HCB.out HY1.out.below)).mono ?_
    rintro en w11 ⟨rfl, hq⟩
    have HY := Lib.hid (HY1.out.of_quiet hq)
    clear HY1 hq q5 hst2
    have x0 := St.cells_mem HY.out mm4 0
    have x1 := St.cells_mem HY.out mm4 1
    have x2 := St.cells_mem HY.out mm4 2
    have x3 := St.cells_mem HY.out mm4 3
    have x4 := St.cells_mem HY.out mm4 4
    simp only [List.getElem?_cons_zero, List.getElem?_cons_succ] at x0 x1 x2 x3 x4
    go_wp2_with fail
    clear t_t t_u x0 x1 x2 x3 x4
    have h2 : St (top W) (book gB nb os :: mat 53 72 .u16 (.slice P1 cl.length n1) cl :: blk g2 [.int .i64 u1, .int .i64 u2, .int .i64 u3, .bool u4, (.slice P2 cl.length n2)] 39 :: mat 53 72 .u16 (.slice P2 cl.length n2) cl :: lentRow gA bl :: lentIs (.slice aoA nL capA) gL gs ls :: G :: K :: blk (gG + 1) [.int .i64 bw, .int .i64 bh, .slice Ac nB capc] 55 :: blk gG [.int .i64 a, .int .i64 b, .int .i64 c, .bool d, .slice Ag nL capg] 39 :: blk gK [.int .i64 bw, .int .i64 bh, .slice (some ⟨gA, 0, none⟩) nB (nB + 7)] 55 :: blk gX [.int .i64 a, .int .i64 b, .int .i64 c, .bool d, .slice (some ⟨gL, 0, none⟩) nL (nL + 2), .slice aoA nL capA, .slice (some ⟨gL, 0, none⟩) (nL + 2) (nL + 2)] 46 :: blk (W.heap.size + 1) [.int .i64 pp, .int .i64 px, .int .i64 py, .int .i64 bw, .int .i64 bh, .slice Ab nB bn] 68 :: blk W.heap.size [.int .i64 a, .int .i64 b, .int .i64 c, .bool d, .slice A nL n] 39 :: []) _ := ((HY.out.reo 17 [0, 1, 4, 6, 5, 2, 3, 7, 8, 9, 10, 11, 12, 13, 14, 15, 16] (by decide)).drop).drop.drop
    have HM := Lib.hid h2
    clear h2 HY
    refine (take_ok (top W) [blk g2 [.int .i64 u1, .int .i64 u2, .int .i64 u3, .bool u4, (.slice P2 cl.length n2)] 39, mat 53 72 .u16 (.slice P2 cl.length n2) cl, lentRow gA bl, lentIs (.slice aoA nL capA) gL gs ls, G, K, blk (gG + 1) [.int .i64 bw, .int .i64 bh, .slice Ac nB capc] 55, blk gG [.int .i64 a, .int .i64 b, .int .i64 c, .bool d, .slice Ag nL capg] 39, blk gK [.int .i64 bw, .int .i64 bh, .slice (some ⟨gA, 0, none⟩) nB (nB + 7)] 55, blk gX [.int .i64 a, .int .i64 b, .int .i64 c, .bool d, .slice (some ⟨gL, 0, none⟩) nL (nL + 2), .slice aoA nL capA, .slice (some ⟨gL, 0, none⟩) (nL + 2) (nL + 2)] 46, blk (W.heap.size + 1) [.int .i64 pp, .int .i64 px, .int .i64 py, .int .i64 bw, .int .i64 bh, .slice Ab nB bn] 68, blk W.heap.size [.int .i64 a, .int .i64 b, .int .i64 c, .bool d, .slice A nL n] 39] _ gB nb os _ cl HM.out (fun l hl => by
     have hb : BIG = 134217728 := rfl
     have := HCL.out l hl
     omega) (by omega)).mono ?_
    rintro en w12 ⟨rfl, hS⟩
    have H10 := Lib.hid hS
    clear HM hS
    have x0 := St.cells_mem H10.out mm1 0
    have x1 := St.cells_mem H10.out mm1 1
    have x2 := St.cells_mem H10.out mm1 2
    have x3 := St.cells_mem H10.out mm1 3
    have x4 := St.cells_mem H10.out mm1 4
    simp only [List.getElem?_cons_zero, List.getElem?_cons_succ] at x0 x1 x2 x3 x4
    go_wp2_with fail
    clear x0 x1 x2 x3 x4
    have h2 : St (top W) (book gB nb (os ++ [cl.length]) :: mat 53 72 .u16 (.slice P2 cl.length n2) cl :: blk g2 [.int .i64 u1, .int .i64 u2, .int .i64 u3, .bool u4, (.slice P2 cl.length n2)] 39 :: lentRow gA bl :: lentIs (.slice aoA nL capA) gL gs ls :: G :: K :: blk (gG + 1) [.int .i64 bw, .int .i64 bh, .slice Ac nB capc] 55 :: blk gG [.int .i64 a, .int .i64 b, .int .i64 c, .bool d, .slice Ag nL capg] 39 :: blk gK [.int .i64 bw, .int .i64 bh, .slice (some ⟨gA, 0, none⟩) nB (nB + 7)] 55 :: blk gX [.int .i64 a, .int .i64 b, .int .i64 c, .bool d, .slice (some ⟨gL, 0, none⟩) nL (nL + 2), .slice aoA nL capA, .slice (some ⟨gL, 0, none⟩) (nL + 2) (nL + 2)] 46 :: blk (W.heap.size + 1) [.int .i64 pp, .int .i64 px, .int .i64 py, .int .i64 bw, .int .i64 bh, .slice Ab nB bn] 68 :: blk W.heap.size [.int .i64 a, .int .i64 b, .int .i64 c, .bool d, .slice A nL n] 39 :: []) _ := H10.out.reo 3 [0, 2, 1] (by decide)
    have HM := Lib.hid h2
    clear h2 H10
    refine (take_ok (top W) [blk g2 [.int .i64 u1, .int .i64 u2, .int .i64 u3, .bool u4, (.slice P2 cl.length n2)] 39, lentRow gA bl, lentIs (.slice aoA nL capA) gL gs ls, G, K, blk (gG + 1) [.int .i64 bw, .int .i64 bh, .slice Ac nB capc] 55, blk gG [.int .i64 a, .int .i64 b, .int .i64 c, .bool d, .slice Ag nL capg] 39, blk gK [.int .i64 bw, .int .i64 bh, .slice (some ⟨gA, 0, none⟩) nB (nB + 7)] 55, blk gX [.int .i64 a, .int .i64 b, .int .i64 c, .bool d, .slice (some ⟨gL, 0, none⟩) nL (nL + 2), .slice aoA nL capA, .slice (some ⟨gL, 0, none⟩) (nL + 2) (nL + 2)] 46, blk (W.heap.size + 1) [.int .i64 pp, .int .i64 px, .int .i64 py, .int .i64 bw, .int .i64 bh, .slice Ab nB bn] 68, blk W.heap.size [.int .i64 a, .int .i64 b, .int .i64 c, .bool d, .slice A nL n] 39] _ gB nb (os ++ [cl.length]) _ cl HM.out (fun l hl => by
     have hb : BIG = 134217728 := rfl
     have := HCL.out l hl
     omega) (by simp; omega)).mono ?_
    rintro en w13 ⟨rfl, hS⟩
    have H12 := Lib.hid hS.swap.drop
    clear HM hS
    go_wp2_with fail
    refine (own_ok (top W) [lentRow gA bl, lentIs (.slice aoA nL capA) gL gs ls, G, K, blk (gG + 1) [.int .i64 bw, .int .i64 bh, .slice Ac nB capc] 55, blk gG [.int .i64 a, .int .i64 b, .int .i64 c, .bool d, .slice Ag nL capg] 39, blk gK [.int .i64 bw, .int .i64 bh, .slice (some ⟨gA, 0, none⟩) nB (nB + 7)] 55, blk gX [.int .i64 a, .int .i64 b, .int .i64 c, .bool d, .slice (some ⟨gL, 0, none⟩) nL (nL + 2), .slice aoA nL capA, .slice (some ⟨gL, 0, none⟩) (nL + 2) (nL + 2)] 46, blk (W.heap.size + 1) [.int .i64 pp, .int .i64 px, .int .i64 py, .int .i64 bw, .int .i64 bh, .slice Ab nB bn] 68, blk W.heap.size [.int .i64 a, .int .i64 b, .int .i64 c, .bool d, .slice A nL n] 39] _ gB nb (os ++ [cl.length] ++ [cl.length]) H12.out (by omega) (by simp; omega) (fun x hx => by
     simp only [List.mem_append, List.mem_cons, List.not_mem_nil, or_false] at hx
     rcases hx with (hx | hx) | hx
     ·have := HOX.out x hx; omega
     ·omega
     ·omega)).mono ?_
    rintro en w14 ⟨rfl, hS⟩
    have H13 := Lib.hid hS
    clear H12 hS
    have q0 := St.cells_mem H13.out mm8 0
    have q1 := St.cells_mem H13.out mm8 1
    have q2 := St.cells_mem H13.out mm8 2
    have q3 := St.cells_mem H13.out mm8 3
    have q4 := St.cells_mem H13.out mm8 4
    have q5 := St.cells_mem H13.out mm8 5
    have q6 := St.cells_mem H13.out mm8 6
    simp only [List.getElem?_cons_zero, List.getElem?_cons_succ] at q0 q1 q2 q3 q4 q5 q6
    go_wp2_with fail
    clear q0 q1 q2 q3 q4 q5 q6
    have hT := fun (w : World) R' hS => turn_ok (top W) R' w (.slice aoA nL capA) gL gs ls a b c d hS (by rw [HLN.out]; exact HGS'.out) (by rw [HLN.out]; exact hn2') HLs.out
    rw [HLN.out] at hT
    have h13 : St (top W) (lentIs (.slice aoA nL capA) gL gs ls :: book gB (2 * nb + 40 * (os ++ [cl.length] ++ [cl.length]).length) ((os ++ [cl.length] ++ [cl.length]).map (· + 2)) :: lentRow gA bl :: G :: K :: blk (gG + 1) [.int .i64 bw, .int .i64 bh, .slice Ac nB capc] 55 :: blk gG [.int .i64 a, .int .i64 b, .int .i64 c, .bool d, .slice Ag nL capg] 39 :: blk gK [.int .i64 bw, .int .i64 bh, .slice (some ⟨gA, 0, none⟩) nB (nB + 7)] 55 :: blk gX [.int .i64 a, .int .i64 b, .int .i64 c, .bool d, .slice (some ⟨gL, 0, none⟩) nL (nL + 2), .slice aoA nL capA, .slice (some ⟨gL, 0, none⟩) (nL + 2) (nL + 2)] 46 :: blk (W.heap.size + 1) [.int .i64 pp, .int .i64 px, .int .i64 py, .int .i64 bw, .int .i64 bh, .slice Ab nB bn] 68 :: blk W.heap.size [.int .i64 a, .int .i64 b, .int .i64 c, .bool d, .slice A nL n] 39 :: []) _ := H13.out.reo 3 [2, 0, 1] (by decide)
    refine (hT _ _ h13).mono ?_
    rintro en w15 ⟨v, rfl, hS⟩
    have hlm : (ls.map turnRow).length = nL := by rw [List.length_map]; exact HLN.out
    obtain ⟨A7, cap7, e7, hcap7, -⟩ := hS.matC
    rw [hlm] at e7 hcap7
    subst e7
    have HLM := Lib.hid hlm
    have HCAP := Lib.hid hcap7
    have x0 := St.cells_mem hS mm7 0
    have x1 := St.cells_mem hS mm7 1
    have x2 := St.cells_mem hS mm7 2
    have x3 := St.cells_mem hS mm7 3
    have x4 := St.cells_mem hS mm7 4
    simp only [List.getElem?_cons_zero, List.getElem?_cons_succ] at x0 x1 x2 x3 x4
    have hbg : St (top W) (blk gG [.int .i64 a, .int .i64 b, .int .i64 c, .bool d, .slice Ag nL capg] 39 :: _) w15 := St.bring hS 7
    have y0 := hbg.frozen 0
    have y1 := hbg.frozen 1
    have y2 := hbg.frozen 2
    have y3 := hbg.frozen 3
    have y4 := hbg.frozen 4
    have h5 : St (top W) (blk gG [.int .i64 a, .int .i64 b, .int .i64 c, .bool d, .slice A7 nL cap7] 39 :: mat 53 72 .u16 (.slice A7 nL cap7) (ls.map turnRow) :: lentIs (.slice aoA nL capA) gL gs (ls.map turnRow) :: book gB (2 * nb + 40 * (os ++ [cl.length] ++ [cl.length]).length) ((os ++ [cl.length] ++ [cl.length]).map (· + 2)) :: lentRow gA bl :: G :: K :: blk (gG + 1) [.int .i64 bw, .int .i64 bh, .slice Ac nB capc] 55 :: blk gK [.int .i64 bw, .int .i64 bh, .slice (some ⟨gA, 0, none⟩) nB (nB + 7)] 55 :: blk gX [.int .i64 a, .int .i64 b, .int .i64 c, .bool d, .slice (some ⟨gL, 0, none⟩) nL (nL + 2), .slice aoA nL capA, .slice (some ⟨gL, 0, none⟩) (nL + 2) (nL + 2)] 46 :: blk (W.heap.size + 1) [.int .i64 pp, .int .i64 px, .int .i64 py, .int .i64 bw, .int .i64 bh, .slice Ab nB bn] 68 :: blk W.heap.size [.int .i64 a, .int .i64 b, .int .i64 c, .bool d, .slice A nL n] 39 :: []) _ := (((((hS.reo 12 [7, 0, 1, 2, 3, 4, 5, 6, 8, 9, 10, 11] (by decide)).setCell 0 (.int .i64 a)).setCell 1 (.int .i64 b)).setCell 2 (.int .i64 c)).setCell 3 (.bool d)).setCell 4 (.slice A7 nL cap7)
    have h6 : St (top W) (lentRow gA bl :: blk gG [.int .i64 a, .int .i64 b, .int .i64 c, .bool d, .slice A7 nL cap7] 39 :: mat 53 72 .u16 (.slice A7 nL cap7) (ls.map turnRow) :: lentIs (.slice aoA nL capA) gL gs (ls.map turnRow) :: book gB (2 * nb + 40 * (os ++ [cl.length] ++ [cl.length]).length) ((os ++ [cl.length] ++ [cl.length]).map (· + 2)) :: K :: blk (gG + 1) [.int .i64 bw, .int .i64 bh, .slice Ac nB capc] 55 :: blk gK [.int .i64 bw, .int .i64 bh, .slice (some ⟨gA, 0, none⟩) nB (nB + 7)] 55 :: blk gX [.int .i64 a, .int .i64 b, .int .i64 c, .bool d, .slice (some ⟨gL, 0, none⟩) nL (nL + 2), .slice aoA nL capA, .slice (some ⟨gL, 0, none⟩) (nL + 2) (nL + 2)] 46 :: blk (W.heap.size + 1) [.int .i64 pp, .int .i64 px, .int .i64 py, .int .i64 bw, .int .i64 bh, .slice Ab nB bn] 68 :: blk W.heap.size [.int .i64 a, .int .i64 b, .int .i64 c, .bool d, .slice A nL n] 39 :: []) _ := (h5.reo 12 [5, 4, 0, 1, 2, 3, 6, 7, 8, 9, 10, 11] (by decide)).drop
    have HZ := Lib.hid h6
    clear H13 h13 hS hlm hcap7 hbg h5 hT h6
    go_wp2_with fail
    clear x0 x1 x2 x3 x4 y0 y1 y2 y3 y4
    go_loopw [24] (fun v w' => ∃ (k : Nat), v = .int .i64 (k : Nat) ∧ k ≤ nB ∧ Hid (St (top W) (lentRow gA (xorTo bl k) :: blk gG [.int .i64 a, .int .i64 b, .int .i64 c, .bool d, .slice A7 nL cap7] 39 :: mat 53 72 .u16 (.slice A7 nL cap7) (ls.map turnRow) :: lentIs (.slice aoA nL capA) gL gs (ls.map turnRow) :: book gB (2 * nb + 40 * (os ++ [cl.length] ++ [cl.length]).length) ((os ++ [cl.length] ++ [cl.length]).map (· + 2)) :: K :: blk (gG + 1) [.int .i64 bw, .int .i64 bh, .slice Ac nB capc] 55 :: blk gK [.int .i64 bw, .int .i64 bh, .slice (some ⟨gA, 0, none⟩) nB (nB + 7)] 55 :: blk gX [.int .i64 a, .int .i64 b, .int .i64 c, .bool d, .slice (some ⟨gL, 0, none⟩) nL (nL + 2), .slice aoA nL capA, .slice (some ⟨gL, 0, none⟩) (nL + 2) (nL + 2)] 46 :: blk (W.heap.size + 1) [.int .i64 pp, .int .i64 px, .int .i64 py, .int .i64 bw, .int .i64 bh, .slice Ab nB bn] 68 :: blk W.heap.size [.int .i64 a, .int .i64 b, .int .i64 c, .bool d, .slice A nL n] 39 :: []) w')) (fun v _ => nB - (intOf v).toNat)
    case atStart => exact ⟨0, rfl, by omega, HZ⟩
    case round =>
     clear HZ
     obtain ⟨k, rfl, hk, hS⟩ := hrel
     have z0 := St.cells_mem hS.out mm7 0
     have z1 := St.cells_mem hS.out mm7 1
     have z2 := St.cells_mem hS.out mm7 2
     simp only [List.getElem?_cons_zero, List.getElem?_cons_succ] at z0 z1 z2
     by_cases hkl : k < nB
     ·have hset := lentRowSet hS.out k (by rw [xorTo_length, HBL.out]; exact hkl)
      rw [xorTo_at bl k k (Nat.le_refl _)] at hset
      obtain ⟨hcv, hcf, hst⟩ := hset
      have hst1 : St (top W) (lentRow gA (xorTo bl (k + 1)) :: _) _ := hst (x3 (bl.getD k 0))
      have HN := Lib.hid hst1
      obtain ⟨sv, hsv⟩ : ∃ q, bl.getD k 0 = q := ⟨_, rfl⟩
      rw [hsv] at hcv HN
      have HTV : Hid (bits .xor .u16 sv 3 = x3 sv) := rfl
      have t3 : (0 : Int) ≤ (k : Int) := by omega
      have t4 : (k : Int) < nB := by omega
      clear hst hst1 hS hsv
      go_wp2_with fail
      go_region
      rw [HTV.out]
      go_wp2_with fail
      go_roundw
      case rel => exact ⟨k + 1, by go_num, by omega, HN.out.drewN 1⟩
      case measure => simp [intOf]; omega
     ·have hkl : nB = k := by omega
      subst hkl
      obtain ⟨X, hX⟩ : ∃ q, xorTo bl nB = q := ⟨_, rfl⟩
      have HXL : Hid (X.length = nB) := by show _ = _; rw [← hX, xorTo_length]; exact HBL.out
      have HXB : Hid (∀ v ∈ X, 0 ≤ v ∧ v ≤ 65535) := by rw [← hX]; exact xorTo_bd bl HBSs.out nB (by rw [HBL.out]; exact Nat.le_refl _)
      have HCE : Hid (∀ (R' : List HP) (w' : World), St (top W) (lentRow gA X :: R') w' → ∀ j u, (nums .u16 X)[j]? = some u → w'.cell? ((⟨gA, 0, none⟩ : Addr).add j) = some u) := by
       intro R' w' h j u hj
       have hjl : j < X.length := by have := (List.getElem?_eq_some_iff.1 hj).1; rwa [nums_length] at this
       have h2 := (lentRowSet h j hjl).1
       rw [nums_at _ _ _ hjl] at hj
       rw [Addr.add_lit, Nat.zero_add, h2, ← hj]
      have hD := hS.out.drew
      rw [hX] at hD
      have HD := Lib.hid hD
      clear hD hS hX
      go_wp2_with fail
      clear z0 z1 z2
      refine start_ (n := 10) (S := fun w' => w'.cell? ⟨gK, 0, none⟩ = some (.int .i64 bw) ∧ w'.cell? ⟨gK, 1, none⟩ = some (.int .i64 bh) ∧ w'.cell? ⟨gK, 2, none⟩ = some (.slice (some ⟨gA, 0, none⟩) nB (nB + 7))) (ds := [9]) #[false, false, false, false, false, false, false, false, false, false] (by kernel_rfl) rfl rfl ⟨St.cells_mem HD.out mm7 0, St.cells_mem HD.out mm7 1, St.cells_mem HD.out mm7 2⟩ (fun hHeld => ?_)
      refine pu 0 173 #[true, false, false, false, false, false, false, false, false, false] ?_
      refine pu 2 175 #[true, false, true, false, false, false, false, false, false, false] ?_
      refine pu 5 178 #[true, false, true, false, false, true, false, false, false, false] ?_
      refine ta 1 174 #[true, true, true, false, false, true, false, false, false, false] hHeld ?_
      refine ta 3 176 #[true, true, true, true, false, true, false, false, false, false] hHeld ?_
      refine ta 6 179 #[true, true, true, true, false, true, true, false, false, false] hHeld ?_
      refine one_ (i := 4) (N := some 177) #[true, true, true, true, true, true, true, false, false, false] rfl rfl (by kernel_rfl) (by decide) (fun K hK => ?_)
      refine value_ (w1 := ?_) (v := ?_) (by rfl) rfl ?_ ?_
      rotate_left 2
      · go_simp
        constructor
        · rfl
        · rfl
      have HE := Lib.hid (HD.out.emptyRow 72)
      refine hK.out _ _ ⟨St.cells_mem HE.out mm8 0, St.cells_mem HE.out mm8 1, St.cells_mem HE.out mm8 2⟩ (fun hHeld => ?_)
      clear hK K
      refine norm_ (a' := ?_) ?_ ?_
      rotate_left
      · show Act.put _ (some 177) _ = _
        simp only [Act.put, List.setIfInBounds_toArray, List.set_cons_zero, List.set_cons_succ, i64_w, i32_w]
        rfl
      refine one_ (i := 7) (N := some 180) #[true, true, true, true, true, true, true, true, false, false] rfl rfl (by kernel_rfl) (by decide) (fun K hK => ?_)
      refine St.stepAppend (by rfl) (.tmp 177) (.tmp 179) _ (by rfl) elemU16 (by rfl) HE.out ⟨gA, 0, none⟩ nB (nB + 7) (nums .u16 X) (by rfl) (by rw [nums_length, HXL.out, Nat.mul_one]) (HCE.out _ _ HE.out.swap) (nums_one .u16 X) (by omega) (by unfold maxLen; omega) ?_
      intro v60 w60 hS60
      rw [Nat.zero_add, List.nil_append] at hS60
      obtain ⟨ao60, cap60, rfl, hcap60, -, -, -⟩ := hS60.rowShape
      have HC60 := Lib.hid hcap60
      have hin : row 72 1 (.slice ao60 nB cap60) nB (nums .u16 X) = inner 72 .u16 (.slice ao60 nB cap60) X := by unfold inner; rw [HXL.out]
      rw [hin] at hS60
      have HF := Lib.hid hS60
      clear hS60 hin hcap60
      have hbc : St (top W) (blk (gG + 1) [.int .i64 bw, .int .i64 bh, .slice Ac nB capc] 55 :: _) w60 := St.bring HF.out 7
      have b0 := hbc.cell 0
      have b1 := hbc.cell 1
      have b2 := hbc.cell 2
      simp only [List.getElem?_cons_zero, List.getElem?_cons_succ] at b0 b1 b2
      have br0 := hbc.frozen 0
      have br1 := hbc.frozen 1
      have br2 := hbc.frozen 2
      clear hbc
      refine hK.out _ _ ⟨St.cells_mem HF.out mm8 0, St.cells_mem HF.out mm8 1, St.cells_mem HF.out mm8 2⟩ (fun hHeld => ?_)
      clear hK K
      refine norm_ (a' := ?_) ?_ ?_
      rotate_left
      · show Act.put _ (some 180) _ = _
        simp only [Act.put, List.setIfInBounds_toArray, List.set_cons_zero, List.set_cons_succ, i64_w, i32_w]
        rfl
      refine pu 8 181 #[true, true, true, true, true, true, true, true, true, false] ?_
      refine last_ (i := 9) (N := none) #[true, true, true, true, true, true, true, true, true, true] rfl rfl (by kernel_rfl) (by decide) (fun K hK => ?_)
      refine skip_ (w1 := ?_) (by rfl) rfl ?_ ?_
      rotate_left
      · go_simp
        rfl
      refine hK.out _ _ ?_
      clear hK K
      refine done_ (by kernel_rfl) ?_
      have h7 : St (top W) (blk (gG + 1) [.int .i64 bw, .int .i64 bh, .slice Ac nB capc] 55 :: inner 72 .u16 (.slice ao60 nB cap60) X :: lentRow gA X :: blk gG [.int .i64 a, .int .i64 b, .int .i64 c, .bool d, .slice A7 nL cap7] 39 :: mat 53 72 .u16 (.slice A7 nL cap7) (ls.map turnRow) :: lentIs (.slice aoA nL capA) gL gs (ls.map turnRow) :: book gB (2 * nb + 40 * (os ++ [cl.length] ++ [cl.length]).length) ((os ++ [cl.length] ++ [cl.length]).map (· + 2)) :: K :: blk gK [.int .i64 bw, .int .i64 bh, .slice (some ⟨gA, 0, none⟩) nB (nB + 7)] 55 :: blk gX [.int .i64 a, .int .i64 b, .int .i64 c, .bool d, .slice (some ⟨gL, 0, none⟩) nL (nL + 2), .slice aoA nL capA, .slice (some ⟨gL, 0, none⟩) (nL + 2) (nL + 2)] 46 :: blk (W.heap.size + 1) [.int .i64 pp, .int .i64 px, .int .i64 py, .int .i64 bw, .int .i64 bh, .slice Ab nB bn] 68 :: blk W.heap.size [.int .i64 a, .int .i64 b, .int .i64 c, .bool d, .slice A nL n] 39 :: []) w60 := HF.out.reo 12 [7, 0, 1, 2, 3, 4, 5, 6, 8, 9, 10, 11] (by decide)
      have h8 : St (top W) (blk (gG + 1) [.int .i64 bw, .int .i64 bh, .slice ao60 nB cap60] 55 :: inner 72 .u16 (.slice ao60 nB cap60) X :: lentRow gA X :: blk gG [.int .i64 a, .int .i64 b, .int .i64 c, .bool d, .slice A7 nL cap7] 39 :: mat 53 72 .u16 (.slice A7 nL cap7) (ls.map turnRow) :: lentIs (.slice aoA nL capA) gL gs (ls.map turnRow) :: book gB (2 * nb + 40 * (os ++ [cl.length] ++ [cl.length]).length) ((os ++ [cl.length] ++ [cl.length]).map (· + 2)) :: K :: blk gK [.int .i64 bw, .int .i64 bh, .slice (some ⟨gA, 0, none⟩) nB (nB + 7)] 55 :: blk gX [.int .i64 a, .int .i64 b, .int .i64 c, .bool d, .slice (some ⟨gL, 0, none⟩) nL (nL + 2), .slice aoA nL capA, .slice (some ⟨gL, 0, none⟩) (nL + 2) (nL + 2)] 46 :: blk (W.heap.size + 1) [.int .i64 pp, .int .i64 px, .int .i64 py, .int .i64 bw, .int .i64 bh, .slice Ab nB bn] 68 :: blk W.heap.size [.int .i64 a, .int .i64 b, .int .i64 c, .bool d, .slice A nL n] 39 :: []) _ := ((h7.setCell 0 (.int .i64 bw)).setCell 1 (.int .i64 bh)).setCell 2 (.slice ao60 nB cap60)
      have h9 : St (top W) (book gB (2 * nb + 40 * (os ++ [cl.length] ++ [cl.length]).length) ((os ++ [cl.length] ++ [cl.length]).map (· + 2)) :: lentRow gA X :: lentIs (.slice aoA nL capA) gL gs (ls.map turnRow) :: mat 53 72 .u16 (.slice A7 nL cap7) (ls.map turnRow) :: inner 72 .u16 (.slice ao60 nB cap60) X :: blk (gG + 1) [.int .i64 bw, .int .i64 bh, .slice ao60 nB cap60] 55 :: blk gG [.int .i64 a, .int .i64 b, .int .i64 c, .bool d, .slice A7 nL cap7] 39 :: blk gK [.int .i64 bw, .int .i64 bh, .slice (some ⟨gA, 0, none⟩) nB (nB + 7)] 55 :: blk gX [.int .i64 a, .int .i64 b, .int .i64 c, .bool d, .slice (some ⟨gL, 0, none⟩) nL (nL + 2), .slice aoA nL capA, .slice (some ⟨gL, 0, none⟩) (nL + 2) (nL + 2)] 46 :: blk (W.heap.size + 1) [.int .i64 pp, .int .i64 px, .int .i64 py, .int .i64 bw, .int .i64 bh, .slice Ab nB bn] 68 :: blk W.heap.size [.int .i64 a, .int .i64 b, .int .i64 c, .bool d, .slice A nL n] 39 :: []) _ := (h8.reo 12 [7, 6, 2, 5, 4, 1, 0, 3, 8, 9, 10, 11] (by decide)).drop
      have HZ := Lib.hid h9
      clear HF HE HD HCE h7 h8 h9 hHeld
      go_wp2_with fail
      go_roundw
      case rel =>
       refine ⟨t + 1, 2 * nb + 40 * (os ++ [cl.length] ++ [cl.length]).length, (os ++ [cl.length] ++ [cl.length]).map (· + 2), ls.map turnRow, A7, cap7, mat 53 72 .u16 (.slice A7 nL cap7) (ls.map turnRow), X, ao60, cap60, inner 72 .u16 (.slice ao60 nB cap60) X, by go_num, by omega, fun h2 => ⟨by simp; omega, by simp; omega, fun x hx => ?_⟩, fun h => absurd h (by omega), HLM, smp_turn HSMs.out, fun x hx => ?_, HCAP, fun w' R' h => ?_, fun h => absurd h (by omega), HXL, HXB, HC60, fun w' R' h => ?_, HZ⟩
       ·obtain ⟨y, hy, rfl⟩ := List.mem_map.1 hx
        simp only [List.mem_append, List.mem_cons, List.not_mem_nil, or_false] at hy
        rcases hy with (hy | hy) | hy
        ·have := HOX.out y hy; omega
        ·omega
        ·omega
       ·obtain ⟨y, hy, rfl⟩ := List.mem_map.1 hx
        rw [turnRow_length]
        exact HLs.out y hy
       ·have h6 := h.matC'.2.2
        rw [HLM.out] at h6
        exact h6
       ·have h6 := h.innerC'.2.2
        rw [HXL.out] at h6
        exact h6
      case measure => simp [intOf]; omega
   ·have t_t : decide ((0 : Int) < (t : Int)) = true := decide_eq_true (by omega)
    have x0 := St.cells_mem HY.out mm4 0
    have x1 := St.cells_mem HY.out mm4 1
    have x2 := St.cells_mem HY.out mm4 2
    have x3 := St.cells_mem HY.out mm4 3
    have x4 := St.cells_mem HY.out mm4 4
    simp only [List.getElem?_cons_zero, List.getElem?_cons_succ] at x0 x1 x2 x3 x4
    go_wp2_with fail
    clear t_t t_u x0 x1 x2 x3 x4
    have h2 : St (top W) (book gB nb os :: mat 53 72 .u16 (.slice P1 cl.length n1) cl :: blk g2 [.int .i64 u1, .int .i64 u2, .int .i64 u3, .bool u4, (.slice P2 cl.length n2)] 39 :: mat 53 72 .u16 (.slice P2 cl.length n2) cl :: lentRow gA bl :: lentIs (.slice aoA nL capA) gL gs ls :: G :: K :: blk (gG + 1) [.int .i64 bw, .int .i64 bh, .slice Ac nB capc] 55 :: blk gG [.int .i64 a, .int .i64 b, .int .i64 c, .bool d, .slice Ag nL capg] 39 :: blk gK [.int .i64 bw, .int .i64 bh, .slice (some ⟨gA, 0, none⟩) nB (nB + 7)] 55 :: blk gX [.int .i64 a, .int .i64 b, .int .i64 c, .bool d, .slice (some ⟨gL, 0, none⟩) nL (nL + 2), .slice aoA nL capA, .slice (some ⟨gL, 0, none⟩) (nL + 2) (nL + 2)] 46 :: blk (W.heap.size + 1) [.int .i64 pp, .int .i64 px, .int .i64 py, .int .i64 bw, .int .i64 bh, .slice Ab nB bn] 68 :: blk W.heap.size [.int .i64 a, .int .i64 b, .int .i64 c, .bool d, .slice A nL n] 39 :: []) _ := ((HY.out.reo 17 [0, 1, 4, 6, 5, 2, 3, 7, 8, 9, 10, 11, 12, 13, 14, 15, 16] (by decide)).drop).drop.drop
    have HM := Lib.hid h2
    clear h2 HY
    refine (take_ok (top W) [blk g2 [.int .i64 u1, .int .i64 u2, .int .i64 u3, .bool u4, (.slice P2 cl.length n2)] 39, mat 53 72 .u16 (.slice P2 cl.length n2) cl, lentRow gA bl, lentIs (.slice aoA nL capA) gL gs ls, G, K, blk (gG + 1) [.int .i64 bw, .int .i64 bh, .slice Ac nB capc] 55, blk gG [.int .i64 a, .int .i64 b, .int .i64 c, .bool d, .slice Ag nL capg] 39, blk gK [.int .i64 bw, .int .i64 bh, .slice (some ⟨gA, 0, none⟩) nB (nB + 7)] 55, blk gX [.int .i64 a, .int .i64 b, .int .i64 c, .bool d, .slice (some ⟨gL, 0, none⟩) nL (nL + 2), .slice aoA nL capA, .slice (some ⟨gL, 0, none⟩) (nL + 2) (nL + 2)] 46, blk (W.heap.size + 1) [.int .i64 pp, .int .i64 px, .int .i64 py, .int .i64 bw, .int .i64 bh, .slice Ab nB bn] 68, blk W.heap.size [.int .i64 a, .int .i64 b, .int .i64 c, .bool d, .slice A nL n] 39] _ gB nb os _ cl HM.out (fun l hl => by
     have hb : BIG = 134217728 := rfl
     have := HCL.out l hl
     omega) (by omega)).mono ?_
    rintro en w12 ⟨rfl, hS⟩
    have H10 := Lib.hid hS
    clear HM hS
    have x0 := St.cells_mem H10.out mm1 0
    have x1 := St.cells_mem H10.out mm1 1
    have x2 := St.cells_mem H10.out mm1 2
    have x3 := St.cells_mem H10.out mm1 3
    have x4 := St.cells_mem H10.out mm1 4
    simp only [List.getElem?_cons_zero, List.getElem?_cons_succ] at x0 x1 x2 x3 x4
    go_wp2_with fail
    clear x0 x1 x2 x3 x4
    have h2 : St (top W) (book gB nb (os ++ [cl.length]) :: mat 53 72 .u16 (.slice P2 cl.length n2) cl :: blk g2 [.int .i64 u1, .int .i64 u2, .int .i64 u3, .bool u4, (.slice P2 cl.length n2)] 39 :: lentRow gA bl :: lentIs (.slice aoA nL capA) gL gs ls :: G :: K :: blk (gG + 1) [.int .i64 bw, .int .i64 bh, .slice Ac nB capc] 55 :: blk gG [.int .i64 a, .int .i64 b, .int .i64 c, .bool d, .slice Ag nL capg] 39 :: blk gK [.int .i64 bw, .int .i64 bh, .slice (some ⟨gA, 0, none⟩) nB (nB + 7)] 55 :: blk gX [.int .i64 a, .int .i64 b, .int .i64 c, .bool d, .slice (some ⟨gL, 0, none⟩) nL (nL + 2), .slice aoA nL capA, .slice (some ⟨gL, 0, none⟩) (nL + 2) (nL + 2)] 46 :: blk (W.heap.size + 1) [.int .i64 pp, .int .i64 px, .int .i64 py, .int .i64 bw, .int .i64 bh, .slice Ab nB bn] 68 :: blk W.heap.size [.int .i64 a, .int .i64 b, .int .i64 c, .bool d, .slice A nL n] 39 :: []) _ := H10.out.reo 3 [0, 2, 1] (by decide)
    have HM := Lib.hid h2
    clear h2 H10
    refine (take_ok (top W) [blk g2 [.int .i64 u1, .int .i64 u2, .int .i64 u3, .bool u4, (.slice P2 cl.length n2)] 39, lentRow gA bl, lentIs (.slice aoA nL capA) gL gs ls, G, K, blk (gG + 1) [.int .i64 bw, .int .i64 bh, .slice Ac nB capc] 55, blk gG [.int .i64 a, .int .i64 b, .int .i64 c, .bool d, .slice Ag nL capg] 39, blk gK [.int .i64 bw, .int .i64 bh, .slice (some ⟨gA, 0, none⟩) nB (nB + 7)] 55, blk gX [.int .i64 a, .int .i64 b, .int .i64 c, .bool d, .slice (some ⟨gL, 0, none⟩) nL (nL + 2), .slice aoA nL capA, .slice (some ⟨gL, 0, none⟩) (nL + 2) (nL + 2)] 46, blk (W.heap.size + 1) [.int .i64 pp, .int .i64 px, .int .i64 py, .int .i64 bw, .int .i64 bh, .slice Ab nB bn] 68, blk W.heap.size [.int .i64 a, .int .i64 b, .int .i64 c, .bool d, .slice A nL n] 39] _ gB nb (os ++ [cl.length]) _ cl HM.out (fun l hl => by
     have hb : BIG = 134217728 := rfl
     have := HCL.out l hl
     omega) (by simp; omega)).mono ?_
    rintro en w13 ⟨rfl, hS⟩
    have H12 := Lib.hid hS.swap.drop
    clear HM hS
    go_wp2_with fail
    refine (own_ok (top W) [lentRow gA bl, lentIs (.slice aoA nL capA) gL gs ls, G, K, blk (gG + 1) [.int .i64 bw, .int .i64 bh, .slice Ac nB capc] 55, blk gG [.int .i64 a, .int .i64 b, .int .i64 c, .bool d, .slice Ag nL capg] 39, blk gK [.int .i64 bw, .int .i64 bh, .slice (some ⟨gA, 0, none⟩) nB (nB + 7)] 55, blk gX [.int .i64 a, .int .i64 b, .int .i64 c, .bool d, .slice (some ⟨gL, 0, none⟩) nL (nL + 2), .slice aoA nL capA, .slice (some ⟨gL, 0, none⟩) (nL + 2) (nL + 2)] 46, blk (W.heap.size + 1) [.int .i64 pp, .int .i64 px, .int .i64 py, .int .i64 bw, .int .i64 bh, .slice Ab nB bn] 68, blk W.heap.size [.int .i64 a, .int .i64 b, .int .i64 c, .bool d, .slice A nL n] 39] _ gB nb (os ++ [cl.length] ++ [cl.length]) H12.out (by omega) (by simp; omega) (fun x hx => by
     simp only [List.mem_append, List.mem_cons, List.not_mem_nil, or_false] at hx
     rcases hx with (hx | hx) | hx
     ·have := HOX.out x hx; omega
     ·omega
     ·omega)).mono ?_
    rintro en w14 ⟨rfl, hS⟩
    have H13 := Lib.hid hS
    clear H12 hS
    have q0 := St.cells_mem H13.out mm8 0
    have q1 := St.cells_mem H13.out mm8 1
    have q2 := St.cells_mem H13.out mm8 2
    have q3 := St.cells_mem H13.out mm8 3
    have q4 := St.cells_mem H13.out mm8 4
    have q5 := St.cells_mem H13.out mm8 5
    have q6 := St.cells_mem H13.out mm8 6
    simp only [List.getElem?_cons_zero, List.getElem?_cons_succ] at q0 q1 q2 q3 q4 q5 q6
    go_wp2_with fail
    clear q0 q1 q2 q3 q4 q5 q6
    have hT := fun (w : World) R' hS => turn_ok (top W) R' w (.slice aoA nL capA) gL gs ls a b c d hS (by rw [HLN.out]; exact HGS'.out) (by rw [HLN.out]; exact hn2') HLs.out
    rw [HLN.out] at hT
    have h13 : St (top W) (lentIs (.slice aoA nL capA) gL gs ls :: book gB (2 * nb + 40 * (os ++ [cl.length] ++ [cl.length]).length) ((os ++ [cl.length] ++ [cl.length]).map (· + 2)) :: lentRow gA bl :: G :: K :: blk (gG + 1) [.int .i64 bw, .int .i64 bh, .slice Ac nB capc] 55 :: blk gG [.int .i64 a, .int .i64 b, .int .i64 c, .bool d, .slice Ag nL capg] 39 :: blk gK [.int .i64 bw, .int .i64 bh, .slice (some ⟨gA, 0, none⟩) nB (nB + 7)] 55 :: blk gX [.int .i64 a, .int .i64 b, .int .i64 c, .bool d, .slice (some ⟨gL, 0, none⟩) nL (nL + 2), .slice aoA nL capA, .slice (some ⟨gL, 0, none⟩) (nL + 2) (nL + 2)] 46 :: blk (W.heap.size + 1) [.int .i64 pp, .int .i64 px, .int .i64 py, .int .i64 bw, .int .i64 bh, .slice Ab nB bn] 68 :: blk W.heap.size [.int .i64 a, .int .i64 b, .int .i64 c, .bool d, .slice A nL n] 39 :: []) _ := H13.out.reo 3 [2, 0, 1] (by decide)
    refine (hT _ _ h13).mono ?_
    rintro en w15 ⟨v, rfl, hS⟩
    have hlm : (ls.map turnRow).length = nL := by rw [List.length_map]; exact HLN.out
    obtain ⟨A7, cap7, e7, hcap7, -⟩ := hS.matC
    rw [hlm] at e7 hcap7
    subst e7
    have HLM := Lib.hid hlm
    have HCAP := Lib.hid hcap7
    have x0 := St.cells_mem hS mm7 0
    have x1 := St.cells_mem hS mm7 1
    have x2 := St.cells_mem hS mm7 2
    have x3 := St.cells_mem hS mm7 3
    have x4 := St.cells_mem hS mm7 4
    simp only [List.getElem?_cons_zero, List.getElem?_cons_succ] at x0 x1 x2 x3 x4
    have hbg : St (top W) (blk gG [.int .i64 a, .int .i64 b, .int .i64 c, .bool d, .slice Ag nL capg] 39 :: _) w15 := St.bring hS 7
    have y0 := hbg.frozen 0
    have y1 := hbg.frozen 1
    have y2 := hbg.frozen 2
    have y3 := hbg.frozen 3
    have y4 := hbg.frozen 4
    have h5 : St (top W) (blk gG [.int .i64 a, .int .i64 b, .int .i64 c, .bool d, .slice A7 nL cap7] 39 :: mat 53 72 .u16 (.slice A7 nL cap7) (ls.map turnRow) :: lentIs (.slice aoA nL capA) gL gs (ls.map turnRow) :: book gB (2 * nb + 40 * (os ++ [cl.length] ++ [cl.length]).length) ((os ++ [cl.length] ++ [cl.length]).map (· + 2)) :: lentRow gA bl :: G :: K :: blk (gG + 1) [.int .i64 bw, .int .i64 bh, .slice Ac nB capc] 55 :: blk gK [.int .i64 bw, .int .i64 bh, .slice (some ⟨gA, 0, none⟩) nB (nB + 7)] 55 :: blk gX [.int .i64 a, .int .i64 b, .int .i64 c, .bool d, .slice (some ⟨gL, 0, none⟩) nL (nL + 2), .slice aoA nL capA, .slice (some ⟨gL, 0, none⟩) (nL + 2) (nL + 2)] 46 :: blk (W.heap.size + 1) [.int .i64 pp, .int .i64 px, .int .i64 py, .int .i64 bw, .int .i64 bh, .slice Ab nB bn] 68 :: blk W.heap.size [.int .i64 a, .int .i64 b, .int .i64 c, .bool d, .slice A nL n] 39 :: []) _ := (((((hS.reo 12 [7, 0, 1, 2, 3, 4, 5, 6, 8, 9, 10, 11] (by decide)).setCell 0 (.int .i64 a)).setCell 1 (.int .i64 b)).setCell 2 (.int .i64 c)).setCell 3 (.bool d)).setCell 4 (.slice A7 nL cap7)
    have h6 : St (top W) (lentRow gA bl :: blk gG [.int .i64 a, .int .i64 b, .int .i64 c, .bool d, .slice A7 nL cap7] 39 :: mat 53 72 .u16 (.slice A7 nL cap7) (ls.map turnRow) :: lentIs (.slice aoA nL capA) gL gs (ls.map turnRow) :: book gB (2 * nb + 40 * (os ++ [cl.length] ++ [cl.length]).length) ((os ++ [cl.length] ++ [cl.length]).map (· + 2)) :: K :: blk (gG + 1) [.int .i64 bw, .int .i64 bh, .slice Ac nB capc] 55 :: blk gK [.int .i64 bw, .int .i64 bh, .slice (some ⟨gA, 0, none⟩) nB (nB + 7)] 55 :: blk gX [.int .i64 a, .int .i64 b, .int .i64 c, .bool d, .slice (some ⟨gL, 0, none⟩) nL (nL + 2), .slice aoA nL capA, .slice (some ⟨gL, 0, none⟩) (nL + 2) (nL + 2)] 46 :: blk (W.heap.size + 1) [.int .i64 pp, .int .i64 px, .int .i64 py, .int .i64 bw, .int .i64 bh, .slice Ab nB bn] 68 :: blk W.heap.size [.int .i64 a, .int .i64 b, .int .i64 c, .bool d, .slice A nL n] 39 :: []) _ := (h5.reo 12 [5, 4, 0, 1, 2, 3, 6, 7, 8, 9, 10, 11] (by decide)).drop
    have HZ := Lib.hid h6
    clear H13 h13 hS hlm hcap7 hbg h5 hT h6
    go_wp2_with fail
    clear x0 x1 x2 x3 x4 y0 y1 y2 y3 y4
    go_loopw [24] (fun v w' => ∃ (k : Nat), v = .int .i64 (k : Nat) ∧ k ≤ nB ∧ Hid (St (top W) (lentRow gA (xorTo bl k) :: blk gG [.int .i64 a, .int .i64 b, .int .i64 c, .bool d, .slice A7 nL cap7] 39 :: mat 53 72 .u16 (.slice A7 nL cap7) (ls.map turnRow) :: lentIs (.slice aoA nL capA) gL gs (ls.map turnRow) :: book gB (2 * nb + 40 * (os ++ [cl.length] ++ [cl.length]).length) ((os ++ [cl.length] ++ [cl.length]).map (· + 2)) :: K :: blk (gG + 1) [.int .i64 bw, .int .i64 bh, .slice Ac nB capc] 55 :: blk gK [.int .i64 bw, .int .i64 bh, .slice (some ⟨gA, 0, none⟩) nB (nB + 7)] 55 :: blk gX [.int .i64 a, .int .i64 b, .int .i64 c, .bool d, .slice (some ⟨gL, 0, none⟩) nL (nL + 2), .slice aoA nL capA, .slice (some ⟨gL, 0, none⟩) (nL + 2) (nL + 2)] 46 :: blk (W.heap.size + 1) [.int .i64 pp, .int .i64 px, .int .i64 py, .int .i64 bw, .int .i64 bh, .slice Ab nB bn] 68 :: blk W.heap.size [.int .i64 a, .int .i64 b, .int .i64 c, .bool d, .slice A nL n] 39 :: []) w')) (fun v _ => nB - (intOf v).toNat)
    case atStart => exact ⟨0, rfl, by omega, HZ⟩
    case round =>
     clear HZ
     obtain ⟨k, rfl, hk, hS⟩ := hrel
     have z0 := St.cells_mem hS.out mm7 0
     have z1 := St.cells_mem hS.out mm7 1
     have z2 := St.cells_mem hS.out mm7 2
     simp only [List.getElem?_cons_zero, List.getElem?_cons_succ] at z0 z1 z2
     by_cases hkl : k < nB
     ·have hset := lentRowSet hS.out k (by rw [xorTo_length, HBL.out]; exact hkl)
      rw [xorTo_at bl k k (Nat.le_refl _)] at hset
      obtain ⟨hcv, hcf, hst⟩ := hset
      have hst1 : St (top W) (lentRow gA (xorTo bl (k + 1)) :: _) _ := hst (x3 (bl.getD k 0))
      have HN := Lib.hid hst1
      obtain ⟨sv, hsv⟩ : ∃ q, bl.getD k 0 = q := ⟨_, rfl⟩
      rw [hsv] at hcv HN
      have HTV : Hid (bits .xor .u16 sv 3 = x3 sv) := rfl
      have t3 : (0 : Int) ≤ (k : Int) := by omega
      have t4 : (k : Int) < nB := by omega
      clear hst hst1 hS hsv
      go_wp2_with fail
      go_region
      rw [HTV.out]
      go_wp2_with fail
      go_roundw
      case rel => exact ⟨k + 1, by go_num, by omega, HN.out.drewN 1⟩
      case measure => simp [intOf]; omega
     ·have hkl : nB = k := by omega
      subst hkl
      obtain ⟨X, hX⟩ : ∃ q, xorTo bl nB = q := ⟨_, rfl⟩
      have HXL : Hid (X.length = nB) := by show _ = _; rw [← hX, xorTo_length]; exact HBL.out
      have HXB : Hid (∀ v ∈ X, 0 ≤ v ∧ v ≤ 65535) := by rw [← hX]; exact xorTo_bd bl HBSs.out nB (by rw [HBL.out]; exact Nat.le_refl _)
      have HCE : Hid (∀ (R' : List HP) (w' : World), St (top W) (lentRow gA X :: R') w' → ∀ j u, (nums .u16 X)[j]? = some u → w'.cell? ((⟨gA, 0, none⟩ : Addr).add j) = some u) := by
       intro R' w' h j u hj
       have hjl : j < X.length := by have := (List.getElem?_eq_some_iff.1 hj).1; rwa [nums_length] at this
       have h2 := (lentRowSet h j hjl).1
       rw [nums_at _ _ _ hjl] at hj
       rw [Addr.add_lit, Nat.zero_add, h2, ← hj]
      have hD := hS.out.drew
      rw [hX] at hD
      have HD := Lib.hid hD
      clear hD hS hX
      go_wp2_with fail
      clear z0 z1 z2
      refine start_ (n := 10) (S := fun w' => w'.cell? ⟨gK, 0, none⟩ = some (.int .i64 bw) ∧ w'.cell? ⟨gK, 1, none⟩ = some (.int .i64 bh) ∧ w'.cell? ⟨gK, 2, none⟩ = some (.slice (some ⟨gA, 0, none⟩) nB (nB + 7))) (ds := [9]) #[false, false, false, false, false, false, false, false, false, false] (by kernel_rfl) rfl rfl ⟨St.cells_mem HD.out mm7 0, St.cells_mem HD.out mm7 1, St.cells_mem HD.out mm7 2⟩ (fun hHeld => ?_)
      refine pu 0 173 #[true, false, false, false, false, false, false, false, false, false] ?_
      refine pu 2 175 #[true, false, true, false, false, false, false, false, false, false] ?_
      refine pu 5 178 #[true, false, true, false, false, true, false, false, false, false] ?_
      refine ta 1 174 #[true, true, true, false, false, true, false, false, false, false] hHeld ?_
      refine ta 3 176 #[true, true, true, true, false, true, false, false, false, false] hHeld ?_
      refine ta 6 179 #[true, true, true, true, false, true, true, false, false, false] hHeld ?_
      refine one_ (i := 4) (N := some 177) #[true, true, true, true, true, true, true, false, false, false] rfl rfl (by kernel_rfl) (by decide) (fun K hK => ?_)
      refine value_ (w1 := ?_) (v := ?_) (by rfl) rfl ?_ ?_
      rotate_left 2
      · go_simp
        constructor
        · rfl
        · rfl
      have HE := Lib.hid (HD.out.emptyRow 72)
      refine hK.out _ _ ⟨St.cells_mem HE.out mm8 0, St.cells_mem HE.out mm8 1, St.cells_mem HE.out mm8 2⟩ (fun hHeld => ?_)
      clear hK K
      refine norm_ (a' := ?_) ?_ ?_
      rotate_left
      · show Act.put _ (some 177) _ = _
        simp only [Act.put, List.setIfInBounds_toArray, List.set_cons_zero, List.set_cons_succ, i64_w, i32_w]
        rfl
      refine one_ (i := 7) (N := some 180) #[true, true, true, true, true, true, true, true, false, false] rfl rfl (by kernel_rfl) (by decide) (fun K hK => ?_)
      refine St.stepAppend (by rfl) (.tmp 177) (.tmp 179) _ (by rfl) elemU16 (by rfl) HE.out ⟨gA, 0, none⟩ nB (nB + 7) (nums .u16 X) (by rfl) (by rw [nums_length, HXL.out, Nat.mul_one]) (HCE.out _ _ HE.out.swap) (nums_one .u16 X) (by omega) (by unfold maxLen; omega) ?_
      intro v60 w60 hS60
      rw [Nat.zero_add, List.nil_append] at hS60
      obtain ⟨ao60, cap60, rfl, hcap60, -, -, -⟩ := hS60.rowShape
      have HC60 := Lib.hid hcap60
      have hin : row 72 1 (.slice ao60 nB cap60) nB (nums .u16 X) = inner 72 .u16 (.slice ao60 nB cap60) X := by unfold inner; rw [HXL.out]
      rw [hin] at hS60
      have HF := Lib.hid hS60
      clear hS60 hin hcap60
      have hbc : St (top W) (blk (gG + 1) [.int .i64 bw, .int .i64 bh, .slice Ac nB capc] 55 :: _) w60 := St.bring HF.out 7
      have b0 := hbc.cell 0
      have b1 := hbc.cell 1
      have b2 := hbc.cell 2
      simp only [List.getElem?_cons_zero, List.getElem?_cons_succ] at b0 b1 b2
      have br0 := hbc.frozen 0
      have br1 := hbc.frozen 1
      have br2 := hbc.frozen 2
      clear hbc
      refine hK.out _ _ ⟨St.cells_mem HF.out mm8 0, St.cells_mem HF.out mm8 1, St.cells_mem HF.out mm8 2⟩ (fun hHeld => ?_)
      clear hK K
      refine norm_ (a' := ?_) ?_ ?_
      rotate_left
      · show Act.put _ (some 180) _ = _
        simp only [Act.put, List.setIfInBounds_toArray, List.set_cons_zero, List.set_cons_succ, i64_w, i32_w]
        rfl
      refine pu 8 181 #[true, true, true, true, true, true, true, true, true, false] ?_
      refine last_ (i := 9) (N := none) #[true, true, true, true, true, true, true, true, true, true] rfl rfl (by kernel_rfl) (by decide) (fun K hK => ?_)
      refine skip_ (w1 := ?_) (by rfl) rfl ?_ ?_
      rotate_left
      · go_simp
        rfl
      refine hK.out _ _ ?_
      clear hK K
      refine done_ (by kernel_rfl) ?_
      have h7 : St (top W) (blk (gG + 1) [.int .i64 bw, .int .i64 bh, .slice Ac nB capc] 55 :: inner 72 .u16 (.slice ao60 nB cap60) X :: lentRow gA X :: blk gG [.int .i64 a, .int .i64 b, .int .i64 c, .bool d, .slice A7 nL cap7] 39 :: mat 53 72 .u16 (.slice A7 nL cap7) (ls.map turnRow) :: lentIs (.slice aoA nL capA) gL gs (ls.map turnRow) :: book gB (2 * nb + 40 * (os ++ [cl.length] ++ [cl.length]).length) ((os ++ [cl.length] ++ [cl.length]).map (· + 2)) :: K :: blk gK [.int .i64 bw, .int .i64 bh, .slice (some ⟨gA, 0, none⟩) nB (nB + 7)] 55 :: blk gX [.int .i64 a, .int .i64 b, .int .i64 c, .bool d, .slice (some ⟨gL, 0, none⟩) nL (nL + 2), .slice aoA nL capA, .slice (some ⟨gL, 0, none⟩) (nL + 2) (nL + 2)] 46 :: blk (W.heap.size + 1) [.int .i64 pp, .int .i64 px, .int .i64 py, .int .i64 bw, .int .i64 bh, .slice Ab nB bn] 68 :: blk W.heap.size [.int .i64 a, .int .i64 b, .int .i64 c, .bool d, .slice A nL n] 39 :: []) w60 := HF.out.reo 12 [7, 0, 1, 2, 3, 4, 5, 6, 8, 9, 10, 11] (by decide)
      have h8 : St (top W) (blk (gG + 1) [.int .i64 bw, .int .i64 bh, .slice ao60 nB cap60] 55 :: inner 72 .u16 (.slice ao60 nB cap60) X :: lentRow gA X :: blk gG [.int .i64 a, .int .i64 b, .int .i64 c, .bool d, .slice A7 nL cap7] 39 :: mat 53 72 .u16 (.slice A7 nL cap7) (ls.map turnRow) :: lentIs (.slice aoA nL capA) gL gs (ls.map turnRow) :: book gB (2 * nb + 40 * (os ++ [cl.length] ++ [cl.length]).length) ((os ++ [cl.length] ++ [cl.length]).map (· + 2)) :: K :: blk gK [.int .i64 bw, .int .i64 bh, .slice (some ⟨gA, 0, none⟩) nB (nB + 7)] 55 :: blk gX [.int .i64 a, .int .i64 b, .int .i64 c, .bool d, .slice (some ⟨gL, 0, none⟩) nL (nL + 2), .slice aoA nL capA, .slice (some ⟨gL, 0, none⟩) (nL + 2) (nL + 2)] 46 :: blk (W.heap.size + 1) [.int .i64 pp, .int .i64 px, .int .i64 py, .int .i64 bw, .int .i64 bh, .slice Ab nB bn] 68 :: blk W.heap.size [.int .i64 a, .int .i64 b, .int .i64 c, .bool d, .slice A nL n] 39 :: []) _ := ((h7.setCell 0 (.int .i64 bw)).setCell 1 (.int .i64 bh)).setCell 2 (.slice ao60 nB cap60)
      have h9 : St (top W) (book gB (2 * nb + 40 * (os ++ [cl.length] ++ [cl.length]).length) ((os ++ [cl.length] ++ [cl.length]).map (· + 2)) :: lentRow gA X :: lentIs (.slice aoA nL capA) gL gs (ls.map turnRow) :: mat 53 72 .u16 (.slice A7 nL cap7) (ls.map turnRow) :: inner 72 .u16 (.slice ao60 nB cap60) X :: blk (gG + 1) [.int .i64 bw, .int .i64 bh, .slice ao60 nB cap60] 55 :: blk gG [.int .i64 a, .int .i64 b, .int .i64 c, .bool d, .slice A7 nL cap7] 39 :: blk gK [.int .i64 bw, .int .i64 bh, .slice (some ⟨gA, 0, none⟩) nB (nB + 7)] 55 :: blk gX [.int .i64 a, .int .i64 b, .int .i64 c, .bool d, .slice (some ⟨gL, 0, none⟩) nL (nL + 2), .slice aoA nL capA, .slice (some ⟨gL, 0, none⟩) (nL + 2) (nL + 2)] 46 :: blk (W.heap.size + 1) [.int .i64 pp, .int .i64 px, .int .i64 py, .int .i64 bw, .int .i64 bh, .slice Ab nB bn] 68 :: blk W.heap.size [.int .i64 a, .int .i64 b, .int .i64 c, .bool d, .slice A nL n] 39 :: []) _ := (h8.reo 12 [7, 6, 2, 5, 4, 1, 0, 3, 8, 9, 10, 11] (by decide)).drop
      have HZ := Lib.hid h9
      clear HF HE HD HCE h7 h8 h9 hHeld
      go_wp2_with fail
      go_roundw
      case rel =>
       refine ⟨t + 1, 2 * nb + 40 * (os ++ [cl.length] ++ [cl.length]).length, (os ++ [cl.length] ++ [cl.length]).map (· + 2), ls.map turnRow, A7, cap7, mat 53 72 .u16 (.slice A7 nL cap7) (ls.map turnRow), X, ao60, cap60, inner 72 .u16 (.slice ao60 nB cap60) X, by go_num, by omega, fun h2 => ⟨by simp; omega, by simp; omega, fun x hx => ?_⟩, fun h => absurd h (by omega), HLM, smp_turn HSMs.out, fun x hx => ?_, HCAP, fun w' R' h => ?_, fun h => absurd h (by omega), HXL, HXB, HC60, fun w' R' h => ?_, HZ⟩
       ·obtain ⟨y, hy, rfl⟩ := List.mem_map.1 hx
        simp only [List.mem_append, List.mem_cons, List.not_mem_nil, or_false] at hy
        rcases hy with (hy | hy) | hy
        ·have := HOX.out y hy; omega
        ·omega
        ·omega
       ·obtain ⟨y, hy, rfl⟩ := List.mem_map.1 hx
        rw [turnRow_length]
        exact HLs.out y hy
       ·have h6 := h.matC'.2.2
        rw [HLM.out] at h6
        exact h6
       ·have h6 := h.innerC'.2.2
        rw [HXL.out] at h6
        exact h6
      case measure => simp [intOf]; omega
  ·go_wp2_with fail
   go_ret
   exact ⟨rfl, hS.out.below⟩
end Go.Proofs.Ytdoikehkibefpaa
