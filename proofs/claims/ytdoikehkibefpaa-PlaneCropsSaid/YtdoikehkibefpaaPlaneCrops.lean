import Derived.Test.YtdoikehkibefpaaPPbx10
import Derived.Test.YtdoikehkibefpaaPPbx7
import Derived.Test.YtdoikehkibefpaaPPbx8
import Derived.Test.YtdoikehkibefpaaPlaneFb
import Derived.Test.YtdoikehkibefpaaRowC
import Derived.Test.YtdoikehkibefpaaShown
import Derived.Test.YtdoikehkibefpaaLendFb
import Derived.Test.YtdoikehkibefpaaBookO
import Derived.Test.YtdoikehkibefpaaBookT
namespace Go.Proofs.Ytdoikehkibefpaa
set_option linter.unusedSimpArgs false
set_option linter.unusedVariables false
open Go Go.RowKit Go.WideShapes Go.Proofs.Ytdoikehkibefpaa.PPb Go.Proofs.YtdoikehkibefpaaW.PrintWords Go.Proofs.YtdoikehkibefpaaW.PrintLast

theorem St.bring {c : Ctx} {L : List HP} {w : World} (h : St c L w) (i : Nat) (hi : i < L.length := by simp only [List.length_cons]; omega) : St c (L[i] :: L.eraseIdx i) w := h.perm (perm_pick L i hi)
theorem crop_len {W H D : Int} {A : Bool} {l : List (List Int)} {p x y w h : Int} {u1 u2 u4 : Int} {cl : List Int} (e : cropF W H D A l p x y w h = (u1, u2, cl, u4)) : cl.length ≤ 16777216 := by
 unfold cropF at e
 split at e
 ·rename_i hv
  have hok := ok_of_valF hv
  split at e
  ·rename_i hp
   simp only [Prod.mk.injEq] at e
   obtain ⟨-, -, rfl, -⟩ := e
   obtain ⟨f1, f2, f3⟩ := row_fits hok hp.1 hp.2
   have hl := hp.2
   unfold liesIn at hl
   unfold cropV
   rw [takenS_length]
   have : w.toNat * h.toNat ≤ (y.toNat + h.toNat) * (wd W p).toNat := by rw [Nat.mul_comm]; exact Nat.mul_le_mul (by omega) (by omega)
   omega
  ·simp only [Prod.mk.injEq] at e
   obtain ⟨-, -, rfl, -⟩ := e
   exact Nat.zero_le _
 ·simp only [Prod.mk.injEq] at e
  obtain ⟨-, -, rfl, -⟩ := e
  exact Nat.zero_le _

set_option maxHeartbeats 32000000 in
set_option maxRecDepth 100000 in
theorem planeCrops_walk {H : Type} {enc : TypeId × Value → H} (W : World) (base : Nat) (v0 v1 v2 : Value) (a0 : Arg enc Try.prog W base 39 v0) (a1 : Arg enc Try.prog W base 3 v1) (a2 : Arg enc Try.prog W base 52 v2) :
  Calls Try.prog 6 #[v0, v1, v2] W fun e W' => e = .returned (.bool true) ∧ Below W.heap.size W W' := by
 obtain ⟨a, b, c, d, A, n, l, rfl, hn, hC, hs, hn2, hl2⟩ := arg_frame2 a0
 obtain ⟨n0, rfl, hn0⟩ := arg_int (k := .i64) Try.underlying3 a1
 obtain ⟨rx, ry, rw, rh, rfl, _⟩ := arg_rect a2
 have hn0 := bounds_i64 hn0
 clear a0 a1 a2
 obtain ⟨nL, hnL⟩ : ∃ q, l.length = q := ⟨_, rfl⟩
 have HS := Lib.hid (((St.top W).alloc' rfl [.int .i64 a, .int .i64 b, .int .i64 c, .bool d, .slice A l.length n] 39).alloc' (n := W.heap.size + 1) (by simp) [.int .i64 rx, .int .i64 ry, .int .i64 rw, .int .i64 rh] 52)
 have HC := Lib.hid hC
 have HSM := Lib.hid hs
 have HL := Lib.hid hl2
 have HN := Lib.hid hn
 have HNL := Lib.hid hnL
 obtain ⟨pn, hpl, hp0, hp2⟩ := place_f (c := n0) (n := 2) hn0 (by omega)
 have HPL := Lib.hid hpl
 clear hC hs hl2 hpl hn hnL
 go_enter Try.func6, Try.ntmps6
 go_wp2_with fail
 refine (shown_ok _).mono ?_
 rintro en w1 ⟨rfl, hb⟩
 have HS1 := Lib.hid (HS.out.of_below hb)
 clear HS hb
 have HS2 := Lib.hid (St.bookNew (HS1.out.alloc' rfl [.slice none 0 0, .int .i64 0, .slice none 0 0] 36))
 clear HS1
 obtain ⟨f0, f1, f2, f3, f4⟩ := HS2.out.cells5 mm2
 go_wp2_with fail
 refine (lend_ok _ a b c d A n l (Kd.C_below HC.out HS2.out.below) hn2 HL.out HN.out).mono ?_
 rintro en w2 ⟨va, gL, gs, rfl, hgs, hS2⟩
 have hS2' := HS2.out.frame hS2
 simp only [List.cons_append, List.nil_append] at hS2'
 obtain ⟨aoA, capA, rfl, -, -, -, -⟩ := hS2'.lentOpen.rowShape
 have HS3 := Lib.hid (hS2'.alloc [.int .i64 a, .int .i64 b, .int .i64 c, .bool d, .slice (some ⟨gL, 0, none⟩) l.length (l.length + 2), .slice aoA l.length capA, .slice (some ⟨gL, 0, none⟩) (l.length + 2) (l.length + 2)] 46)
 have HGS := Lib.hid hgs
 clear HS2 hS2 hS2' hgs f0 f1 f2 f3 f4
 obtain ⟨f0, f1, f2, f3, f4⟩ := HS3.out.cells5 mm4
 go_wp2_with fail
 clear f0 f1 f2 f3 f4
 rw [HNL.out] at HS3 ⊢
 have HS4 := Lib.hid (HS3.out.alloc' (n := w2.heap.size + 1) (by simp) [.int .i64 a, .int .i64 b, .int .i64 c, .bool d, .slice A nL n] 39)
 clear HS3
 have HG : Hid (∀ w' R', St (top W) (emp :: R') w' → Kd.C (Kd.slice 72 (Kd.int .u16)) w' A nL l) := fun w' R' h => by rw [← HNL.out]; exact Kd.C_below HC.out h.below
 have HST := Lib.hid ((St.add (p := True) trivial HS4.out).reo 7 [4, 3, 0, 1, 2, 5, 6] (by decide))
 have HN' : Hid (nL ≤ n) := by rw [← HNL.out]; exact HN.out
 have HGS' : Hid (gs.length = nL) := by rw [← HNL.out]; exact HGS.out
 have hn2' : nL * 24 ≤ 140737488351232 := by rw [← HNL.out]; exact hn2
 clear HS4 HGS hn2
 generalize w1.heap.size = gB at *
 generalize w2.heap.size = gX at *
 go_loopw [11] (fun v w' => ∃ (t nb : Nat) (os : List Nat) (ls : List (List Int)) (Ag : Option Addr) (capg : Nat) (G : HP), v = .int .i64 (t : Nat) ∧ t ≤ 2 ∧ (t < 2 → nb ≤ 100 * t ∧ os.length ≤ 2 * t ∧ ∀ x ∈ os, x ≤ 4 + 2 * t) ∧ Hid (t = 0 → ls = l) ∧ Hid (ls.length = nL) ∧ Hid (smp ls) ∧ Hid (∀ x ∈ ls, x.length * 2 ≤ 140737488351232) ∧ Hid (nL ≤ capg) ∧ Hid (∀ w' R', St (top W) (G :: R') w' → Kd.C (Kd.slice 72 (Kd.int .u16)) w' Ag nL ls) ∧ Hid (St (top W) (book gB nb os :: lentIs (.slice aoA nL capA) gL gs ls :: G :: blk (gX + 1) [.int .i64 a, .int .i64 b, .int .i64 c, .bool d, .slice Ag nL capg] 39 :: blk gX [.int .i64 a, .int .i64 b, .int .i64 c, .bool d, .slice (some ⟨gL, 0, none⟩) nL (nL + 2), .slice aoA nL capA, .slice (some ⟨gL, 0, none⟩) (nL + 2) (nL + 2)] 46 :: blk (W.heap.size + 1) [.int .i64 rx, .int .i64 ry, .int .i64 rw, .int .i64 rh] 52 :: blk W.heap.size [.int .i64 a, .int .i64 b, .int .i64 c, .bool d, .slice A nL n] 39 :: []) w')) (fun v _ => 2 - (intOf v).toNat)
 case atStart => exact ⟨0, 0, [], l, A, n, emp, rfl, by omega, fun _ => ⟨by omega, by simp, fun x hx => by cases hx⟩, fun _ => rfl, HNL, HSM, HL, HN', HG, HST⟩
 case round =>
  clear HST HG
  obtain ⟨t, nb, os, ls, Ag, capg, G, rfl, ht, hbd, HT0, HLN, HSMs, HLs, HCG, HGC, hS⟩ := hrel
  by_cases htl : t < 2
  ·obtain ⟨hnb, hos, hox⟩ := hbd htl
   have HOX := Lib.hid hox
   obtain ⟨⟨u1, u2, cl, u4⟩, hcf⟩ : ∃ r, cropF a b c d ls n0 rx ry rw rh = r := ⟨_, rfl⟩
   obtain ⟨⟨e1, e2, dl, e4⟩, hdf⟩ : ∃ r, cropF a b c d ls (wrap64 (1 - pn)) rx ry rw rh = r := ⟨_, rfl⟩
   have hcl := crop_len hcf
   have hdl := crop_len hdf
   have hM : ∀ x ∈ ls, x.length ≤ 140737488355328 := fun x hx => by have := HLs.out x hx; omega
   obtain ⟨k1, hk1⟩ := rcrop_f a b c d ls 140737488355328 hM (Nat.le_refl _) HSMs.out n0 rx ry rw rh
   obtain ⟨k2, hk2⟩ := rcrop_f a b c d ls 140737488355328 hM (Nat.le_refl _) HSMs.out (wrap64 (1 - pn)) rx ry rw rh
   have h1 := fun (w : World) hr hc => plane_Crop.calls (0 + 5000) a b c d (some ⟨gL, 0, none⟩) (nL + 2) ls n0 rx ry rw rh u1 u2 cl u4 w hr hc (by rw [crop_f a b c d ls HSMs.out, hcf])
   have h2 := fun (w : World) hr hc => plane_Crop.calls (0 + 5000) a b c d (some ⟨gL, 0, none⟩) (nL + 2) ls (wrap64 (1 - pn)) rx ry rw rh e1 e2 dl e4 w hr hc (by rw [crop_f a b c d ls HSMs.out, hdf])
   have h3 := fun (w : World) hr hc => dailiesref06_Crop.calls k1 a b c d Ag capg ls n0 rx ry rw rh u1 u2 cl u4 w hr hc (by rw [hk1, hcf])
   have h4 := fun (w : World) hr hc => dailiesref06_Crop.calls k2 a b c d Ag capg ls (wrap64 (1 - pn)) rx ry rw rh e1 e2 dl e4 w hr hc (by rw [hk2, hdf])
   rw [HLN.out] at h1 h2 h3 h4
   have CP1 := Lib.hid h1
   have CP2 := Lib.hid h2
   have CR1 := Lib.hid h3
   have CR2 := Lib.hid h4
   have SB1 := Lib.hid (sameBlock_f u1 u2 cl (by omega) 0)
   have SB2 := Lib.hid (sameBlock_f e1 e2 dl (by omega) 0)
   have LC : Hid (∀ w' R', St (top W) (lentIs (.slice aoA nL capA) gL gs ls :: R') w' → Kd.C (Kd.slice 72 (Kd.int .u16)) w' (some ⟨gL, 0, none⟩) nL ls) := by
    intro w' R' h
    have h5 := lentC h (by rw [HLN.out]; exact HGS'.out) (by rw [HLN.out]; exact hn2')
    rw [HLN.out] at h5
    exact h5
   have H0 := hS
   clear hS hbd hox hcf hdf hM hk1 hk2 h1 h2 h3 h4
   have x0 := St.cells_mem H0.out mm4 0
   have x1 := St.cells_mem H0.out mm4 1
   have x2 := St.cells_mem H0.out mm4 2
   have x3 := St.cells_mem H0.out mm4 3
   have x4 := St.cells_mem H0.out mm4 4
   have y0 := St.cells_mem H0.out mm5 0
   have y1 := St.cells_mem H0.out mm5 1
   have y2 := St.cells_mem H0.out mm5 2
   have y3 := St.cells_mem H0.out mm5 3
   simp only [List.getElem?_cons_zero, List.getElem?_cons_succ] at x0 x1 x2 x3 x4 y0 y1 y2 y3
   go_wp2_with fail
   refine (CP1.out _ (LC.out _ _ (St.bring H0.out 1)) (by omega)).mono ?_
   rintro en w3 ⟨v1, rfl, hR, hb⟩
   obtain ⟨P1, n1, rfl, -, -⟩ := Kd.R_reads hR
   have HX := Lib.hid ((H0.out.of_R hb hR).alloc [.int .i64 u1, .int .i64 u2, .slice P1 cl.length n1] 55)
   clear H0 hR hb
   clear x0 x1 x2 x3 x4 y0 y1 y2 y3
   have x0 := St.cells_mem HX.out (List.mem_cons_of_mem _ mm5) 0
   have x1 := St.cells_mem HX.out (List.mem_cons_of_mem _ mm5) 1
   have x2 := St.cells_mem HX.out (List.mem_cons_of_mem _ mm5) 2
   have x3 := St.cells_mem HX.out (List.mem_cons_of_mem _ mm5) 3
   have x4 := St.cells_mem HX.out (List.mem_cons_of_mem _ mm5) 4
   have y0 := St.cells_mem HX.out (List.mem_cons_of_mem _ (List.mem_cons_of_mem _ mm5)) 0
   have y1 := St.cells_mem HX.out (List.mem_cons_of_mem _ (List.mem_cons_of_mem _ mm5)) 1
   have y2 := St.cells_mem HX.out (List.mem_cons_of_mem _ (List.mem_cons_of_mem _ mm5)) 2
   have y3 := St.cells_mem HX.out (List.mem_cons_of_mem _ (List.mem_cons_of_mem _ mm5)) 3
   simp only [List.getElem?_cons_zero, List.getElem?_cons_succ] at x0 x1 x2 x3 x4 y0 y1 y2 y3
   go_wp2_with fail
   generalize w3.heap.size = gA at *
   generalize w3.alloc (.cells #[.int .i64 u1, .int .i64 u2, .slice P1 cl.length n1] 55) = wq at *
   have H0 := Lib.hid HX.out.drew
   clear HX
   clear x0 x1 x2 x3 x4 y0 y1 y2 y3
   refine start_ (n := 13) (S := fun w' => w'.cell? ⟨gX, 0, none⟩ = some (.int .i64 a) ∧ w'.cell? ⟨gX, 1, none⟩ = some (.int .i64 b) ∧ w'.cell? ⟨gX, 2, none⟩ = some (.int .i64 c) ∧ w'.cell? ⟨gX, 3, none⟩ = some (.bool d) ∧ w'.cell? ⟨gX, 4, none⟩ = some (.slice (some ⟨gL, 0, none⟩) nL (nL + 2)) ∧ w'.cell? ⟨(W.heap.size + 1), 0, none⟩ = some (.int .i64 rx) ∧ w'.cell? ⟨(W.heap.size + 1), 1, none⟩ = some (.int .i64 ry) ∧ w'.cell? ⟨(W.heap.size + 1), 2, none⟩ = some (.int .i64 rw) ∧ w'.cell? ⟨(W.heap.size + 1), 3, none⟩ = some (.int .i64 rh)) (ds := [11]) #[false, false, false, false, false, false, false, false, false, false, false, false, false] (by kernel_rfl) rfl rfl ⟨St.cells_mem H0.out (List.mem_cons_of_mem _ mm5) 0, St.cells_mem H0.out (List.mem_cons_of_mem _ mm5) 1, St.cells_mem H0.out (List.mem_cons_of_mem _ mm5) 2, St.cells_mem H0.out (List.mem_cons_of_mem _ mm5) 3, St.cells_mem H0.out (List.mem_cons_of_mem _ mm5) 4, St.cells_mem H0.out (List.mem_cons_of_mem _ (List.mem_cons_of_mem _ mm5)) 0, St.cells_mem H0.out (List.mem_cons_of_mem _ (List.mem_cons_of_mem _ mm5)) 1, St.cells_mem H0.out (List.mem_cons_of_mem _ (List.mem_cons_of_mem _ mm5)) 2, St.cells_mem H0.out (List.mem_cons_of_mem _ (List.mem_cons_of_mem _ mm5)) 3⟩ (fun hHeld => ?_)
   refine pure_ (i := 0) (N := some 46) (v := ?_) (a' := ?_) #[true, false, false, false, false, false, false, false, false, false, false, false, false] rfl rfl (by kernel_rfl) (fun _ _ _ h => h) (Or.inl ⟨by rfl, ?_⟩) ?_ ?_
   rotate_left
   ·intro w'
    go_simp
    with_reducible rfl
   rotate_left
   ·simp only [Act.put, List.setIfInBounds_toArray, List.set_cons_zero, List.set_cons_succ, i64_w, i32_w]
    rfl
   refine pure_ (i := 2) (N := some 48) (v := ?_) (a' := ?_) #[true, false, true, false, false, false, false, false, false, false, false, false, false] rfl rfl (by kernel_rfl) (fun _ _ _ h => h) (Or.inl ⟨by rfl, ?_⟩) ?_ ?_
   rotate_left
   ·intro w'
    go_simp
    with_reducible rfl
   rotate_left
   ·simp only [Act.put, List.setIfInBounds_toArray, List.set_cons_zero, List.set_cons_succ, i64_w, i32_w]
    rfl
   refine take_ (i := 1) (N := some 47) (v := ?_) (a' := ?_) #[true, true, true, false, false, false, false, false, false, false, false, false, false] rfl rfl (by kernel_rfl) (fun _ _ _ h => h) (Or.inl ⟨by rfl, ?_⟩) hHeld ?_ ?_
   rotate_left
   ·rintro w' ⟨s0, s1, s2, s3, s4, s5, s6, s7, s8⟩
    go_simp
    with_reducible rfl
   rotate_left
   ·simp only [Act.put, List.setIfInBounds_toArray, List.set_cons_zero, List.set_cons_succ, i64_w, i32_w]
    rfl
   refine take_ (i := 5) (N := some 51) (v := ?_) (a' := ?_) #[true, true, true, false, false, true, false, false, false, false, false, false, false] rfl rfl (by kernel_rfl) (fun _ _ _ h => h) (Or.inl ⟨by rfl, ?_⟩) hHeld ?_ ?_
   rotate_left
   ·rintro w' ⟨s0, s1, s2, s3, s4, s5, s6, s7, s8⟩
    go_simp
    with_reducible rfl
   rotate_left
   ·simp only [Act.put, List.setIfInBounds_toArray, List.set_cons_zero, List.set_cons_succ, i64_w, i32_w]
    rfl
   refine join_ (σ := World × Option Addr × Nat) 2 #[true, true, true, true, true, true, true, true, true, true, true, false, false] (fun s => [(49, .int .i64 pn), (14, .pointer (some ⟨s.1.heap.size, 0, none⟩)), (52, .tuple #[.agg #[.int .i64 e1, .int .i64 e2, .slice s.2.1 dl.length s.2.2], .int .i64 e4]), (50, .int .i64 (wrap64 (1 - pn))), (45, .tuple #[.agg #[.int .i64 e1, .int .i64 e2, .slice s.2.1 dl.length s.2.2], .int .i64 e4]), (53, .agg #[.int .i64 e1, .int .i64 e2, .slice s.2.1 dl.length s.2.2]), (54, .int .i64 e4)]) (fun s w' => St (top W) (blk s.1.heap.size [.int .i64 0, .int .i64 0, .slice none 0 0] 55 :: inner 72 .u16 (.slice s.2.1 dl.length s.2.2) dl :: blk gA [.int .i64 u1, .int .i64 u2, (.slice P1 cl.length n1)] 55 :: inner 72 .u16 (.slice P1 cl.length n1) cl :: book gB nb os :: lentIs (.slice aoA nL capA) gL gs ls :: G :: blk (gX + 1) [.int .i64 a, .int .i64 b, .int .i64 c, .bool d, .slice Ag nL capg] 39 :: blk gX [.int .i64 a, .int .i64 b, .int .i64 c, .bool d, .slice (some ⟨gL, 0, none⟩) nL (nL + 2), .slice aoA nL capA, .slice (some ⟨gL, 0, none⟩) (nL + 2) (nL + 2)] 46 :: blk (W.heap.size + 1) [.int .i64 rx, .int .i64 ry, .int .i64 rw, .int .i64 rh] 52 :: blk W.heap.size [.int .i64 a, .int .i64 b, .int .i64 c, .bool d, .slice A nL n] 39 :: []) w') ?_ ?_
   rotate_left
   ·intro hCont
    refine two_ (i := 3) (j := 10) (Ni := some 49) (Nj := some 14) #[true, true, true, true, false, true, false, false, false, false, false, false, false] #[true, true, true, false, false, true, false, false, false, false, true, false, false] rfl rfl rfl rfl (by kernel_rfl) (by decide) (by decide) (fun K hK => ?_) (fun K hK => ?_)
    ·skip
     refine goes_ Try.func34 (by kernel_rfl) rfl #[.int .i64 n0, .int .i64 2] (by rfl) rfl rfl (by simp only [List.map_toArray, List.map_cons, List.map_nil]; rfl) ?_
     with_reducible refine (dailieslaw06_place.calls n0 2 pn _ HPL.out).mono ?_
     rintro en yp ⟨rfl, hb⟩
     refine ⟨_, rfl, ?_⟩
     have H1 := Lib.hid (H0.out.of_below hb.below)
     clear hb
     refine hK.out _ _ ⟨St.cells_mem H1.out (List.mem_cons_of_mem _ mm5) 0, St.cells_mem H1.out (List.mem_cons_of_mem _ mm5) 1, St.cells_mem H1.out (List.mem_cons_of_mem _ mm5) 2, St.cells_mem H1.out (List.mem_cons_of_mem _ mm5) 3, St.cells_mem H1.out (List.mem_cons_of_mem _ mm5) 4, St.cells_mem H1.out (List.mem_cons_of_mem _ (List.mem_cons_of_mem _ mm5)) 0, St.cells_mem H1.out (List.mem_cons_of_mem _ (List.mem_cons_of_mem _ mm5)) 1, St.cells_mem H1.out (List.mem_cons_of_mem _ (List.mem_cons_of_mem _ mm5)) 2, St.cells_mem H1.out (List.mem_cons_of_mem _ (List.mem_cons_of_mem _ mm5)) 3⟩ (fun hHeld => ?_)
     clear hK K
     refine norm_ (a' := ?_) ?_ ?_
     rotate_left
     ·show Act.put _ (some 49) _ = _
      simp only [Act.put, List.setIfInBounds_toArray, List.set_cons_zero, List.set_cons_succ, i64_w, i32_w]
      rfl
     refine pure_ (i := 4) (N := some 50) (v := ?_) (a' := ?_) #[true, true, true, true, true, true, false, false, false, false, false, false, false] rfl rfl (by kernel_rfl) (fun _ _ _ h => h) (Or.inl ⟨by rfl, ?_⟩) ?_ ?_
     rotate_left
     ·intro w'
      go_simp
      with_reducible rfl
     rotate_left
     ·simp only [Act.put, List.setIfInBounds_toArray, List.set_cons_zero, List.set_cons_succ, i64_w, i32_w]
      rfl
     refine two_ (i := 6) (j := 10) (Ni := some 52) (Nj := some 14) #[true, true, true, true, true, true, true, false, false, false, false, false, false] #[true, true, true, true, true, true, false, false, false, false, true, false, false] rfl rfl rfl rfl (by kernel_rfl) (by decide) (by decide) (fun K hK => ?_) (fun K hK => ?_)
     ·skip
      have hg_ : St (top W) (lentIs (.slice aoA nL capA) gL gs ls :: _) _ := St.bring H1.out 3
      refine goes_ Try.func33 (by kernel_rfl) rfl #[.agg #[.int .i64 a, .int .i64 b, .int .i64 c, .bool d, .slice (some ⟨gL, 0, none⟩) nL (nL + 2)], .int .i64 (wrap64 (1 - pn)), .agg #[.int .i64 rx, .int .i64 ry, .int .i64 rw, .int .i64 rh]] (by rfl) rfl rfl (by simp only [List.map_toArray, List.map_cons, List.map_nil]; rfl) ?_
      with_reducible refine (CP2.out _ (LC.out _ _ hg_) (by omega)).mono ?_
      rintro en yc ⟨vq, rfl, hR, hb⟩
      refine ⟨_, rfl, ?_⟩
      obtain ⟨Pq, nq, rfl, -, -⟩ := Kd.R_reads hR
      have H2 := Lib.hid (H1.out.of_R hb hR)
      clear hR hb hg_
      refine hK.out _ _ ⟨St.cells_mem H2.out (List.mem_cons_of_mem _ (List.mem_cons_of_mem _ mm5)) 0, St.cells_mem H2.out (List.mem_cons_of_mem _ (List.mem_cons_of_mem _ mm5)) 1, St.cells_mem H2.out (List.mem_cons_of_mem _ (List.mem_cons_of_mem _ mm5)) 2, St.cells_mem H2.out (List.mem_cons_of_mem _ (List.mem_cons_of_mem _ mm5)) 3, St.cells_mem H2.out (List.mem_cons_of_mem _ (List.mem_cons_of_mem _ mm5)) 4, St.cells_mem H2.out (List.mem_cons_of_mem _ (List.mem_cons_of_mem _ (List.mem_cons_of_mem _ mm5))) 0, St.cells_mem H2.out (List.mem_cons_of_mem _ (List.mem_cons_of_mem _ (List.mem_cons_of_mem _ mm5))) 1, St.cells_mem H2.out (List.mem_cons_of_mem _ (List.mem_cons_of_mem _ (List.mem_cons_of_mem _ mm5))) 2, St.cells_mem H2.out (List.mem_cons_of_mem _ (List.mem_cons_of_mem _ (List.mem_cons_of_mem _ mm5))) 3⟩ (fun hHeld => ?_)
      clear hK K
      refine norm_ (a' := ?_) ?_ ?_
      rotate_left
      ·show Act.put _ (some 52) _ = _
       simp only [Act.put, List.setIfInBounds_toArray, List.set_cons_zero, List.set_cons_succ, i64_w, i32_w]
       rfl
      refine pure_ (i := 7) (N := some 45) (v := ?_) (a' := ?_) #[true, true, true, true, true, true, true, true, false, false, false, false, false] rfl rfl (by kernel_rfl) (fun _ _ _ h => h) (Or.inl ⟨by rfl, ?_⟩) ?_ ?_
      rotate_left
      ·intro w'
       go_simp
       with_reducible rfl
      rotate_left
      ·simp only [Act.put, List.setIfInBounds_toArray, List.set_cons_zero, List.set_cons_succ, i64_w, i32_w]
       rfl
      refine pure_ (i := 8) (N := some 53) (v := ?_) (a' := ?_) #[true, true, true, true, true, true, true, true, true, false, false, false, false] rfl rfl (by kernel_rfl) (fun _ _ _ h => h) (Or.inl ⟨by rfl, ?_⟩) ?_ ?_
      rotate_left
      ·intro w'
       go_simp
       with_reducible rfl
      rotate_left
      ·simp only [Act.put, List.setIfInBounds_toArray, List.set_cons_zero, List.set_cons_succ, i64_w, i32_w]
       rfl
      refine pure_ (i := 9) (N := some 54) (v := ?_) (a' := ?_) #[true, true, true, true, true, true, true, true, true, true, false, false, false] rfl rfl (by kernel_rfl) (fun _ _ _ h => h) (Or.inl ⟨by rfl, ?_⟩) ?_ ?_
      rotate_left
      ·intro w'
       go_simp
       with_reducible rfl
      rotate_left
      ·simp only [Act.put, List.setIfInBounds_toArray, List.set_cons_zero, List.set_cons_succ, i64_w, i32_w]
       rfl
      refine one_ (i := 10) (N := some 14) #[true, true, true, true, true, true, true, true, true, true, true, false, false] rfl rfl (by kernel_rfl) (by decide) (fun K hK => ?_)
      refine value_ (w1 := ?_) (v := ?_) (by rfl) rfl ?_ ?_
      rotate_left 2
      ·go_simp
       constructor
       ·rfl
       ·rfl
      have H3 := Lib.hid (H2.out.alloc' rfl [.int .i64 0, .int .i64 0, .slice none 0 0] 55)
      refine hK.out _ _ ⟨St.cells_mem H3.out (List.mem_cons_of_mem _ (List.mem_cons_of_mem _ (List.mem_cons_of_mem _ mm5))) 0, St.cells_mem H3.out (List.mem_cons_of_mem _ (List.mem_cons_of_mem _ (List.mem_cons_of_mem _ mm5))) 1, St.cells_mem H3.out (List.mem_cons_of_mem _ (List.mem_cons_of_mem _ (List.mem_cons_of_mem _ mm5))) 2, St.cells_mem H3.out (List.mem_cons_of_mem _ (List.mem_cons_of_mem _ (List.mem_cons_of_mem _ mm5))) 3, St.cells_mem H3.out (List.mem_cons_of_mem _ (List.mem_cons_of_mem _ (List.mem_cons_of_mem _ mm5))) 4, St.cells_mem H3.out (List.mem_cons_of_mem _ (List.mem_cons_of_mem _ (List.mem_cons_of_mem _ (List.mem_cons_of_mem _ mm5)))) 0, St.cells_mem H3.out (List.mem_cons_of_mem _ (List.mem_cons_of_mem _ (List.mem_cons_of_mem _ (List.mem_cons_of_mem _ mm5)))) 1, St.cells_mem H3.out (List.mem_cons_of_mem _ (List.mem_cons_of_mem _ (List.mem_cons_of_mem _ (List.mem_cons_of_mem _ mm5)))) 2, St.cells_mem H3.out (List.mem_cons_of_mem _ (List.mem_cons_of_mem _ (List.mem_cons_of_mem _ (List.mem_cons_of_mem _ mm5)))) 3⟩ (fun hHeld => ?_)
      clear hK K
      refine norm_ (a' := ?_) ?_ ?_
      rotate_left
      ·show Act.put _ (some 14) _ = _
       simp only [Act.put, List.setIfInBounds_toArray, List.set_cons_zero, List.set_cons_succ, i64_w, i32_w]
       rfl
      exact norm_ (by simp only [putAll, Act.put, List.setIfInBounds_toArray, List.set_cons_zero, List.set_cons_succ]) (hCont (yc, Pq, nq) _ (H3.out))
     ·skip
      refine value_ (w1 := ?_) (v := ?_) (by rfl) rfl ?_ ?_
      rotate_left 2
      ·go_simp
       constructor
       ·rfl
       ·rfl
      have H2 := Lib.hid (H1.out.alloc' rfl [.int .i64 0, .int .i64 0, .slice none 0 0] 55)
      refine hK.out _ _ ⟨St.cells_mem H2.out (List.mem_cons_of_mem _ (List.mem_cons_of_mem _ mm5)) 0, St.cells_mem H2.out (List.mem_cons_of_mem _ (List.mem_cons_of_mem _ mm5)) 1, St.cells_mem H2.out (List.mem_cons_of_mem _ (List.mem_cons_of_mem _ mm5)) 2, St.cells_mem H2.out (List.mem_cons_of_mem _ (List.mem_cons_of_mem _ mm5)) 3, St.cells_mem H2.out (List.mem_cons_of_mem _ (List.mem_cons_of_mem _ mm5)) 4, St.cells_mem H2.out (List.mem_cons_of_mem _ (List.mem_cons_of_mem _ (List.mem_cons_of_mem _ mm5))) 0, St.cells_mem H2.out (List.mem_cons_of_mem _ (List.mem_cons_of_mem _ (List.mem_cons_of_mem _ mm5))) 1, St.cells_mem H2.out (List.mem_cons_of_mem _ (List.mem_cons_of_mem _ (List.mem_cons_of_mem _ mm5))) 2, St.cells_mem H2.out (List.mem_cons_of_mem _ (List.mem_cons_of_mem _ (List.mem_cons_of_mem _ mm5))) 3⟩ (fun hHeld => ?_)
      clear hK K
      refine norm_ (a' := ?_) ?_ ?_
      rotate_left
      ·show Act.put _ (some 14) _ = _
       simp only [Act.put, List.setIfInBounds_toArray, List.set_cons_zero, List.set_cons_succ, i64_w, i32_w]
       rfl
      refine one_ (i := 6) (N := some 52) #[true, true, true, true, true, true, true, false, false, false, true, false, false] rfl rfl (by kernel_rfl) (by decide) (fun K hK => ?_)
      have hg_ : St (top W) (lentIs (.slice aoA nL capA) gL gs ls :: _) _ := St.bring H2.out 4
      refine goes_ Try.func33 (by kernel_rfl) rfl #[.agg #[.int .i64 a, .int .i64 b, .int .i64 c, .bool d, .slice (some ⟨gL, 0, none⟩) nL (nL + 2)], .int .i64 (wrap64 (1 - pn)), .agg #[.int .i64 rx, .int .i64 ry, .int .i64 rw, .int .i64 rh]] (by rfl) rfl rfl (by simp only [List.map_toArray, List.map_cons, List.map_nil]; rfl) ?_
      with_reducible refine (CP2.out _ (LC.out _ _ hg_) (by omega)).mono ?_
      rintro en yc ⟨vq, rfl, hR, hb⟩
      refine ⟨_, rfl, ?_⟩
      obtain ⟨Pq, nq, rfl, -, -⟩ := Kd.R_reads hR
      have H3 := Lib.hid (H2.out.of_R hb hR)
      clear hR hb hg_
      refine hK.out _ _ ⟨St.cells_mem H3.out (List.mem_cons_of_mem _ (List.mem_cons_of_mem _ (List.mem_cons_of_mem _ mm5))) 0, St.cells_mem H3.out (List.mem_cons_of_mem _ (List.mem_cons_of_mem _ (List.mem_cons_of_mem _ mm5))) 1, St.cells_mem H3.out (List.mem_cons_of_mem _ (List.mem_cons_of_mem _ (List.mem_cons_of_mem _ mm5))) 2, St.cells_mem H3.out (List.mem_cons_of_mem _ (List.mem_cons_of_mem _ (List.mem_cons_of_mem _ mm5))) 3, St.cells_mem H3.out (List.mem_cons_of_mem _ (List.mem_cons_of_mem _ (List.mem_cons_of_mem _ mm5))) 4, St.cells_mem H3.out (List.mem_cons_of_mem _ (List.mem_cons_of_mem _ (List.mem_cons_of_mem _ (List.mem_cons_of_mem _ mm5)))) 0, St.cells_mem H3.out (List.mem_cons_of_mem _ (List.mem_cons_of_mem _ (List.mem_cons_of_mem _ (List.mem_cons_of_mem _ mm5)))) 1, St.cells_mem H3.out (List.mem_cons_of_mem _ (List.mem_cons_of_mem _ (List.mem_cons_of_mem _ (List.mem_cons_of_mem _ mm5)))) 2, St.cells_mem H3.out (List.mem_cons_of_mem _ (List.mem_cons_of_mem _ (List.mem_cons_of_mem _ (List.mem_cons_of_mem _ mm5)))) 3⟩ (fun hHeld => ?_)
      clear hK K
      refine norm_ (a' := ?_) ?_ ?_
      rotate_left
      ·show Act.put _ (some 52) _ = _
       simp only [Act.put, List.setIfInBounds_toArray, List.set_cons_zero, List.set_cons_succ, i64_w, i32_w]
       rfl
      refine pure_ (i := 7) (N := some 45) (v := ?_) (a' := ?_) #[true, true, true, true, true, true, true, true, false, false, true, false, false] rfl rfl (by kernel_rfl) (fun _ _ _ h => h) (Or.inl ⟨by rfl, ?_⟩) ?_ ?_
      rotate_left
      ·intro w'
       go_simp
       with_reducible rfl
      rotate_left
      ·simp only [Act.put, List.setIfInBounds_toArray, List.set_cons_zero, List.set_cons_succ, i64_w, i32_w]
       rfl
      refine pure_ (i := 8) (N := some 53) (v := ?_) (a' := ?_) #[true, true, true, true, true, true, true, true, true, false, true, false, false] rfl rfl (by kernel_rfl) (fun _ _ _ h => h) (Or.inl ⟨by rfl, ?_⟩) ?_ ?_
      rotate_left
      ·intro w'
       go_simp
       with_reducible rfl
      rotate_left
      ·simp only [Act.put, List.setIfInBounds_toArray, List.set_cons_zero, List.set_cons_succ, i64_w, i32_w]
       rfl
      refine pure_ (i := 9) (N := some 54) (v := ?_) (a' := ?_) #[true, true, true, true, true, true, true, true, true, true, true, false, false] rfl rfl (by kernel_rfl) (fun _ _ _ h => h) (Or.inl ⟨by rfl, ?_⟩) ?_ ?_
      rotate_left
      ·intro w'
       go_simp
       with_reducible rfl
      rotate_left
      ·simp only [Act.put, List.setIfInBounds_toArray, List.set_cons_zero, List.set_cons_succ, i64_w, i32_w]
       rfl
      exact norm_ (by simp only [putAll, Act.put, List.setIfInBounds_toArray, List.set_cons_zero, List.set_cons_succ]) (hCont (yp, Pq, nq) _ (H3.out.swap))
    ·skip
     refine value_ (w1 := ?_) (v := ?_) (by rfl) rfl ?_ ?_
     rotate_left 2
     ·go_simp
      constructor
      ·rfl
      ·rfl
     have H1 := Lib.hid (H0.out.alloc' rfl [.int .i64 0, .int .i64 0, .slice none 0 0] 55)
     refine hK.out _ _ ⟨St.cells_mem H1.out (List.mem_cons_of_mem _ (List.mem_cons_of_mem _ mm5)) 0, St.cells_mem H1.out (List.mem_cons_of_mem _ (List.mem_cons_of_mem _ mm5)) 1, St.cells_mem H1.out (List.mem_cons_of_mem _ (List.mem_cons_of_mem _ mm5)) 2, St.cells_mem H1.out (List.mem_cons_of_mem _ (List.mem_cons_of_mem _ mm5)) 3, St.cells_mem H1.out (List.mem_cons_of_mem _ (List.mem_cons_of_mem _ mm5)) 4, St.cells_mem H1.out (List.mem_cons_of_mem _ (List.mem_cons_of_mem _ (List.mem_cons_of_mem _ mm5))) 0, St.cells_mem H1.out (List.mem_cons_of_mem _ (List.mem_cons_of_mem _ (List.mem_cons_of_mem _ mm5))) 1, St.cells_mem H1.out (List.mem_cons_of_mem _ (List.mem_cons_of_mem _ (List.mem_cons_of_mem _ mm5))) 2, St.cells_mem H1.out (List.mem_cons_of_mem _ (List.mem_cons_of_mem _ (List.mem_cons_of_mem _ mm5))) 3⟩ (fun hHeld => ?_)
     clear hK K
     refine norm_ (a' := ?_) ?_ ?_
     rotate_left
     ·show Act.put _ (some 14) _ = _
      simp only [Act.put, List.setIfInBounds_toArray, List.set_cons_zero, List.set_cons_succ, i64_w, i32_w]
      rfl
     refine one_ (i := 3) (N := some 49) #[true, true, true, true, false, true, false, false, false, false, true, false, false] rfl rfl (by kernel_rfl) (by decide) (fun K hK => ?_)
     refine goes_ Try.func34 (by kernel_rfl) rfl #[.int .i64 n0, .int .i64 2] (by rfl) rfl rfl (by simp only [List.map_toArray, List.map_cons, List.map_nil]; rfl) ?_
     with_reducible refine (dailieslaw06_place.calls n0 2 pn _ HPL.out).mono ?_
     rintro en yp ⟨rfl, hb⟩
     refine ⟨_, rfl, ?_⟩
     have H2 := Lib.hid (H1.out.of_below hb.below)
     clear hb
     refine hK.out _ _ ⟨St.cells_mem H2.out (List.mem_cons_of_mem _ (List.mem_cons_of_mem _ mm5)) 0, St.cells_mem H2.out (List.mem_cons_of_mem _ (List.mem_cons_of_mem _ mm5)) 1, St.cells_mem H2.out (List.mem_cons_of_mem _ (List.mem_cons_of_mem _ mm5)) 2, St.cells_mem H2.out (List.mem_cons_of_mem _ (List.mem_cons_of_mem _ mm5)) 3, St.cells_mem H2.out (List.mem_cons_of_mem _ (List.mem_cons_of_mem _ mm5)) 4, St.cells_mem H2.out (List.mem_cons_of_mem _ (List.mem_cons_of_mem _ (List.mem_cons_of_mem _ mm5))) 0, St.cells_mem H2.out (List.mem_cons_of_mem _ (List.mem_cons_of_mem _ (List.mem_cons_of_mem _ mm5))) 1, St.cells_mem H2.out (List.mem_cons_of_mem _ (List.mem_cons_of_mem _ (List.mem_cons_of_mem _ mm5))) 2, St.cells_mem H2.out (List.mem_cons_of_mem _ (List.mem_cons_of_mem _ (List.mem_cons_of_mem _ mm5))) 3⟩ (fun hHeld => ?_)
     clear hK K
     refine norm_ (a' := ?_) ?_ ?_
     rotate_left
     ·show Act.put _ (some 49) _ = _
      simp only [Act.put, List.setIfInBounds_toArray, List.set_cons_zero, List.set_cons_succ, i64_w, i32_w]
      rfl
     refine pure_ (i := 4) (N := some 50) (v := ?_) (a' := ?_) #[true, true, true, true, true, true, false, false, false, false, true, false, false] rfl rfl (by kernel_rfl) (fun _ _ _ h => h) (Or.inl ⟨by rfl, ?_⟩) ?_ ?_
     rotate_left
     ·intro w'
      go_simp
      with_reducible rfl
     rotate_left
     ·simp only [Act.put, List.setIfInBounds_toArray, List.set_cons_zero, List.set_cons_succ, i64_w, i32_w]
      rfl
     refine one_ (i := 6) (N := some 52) #[true, true, true, true, true, true, true, false, false, false, true, false, false] rfl rfl (by kernel_rfl) (by decide) (fun K hK => ?_)
     have hg_ : St (top W) (lentIs (.slice aoA nL capA) gL gs ls :: _) _ := St.bring H2.out 4
     refine goes_ Try.func33 (by kernel_rfl) rfl #[.agg #[.int .i64 a, .int .i64 b, .int .i64 c, .bool d, .slice (some ⟨gL, 0, none⟩) nL (nL + 2)], .int .i64 (wrap64 (1 - pn)), .agg #[.int .i64 rx, .int .i64 ry, .int .i64 rw, .int .i64 rh]] (by rfl) rfl rfl (by simp only [List.map_toArray, List.map_cons, List.map_nil]; rfl) ?_
     with_reducible refine (CP2.out _ (LC.out _ _ hg_) (by omega)).mono ?_
     rintro en yc ⟨vq, rfl, hR, hb⟩
     refine ⟨_, rfl, ?_⟩
     obtain ⟨Pq, nq, rfl, -, -⟩ := Kd.R_reads hR
     have H3 := Lib.hid (H2.out.of_R hb hR)
     clear hR hb hg_
     refine hK.out _ _ ⟨St.cells_mem H3.out (List.mem_cons_of_mem _ (List.mem_cons_of_mem _ (List.mem_cons_of_mem _ mm5))) 0, St.cells_mem H3.out (List.mem_cons_of_mem _ (List.mem_cons_of_mem _ (List.mem_cons_of_mem _ mm5))) 1, St.cells_mem H3.out (List.mem_cons_of_mem _ (List.mem_cons_of_mem _ (List.mem_cons_of_mem _ mm5))) 2, St.cells_mem H3.out (List.mem_cons_of_mem _ (List.mem_cons_of_mem _ (List.mem_cons_of_mem _ mm5))) 3, St.cells_mem H3.out (List.mem_cons_of_mem _ (List.mem_cons_of_mem _ (List.mem_cons_of_mem _ mm5))) 4, St.cells_mem H3.out (List.mem_cons_of_mem _ (List.mem_cons_of_mem _ (List.mem_cons_of_mem _ (List.mem_cons_of_mem _ mm5)))) 0, St.cells_mem H3.out (List.mem_cons_of_mem _ (List.mem_cons_of_mem _ (List.mem_cons_of_mem _ (List.mem_cons_of_mem _ mm5)))) 1, St.cells_mem H3.out (List.mem_cons_of_mem _ (List.mem_cons_of_mem _ (List.mem_cons_of_mem _ (List.mem_cons_of_mem _ mm5)))) 2, St.cells_mem H3.out (List.mem_cons_of_mem _ (List.mem_cons_of_mem _ (List.mem_cons_of_mem _ (List.mem_cons_of_mem _ mm5)))) 3⟩ (fun hHeld => ?_)
     clear hK K
     refine norm_ (a' := ?_) ?_ ?_
     rotate_left
     ·show Act.put _ (some 52) _ = _
      simp only [Act.put, List.setIfInBounds_toArray, List.set_cons_zero, List.set_cons_succ, i64_w, i32_w]
      rfl
     refine pure_ (i := 7) (N := some 45) (v := ?_) (a' := ?_) #[true, true, true, true, true, true, true, true, false, false, true, false, false] rfl rfl (by kernel_rfl) (fun _ _ _ h => h) (Or.inl ⟨by rfl, ?_⟩) ?_ ?_
     rotate_left
     ·intro w'
      go_simp
      with_reducible rfl
     rotate_left
     ·simp only [Act.put, List.setIfInBounds_toArray, List.set_cons_zero, List.set_cons_succ, i64_w, i32_w]
      rfl
     refine pure_ (i := 8) (N := some 53) (v := ?_) (a' := ?_) #[true, true, true, true, true, true, true, true, true, false, true, false, false] rfl rfl (by kernel_rfl) (fun _ _ _ h => h) (Or.inl ⟨by rfl, ?_⟩) ?_ ?_
     rotate_left
     ·intro w'
      go_simp
      with_reducible rfl
     rotate_left
     ·simp only [Act.put, List.setIfInBounds_toArray, List.set_cons_zero, List.set_cons_succ, i64_w, i32_w]
      rfl
     refine pure_ (i := 9) (N := some 54) (v := ?_) (a' := ?_) #[true, true, true, true, true, true, true, true, true, true, true, false, false] rfl rfl (by kernel_rfl) (fun _ _ _ h => h) (Or.inl ⟨by rfl, ?_⟩) ?_ ?_
     rotate_left
     ·intro w'
      go_simp
      with_reducible rfl
     rotate_left
     ·simp only [Act.put, List.setIfInBounds_toArray, List.set_cons_zero, List.set_cons_succ, i64_w, i32_w]
      rfl
     exact norm_ (by simp only [putAll, Act.put, List.setIfInBounds_toArray, List.set_cons_zero, List.set_cons_succ]) (hCont (wq, Pq, nq) _ (H3.out.swap))
   rintro ⟨w14, P2, n2⟩ x2 hF
   have H3 := Lib.hid hF
   simp only at H3
   have hHeld : x2.cell? ⟨gX, 0, none⟩ = some (.int .i64 a) ∧ x2.cell? ⟨gX, 1, none⟩ = some (.int .i64 b) ∧ x2.cell? ⟨gX, 2, none⟩ = some (.int .i64 c) ∧ x2.cell? ⟨gX, 3, none⟩ = some (.bool d) ∧ x2.cell? ⟨gX, 4, none⟩ = some (.slice (some ⟨gL, 0, none⟩) nL (nL + 2)) ∧ x2.cell? ⟨(W.heap.size + 1), 0, none⟩ = some (.int .i64 rx) ∧ x2.cell? ⟨(W.heap.size + 1), 1, none⟩ = some (.int .i64 ry) ∧ x2.cell? ⟨(W.heap.size + 1), 2, none⟩ = some (.int .i64 rw) ∧ x2.cell? ⟨(W.heap.size + 1), 3, none⟩ = some (.int .i64 rh) := ⟨St.cells_mem H3.out (List.mem_cons_of_mem _ (List.mem_cons_of_mem _ (List.mem_cons_of_mem _ mm5))) 0, St.cells_mem H3.out (List.mem_cons_of_mem _ (List.mem_cons_of_mem _ (List.mem_cons_of_mem _ mm5))) 1, St.cells_mem H3.out (List.mem_cons_of_mem _ (List.mem_cons_of_mem _ (List.mem_cons_of_mem _ mm5))) 2, St.cells_mem H3.out (List.mem_cons_of_mem _ (List.mem_cons_of_mem _ (List.mem_cons_of_mem _ mm5))) 3, St.cells_mem H3.out (List.mem_cons_of_mem _ (List.mem_cons_of_mem _ (List.mem_cons_of_mem _ mm5))) 4, St.cells_mem H3.out (List.mem_cons_of_mem _ (List.mem_cons_of_mem _ (List.mem_cons_of_mem _ (List.mem_cons_of_mem _ mm5)))) 0, St.cells_mem H3.out (List.mem_cons_of_mem _ (List.mem_cons_of_mem _ (List.mem_cons_of_mem _ (List.mem_cons_of_mem _ mm5)))) 1, St.cells_mem H3.out (List.mem_cons_of_mem _ (List.mem_cons_of_mem _ (List.mem_cons_of_mem _ (List.mem_cons_of_mem _ mm5)))) 2, St.cells_mem H3.out (List.mem_cons_of_mem _ (List.mem_cons_of_mem _ (List.mem_cons_of_mem _ (List.mem_cons_of_mem _ mm5)))) 3⟩
   clear hF H0
   generalize w14.heap.size = gQ at *
   refine norm_ (a' := ?_) ?_ ?_
   rotate_left
   ·simp only [putAll, Act.put, List.setIfInBounds_toArray, List.set_cons_zero, List.set_cons_succ]
    rfl
   refine last_ (i := 11) (N := none) #[true, true, true, true, true, true, true, true, true, true, true, true, false] rfl rfl (by kernel_rfl) (by decide) (fun K hK => ?_)
   obtain ⟨z0, z1, z2⟩ := H3.out.cells3 mm0
   have zf0 := H3.out.frozen 0
   have zf1 := H3.out.frozen 1
   have zf2 := H3.out.frozen 2
   refine skip_ (w1 := ?_) (by rfl) rfl ?_ ?_
   rotate_left
   ·go_simp
    rfl
   refine hK.out _ _ ?_
   clear hK K
   refine pure_ (i := 12) (N := some 15) (v := ?_) (a' := ?_) #[true, true, true, true, true, true, true, true, true, true, true, true, true] rfl rfl (by kernel_rfl) (fun _ _ _ h => h) (Or.inl ⟨by rfl, ?_⟩) ?_ ?_
   rotate_left
   ·intro w'
    go_simp
    with_reducible rfl
   rotate_left
   ·simp only [Act.put, List.setIfInBounds_toArray, List.set_cons_zero, List.set_cons_succ, i64_w, i32_w]
    rfl
   refine done_ (by kernel_rfl) ?_
   have H4 := Lib.hid (((H3.out.setCell 0 (.int .i64 e1)).setCell 1 (.int .i64 e2)).setCell 2 (.slice P2 dl.length n2))
   clear H3 z0 z1 z2 zf0 zf1 zf2
   have x0 := St.cells_mem H4.out (List.mem_cons_of_mem _ (List.mem_cons_of_mem _ (List.mem_cons_of_mem _ mm5))) 0
   have x1 := St.cells_mem H4.out (List.mem_cons_of_mem _ (List.mem_cons_of_mem _ (List.mem_cons_of_mem _ mm5))) 1
   have x2 := St.cells_mem H4.out (List.mem_cons_of_mem _ (List.mem_cons_of_mem _ (List.mem_cons_of_mem _ mm5))) 2
   have x3 := St.cells_mem H4.out (List.mem_cons_of_mem _ (List.mem_cons_of_mem _ (List.mem_cons_of_mem _ mm5))) 3
   have x4 := St.cells_mem H4.out (List.mem_cons_of_mem _ (List.mem_cons_of_mem _ (List.mem_cons_of_mem _ mm5))) 4
   have y0 := St.cells_mem H4.out (List.mem_cons_of_mem _ (List.mem_cons_of_mem _ (List.mem_cons_of_mem _ (List.mem_cons_of_mem _ mm5)))) 0
   have y1 := St.cells_mem H4.out (List.mem_cons_of_mem _ (List.mem_cons_of_mem _ (List.mem_cons_of_mem _ (List.mem_cons_of_mem _ mm5)))) 1
   have y2 := St.cells_mem H4.out (List.mem_cons_of_mem _ (List.mem_cons_of_mem _ (List.mem_cons_of_mem _ (List.mem_cons_of_mem _ mm5)))) 2
   have y3 := St.cells_mem H4.out (List.mem_cons_of_mem _ (List.mem_cons_of_mem _ (List.mem_cons_of_mem _ (List.mem_cons_of_mem _ mm5)))) 3
   simp only [List.getElem?_cons_zero, List.getElem?_cons_succ] at x0 x1 x2 x3 x4 y0 y1 y2 y3
   go_wp2_with fail
   refine (CP1.out _ (LC.out _ _ (St.bring H4.out 5)) (by omega)).mono ?_
   rintro en w5 ⟨v3, rfl, hR, hb⟩
   obtain ⟨P3, n3, rfl, -, -⟩ := Kd.R_reads hR
   have H5 := Lib.hid ((H4.out.of_R hb hR).alloc [.int .i64 u1, .int .i64 u2, .slice P3 cl.length n3] 55)
   clear H4 hR hb
   clear x0 x1 x2 x3 x4 y0 y1 y2 y3
   have x0 := St.cells_mem H5.out (List.mem_cons_of_mem _ (List.mem_cons_of_mem _ (List.mem_cons_of_mem _ (List.mem_cons_of_mem _ mm5)))) 0
   have x1 := St.cells_mem H5.out (List.mem_cons_of_mem _ (List.mem_cons_of_mem _ (List.mem_cons_of_mem _ (List.mem_cons_of_mem _ mm5)))) 1
   have x2 := St.cells_mem H5.out (List.mem_cons_of_mem _ (List.mem_cons_of_mem _ (List.mem_cons_of_mem _ (List.mem_cons_of_mem _ mm5)))) 2
   have x3 := St.cells_mem H5.out (List.mem_cons_of_mem _ (List.mem_cons_of_mem _ (List.mem_cons_of_mem _ (List.mem_cons_of_mem _ mm5)))) 3
   have x4 := St.cells_mem H5.out (List.mem_cons_of_mem _ (List.mem_cons_of_mem _ (List.mem_cons_of_mem _ (List.mem_cons_of_mem _ mm5)))) 4
   have y0 := St.cells_mem H5.out (List.mem_cons_of_mem _ (List.mem_cons_of_mem _ (List.mem_cons_of_mem _ (List.mem_cons_of_mem _ (List.mem_cons_of_mem _ (List.mem_cons_of_mem _ mm5)))))) 0
   have y1 := St.cells_mem H5.out (List.mem_cons_of_mem _ (List.mem_cons_of_mem _ (List.mem_cons_of_mem _ (List.mem_cons_of_mem _ (List.mem_cons_of_mem _ (List.mem_cons_of_mem _ mm5)))))) 1
   have y2 := St.cells_mem H5.out (List.mem_cons_of_mem _ (List.mem_cons_of_mem _ (List.mem_cons_of_mem _ (List.mem_cons_of_mem _ (List.mem_cons_of_mem _ (List.mem_cons_of_mem _ mm5)))))) 2
   have y3 := St.cells_mem H5.out (List.mem_cons_of_mem _ (List.mem_cons_of_mem _ (List.mem_cons_of_mem _ (List.mem_cons_of_mem _ (List.mem_cons_of_mem _ (List.mem_cons_of_mem _ mm5)))))) 3
   simp only [List.getElem?_cons_zero, List.getElem?_cons_succ] at x0 x1 x2 x3 x4 y0 y1 y2 y3
   go_wp2_with fail
   generalize w5.heap.size = gC at *
   refine (CR1.out _ (HGC.out _ _ (St.bring H5.out 8)) HCG.out).mono ?_
   rintro en w6 ⟨v4, rfl, hR, hb⟩
   obtain ⟨P4, n4, rfl, -, -⟩ := Kd.R_reads hR
   have HX := Lib.hid ((H5.out.of_R hb hR).alloc [.int .i64 u1, .int .i64 u2, .slice P4 cl.length n4] 55)
   clear H5 hR hb
   clear x0 x1 x2 x3 x4 y0 y1 y2 y3
   have x0 := St.cells_mem HX.out (List.mem_cons_of_mem _ (List.mem_cons_of_mem _ (List.mem_cons_of_mem _ (List.mem_cons_of_mem _ (List.mem_cons_of_mem _ (List.mem_cons_of_mem _ mm5)))))) 0
   have x1 := St.cells_mem HX.out (List.mem_cons_of_mem _ (List.mem_cons_of_mem _ (List.mem_cons_of_mem _ (List.mem_cons_of_mem _ (List.mem_cons_of_mem _ (List.mem_cons_of_mem _ mm5)))))) 1
   have x2 := St.cells_mem HX.out (List.mem_cons_of_mem _ (List.mem_cons_of_mem _ (List.mem_cons_of_mem _ (List.mem_cons_of_mem _ (List.mem_cons_of_mem _ (List.mem_cons_of_mem _ mm5)))))) 2
   have x3 := St.cells_mem HX.out (List.mem_cons_of_mem _ (List.mem_cons_of_mem _ (List.mem_cons_of_mem _ (List.mem_cons_of_mem _ (List.mem_cons_of_mem _ (List.mem_cons_of_mem _ mm5)))))) 3
   have x4 := St.cells_mem HX.out (List.mem_cons_of_mem _ (List.mem_cons_of_mem _ (List.mem_cons_of_mem _ (List.mem_cons_of_mem _ (List.mem_cons_of_mem _ (List.mem_cons_of_mem _ mm5)))))) 4
   have y0 := St.cells_mem HX.out (List.mem_cons_of_mem _ (List.mem_cons_of_mem _ (List.mem_cons_of_mem _ (List.mem_cons_of_mem _ (List.mem_cons_of_mem _ (List.mem_cons_of_mem _ (List.mem_cons_of_mem _ (List.mem_cons_of_mem _ mm5)))))))) 0
   have y1 := St.cells_mem HX.out (List.mem_cons_of_mem _ (List.mem_cons_of_mem _ (List.mem_cons_of_mem _ (List.mem_cons_of_mem _ (List.mem_cons_of_mem _ (List.mem_cons_of_mem _ (List.mem_cons_of_mem _ (List.mem_cons_of_mem _ mm5)))))))) 1
   have y2 := St.cells_mem HX.out (List.mem_cons_of_mem _ (List.mem_cons_of_mem _ (List.mem_cons_of_mem _ (List.mem_cons_of_mem _ (List.mem_cons_of_mem _ (List.mem_cons_of_mem _ (List.mem_cons_of_mem _ (List.mem_cons_of_mem _ mm5)))))))) 2
   have y3 := St.cells_mem HX.out (List.mem_cons_of_mem _ (List.mem_cons_of_mem _ (List.mem_cons_of_mem _ (List.mem_cons_of_mem _ (List.mem_cons_of_mem _ (List.mem_cons_of_mem _ (List.mem_cons_of_mem _ (List.mem_cons_of_mem _ mm5)))))))) 3
   simp only [List.getElem?_cons_zero, List.getElem?_cons_succ] at x0 x1 x2 x3 x4 y0 y1 y2 y3
   go_wp2_with fail
   generalize w6.heap.size = gD at *
   generalize w6.alloc (.cells #[.int .i64 u1, .int .i64 u2, .slice P4 cl.length n4] 55) = wq at *
   have H0 := Lib.hid HX.out.drew
   clear HX
   clear x0 x1 x2 x3 x4 y0 y1 y2 y3
   refine start_ (n := 12) (S := fun w' => w'.cell? ⟨(gX + 1), 0, none⟩ = some (.int .i64 a) ∧ w'.cell? ⟨(gX + 1), 1, none⟩ = some (.int .i64 b) ∧ w'.cell? ⟨(gX + 1), 2, none⟩ = some (.int .i64 c) ∧ w'.cell? ⟨(gX + 1), 3, none⟩ = some (.bool d) ∧ w'.cell? ⟨(gX + 1), 4, none⟩ = some (.slice Ag nL capg) ∧ w'.cell? ⟨(W.heap.size + 1), 0, none⟩ = some (.int .i64 rx) ∧ w'.cell? ⟨(W.heap.size + 1), 1, none⟩ = some (.int .i64 ry) ∧ w'.cell? ⟨(W.heap.size + 1), 2, none⟩ = some (.int .i64 rw) ∧ w'.cell? ⟨(W.heap.size + 1), 3, none⟩ = some (.int .i64 rh)) (ds := [10]) #[false, false, false, false, false, false, false, false, false, false, false, false] (by kernel_rfl) rfl rfl ⟨St.cells_mem H0.out (List.mem_cons_of_mem _ (List.mem_cons_of_mem _ (List.mem_cons_of_mem _ (List.mem_cons_of_mem _ (List.mem_cons_of_mem _ (List.mem_cons_of_mem _ mm5)))))) 0, St.cells_mem H0.out (List.mem_cons_of_mem _ (List.mem_cons_of_mem _ (List.mem_cons_of_mem _ (List.mem_cons_of_mem _ (List.mem_cons_of_mem _ (List.mem_cons_of_mem _ mm5)))))) 1, St.cells_mem H0.out (List.mem_cons_of_mem _ (List.mem_cons_of_mem _ (List.mem_cons_of_mem _ (List.mem_cons_of_mem _ (List.mem_cons_of_mem _ (List.mem_cons_of_mem _ mm5)))))) 2, St.cells_mem H0.out (List.mem_cons_of_mem _ (List.mem_cons_of_mem _ (List.mem_cons_of_mem _ (List.mem_cons_of_mem _ (List.mem_cons_of_mem _ (List.mem_cons_of_mem _ mm5)))))) 3, St.cells_mem H0.out (List.mem_cons_of_mem _ (List.mem_cons_of_mem _ (List.mem_cons_of_mem _ (List.mem_cons_of_mem _ (List.mem_cons_of_mem _ (List.mem_cons_of_mem _ mm5)))))) 4, St.cells_mem H0.out (List.mem_cons_of_mem _ (List.mem_cons_of_mem _ (List.mem_cons_of_mem _ (List.mem_cons_of_mem _ (List.mem_cons_of_mem _ (List.mem_cons_of_mem _ (List.mem_cons_of_mem _ (List.mem_cons_of_mem _ mm5)))))))) 0, St.cells_mem H0.out (List.mem_cons_of_mem _ (List.mem_cons_of_mem _ (List.mem_cons_of_mem _ (List.mem_cons_of_mem _ (List.mem_cons_of_mem _ (List.mem_cons_of_mem _ (List.mem_cons_of_mem _ (List.mem_cons_of_mem _ mm5)))))))) 1, St.cells_mem H0.out (List.mem_cons_of_mem _ (List.mem_cons_of_mem _ (List.mem_cons_of_mem _ (List.mem_cons_of_mem _ (List.mem_cons_of_mem _ (List.mem_cons_of_mem _ (List.mem_cons_of_mem _ (List.mem_cons_of_mem _ mm5)))))))) 2, St.cells_mem H0.out (List.mem_cons_of_mem _ (List.mem_cons_of_mem _ (List.mem_cons_of_mem _ (List.mem_cons_of_mem _ (List.mem_cons_of_mem _ (List.mem_cons_of_mem _ (List.mem_cons_of_mem _ (List.mem_cons_of_mem _ mm5)))))))) 3⟩ (fun hHeld => ?_)
   refine pure_ (i := 1) (N := some 72) (v := ?_) (a' := ?_) #[false, true, false, false, false, false, false, false, false, false, false, false] rfl rfl (by kernel_rfl) (fun _ _ _ h => h) (Or.inl ⟨by rfl, ?_⟩) ?_ ?_
   rotate_left
   ·intro w'
    go_simp
    with_reducible rfl
   rotate_left
   ·simp only [Act.put, List.setIfInBounds_toArray, List.set_cons_zero, List.set_cons_succ, i64_w, i32_w]
    rfl
   refine take_ (i := 0) (N := some 71) (v := ?_) (a' := ?_) #[true, true, false, false, false, false, false, false, false, false, false, false] rfl rfl (by kernel_rfl) (fun _ _ _ h => h) (Or.inl ⟨by rfl, ?_⟩) hHeld ?_ ?_
   rotate_left
   ·rintro w' ⟨s0, s1, s2, s3, s4, s5, s6, s7, s8⟩
    go_simp
    with_reducible rfl
   rotate_left
   ·simp only [Act.put, List.setIfInBounds_toArray, List.set_cons_zero, List.set_cons_succ, i64_w, i32_w]
    rfl
   refine take_ (i := 4) (N := some 75) (v := ?_) (a' := ?_) #[true, true, false, false, true, false, false, false, false, false, false, false] rfl rfl (by kernel_rfl) (fun _ _ _ h => h) (Or.inl ⟨by rfl, ?_⟩) hHeld ?_ ?_
   rotate_left
   ·rintro w' ⟨s0, s1, s2, s3, s4, s5, s6, s7, s8⟩
    go_simp
    with_reducible rfl
   rotate_left
   ·simp only [Act.put, List.setIfInBounds_toArray, List.set_cons_zero, List.set_cons_succ, i64_w, i32_w]
    rfl
   refine join_ (σ := World × Option Addr × Nat) 2 #[true, true, true, true, true, true, true, true, true, true, false, false] (fun s => [(73, .int .i64 pn), (20, .pointer (some ⟨s.1.heap.size, 0, none⟩)), (76, .tuple #[.agg #[.int .i64 e1, .int .i64 e2, .slice s.2.1 dl.length s.2.2], .int .i64 e4]), (74, .int .i64 (wrap64 (1 - pn))), (70, .tuple #[.agg #[.int .i64 e1, .int .i64 e2, .slice s.2.1 dl.length s.2.2], .int .i64 e4]), (77, .agg #[.int .i64 e1, .int .i64 e2, .slice s.2.1 dl.length s.2.2]), (78, .int .i64 e4)]) (fun s w' => St (top W) (blk s.1.heap.size [.int .i64 0, .int .i64 0, .slice none 0 0] 55 :: inner 72 .u16 (.slice s.2.1 dl.length s.2.2) dl :: blk gD [.int .i64 u1, .int .i64 u2, (.slice P4 cl.length n4)] 55 :: inner 72 .u16 (.slice P4 cl.length n4) cl :: blk gC [.int .i64 u1, .int .i64 u2, (.slice P3 cl.length n3)] 55 :: inner 72 .u16 (.slice P3 cl.length n3) cl :: blk gQ [.int .i64 e1, .int .i64 e2, (.slice P2 dl.length n2)] 55 :: inner 72 .u16 (.slice P2 dl.length n2) dl :: blk gA [.int .i64 u1, .int .i64 u2, (.slice P1 cl.length n1)] 55 :: inner 72 .u16 (.slice P1 cl.length n1) cl :: book gB nb os :: lentIs (.slice aoA nL capA) gL gs ls :: G :: blk (gX + 1) [.int .i64 a, .int .i64 b, .int .i64 c, .bool d, .slice Ag nL capg] 39 :: blk gX [.int .i64 a, .int .i64 b, .int .i64 c, .bool d, .slice (some ⟨gL, 0, none⟩) nL (nL + 2), .slice aoA nL capA, .slice (some ⟨gL, 0, none⟩) (nL + 2) (nL + 2)] 46 :: blk (W.heap.size + 1) [.int .i64 rx, .int .i64 ry, .int .i64 rw, .int .i64 rh] 52 :: blk W.heap.size [.int .i64 a, .int .i64 b, .int .i64 c, .bool d, .slice A nL n] 39 :: []) w') ?_ ?_
   rotate_left
   ·intro hCont
    refine two_ (i := 2) (j := 9) (Ni := some 73) (Nj := some 20) #[true, true, true, false, true, false, false, false, false, false, false, false] #[true, true, false, false, true, false, false, false, false, true, false, false] rfl rfl rfl rfl (by kernel_rfl) (by decide) (by decide) (fun K hK => ?_) (fun K hK => ?_)
    ·skip
     refine goes_ Try.func34 (by kernel_rfl) rfl #[.int .i64 n0, .int .i64 2] (by rfl) rfl rfl (by simp only [List.map_toArray, List.map_cons, List.map_nil]; rfl) ?_
     with_reducible refine (dailieslaw06_place.calls n0 2 pn _ HPL.out).mono ?_
     rintro en yp ⟨rfl, hb⟩
     refine ⟨_, rfl, ?_⟩
     have H1 := Lib.hid (H0.out.of_below hb.below)
     clear hb
     refine hK.out _ _ ⟨St.cells_mem H1.out (List.mem_cons_of_mem _ (List.mem_cons_of_mem _ (List.mem_cons_of_mem _ (List.mem_cons_of_mem _ (List.mem_cons_of_mem _ (List.mem_cons_of_mem _ mm5)))))) 0, St.cells_mem H1.out (List.mem_cons_of_mem _ (List.mem_cons_of_mem _ (List.mem_cons_of_mem _ (List.mem_cons_of_mem _ (List.mem_cons_of_mem _ (List.mem_cons_of_mem _ mm5)))))) 1, St.cells_mem H1.out (List.mem_cons_of_mem _ (List.mem_cons_of_mem _ (List.mem_cons_of_mem _ (List.mem_cons_of_mem _ (List.mem_cons_of_mem _ (List.mem_cons_of_mem _ mm5)))))) 2, St.cells_mem H1.out (List.mem_cons_of_mem _ (List.mem_cons_of_mem _ (List.mem_cons_of_mem _ (List.mem_cons_of_mem _ (List.mem_cons_of_mem _ (List.mem_cons_of_mem _ mm5)))))) 3, St.cells_mem H1.out (List.mem_cons_of_mem _ (List.mem_cons_of_mem _ (List.mem_cons_of_mem _ (List.mem_cons_of_mem _ (List.mem_cons_of_mem _ (List.mem_cons_of_mem _ mm5)))))) 4, St.cells_mem H1.out (List.mem_cons_of_mem _ (List.mem_cons_of_mem _ (List.mem_cons_of_mem _ (List.mem_cons_of_mem _ (List.mem_cons_of_mem _ (List.mem_cons_of_mem _ (List.mem_cons_of_mem _ (List.mem_cons_of_mem _ mm5)))))))) 0, St.cells_mem H1.out (List.mem_cons_of_mem _ (List.mem_cons_of_mem _ (List.mem_cons_of_mem _ (List.mem_cons_of_mem _ (List.mem_cons_of_mem _ (List.mem_cons_of_mem _ (List.mem_cons_of_mem _ (List.mem_cons_of_mem _ mm5)))))))) 1, St.cells_mem H1.out (List.mem_cons_of_mem _ (List.mem_cons_of_mem _ (List.mem_cons_of_mem _ (List.mem_cons_of_mem _ (List.mem_cons_of_mem _ (List.mem_cons_of_mem _ (List.mem_cons_of_mem _ (List.mem_cons_of_mem _ mm5)))))))) 2, St.cells_mem H1.out (List.mem_cons_of_mem _ (List.mem_cons_of_mem _ (List.mem_cons_of_mem _ (List.mem_cons_of_mem _ (List.mem_cons_of_mem _ (List.mem_cons_of_mem _ (List.mem_cons_of_mem _ (List.mem_cons_of_mem _ mm5)))))))) 3⟩ (fun hHeld => ?_)
     clear hK K
     refine norm_ (a' := ?_) ?_ ?_
     rotate_left
     ·show Act.put _ (some 73) _ = _
      simp only [Act.put, List.setIfInBounds_toArray, List.set_cons_zero, List.set_cons_succ, i64_w, i32_w]
      rfl
     refine pure_ (i := 3) (N := some 74) (v := ?_) (a' := ?_) #[true, true, true, true, true, false, false, false, false, false, false, false] rfl rfl (by kernel_rfl) (fun _ _ _ h => h) (Or.inl ⟨by rfl, ?_⟩) ?_ ?_
     rotate_left
     ·intro w'
      go_simp
      with_reducible rfl
     rotate_left
     ·simp only [Act.put, List.setIfInBounds_toArray, List.set_cons_zero, List.set_cons_succ, i64_w, i32_w]
      rfl
     refine two_ (i := 5) (j := 9) (Ni := some 76) (Nj := some 20) #[true, true, true, true, true, true, false, false, false, false, false, false] #[true, true, true, true, true, false, false, false, false, true, false, false] rfl rfl rfl rfl (by kernel_rfl) (by decide) (by decide) (fun K hK => ?_) (fun K hK => ?_)
     ·skip
      have hg_ : St (top W) (G :: _) _ := St.bring H1.out 10
      refine goes_ Try.func35 (by kernel_rfl) rfl #[.agg #[.int .i64 a, .int .i64 b, .int .i64 c, .bool d, .slice Ag nL capg], .int .i64 (wrap64 (1 - pn)), .agg #[.int .i64 rx, .int .i64 ry, .int .i64 rw, .int .i64 rh]] (by rfl) rfl rfl (by simp only [List.map_toArray, List.map_cons, List.map_nil]; rfl) ?_
      with_reducible refine (CR2.out _ (HGC.out _ _ hg_) HCG.out).mono ?_
      rintro en yc ⟨vq, rfl, hR, hb⟩
      refine ⟨_, rfl, ?_⟩
      obtain ⟨Pq, nq, rfl, -, -⟩ := Kd.R_reads hR
      have H2 := Lib.hid (H1.out.of_R hb hR)
      clear hR hb hg_
      refine hK.out _ _ ⟨St.cells_mem H2.out (List.mem_cons_of_mem _ (List.mem_cons_of_mem _ (List.mem_cons_of_mem _ (List.mem_cons_of_mem _ (List.mem_cons_of_mem _ (List.mem_cons_of_mem _ (List.mem_cons_of_mem _ mm5))))))) 0, St.cells_mem H2.out (List.mem_cons_of_mem _ (List.mem_cons_of_mem _ (List.mem_cons_of_mem _ (List.mem_cons_of_mem _ (List.mem_cons_of_mem _ (List.mem_cons_of_mem _ (List.mem_cons_of_mem _ mm5))))))) 1, St.cells_mem H2.out (List.mem_cons_of_mem _ (List.mem_cons_of_mem _ (List.mem_cons_of_mem _ (List.mem_cons_of_mem _ (List.mem_cons_of_mem _ (List.mem_cons_of_mem _ (List.mem_cons_of_mem _ mm5))))))) 2, St.cells_mem H2.out (List.mem_cons_of_mem _ (List.mem_cons_of_mem _ (List.mem_cons_of_mem _ (List.mem_cons_of_mem _ (List.mem_cons_of_mem _ (List.mem_cons_of_mem _ (List.mem_cons_of_mem _ mm5))))))) 3, St.cells_mem H2.out (List.mem_cons_of_mem _ (List.mem_cons_of_mem _ (List.mem_cons_of_mem _ (List.mem_cons_of_mem _ (List.mem_cons_of_mem _ (List.mem_cons_of_mem _ (List.mem_cons_of_mem _ mm5))))))) 4, St.cells_mem H2.out (List.mem_cons_of_mem _ (List.mem_cons_of_mem _ (List.mem_cons_of_mem _ (List.mem_cons_of_mem _ (List.mem_cons_of_mem _ (List.mem_cons_of_mem _ (List.mem_cons_of_mem _ (List.mem_cons_of_mem _ (List.mem_cons_of_mem _ mm5))))))))) 0, St.cells_mem H2.out (List.mem_cons_of_mem _ (List.mem_cons_of_mem _ (List.mem_cons_of_mem _ (List.mem_cons_of_mem _ (List.mem_cons_of_mem _ (List.mem_cons_of_mem _ (List.mem_cons_of_mem _ (List.mem_cons_of_mem _ (List.mem_cons_of_mem _ mm5))))))))) 1, St.cells_mem H2.out (List.mem_cons_of_mem _ (List.mem_cons_of_mem _ (List.mem_cons_of_mem _ (List.mem_cons_of_mem _ (List.mem_cons_of_mem _ (List.mem_cons_of_mem _ (List.mem_cons_of_mem _ (List.mem_cons_of_mem _ (List.mem_cons_of_mem _ mm5))))))))) 2, St.cells_mem H2.out (List.mem_cons_of_mem _ (List.mem_cons_of_mem _ (List.mem_cons_of_mem _ (List.mem_cons_of_mem _ (List.mem_cons_of_mem _ (List.mem_cons_of_mem _ (List.mem_cons_of_mem _ (List.mem_cons_of_mem _ (List.mem_cons_of_mem _ mm5))))))))) 3⟩ (fun hHeld => ?_)
      clear hK K
      refine norm_ (a' := ?_) ?_ ?_
      rotate_left
      ·show Act.put _ (some 76) _ = _
       simp only [Act.put, List.setIfInBounds_toArray, List.set_cons_zero, List.set_cons_succ, i64_w, i32_w]
       rfl
      refine pure_ (i := 6) (N := some 70) (v := ?_) (a' := ?_) #[true, true, true, true, true, true, true, false, false, false, false, false] rfl rfl (by kernel_rfl) (fun _ _ _ h => h) (Or.inl ⟨by rfl, ?_⟩) ?_ ?_
      rotate_left
      ·intro w'
       go_simp
       with_reducible rfl
      rotate_left
      ·simp only [Act.put, List.setIfInBounds_toArray, List.set_cons_zero, List.set_cons_succ, i64_w, i32_w]
       rfl
      refine pure_ (i := 7) (N := some 77) (v := ?_) (a' := ?_) #[true, true, true, true, true, true, true, true, false, false, false, false] rfl rfl (by kernel_rfl) (fun _ _ _ h => h) (Or.inl ⟨by rfl, ?_⟩) ?_ ?_
      rotate_left
      ·intro w'
       go_simp
       with_reducible rfl
      rotate_left
      ·simp only [Act.put, List.setIfInBounds_toArray, List.set_cons_zero, List.set_cons_succ, i64_w, i32_w]
       rfl
      refine pure_ (i := 8) (N := some 78) (v := ?_) (a' := ?_) #[true, true, true, true, true, true, true, true, true, false, false, false] rfl rfl (by kernel_rfl) (fun _ _ _ h => h) (Or.inl ⟨by rfl, ?_⟩) ?_ ?_
      rotate_left
      ·intro w'
       go_simp
       with_reducible rfl
      rotate_left
      ·simp only [Act.put, List.setIfInBounds_toArray, List.set_cons_zero, List.set_cons_succ, i64_w, i32_w]
       rfl
      refine one_ (i := 9) (N := some 20) #[true, true, true, true, true, true, true, true, true, true, false, false] rfl rfl (by kernel_rfl) (by decide) (fun K hK => ?_)
      refine value_ (w1 := ?_) (v := ?_) (by rfl) rfl ?_ ?_
      rotate_left 2
      ·go_simp
       constructor
       ·rfl
       ·rfl
      have H3 := Lib.hid (H2.out.alloc' rfl [.int .i64 0, .int .i64 0, .slice none 0 0] 55)
      refine hK.out _ _ ⟨St.cells_mem H3.out (List.mem_cons_of_mem _ (List.mem_cons_of_mem _ (List.mem_cons_of_mem _ (List.mem_cons_of_mem _ (List.mem_cons_of_mem _ (List.mem_cons_of_mem _ (List.mem_cons_of_mem _ (List.mem_cons_of_mem _ mm5)))))))) 0, St.cells_mem H3.out (List.mem_cons_of_mem _ (List.mem_cons_of_mem _ (List.mem_cons_of_mem _ (List.mem_cons_of_mem _ (List.mem_cons_of_mem _ (List.mem_cons_of_mem _ (List.mem_cons_of_mem _ (List.mem_cons_of_mem _ mm5)))))))) 1, St.cells_mem H3.out (List.mem_cons_of_mem _ (List.mem_cons_of_mem _ (List.mem_cons_of_mem _ (List.mem_cons_of_mem _ (List.mem_cons_of_mem _ (List.mem_cons_of_mem _ (List.mem_cons_of_mem _ (List.mem_cons_of_mem _ mm5)))))))) 2, St.cells_mem H3.out (List.mem_cons_of_mem _ (List.mem_cons_of_mem _ (List.mem_cons_of_mem _ (List.mem_cons_of_mem _ (List.mem_cons_of_mem _ (List.mem_cons_of_mem _ (List.mem_cons_of_mem _ (List.mem_cons_of_mem _ mm5)))))))) 3, St.cells_mem H3.out (List.mem_cons_of_mem _ (List.mem_cons_of_mem _ (List.mem_cons_of_mem _ (List.mem_cons_of_mem _ (List.mem_cons_of_mem _ (List.mem_cons_of_mem _ (List.mem_cons_of_mem _ (List.mem_cons_of_mem _ mm5)))))))) 4, St.cells_mem H3.out (List.mem_cons_of_mem _ (List.mem_cons_of_mem _ (List.mem_cons_of_mem _ (List.mem_cons_of_mem _ (List.mem_cons_of_mem _ (List.mem_cons_of_mem _ (List.mem_cons_of_mem _ (List.mem_cons_of_mem _ (List.mem_cons_of_mem _ (List.mem_cons_of_mem _ mm5)))))))))) 0, St.cells_mem H3.out (List.mem_cons_of_mem _ (List.mem_cons_of_mem _ (List.mem_cons_of_mem _ (List.mem_cons_of_mem _ (List.mem_cons_of_mem _ (List.mem_cons_of_mem _ (List.mem_cons_of_mem _ (List.mem_cons_of_mem _ (List.mem_cons_of_mem _ (List.mem_cons_of_mem _ mm5)))))))))) 1, St.cells_mem H3.out (List.mem_cons_of_mem _ (List.mem_cons_of_mem _ (List.mem_cons_of_mem _ (List.mem_cons_of_mem _ (List.mem_cons_of_mem _ (List.mem_cons_of_mem _ (List.mem_cons_of_mem _ (List.mem_cons_of_mem _ (List.mem_cons_of_mem _ (List.mem_cons_of_mem _ mm5)))))))))) 2, St.cells_mem H3.out (List.mem_cons_of_mem _ (List.mem_cons_of_mem _ (List.mem_cons_of_mem _ (List.mem_cons_of_mem _ (List.mem_cons_of_mem _ (List.mem_cons_of_mem _ (List.mem_cons_of_mem _ (List.mem_cons_of_mem _ (List.mem_cons_of_mem _ (List.mem_cons_of_mem _ mm5)))))))))) 3⟩ (fun hHeld => ?_)
      clear hK K
      refine norm_ (a' := ?_) ?_ ?_
      rotate_left
      ·show Act.put _ (some 20) _ = _
       simp only [Act.put, List.setIfInBounds_toArray, List.set_cons_zero, List.set_cons_succ, i64_w, i32_w]
       rfl
      exact norm_ (by simp only [putAll, Act.put, List.setIfInBounds_toArray, List.set_cons_zero, List.set_cons_succ]) (hCont (yc, Pq, nq) _ (H3.out))
     ·skip
      refine value_ (w1 := ?_) (v := ?_) (by rfl) rfl ?_ ?_
      rotate_left 2
      ·go_simp
       constructor
       ·rfl
       ·rfl
      have H2 := Lib.hid (H1.out.alloc' rfl [.int .i64 0, .int .i64 0, .slice none 0 0] 55)
      refine hK.out _ _ ⟨St.cells_mem H2.out (List.mem_cons_of_mem _ (List.mem_cons_of_mem _ (List.mem_cons_of_mem _ (List.mem_cons_of_mem _ (List.mem_cons_of_mem _ (List.mem_cons_of_mem _ (List.mem_cons_of_mem _ mm5))))))) 0, St.cells_mem H2.out (List.mem_cons_of_mem _ (List.mem_cons_of_mem _ (List.mem_cons_of_mem _ (List.mem_cons_of_mem _ (List.mem_cons_of_mem _ (List.mem_cons_of_mem _ (List.mem_cons_of_mem _ mm5))))))) 1, St.cells_mem H2.out (List.mem_cons_of_mem _ (List.mem_cons_of_mem _ (List.mem_cons_of_mem _ (List.mem_cons_of_mem _ (List.mem_cons_of_mem _ (List.mem_cons_of_mem _ (List.mem_cons_of_mem _ mm5))))))) 2, St.cells_mem H2.out (List.mem_cons_of_mem _ (List.mem_cons_of_mem _ (List.mem_cons_of_mem _ (List.mem_cons_of_mem _ (List.mem_cons_of_mem _ (List.mem_cons_of_mem _ (List.mem_cons_of_mem _ mm5))))))) 3, St.cells_mem H2.out (List.mem_cons_of_mem _ (List.mem_cons_of_mem _ (List.mem_cons_of_mem _ (List.mem_cons_of_mem _ (List.mem_cons_of_mem _ (List.mem_cons_of_mem _ (List.mem_cons_of_mem _ mm5))))))) 4, St.cells_mem H2.out (List.mem_cons_of_mem _ (List.mem_cons_of_mem _ (List.mem_cons_of_mem _ (List.mem_cons_of_mem _ (List.mem_cons_of_mem _ (List.mem_cons_of_mem _ (List.mem_cons_of_mem _ (List.mem_cons_of_mem _ (List.mem_cons_of_mem _ mm5))))))))) 0, St.cells_mem H2.out (List.mem_cons_of_mem _ (List.mem_cons_of_mem _ (List.mem_cons_of_mem _ (List.mem_cons_of_mem _ (List.mem_cons_of_mem _ (List.mem_cons_of_mem _ (List.mem_cons_of_mem _ (List.mem_cons_of_mem _ (List.mem_cons_of_mem _ mm5))))))))) 1, St.cells_mem H2.out (List.mem_cons_of_mem _ (List.mem_cons_of_mem _ (List.mem_cons_of_mem _ (List.mem_cons_of_mem _ (List.mem_cons_of_mem _ (List.mem_cons_of_mem _ (List.mem_cons_of_mem _ (List.mem_cons_of_mem _ (List.mem_cons_of_mem _ mm5))))))))) 2, St.cells_mem H2.out (List.mem_cons_of_mem _ (List.mem_cons_of_mem _ (List.mem_cons_of_mem _ (List.mem_cons_of_mem _ (List.mem_cons_of_mem _ (List.mem_cons_of_mem _ (List.mem_cons_of_mem _ (List.mem_cons_of_mem _ (List.mem_cons_of_mem _ mm5))))))))) 3⟩ (fun hHeld => ?_)
      clear hK K
      refine norm_ (a' := ?_) ?_ ?_
      rotate_left
      ·show Act.put _ (some 20) _ = _
       simp only [Act.put, List.setIfInBounds_toArray, List.set_cons_zero, List.set_cons_succ, i64_w, i32_w]
       rfl
      refine one_ (i := 5) (N := some 76) #[true, true, true, true, true, true, false, false, false, true, false, false] rfl rfl (by kernel_rfl) (by decide) (fun K hK => ?_)
      have hg_ : St (top W) (G :: _) _ := St.bring H2.out 11
      refine goes_ Try.func35 (by kernel_rfl) rfl #[.agg #[.int .i64 a, .int .i64 b, .int .i64 c, .bool d, .slice Ag nL capg], .int .i64 (wrap64 (1 - pn)), .agg #[.int .i64 rx, .int .i64 ry, .int .i64 rw, .int .i64 rh]] (by rfl) rfl rfl (by simp only [List.map_toArray, List.map_cons, List.map_nil]; rfl) ?_
      with_reducible refine (CR2.out _ (HGC.out _ _ hg_) HCG.out).mono ?_
      rintro en yc ⟨vq, rfl, hR, hb⟩
      refine ⟨_, rfl, ?_⟩
      obtain ⟨Pq, nq, rfl, -, -⟩ := Kd.R_reads hR
      have H3 := Lib.hid (H2.out.of_R hb hR)
      clear hR hb hg_
      refine hK.out _ _ ⟨St.cells_mem H3.out (List.mem_cons_of_mem _ (List.mem_cons_of_mem _ (List.mem_cons_of_mem _ (List.mem_cons_of_mem _ (List.mem_cons_of_mem _ (List.mem_cons_of_mem _ (List.mem_cons_of_mem _ (List.mem_cons_of_mem _ mm5)))))))) 0, St.cells_mem H3.out (List.mem_cons_of_mem _ (List.mem_cons_of_mem _ (List.mem_cons_of_mem _ (List.mem_cons_of_mem _ (List.mem_cons_of_mem _ (List.mem_cons_of_mem _ (List.mem_cons_of_mem _ (List.mem_cons_of_mem _ mm5)))))))) 1, St.cells_mem H3.out (List.mem_cons_of_mem _ (List.mem_cons_of_mem _ (List.mem_cons_of_mem _ (List.mem_cons_of_mem _ (List.mem_cons_of_mem _ (List.mem_cons_of_mem _ (List.mem_cons_of_mem _ (List.mem_cons_of_mem _ mm5)))))))) 2, St.cells_mem H3.out (List.mem_cons_of_mem _ (List.mem_cons_of_mem _ (List.mem_cons_of_mem _ (List.mem_cons_of_mem _ (List.mem_cons_of_mem _ (List.mem_cons_of_mem _ (List.mem_cons_of_mem _ (List.mem_cons_of_mem _ mm5)))))))) 3, St.cells_mem H3.out (List.mem_cons_of_mem _ (List.mem_cons_of_mem _ (List.mem_cons_of_mem _ (List.mem_cons_of_mem _ (List.mem_cons_of_mem _ (List.mem_cons_of_mem _ (List.mem_cons_of_mem _ (List.mem_cons_of_mem _ mm5)))))))) 4, St.cells_mem H3.out (List.mem_cons_of_mem _ (List.mem_cons_of_mem _ (List.mem_cons_of_mem _ (List.mem_cons_of_mem _ (List.mem_cons_of_mem _ (List.mem_cons_of_mem _ (List.mem_cons_of_mem _ (List.mem_cons_of_mem _ (List.mem_cons_of_mem _ (List.mem_cons_of_mem _ mm5)))))))))) 0, St.cells_mem H3.out (List.mem_cons_of_mem _ (List.mem_cons_of_mem _ (List.mem_cons_of_mem _ (List.mem_cons_of_mem _ (List.mem_cons_of_mem _ (List.mem_cons_of_mem _ (List.mem_cons_of_mem _ (List.mem_cons_of_mem _ (List.mem_cons_of_mem _ (List.mem_cons_of_mem _ mm5)))))))))) 1, St.cells_mem H3.out (List.mem_cons_of_mem _ (List.mem_cons_of_mem _ (List.mem_cons_of_mem _ (List.mem_cons_of_mem _ (List.mem_cons_of_mem _ (List.mem_cons_of_mem _ (List.mem_cons_of_mem _ (List.mem_cons_of_mem _ (List.mem_cons_of_mem _ (List.mem_cons_of_mem _ mm5)))))))))) 2, St.cells_mem H3.out (List.mem_cons_of_mem _ (List.mem_cons_of_mem _ (List.mem_cons_of_mem _ (List.mem_cons_of_mem _ (List.mem_cons_of_mem _ (List.mem_cons_of_mem _ (List.mem_cons_of_mem _ (List.mem_cons_of_mem _ (List.mem_cons_of_mem _ (List.mem_cons_of_mem _ mm5)))))))))) 3⟩ (fun hHeld => ?_)
      clear hK K
      refine norm_ (a' := ?_) ?_ ?_
      rotate_left
      ·show Act.put _ (some 76) _ = _
       simp only [Act.put, List.setIfInBounds_toArray, List.set_cons_zero, List.set_cons_succ, i64_w, i32_w]
       rfl
      refine pure_ (i := 6) (N := some 70) (v := ?_) (a' := ?_) #[true, true, true, true, true, true, true, false, false, true, false, false] rfl rfl (by kernel_rfl) (fun _ _ _ h => h) (Or.inl ⟨by rfl, ?_⟩) ?_ ?_
      rotate_left
      ·intro w'
       go_simp
       with_reducible rfl
      rotate_left
      ·simp only [Act.put, List.setIfInBounds_toArray, List.set_cons_zero, List.set_cons_succ, i64_w, i32_w]
       rfl
      refine pure_ (i := 7) (N := some 77) (v := ?_) (a' := ?_) #[true, true, true, true, true, true, true, true, false, true, false, false] rfl rfl (by kernel_rfl) (fun _ _ _ h => h) (Or.inl ⟨by rfl, ?_⟩) ?_ ?_
      rotate_left
      ·intro w'
       go_simp
       with_reducible rfl
      rotate_left
      ·simp only [Act.put, List.setIfInBounds_toArray, List.set_cons_zero, List.set_cons_succ, i64_w, i32_w]
       rfl
      refine pure_ (i := 8) (N := some 78) (v := ?_) (a' := ?_) #[true, true, true, true, true, true, true, true, true, true, false, false] rfl rfl (by kernel_rfl) (fun _ _ _ h => h) (Or.inl ⟨by rfl, ?_⟩) ?_ ?_
      rotate_left
      ·intro w'
       go_simp
       with_reducible rfl
      rotate_left
      ·simp only [Act.put, List.setIfInBounds_toArray, List.set_cons_zero, List.set_cons_succ, i64_w, i32_w]
       rfl
      exact norm_ (by simp only [putAll, Act.put, List.setIfInBounds_toArray, List.set_cons_zero, List.set_cons_succ]) (hCont (yp, Pq, nq) _ (H3.out.swap))
    ·skip
     refine value_ (w1 := ?_) (v := ?_) (by rfl) rfl ?_ ?_
     rotate_left 2
     ·go_simp
      constructor
      ·rfl
      ·rfl
     have H1 := Lib.hid (H0.out.alloc' rfl [.int .i64 0, .int .i64 0, .slice none 0 0] 55)
     refine hK.out _ _ ⟨St.cells_mem H1.out (List.mem_cons_of_mem _ (List.mem_cons_of_mem _ (List.mem_cons_of_mem _ (List.mem_cons_of_mem _ (List.mem_cons_of_mem _ (List.mem_cons_of_mem _ (List.mem_cons_of_mem _ mm5))))))) 0, St.cells_mem H1.out (List.mem_cons_of_mem _ (List.mem_cons_of_mem _ (List.mem_cons_of_mem _ (List.mem_cons_of_mem _ (List.mem_cons_of_mem _ (List.mem_cons_of_mem _ (List.mem_cons_of_mem _ mm5))))))) 1, St.cells_mem H1.out (List.mem_cons_of_mem _ (List.mem_cons_of_mem _ (List.mem_cons_of_mem _ (List.mem_cons_of_mem _ (List.mem_cons_of_mem _ (List.mem_cons_of_mem _ (List.mem_cons_of_mem _ mm5))))))) 2, St.cells_mem H1.out (List.mem_cons_of_mem _ (List.mem_cons_of_mem _ (List.mem_cons_of_mem _ (List.mem_cons_of_mem _ (List.mem_cons_of_mem _ (List.mem_cons_of_mem _ (List.mem_cons_of_mem _ mm5))))))) 3, St.cells_mem H1.out (List.mem_cons_of_mem _ (List.mem_cons_of_mem _ (List.mem_cons_of_mem _ (List.mem_cons_of_mem _ (List.mem_cons_of_mem _ (List.mem_cons_of_mem _ (List.mem_cons_of_mem _ mm5))))))) 4, St.cells_mem H1.out (List.mem_cons_of_mem _ (List.mem_cons_of_mem _ (List.mem_cons_of_mem _ (List.mem_cons_of_mem _ (List.mem_cons_of_mem _ (List.mem_cons_of_mem _ (List.mem_cons_of_mem _ (List.mem_cons_of_mem _ (List.mem_cons_of_mem _ mm5))))))))) 0, St.cells_mem H1.out (List.mem_cons_of_mem _ (List.mem_cons_of_mem _ (List.mem_cons_of_mem _ (List.mem_cons_of_mem _ (List.mem_cons_of_mem _ (List.mem_cons_of_mem _ (List.mem_cons_of_mem _ (List.mem_cons_of_mem _ (List.mem_cons_of_mem _ mm5))))))))) 1, St.cells_mem H1.out (List.mem_cons_of_mem _ (List.mem_cons_of_mem _ (List.mem_cons_of_mem _ (List.mem_cons_of_mem _ (List.mem_cons_of_mem _ (List.mem_cons_of_mem _ (List.mem_cons_of_mem _ (List.mem_cons_of_mem _ (List.mem_cons_of_mem _ mm5))))))))) 2, St.cells_mem H1.out (List.mem_cons_of_mem _ (List.mem_cons_of_mem _ (List.mem_cons_of_mem _ (List.mem_cons_of_mem _ (List.mem_cons_of_mem _ (List.mem_cons_of_mem _ (List.mem_cons_of_mem _ (List.mem_cons_of_mem _ (List.mem_cons_of_mem _ mm5))))))))) 3⟩ (fun hHeld => ?_)
     clear hK K
     refine norm_ (a' := ?_) ?_ ?_
     rotate_left
     ·show Act.put _ (some 20) _ = _
      simp only [Act.put, List.setIfInBounds_toArray, List.set_cons_zero, List.set_cons_succ, i64_w, i32_w]
      rfl
     refine one_ (i := 2) (N := some 73) #[true, true, true, false, true, false, false, false, false, true, false, false] rfl rfl (by kernel_rfl) (by decide) (fun K hK => ?_)
     refine goes_ Try.func34 (by kernel_rfl) rfl #[.int .i64 n0, .int .i64 2] (by rfl) rfl rfl (by simp only [List.map_toArray, List.map_cons, List.map_nil]; rfl) ?_
     with_reducible refine (dailieslaw06_place.calls n0 2 pn _ HPL.out).mono ?_
     rintro en yp ⟨rfl, hb⟩
     refine ⟨_, rfl, ?_⟩
     have H2 := Lib.hid (H1.out.of_below hb.below)
     clear hb
     refine hK.out _ _ ⟨St.cells_mem H2.out (List.mem_cons_of_mem _ (List.mem_cons_of_mem _ (List.mem_cons_of_mem _ (List.mem_cons_of_mem _ (List.mem_cons_of_mem _ (List.mem_cons_of_mem _ (List.mem_cons_of_mem _ mm5))))))) 0, St.cells_mem H2.out (List.mem_cons_of_mem _ (List.mem_cons_of_mem _ (List.mem_cons_of_mem _ (List.mem_cons_of_mem _ (List.mem_cons_of_mem _ (List.mem_cons_of_mem _ (List.mem_cons_of_mem _ mm5))))))) 1, St.cells_mem H2.out (List.mem_cons_of_mem _ (List.mem_cons_of_mem _ (List.mem_cons_of_mem _ (List.mem_cons_of_mem _ (List.mem_cons_of_mem _ (List.mem_cons_of_mem _ (List.mem_cons_of_mem _ mm5))))))) 2, St.cells_mem H2.out (List.mem_cons_of_mem _ (List.mem_cons_of_mem _ (List.mem_cons_of_mem _ (List.mem_cons_of_mem _ (List.mem_cons_of_mem _ (List.mem_cons_of_mem _ (List.mem_cons_of_mem _ mm5))))))) 3, St.cells_mem H2.out (List.mem_cons_of_mem _ (List.mem_cons_of_mem _ (List.mem_cons_of_mem _ (List.mem_cons_of_mem _ (List.mem_cons_of_mem _ (List.mem_cons_of_mem _ (List.mem_cons_of_mem _ mm5))))))) 4, St.cells_mem H2.out (List.mem_cons_of_mem _ (List.mem_cons_of_mem _ (List.mem_cons_of_mem _ (List.mem_cons_of_mem _ (List.mem_cons_of_mem _ (List.mem_cons_of_mem _ (List.mem_cons_of_mem _ (List.mem_cons_of_mem _ (List.mem_cons_of_mem _ mm5))))))))) 0, St.cells_mem H2.out (List.mem_cons_of_mem _ (List.mem_cons_of_mem _ (List.mem_cons_of_mem _ (List.mem_cons_of_mem _ (List.mem_cons_of_mem _ (List.mem_cons_of_mem _ (List.mem_cons_of_mem _ (List.mem_cons_of_mem _ (List.mem_cons_of_mem _ mm5))))))))) 1, St.cells_mem H2.out (List.mem_cons_of_mem _ (List.mem_cons_of_mem _ (List.mem_cons_of_mem _ (List.mem_cons_of_mem _ (List.mem_cons_of_mem _ (List.mem_cons_of_mem _ (List.mem_cons_of_mem _ (List.mem_cons_of_mem _ (List.mem_cons_of_mem _ mm5))))))))) 2, St.cells_mem H2.out (List.mem_cons_of_mem _ (List.mem_cons_of_mem _ (List.mem_cons_of_mem _ (List.mem_cons_of_mem _ (List.mem_cons_of_mem _ (List.mem_cons_of_mem _ (List.mem_cons_of_mem _ (List.mem_cons_of_mem _ (List.mem_cons_of_mem _ mm5))))))))) 3⟩ (fun hHeld => ?_)
     clear hK K
     refine norm_ (a' := ?_) ?_ ?_
     rotate_left
     ·show Act.put _ (some 73) _ = _
      simp only [Act.put, List.setIfInBounds_toArray, List.set_cons_zero, List.set_cons_succ, i64_w, i32_w]
      rfl
     refine pure_ (i := 3) (N := some 74) (v := ?_) (a' := ?_) #[true, true, true, true, true, false, false, false, false, true, false, false] rfl rfl (by kernel_rfl) (fun _ _ _ h => h) (Or.inl ⟨by rfl, ?_⟩) ?_ ?_
     rotate_left
     ·intro w'
      go_simp
      with_reducible rfl
     rotate_left
     ·simp only [Act.put, List.setIfInBounds_toArray, List.set_cons_zero, List.set_cons_succ, i64_w, i32_w]
      rfl
     refine one_ (i := 5) (N := some 76) #[true, true, true, true, true, true, false, false, false, true, false, false] rfl rfl (by kernel_rfl) (by decide) (fun K hK => ?_)
     have hg_ : St (top W) (G :: _) _ := St.bring H2.out 11
     refine goes_ Try.func35 (by kernel_rfl) rfl #[.agg #[.int .i64 a, .int .i64 b, .int .i64 c, .bool d, .slice Ag nL capg], .int .i64 (wrap64 (1 - pn)), .agg #[.int .i64 rx, .int .i64 ry, .int .i64 rw, .int .i64 rh]] (by rfl) rfl rfl (by simp only [List.map_toArray, List.map_cons, List.map_nil]; rfl) ?_
     with_reducible refine (CR2.out _ (HGC.out _ _ hg_) HCG.out).mono ?_
     rintro en yc ⟨vq, rfl, hR, hb⟩
     refine ⟨_, rfl, ?_⟩
     obtain ⟨Pq, nq, rfl, -, -⟩ := Kd.R_reads hR
     have H3 := Lib.hid (H2.out.of_R hb hR)
     clear hR hb hg_
     refine hK.out _ _ ⟨St.cells_mem H3.out (List.mem_cons_of_mem _ (List.mem_cons_of_mem _ (List.mem_cons_of_mem _ (List.mem_cons_of_mem _ (List.mem_cons_of_mem _ (List.mem_cons_of_mem _ (List.mem_cons_of_mem _ (List.mem_cons_of_mem _ mm5)))))))) 0, St.cells_mem H3.out (List.mem_cons_of_mem _ (List.mem_cons_of_mem _ (List.mem_cons_of_mem _ (List.mem_cons_of_mem _ (List.mem_cons_of_mem _ (List.mem_cons_of_mem _ (List.mem_cons_of_mem _ (List.mem_cons_of_mem _ mm5)))))))) 1, St.cells_mem H3.out (List.mem_cons_of_mem _ (List.mem_cons_of_mem _ (List.mem_cons_of_mem _ (List.mem_cons_of_mem _ (List.mem_cons_of_mem _ (List.mem_cons_of_mem _ (List.mem_cons_of_mem _ (List.mem_cons_of_mem _ mm5)))))))) 2, St.cells_mem H3.out (List.mem_cons_of_mem _ (List.mem_cons_of_mem _ (List.mem_cons_of_mem _ (List.mem_cons_of_mem _ (List.mem_cons_of_mem _ (List.mem_cons_of_mem _ (List.mem_cons_of_mem _ (List.mem_cons_of_mem _ mm5)))))))) 3, St.cells_mem H3.out (List.mem_cons_of_mem _ (List.mem_cons_of_mem _ (List.mem_cons_of_mem _ (List.mem_cons_of_mem _ (List.mem_cons_of_mem _ (List.mem_cons_of_mem _ (List.mem_cons_of_mem _ (List.mem_cons_of_mem _ mm5)))))))) 4, St.cells_mem H3.out (List.mem_cons_of_mem _ (List.mem_cons_of_mem _ (List.mem_cons_of_mem _ (List.mem_cons_of_mem _ (List.mem_cons_of_mem _ (List.mem_cons_of_mem _ (List.mem_cons_of_mem _ (List.mem_cons_of_mem _ (List.mem_cons_of_mem _ (List.mem_cons_of_mem _ mm5)))))))))) 0, St.cells_mem H3.out (List.mem_cons_of_mem _ (List.mem_cons_of_mem _ (List.mem_cons_of_mem _ (List.mem_cons_of_mem _ (List.mem_cons_of_mem _ (List.mem_cons_of_mem _ (List.mem_cons_of_mem _ (List.mem_cons_of_mem _ (List.mem_cons_of_mem _ (List.mem_cons_of_mem _ mm5)))))))))) 1, St.cells_mem H3.out (List.mem_cons_of_mem _ (List.mem_cons_of_mem _ (List.mem_cons_of_mem _ (List.mem_cons_of_mem _ (List.mem_cons_of_mem _ (List.mem_cons_of_mem _ (List.mem_cons_of_mem _ (List.mem_cons_of_mem _ (List.mem_cons_of_mem _ (List.mem_cons_of_mem _ mm5)))))))))) 2, St.cells_mem H3.out (List.mem_cons_of_mem _ (List.mem_cons_of_mem _ (List.mem_cons_of_mem _ (List.mem_cons_of_mem _ (List.mem_cons_of_mem _ (List.mem_cons_of_mem _ (List.mem_cons_of_mem _ (List.mem_cons_of_mem _ (List.mem_cons_of_mem _ (List.mem_cons_of_mem _ mm5)))))))))) 3⟩ (fun hHeld => ?_)
     clear hK K
     refine norm_ (a' := ?_) ?_ ?_
     rotate_left
     ·show Act.put _ (some 76) _ = _
      simp only [Act.put, List.setIfInBounds_toArray, List.set_cons_zero, List.set_cons_succ, i64_w, i32_w]
      rfl
     refine pure_ (i := 6) (N := some 70) (v := ?_) (a' := ?_) #[true, true, true, true, true, true, true, false, false, true, false, false] rfl rfl (by kernel_rfl) (fun _ _ _ h => h) (Or.inl ⟨by rfl, ?_⟩) ?_ ?_
     rotate_left
     ·intro w'
      go_simp
      with_reducible rfl
     rotate_left
     ·simp only [Act.put, List.setIfInBounds_toArray, List.set_cons_zero, List.set_cons_succ, i64_w, i32_w]
      rfl
     refine pure_ (i := 7) (N := some 77) (v := ?_) (a' := ?_) #[true, true, true, true, true, true, true, true, false, true, false, false] rfl rfl (by kernel_rfl) (fun _ _ _ h => h) (Or.inl ⟨by rfl, ?_⟩) ?_ ?_
     rotate_left
     ·intro w'
      go_simp
      with_reducible rfl
     rotate_left
     ·simp only [Act.put, List.setIfInBounds_toArray, List.set_cons_zero, List.set_cons_succ, i64_w, i32_w]
      rfl
     refine pure_ (i := 8) (N := some 78) (v := ?_) (a' := ?_) #[true, true, true, true, true, true, true, true, true, true, false, false] rfl rfl (by kernel_rfl) (fun _ _ _ h => h) (Or.inl ⟨by rfl, ?_⟩) ?_ ?_
     rotate_left
     ·intro w'
      go_simp
      with_reducible rfl
     rotate_left
     ·simp only [Act.put, List.setIfInBounds_toArray, List.set_cons_zero, List.set_cons_succ, i64_w, i32_w]
      rfl
     exact norm_ (by simp only [putAll, Act.put, List.setIfInBounds_toArray, List.set_cons_zero, List.set_cons_succ]) (hCont (wq, Pq, nq) _ (H3.out.swap))
   rintro ⟨w14, P5, n5⟩ x2 hF
   have H3 := Lib.hid hF
   simp only at H3
   have hHeld : x2.cell? ⟨(gX + 1), 0, none⟩ = some (.int .i64 a) ∧ x2.cell? ⟨(gX + 1), 1, none⟩ = some (.int .i64 b) ∧ x2.cell? ⟨(gX + 1), 2, none⟩ = some (.int .i64 c) ∧ x2.cell? ⟨(gX + 1), 3, none⟩ = some (.bool d) ∧ x2.cell? ⟨(gX + 1), 4, none⟩ = some (.slice Ag nL capg) ∧ x2.cell? ⟨(W.heap.size + 1), 0, none⟩ = some (.int .i64 rx) ∧ x2.cell? ⟨(W.heap.size + 1), 1, none⟩ = some (.int .i64 ry) ∧ x2.cell? ⟨(W.heap.size + 1), 2, none⟩ = some (.int .i64 rw) ∧ x2.cell? ⟨(W.heap.size + 1), 3, none⟩ = some (.int .i64 rh) := ⟨St.cells_mem H3.out (List.mem_cons_of_mem _ (List.mem_cons_of_mem _ (List.mem_cons_of_mem _ (List.mem_cons_of_mem _ (List.mem_cons_of_mem _ (List.mem_cons_of_mem _ (List.mem_cons_of_mem _ (List.mem_cons_of_mem _ mm5)))))))) 0, St.cells_mem H3.out (List.mem_cons_of_mem _ (List.mem_cons_of_mem _ (List.mem_cons_of_mem _ (List.mem_cons_of_mem _ (List.mem_cons_of_mem _ (List.mem_cons_of_mem _ (List.mem_cons_of_mem _ (List.mem_cons_of_mem _ mm5)))))))) 1, St.cells_mem H3.out (List.mem_cons_of_mem _ (List.mem_cons_of_mem _ (List.mem_cons_of_mem _ (List.mem_cons_of_mem _ (List.mem_cons_of_mem _ (List.mem_cons_of_mem _ (List.mem_cons_of_mem _ (List.mem_cons_of_mem _ mm5)))))))) 2, St.cells_mem H3.out (List.mem_cons_of_mem _ (List.mem_cons_of_mem _ (List.mem_cons_of_mem _ (List.mem_cons_of_mem _ (List.mem_cons_of_mem _ (List.mem_cons_of_mem _ (List.mem_cons_of_mem _ (List.mem_cons_of_mem _ mm5)))))))) 3, St.cells_mem H3.out (List.mem_cons_of_mem _ (List.mem_cons_of_mem _ (List.mem_cons_of_mem _ (List.mem_cons_of_mem _ (List.mem_cons_of_mem _ (List.mem_cons_of_mem _ (List.mem_cons_of_mem _ (List.mem_cons_of_mem _ mm5)))))))) 4, St.cells_mem H3.out (List.mem_cons_of_mem _ (List.mem_cons_of_mem _ (List.mem_cons_of_mem _ (List.mem_cons_of_mem _ (List.mem_cons_of_mem _ (List.mem_cons_of_mem _ (List.mem_cons_of_mem _ (List.mem_cons_of_mem _ (List.mem_cons_of_mem _ (List.mem_cons_of_mem _ mm5)))))))))) 0, St.cells_mem H3.out (List.mem_cons_of_mem _ (List.mem_cons_of_mem _ (List.mem_cons_of_mem _ (List.mem_cons_of_mem _ (List.mem_cons_of_mem _ (List.mem_cons_of_mem _ (List.mem_cons_of_mem _ (List.mem_cons_of_mem _ (List.mem_cons_of_mem _ (List.mem_cons_of_mem _ mm5)))))))))) 1, St.cells_mem H3.out (List.mem_cons_of_mem _ (List.mem_cons_of_mem _ (List.mem_cons_of_mem _ (List.mem_cons_of_mem _ (List.mem_cons_of_mem _ (List.mem_cons_of_mem _ (List.mem_cons_of_mem _ (List.mem_cons_of_mem _ (List.mem_cons_of_mem _ (List.mem_cons_of_mem _ mm5)))))))))) 2, St.cells_mem H3.out (List.mem_cons_of_mem _ (List.mem_cons_of_mem _ (List.mem_cons_of_mem _ (List.mem_cons_of_mem _ (List.mem_cons_of_mem _ (List.mem_cons_of_mem _ (List.mem_cons_of_mem _ (List.mem_cons_of_mem _ (List.mem_cons_of_mem _ (List.mem_cons_of_mem _ mm5)))))))))) 3⟩
   clear hF H0
   generalize w14.heap.size = gS at *
   refine norm_ (a' := ?_) ?_ ?_
   rotate_left
   ·simp only [putAll, Act.put, List.setIfInBounds_toArray, List.set_cons_zero, List.set_cons_succ]
    rfl
   refine last_ (i := 10) (N := none) #[true, true, true, true, true, true, true, true, true, true, true, false] rfl rfl (by kernel_rfl) (by decide) (fun K hK => ?_)
   obtain ⟨z0, z1, z2⟩ := H3.out.cells3 mm0
   have zf0 := H3.out.frozen 0
   have zf1 := H3.out.frozen 1
   have zf2 := H3.out.frozen 2
   refine skip_ (w1 := ?_) (by rfl) rfl ?_ ?_
   rotate_left
   ·go_simp
    rfl
   refine hK.out _ _ ?_
   clear hK K
   refine pure_ (i := 11) (N := some 21) (v := ?_) (a' := ?_) #[true, true, true, true, true, true, true, true, true, true, true, true] rfl rfl (by kernel_rfl) (fun _ _ _ h => h) (Or.inl ⟨by rfl, ?_⟩) ?_ ?_
   rotate_left
   ·intro w'
    go_simp
    with_reducible rfl
   rotate_left
   ·simp only [Act.put, List.setIfInBounds_toArray, List.set_cons_zero, List.set_cons_succ, i64_w, i32_w]
    rfl
   refine done_ (by kernel_rfl) ?_
   have H7 := Lib.hid (((H3.out.setCell 0 (.int .i64 e1)).setCell 1 (.int .i64 e2)).setCell 2 (.slice P5 dl.length n5))
   clear H3 z0 z1 z2 zf0 zf1 zf2
   obtain ⟨p0, p1, p2⟩ := H7.out.cells3 (List.mem_cons_of_mem _ (List.mem_cons_of_mem _ (List.mem_cons_of_mem _ mm5)))
   obtain ⟨q0, q1, q2⟩ := H7.out.cells3 mm2
   go_wp2_with fail
   refine (dailieslaw06_sameBlock.calls (0 + cl.length + 2) u1 u2 P1 n1 cl u1 u2 P4 n4 cl true _ (St.bring H7.out 9).innerC'.2.2 (St.bring H7.out 9).innerC'.2.1 (St.bring H7.out 3).innerC'.2.2 (St.bring H7.out 3).innerC'.2.1 SB1.out).mono ?_
   rintro en w8 ⟨rfl, hb⟩
   have H8 := Lib.hid (H7.out.of_below hb)
   clear H7 hb p0 p1 p2 q0 q1 q2
   obtain ⟨p0, p1, p2⟩ := H8.out.cells3 (List.mem_cons_of_mem _ mm5)
   obtain ⟨q0, q1, q2⟩ := H8.out.cells3 mm0
   go_wp2_with fail
   refine (dailieslaw06_sameBlock.calls (0 + dl.length + 2) e1 e2 P2 n2 dl e1 e2 P5 n5 dl true _ (St.bring H8.out 7).innerC'.2.2 (St.bring H8.out 7).innerC'.2.1 (St.bring H8.out 1).innerC'.2.2 (St.bring H8.out 1).innerC'.2.1 SB2.out).mono ?_
   rintro en w9 ⟨rfl, hb⟩
   have H9 := Lib.hid (H8.out.of_below hb)
   clear H8 hb p0 p1 p2 q0 q1 q2
   obtain ⟨p0, p1, p2⟩ := H9.out.cells3 mm4
   obtain ⟨q0, q1, q2⟩ := H9.out.cells3 mm2
   go_wp2_with fail
   refine (dailieslaw06_sameBlock.calls (0 + cl.length + 2) u1 u2 P3 n3 cl u1 u2 P4 n4 cl true _ (St.bring H9.out 5).innerC'.2.2 (St.bring H9.out 5).innerC'.2.1 (St.bring H9.out 3).innerC'.2.2 (St.bring H9.out 3).innerC'.2.1 SB1.out).mono ?_
   rintro en w10 ⟨rfl, hb⟩
   have HY := Lib.hid (H9.out.of_below hb)
   clear H9 hb p0 p1 p2 q0 q1 q2
   have t_u : (u4 != u4) = false := by simp
   have t_e : (e4 != e4) = false := by simp
   by_cases ht0 : t = 0
   ·have hll := HT0.out ht0
    have HY0 := HY
    clear HY
    have t_t : decide ((0 : Int) < (t : Int)) = false := decide_eq_false (by omega)
    have q0 := St.cells_mem HY0.out (List.mem_cons_of_mem _ (List.mem_cons_of_mem _ (List.mem_cons_of_mem _ (List.mem_cons_of_mem _ (List.mem_cons_of_mem _ (List.mem_cons_of_mem _ (List.mem_cons_of_mem _ (List.mem_cons_of_mem _ (List.mem_cons_of_mem _ mm5))))))))) 0
    have q1 := St.cells_mem HY0.out (List.mem_cons_of_mem _ (List.mem_cons_of_mem _ (List.mem_cons_of_mem _ (List.mem_cons_of_mem _ (List.mem_cons_of_mem _ (List.mem_cons_of_mem _ (List.mem_cons_of_mem _ (List.mem_cons_of_mem _ (List.mem_cons_of_mem _ mm5))))))))) 1
    have q2 := St.cells_mem HY0.out (List.mem_cons_of_mem _ (List.mem_cons_of_mem _ (List.mem_cons_of_mem _ (List.mem_cons_of_mem _ (List.mem_cons_of_mem _ (List.mem_cons_of_mem _ (List.mem_cons_of_mem _ (List.mem_cons_of_mem _ (List.mem_cons_of_mem _ mm5))))))))) 2
    have q3 := St.cells_mem HY0.out (List.mem_cons_of_mem _ (List.mem_cons_of_mem _ (List.mem_cons_of_mem _ (List.mem_cons_of_mem _ (List.mem_cons_of_mem _ (List.mem_cons_of_mem _ (List.mem_cons_of_mem _ (List.mem_cons_of_mem _ (List.mem_cons_of_mem _ mm5))))))))) 3
    have q4 := St.cells_mem HY0.out (List.mem_cons_of_mem _ (List.mem_cons_of_mem _ (List.mem_cons_of_mem _ (List.mem_cons_of_mem _ (List.mem_cons_of_mem _ (List.mem_cons_of_mem _ (List.mem_cons_of_mem _ (List.mem_cons_of_mem _ (List.mem_cons_of_mem _ mm5))))))))) 4
    have q5 := St.cells_mem HY0.out (List.mem_cons_of_mem _ (List.mem_cons_of_mem _ (List.mem_cons_of_mem _ (List.mem_cons_of_mem _ (List.mem_cons_of_mem _ (List.mem_cons_of_mem _ (List.mem_cons_of_mem _ (List.mem_cons_of_mem _ (List.mem_cons_of_mem _ mm5))))))))) 5
    have q6 := St.cells_mem HY0.out (List.mem_cons_of_mem _ (List.mem_cons_of_mem _ (List.mem_cons_of_mem _ (List.mem_cons_of_mem _ (List.mem_cons_of_mem _ (List.mem_cons_of_mem _ (List.mem_cons_of_mem _ (List.mem_cons_of_mem _ (List.mem_cons_of_mem _ mm5))))))))) 6
    have y0 := St.cells_mem HY0.out (List.mem_cons_of_mem _ (List.mem_cons_of_mem _ (List.mem_cons_of_mem _ (List.mem_cons_of_mem _ (List.mem_cons_of_mem _ (List.mem_cons_of_mem _ (List.mem_cons_of_mem _ (List.mem_cons_of_mem _ (List.mem_cons_of_mem _ (List.mem_cons_of_mem _ (List.mem_cons_of_mem _ mm5))))))))))) 0
    have y1 := St.cells_mem HY0.out (List.mem_cons_of_mem _ (List.mem_cons_of_mem _ (List.mem_cons_of_mem _ (List.mem_cons_of_mem _ (List.mem_cons_of_mem _ (List.mem_cons_of_mem _ (List.mem_cons_of_mem _ (List.mem_cons_of_mem _ (List.mem_cons_of_mem _ (List.mem_cons_of_mem _ (List.mem_cons_of_mem _ mm5))))))))))) 1
    have y2 := St.cells_mem HY0.out (List.mem_cons_of_mem _ (List.mem_cons_of_mem _ (List.mem_cons_of_mem _ (List.mem_cons_of_mem _ (List.mem_cons_of_mem _ (List.mem_cons_of_mem _ (List.mem_cons_of_mem _ (List.mem_cons_of_mem _ (List.mem_cons_of_mem _ (List.mem_cons_of_mem _ (List.mem_cons_of_mem _ mm5))))))))))) 2
    have y3 := St.cells_mem HY0.out (List.mem_cons_of_mem _ (List.mem_cons_of_mem _ (List.mem_cons_of_mem _ (List.mem_cons_of_mem _ (List.mem_cons_of_mem _ (List.mem_cons_of_mem _ (List.mem_cons_of_mem _ (List.mem_cons_of_mem _ (List.mem_cons_of_mem _ (List.mem_cons_of_mem _ (List.mem_cons_of_mem _ mm5))))))))))) 3
    have y4 := St.cells_mem HY0.out (List.mem_cons_of_mem _ (List.mem_cons_of_mem _ (List.mem_cons_of_mem _ (List.mem_cons_of_mem _ (List.mem_cons_of_mem _ (List.mem_cons_of_mem _ (List.mem_cons_of_mem _ (List.mem_cons_of_mem _ (List.mem_cons_of_mem _ (List.mem_cons_of_mem _ (List.mem_cons_of_mem _ mm5))))))))))) 4
    simp only [List.getElem?_cons_zero, List.getElem?_cons_succ] at q0 q1 q2 q3 q4 q5 q6 y0 y1 y2 y3 y4
    go_wp2_with fail
    have hst := fun (w : World) hS hC => still_ok (top W) [blk gS [.int .i64 e1, .int .i64 e2, (.slice P5 dl.length n5)] 55, inner 72 .u16 (.slice P5 dl.length n5) dl, blk gD [.int .i64 u1, .int .i64 u2, (.slice P4 cl.length n4)] 55, inner 72 .u16 (.slice P4 cl.length n4) cl, blk gC [.int .i64 u1, .int .i64 u2, (.slice P3 cl.length n3)] 55, inner 72 .u16 (.slice P3 cl.length n3) cl, blk gQ [.int .i64 e1, .int .i64 e2, (.slice P2 dl.length n2)] 55, inner 72 .u16 (.slice P2 dl.length n2) dl, blk gA [.int .i64 u1, .int .i64 u2, (.slice P1 cl.length n1)] 55, inner 72 .u16 (.slice P1 cl.length n1) cl, book gB nb os, G, blk (gX + 1) [.int .i64 a, .int .i64 b, .int .i64 c, .bool d, .slice Ag nL capg] 39, blk gX [.int .i64 a, .int .i64 b, .int .i64 c, .bool d, .slice (some ⟨gL, 0, none⟩) nL (nL + 2), .slice aoA nL capA, .slice (some ⟨gL, 0, none⟩) (nL + 2) (nL + 2)] 46, blk (W.heap.size + 1) [.int .i64 rx, .int .i64 ry, .int .i64 rw, .int .i64 rh] 52, blk W.heap.size [.int .i64 a, .int .i64 b, .int .i64 c, .bool d, .slice A nL n] 39] w (.slice aoA nL capA) gL gs ls a b c d A n hS (by rw [HLN.out]; exact HGS'.out) hC (by rw [HLN.out]; exact HN'.out) (by rw [HLN.out]; exact hn2') HLs.out
    rw [HLN.out] at hst
    refine (hst _ (St.bring HY0.out 11) (by rw [hll, ← HNL.out]; exact Kd.C_below HC.out HY0.out.below)).mono ?_
    rintro en w11 ⟨rfl, hb⟩
    have HY := Lib.hid (HY0.out.of_below hb)
    clear HY0 hb q0 q1 q2 q3 q4 q5 q6 y0 y1 y2 y3 y4 hst hll
    have p2 := St.cells_mem HY.out (List.mem_cons_of_mem _ (List.mem_cons_of_mem _ (List.mem_cons_of_mem _ mm5))) 2
    have q2 := St.cells_mem HY.out (List.mem_cons_of_mem _ mm5) 2
    have r2 := St.cells_mem HY.out mm4 2
    simp only [List.getElem?_cons_zero, List.getElem?_cons_succ] at p2 q2 r2
    go_wp2_with fail
    clear t_t t_u t_e p2 q2 r2
    have h2 : St (top W) (row 53 1 (.slice (some ⟨_, 0, none⟩) 3 3) 3 [(.slice P1 cl.length n1), (.slice P2 dl.length n2), (.slice P3 cl.length n3)] :: inner 72 .u16 (.slice P1 cl.length n1) cl :: inner 72 .u16 (.slice P2 dl.length n2) dl :: inner 72 .u16 (.slice P3 cl.length n3) cl :: book gB nb os :: lentIs (.slice aoA nL capA) gL gs ls :: G :: blk (gX + 1) [.int .i64 a, .int .i64 b, .int .i64 c, .bool d, .slice Ag nL capg] 39 :: blk gX [.int .i64 a, .int .i64 b, .int .i64 c, .bool d, .slice (some ⟨gL, 0, none⟩) nL (nL + 2), .slice aoA nL capA, .slice (some ⟨gL, 0, none⟩) (nL + 2) (nL + 2)] 46 :: blk (W.heap.size + 1) [.int .i64 rx, .int .i64 ry, .int .i64 rw, .int .i64 rh] 52 :: blk W.heap.size [.int .i64 a, .int .i64 b, .int .i64 c, .bool d, .slice A nL n] 39 :: []) _ := ((((((((HY.out.rowLit3 rfl 53 (.slice P1 cl.length n1) (.slice P2 dl.length n2) (.slice P3 cl.length n3)).reo 18 [1, 2, 3, 4, 5, 7, 9, 0, 10, 8, 6, 11, 12, 13, 14, 15, 16, 17] (by decide)).drop).drop).drop).drop).drop).drop).drop
    have HM := Lib.hid h2.mat3.swap
    clear h2 HY
    refine (take_ok (top W) [lentIs (.slice aoA nL capA) gL gs ls, G, blk (gX + 1) [.int .i64 a, .int .i64 b, .int .i64 c, .bool d, .slice Ag nL capg] 39, blk gX [.int .i64 a, .int .i64 b, .int .i64 c, .bool d, .slice (some ⟨gL, 0, none⟩) nL (nL + 2), .slice aoA nL capA, .slice (some ⟨gL, 0, none⟩) (nL + 2) (nL + 2)] 46, blk (W.heap.size + 1) [.int .i64 rx, .int .i64 ry, .int .i64 rw, .int .i64 rh] 52, blk W.heap.size [.int .i64 a, .int .i64 b, .int .i64 c, .bool d, .slice A nL n] 39] _ gB nb os _ [cl, dl, cl] HM.out (fun l hl => by
     have hb : BIG = 134217728 := rfl
     simp only [List.mem_cons, List.not_mem_nil, or_false] at hl
     rcases hl with rfl | rfl | rfl <;> omega) (by omega)).mono ?_
    rintro en w12 ⟨rfl, hS⟩
    have H12 := Lib.hid hS
    clear HM hS
    go_wp2_with fail
    refine (own_ok (top W) [lentIs (.slice aoA nL capA) gL gs ls, G, blk (gX + 1) [.int .i64 a, .int .i64 b, .int .i64 c, .bool d, .slice Ag nL capg] 39, blk gX [.int .i64 a, .int .i64 b, .int .i64 c, .bool d, .slice (some ⟨gL, 0, none⟩) nL (nL + 2), .slice aoA nL capA, .slice (some ⟨gL, 0, none⟩) (nL + 2) (nL + 2)] 46, blk (W.heap.size + 1) [.int .i64 rx, .int .i64 ry, .int .i64 rw, .int .i64 rh] 52, blk W.heap.size [.int .i64 a, .int .i64 b, .int .i64 c, .bool d, .slice A nL n] 39] _ gB nb _ H12.out (by omega) (by simp; omega) (fun x hx => by
     simp only [List.mem_append, List.mem_cons, List.not_mem_nil, or_false] at hx
     rcases hx with hx | hx
     ·have := HOX.out x hx; omega
     ·subst hx; simp)).mono ?_
    rintro en w13 ⟨rfl, hS⟩
    have H13 := Lib.hid hS
    clear H12 hS
    have q0 := St.cells_mem H13.out mm4 0
    have q1 := St.cells_mem H13.out mm4 1
    have q2 := St.cells_mem H13.out mm4 2
    have q3 := St.cells_mem H13.out mm4 3
    have q4 := St.cells_mem H13.out mm4 4
    have q5 := St.cells_mem H13.out mm4 5
    have q6 := St.cells_mem H13.out mm4 6
    simp only [List.getElem?_cons_zero, List.getElem?_cons_succ] at q0 q1 q2 q3 q4 q5 q6
    go_wp2_with fail
    clear q0 q1 q2 q3 q4 q5 q6
    have hT := fun (w : World) R' hS => turn_ok (top W) R' w (.slice aoA nL capA) gL gs ls a b c d hS (by rw [HLN.out]; exact HGS'.out) (by rw [HLN.out]; exact hn2') HLs.out
    rw [HLN.out] at hT
    refine (hT _ _ H13.out.swap).mono ?_
    rintro en w14 ⟨v, rfl, hS⟩
    have hlm : (ls.map turnRow).length = nL := by rw [List.length_map]; exact HLN.out
    obtain ⟨A7, cap7, e7, hcap7, -⟩ := hS.matC
    rw [hlm] at e7 hcap7
    subst e7
    have HLM := Lib.hid hlm
    have HCAP := Lib.hid hcap7
    have x0 := St.cells_mem hS mm4 0
    have x1 := St.cells_mem hS mm4 1
    have x2 := St.cells_mem hS mm4 2
    have x3 := St.cells_mem hS mm4 3
    have x4 := St.cells_mem hS mm4 4
    simp only [List.getElem?_cons_zero, List.getElem?_cons_succ] at x0 x1 x2 x3 x4
    have hbg : St (top W) (blk (gX + 1) [.int .i64 a, .int .i64 b, .int .i64 c, .bool d, .slice Ag nL capg] 39 :: _) w14 := St.bring hS 4
    have y0 := hbg.frozen 0
    have y1 := hbg.frozen 1
    have y2 := hbg.frozen 2
    have y3 := hbg.frozen 3
    have y4 := hbg.frozen 4
    have h5 : St (top W) (blk (gX + 1) [.int .i64 a, .int .i64 b, .int .i64 c, .bool d, .slice A7 nL cap7] 39 :: mat 53 72 .u16 (.slice A7 nL cap7) (ls.map turnRow) :: lentIs (.slice aoA nL capA) gL gs (ls.map turnRow) :: book gB (2 * nb + 40 * (os ++ [3]).length) ((os ++ [3]).map (· + 2)) :: G :: blk gX [.int .i64 a, .int .i64 b, .int .i64 c, .bool d, .slice (some ⟨gL, 0, none⟩) nL (nL + 2), .slice aoA nL capA, .slice (some ⟨gL, 0, none⟩) (nL + 2) (nL + 2)] 46 :: blk (W.heap.size + 1) [.int .i64 rx, .int .i64 ry, .int .i64 rw, .int .i64 rh] 52 :: blk W.heap.size [.int .i64 a, .int .i64 b, .int .i64 c, .bool d, .slice A nL n] 39 :: []) _ := (((((hS.reo 8 [4, 0, 1, 2, 3, 5, 6, 7] (by decide)).setCell 0 (.int .i64 a)).setCell 1 (.int .i64 b)).setCell 2 (.int .i64 c)).setCell 3 (.bool d)).setCell 4 (.slice A7 nL cap7)
    have h6 : St (top W) (book gB (2 * nb + 40 * (os ++ [3]).length) ((os ++ [3]).map (· + 2)) :: lentIs (.slice aoA nL capA) gL gs (ls.map turnRow) :: mat 53 72 .u16 (.slice A7 nL cap7) (ls.map turnRow) :: blk (gX + 1) [.int .i64 a, .int .i64 b, .int .i64 c, .bool d, .slice A7 nL cap7] 39 :: blk gX [.int .i64 a, .int .i64 b, .int .i64 c, .bool d, .slice (some ⟨gL, 0, none⟩) nL (nL + 2), .slice aoA nL capA, .slice (some ⟨gL, 0, none⟩) (nL + 2) (nL + 2)] 46 :: blk (W.heap.size + 1) [.int .i64 rx, .int .i64 ry, .int .i64 rw, .int .i64 rh] 52 :: blk W.heap.size [.int .i64 a, .int .i64 b, .int .i64 c, .bool d, .slice A nL n] 39 :: []) _ := (h5.reo 8 [4, 3, 2, 1, 0, 5, 6, 7] (by decide)).drop
    have HZ := Lib.hid h6
    clear H13 hS hlm hcap7 hbg h5 hT h6
    go_wp2_with fail
    go_roundw
    case rel =>
     refine ⟨t + 1, 2 * nb + 40 * (os ++ [3]).length, (os ++ [3]).map (· + 2), ls.map turnRow, A7, cap7, mat 53 72 .u16 (.slice A7 nL cap7) (ls.map turnRow), by go_num, by omega, fun h2 => ⟨by simp; omega, by simp; omega, fun x hx => ?_⟩, fun h => absurd h (by omega), HLM, smp_turn HSMs.out, fun x hx => ?_, HCAP, fun w' R' h => ?_, HZ⟩
     ·obtain ⟨y, hy, rfl⟩ := List.mem_map.1 hx
      simp only [List.mem_append, List.mem_cons, List.not_mem_nil, or_false] at hy
      rcases hy with hy | hy
      ·have := HOX.out y hy; omega
      ·omega
     ·obtain ⟨y, hy, rfl⟩ := List.mem_map.1 hx
      rw [turnRow_length]
      exact HLs.out y hy
     ·have h6 := h.matC'.2.2
      rw [HLM.out] at h6
      exact h6
    case measure => simp [intOf]; omega
   ·have t_t : decide ((0 : Int) < (t : Int)) = true := decide_eq_true (by omega)
    have p2 := St.cells_mem HY.out (List.mem_cons_of_mem _ (List.mem_cons_of_mem _ (List.mem_cons_of_mem _ mm5))) 2
    have q2 := St.cells_mem HY.out (List.mem_cons_of_mem _ mm5) 2
    have r2 := St.cells_mem HY.out mm4 2
    simp only [List.getElem?_cons_zero, List.getElem?_cons_succ] at p2 q2 r2
    go_wp2_with fail
    clear t_t t_u t_e p2 q2 r2
    have h2 : St (top W) (row 53 1 (.slice (some ⟨_, 0, none⟩) 3 3) 3 [(.slice P1 cl.length n1), (.slice P2 dl.length n2), (.slice P3 cl.length n3)] :: inner 72 .u16 (.slice P1 cl.length n1) cl :: inner 72 .u16 (.slice P2 dl.length n2) dl :: inner 72 .u16 (.slice P3 cl.length n3) cl :: book gB nb os :: lentIs (.slice aoA nL capA) gL gs ls :: G :: blk (gX + 1) [.int .i64 a, .int .i64 b, .int .i64 c, .bool d, .slice Ag nL capg] 39 :: blk gX [.int .i64 a, .int .i64 b, .int .i64 c, .bool d, .slice (some ⟨gL, 0, none⟩) nL (nL + 2), .slice aoA nL capA, .slice (some ⟨gL, 0, none⟩) (nL + 2) (nL + 2)] 46 :: blk (W.heap.size + 1) [.int .i64 rx, .int .i64 ry, .int .i64 rw, .int .i64 rh] 52 :: blk W.heap.size [.int .i64 a, .int .i64 b, .int .i64 c, .bool d, .slice A nL n] 39 :: []) _ := ((((((((HY.out.rowLit3 rfl 53 (.slice P1 cl.length n1) (.slice P2 dl.length n2) (.slice P3 cl.length n3)).reo 18 [1, 2, 3, 4, 5, 7, 9, 0, 10, 8, 6, 11, 12, 13, 14, 15, 16, 17] (by decide)).drop).drop).drop).drop).drop).drop).drop
    have HM := Lib.hid h2.mat3.swap
    clear h2 HY
    refine (take_ok (top W) [lentIs (.slice aoA nL capA) gL gs ls, G, blk (gX + 1) [.int .i64 a, .int .i64 b, .int .i64 c, .bool d, .slice Ag nL capg] 39, blk gX [.int .i64 a, .int .i64 b, .int .i64 c, .bool d, .slice (some ⟨gL, 0, none⟩) nL (nL + 2), .slice aoA nL capA, .slice (some ⟨gL, 0, none⟩) (nL + 2) (nL + 2)] 46, blk (W.heap.size + 1) [.int .i64 rx, .int .i64 ry, .int .i64 rw, .int .i64 rh] 52, blk W.heap.size [.int .i64 a, .int .i64 b, .int .i64 c, .bool d, .slice A nL n] 39] _ gB nb os _ [cl, dl, cl] HM.out (fun l hl => by
     have hb : BIG = 134217728 := rfl
     simp only [List.mem_cons, List.not_mem_nil, or_false] at hl
     rcases hl with rfl | rfl | rfl <;> omega) (by omega)).mono ?_
    rintro en w12 ⟨rfl, hS⟩
    have H12 := Lib.hid hS
    clear HM hS
    go_wp2_with fail
    refine (own_ok (top W) [lentIs (.slice aoA nL capA) gL gs ls, G, blk (gX + 1) [.int .i64 a, .int .i64 b, .int .i64 c, .bool d, .slice Ag nL capg] 39, blk gX [.int .i64 a, .int .i64 b, .int .i64 c, .bool d, .slice (some ⟨gL, 0, none⟩) nL (nL + 2), .slice aoA nL capA, .slice (some ⟨gL, 0, none⟩) (nL + 2) (nL + 2)] 46, blk (W.heap.size + 1) [.int .i64 rx, .int .i64 ry, .int .i64 rw, .int .i64 rh] 52, blk W.heap.size [.int .i64 a, .int .i64 b, .int .i64 c, .bool d, .slice A nL n] 39] _ gB nb _ H12.out (by omega) (by simp; omega) (fun x hx => by
     simp only [List.mem_append, List.mem_cons, List.not_mem_nil, or_false] at hx
     rcases hx with hx | hx
     ·have := HOX.out x hx; omega
     ·subst hx; simp)).mono ?_
    rintro en w13 ⟨rfl, hS⟩
    have H13 := Lib.hid hS
    clear H12 hS
    have q0 := St.cells_mem H13.out mm4 0
    have q1 := St.cells_mem H13.out mm4 1
    have q2 := St.cells_mem H13.out mm4 2
    have q3 := St.cells_mem H13.out mm4 3
    have q4 := St.cells_mem H13.out mm4 4
    have q5 := St.cells_mem H13.out mm4 5
    have q6 := St.cells_mem H13.out mm4 6
    simp only [List.getElem?_cons_zero, List.getElem?_cons_succ] at q0 q1 q2 q3 q4 q5 q6
    go_wp2_with fail
    clear q0 q1 q2 q3 q4 q5 q6
    have hT := fun (w : World) R' hS => turn_ok (top W) R' w (.slice aoA nL capA) gL gs ls a b c d hS (by rw [HLN.out]; exact HGS'.out) (by rw [HLN.out]; exact hn2') HLs.out
    rw [HLN.out] at hT
    refine (hT _ _ H13.out.swap).mono ?_
    rintro en w14 ⟨v, rfl, hS⟩
    have hlm : (ls.map turnRow).length = nL := by rw [List.length_map]; exact HLN.out
    obtain ⟨A7, cap7, e7, hcap7, -⟩ := hS.matC
    rw [hlm] at e7 hcap7
    subst e7
    have HLM := Lib.hid hlm
    have HCAP := Lib.hid hcap7
    have x0 := St.cells_mem hS mm4 0
    have x1 := St.cells_mem hS mm4 1
    have x2 := St.cells_mem hS mm4 2
    have x3 := St.cells_mem hS mm4 3
    have x4 := St.cells_mem hS mm4 4
    simp only [List.getElem?_cons_zero, List.getElem?_cons_succ] at x0 x1 x2 x3 x4
    have hbg : St (top W) (blk (gX + 1) [.int .i64 a, .int .i64 b, .int .i64 c, .bool d, .slice Ag nL capg] 39 :: _) w14 := St.bring hS 4
    have y0 := hbg.frozen 0
    have y1 := hbg.frozen 1
    have y2 := hbg.frozen 2
    have y3 := hbg.frozen 3
    have y4 := hbg.frozen 4
    have h5 : St (top W) (blk (gX + 1) [.int .i64 a, .int .i64 b, .int .i64 c, .bool d, .slice A7 nL cap7] 39 :: mat 53 72 .u16 (.slice A7 nL cap7) (ls.map turnRow) :: lentIs (.slice aoA nL capA) gL gs (ls.map turnRow) :: book gB (2 * nb + 40 * (os ++ [3]).length) ((os ++ [3]).map (· + 2)) :: G :: blk gX [.int .i64 a, .int .i64 b, .int .i64 c, .bool d, .slice (some ⟨gL, 0, none⟩) nL (nL + 2), .slice aoA nL capA, .slice (some ⟨gL, 0, none⟩) (nL + 2) (nL + 2)] 46 :: blk (W.heap.size + 1) [.int .i64 rx, .int .i64 ry, .int .i64 rw, .int .i64 rh] 52 :: blk W.heap.size [.int .i64 a, .int .i64 b, .int .i64 c, .bool d, .slice A nL n] 39 :: []) _ := (((((hS.reo 8 [4, 0, 1, 2, 3, 5, 6, 7] (by decide)).setCell 0 (.int .i64 a)).setCell 1 (.int .i64 b)).setCell 2 (.int .i64 c)).setCell 3 (.bool d)).setCell 4 (.slice A7 nL cap7)
    have h6 : St (top W) (book gB (2 * nb + 40 * (os ++ [3]).length) ((os ++ [3]).map (· + 2)) :: lentIs (.slice aoA nL capA) gL gs (ls.map turnRow) :: mat 53 72 .u16 (.slice A7 nL cap7) (ls.map turnRow) :: blk (gX + 1) [.int .i64 a, .int .i64 b, .int .i64 c, .bool d, .slice A7 nL cap7] 39 :: blk gX [.int .i64 a, .int .i64 b, .int .i64 c, .bool d, .slice (some ⟨gL, 0, none⟩) nL (nL + 2), .slice aoA nL capA, .slice (some ⟨gL, 0, none⟩) (nL + 2) (nL + 2)] 46 :: blk (W.heap.size + 1) [.int .i64 rx, .int .i64 ry, .int .i64 rw, .int .i64 rh] 52 :: blk W.heap.size [.int .i64 a, .int .i64 b, .int .i64 c, .bool d, .slice A nL n] 39 :: []) _ := (h5.reo 8 [4, 3, 2, 1, 0, 5, 6, 7] (by decide)).drop
    have HZ := Lib.hid h6
    clear H13 hS hlm hcap7 hbg h5 hT h6
    go_wp2_with fail
    go_roundw
    case rel =>
     refine ⟨t + 1, 2 * nb + 40 * (os ++ [3]).length, (os ++ [3]).map (· + 2), ls.map turnRow, A7, cap7, mat 53 72 .u16 (.slice A7 nL cap7) (ls.map turnRow), by go_num, by omega, fun h2 => ⟨by simp; omega, by simp; omega, fun x hx => ?_⟩, fun h => absurd h (by omega), HLM, smp_turn HSMs.out, fun x hx => ?_, HCAP, fun w' R' h => ?_, HZ⟩
     ·obtain ⟨y, hy, rfl⟩ := List.mem_map.1 hx
      simp only [List.mem_append, List.mem_cons, List.not_mem_nil, or_false] at hy
      rcases hy with hy | hy
      ·have := HOX.out y hy; omega
      ·omega
     ·obtain ⟨y, hy, rfl⟩ := List.mem_map.1 hx
      rw [turnRow_length]
      exact HLs.out y hy
     ·have h6 := h.matC'.2.2
      rw [HLM.out] at h6
      exact h6
    case measure => simp [intOf]; omega
  ·go_wp2_with fail
   go_ret
   exact ⟨rfl, hS.out.below⟩
end Go.Proofs.Ytdoikehkibefpaa
