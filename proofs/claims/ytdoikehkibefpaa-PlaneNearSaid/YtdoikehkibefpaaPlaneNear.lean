import Derived.Test.YtdoikehkibefpaaPPbx5
import Derived.Test.YtdoikehkibefpaaPPbx9
import Derived.Test.YtdoikehkibefpaaNearP
import Derived.Test.YtdoikehkibefpaaPlaceF
import Derived.Test.YtdoikehkibefpaaLendFb
import Derived.Test.YtdoikehkibefpaaShown
import Derived.Test.YtdoikehkibefpaaRowC
/-! PlaneNear. -/
namespace Go.Proofs.Ytdoikehkibefpaa
set_option linter.unusedSimpArgs false
set_option linter.unusedVariables false
open Go Go.RowKit Go.WideShapes Go.Proofs.Ytdoikehkibefpaa.PPb Go.Proofs.YtdoikehkibefpaaW.PrintWords Go.Proofs.YtdoikehkibefpaaW.PrintLast

theorem St.bring {c : Ctx} {L : List HP} {w : World} (h : St c L w) (i : Nat) (hi : i < L.length := by simp only [List.length_cons]; omega) : St c (L[i] :: L.eraseIdx i) w := h.perm (perm_pick L i hi)
theorem smp_one {l : List (List Int)} (h : smp l) (p k : Nat) (v : Int) (hp : p < l.length) (hv : 0 ≤ v ∧ v ≤ 65535) : smp (oneL l p k v) := by
  intro x hx y hy
  unfold oneL at hx
  rcases List.mem_or_eq_of_mem_set hx with h1 | rfl
  · exact h x h1 y hy
  · rcases List.mem_or_eq_of_mem_set hy with h2 | rfl
    · exact h _ (getD_mem [] l p hp) y h2
    · exact hv
theorem lens_one {l : List (List Int)} (h : ∀ x ∈ l, x.length * 2 ≤ 140737488351232) (p k : Nat) (v : Int) (hp : p < l.length) : ∀ x ∈ oneL l p k v, x.length * 2 ≤ 140737488351232 := by
  intro x hx
  unfold oneL at hx
  rcases List.mem_or_eq_of_mem_set hx with h1 | rfl
  · exact h x h1
  · rw [List.length_set]; exact h _ (getD_mem [] l p hp)
theorem zeros_at (pn : Nat) (h : pn < 4) : ([.int .i64 0, .int .i64 0, .int .i64 0, .int .i64 0] : List Value)[pn]? = some (.int .i64 0) := by
  match pn, h with
  | 0, _ => rfl
  | 1, _ => rfl
  | 2, _ => rfl
  | 3, _ => rfl
set_option maxHeartbeats 32000000 in
set_option maxRecDepth 100000 in
theorem planeNear_walk {H : Type} {enc : TypeId × Value → H} (W : World) (base : Nat) (v0 v1 v2 : Value) (a0 : Arg enc Try.prog W base 39 v0) (a1 : Arg enc Try.prog W base 77 v1) (a2 : Arg enc Try.prog W base 3 v2) :
  Calls Try.prog 13 #[v0, v1, v2] W fun e W' => e = .returned (.bool true) ∧ Below W.heap.size W W' := by
 obtain ⟨a, b, c, d, A, n, l, rfl, hn, hC, hs, hn2, hl2⟩ := arg_frame2 a0
 obtain ⟨q0, q1, q2, rfl, hq0, hq1, hq2⟩ := arg_at a1
 obtain ⟨vv, rfl, hvv⟩ := arg_int (k := .i64) Try.underlying3 a2
 have hvv := bounds_i64 hvv
 have HS := Lib.hid (((St.top W).alloc' rfl [.int .i64 a, .int .i64 b, .int .i64 c, .bool d, .slice A l.length n] 39).alloc' (n := W.heap.size + 1) (by simp) [.int .i64 q0, .int .i64 q1, .int .i64 q2] 77)
 have HC := Lib.hid hC
 have HSM := Lib.hid hs
 have HL := Lib.hid hl2
 obtain ⟨ev, hev⟩ : ∃ q, valF a b c d l = q := ⟨_, rfl⟩
 have CV := Lib.hid (fun (w : World) hr => dailiesref06_Valid.calls (0 + 140737488355328 + 14) a b c d A n l ev w hr hn (by rw [rvalid_f a b c d l _ (fun x hx => by have := hl2 x hx; omega) (Nat.le_refl _) hs 0, hev]))
 have HEV := Lib.hid hev
 clear a0 a1 a2 hC hs hl2 hev
 go_enter Try.func13, Try.ntmps13
 go_wp2_with fail
 refine (shown_ok _).mono ?_
 rintro en w1 ⟨rfl, hb⟩
 have H1 := Lib.hid (HS.out.of_below hb)
 clear HS hb
 have f0 := St.cells_mem H1.out mm1 0
 have f1 := St.cells_mem H1.out mm1 1
 have f2 := St.cells_mem H1.out mm1 2
 have f3 := St.cells_mem H1.out mm1 3
 have f4 := St.cells_mem H1.out mm1 4
 simp only [List.getElem?_cons_zero, List.getElem?_cons_succ] at f0 f1 f2 f3 f4
 go_wp2_with fail
 refine (CV.out _ (Kd.C_below HC.out H1.out.below)).mono ?_
 rintro en w2 ⟨rfl, hb⟩
 have H2 := Lib.hid (H1.out.of_below hb)
 clear H1 hb CV f0 f1 f2 f3 f4
 by_cases hz : ev = 0
 ·subst hz
  have hok := ok_of_valF HEV.out
  have HOK := Lib.hid hok
  obtain ⟨nL, hnL⟩ : ∃ q, l.length = q := ⟨_, rfl⟩
  have hnl : 0 < nL ∧ nL ≤ 4 := by
   have h1 := hok.len
   have h2 := plN_le d
   have h3 : 3 ≤ plN d := by unfold plN; split <;> omega
   omega
  have HNL := Lib.hid hnL
  obtain ⟨p, hp, hp0, hpn⟩ := place_f (c := q0) (n := (nL : Int)) hq0 (by omega)
  obtain ⟨pn, rfl⟩ : ∃ k : Nat, p = k := ⟨p.toNat, by omega⟩
  have hpn : pn < nL := by omega
  have HP := Lib.hid (fun (w : World) => dailieslaw06_place.calls q0 nL pn w hp)
  have hpl : pn < l.length := by omega
  obtain ⟨b1, o1, A1, c1, rfl, hc1, hle1, hC1⟩ := C_rowAt HC.out pn hpl
  have hr0 : 0 < (l.getD pn []).length ∧ (l.getD pn []).length ≤ 16777216 := by
   have h1 := rows_at hok.rows hok.shape.1 hok.shape.2.1 pn hpl
   have h3 := wd_bd (p := (pn : Int)) hok.shape.1.1 hok.shape.1.2
   have hH := hok.shape.2.1
   rw [h1]
   exact ⟨Nat.mul_pos (by omega) (by omega), Nat.le_trans (Nat.mul_le_mul (show (wd a pn).toNat ≤ 4096 by omega) (show b.toNat ≤ 4096 by omega)) (by decide)⟩
  obtain ⟨X, hX⟩ : ∃ q, l.getD pn [] = q := ⟨_, rfl⟩
  rw [hX] at hc1 hle1 hC1 hr0
  obtain ⟨e1, z1, rfl, hd1⟩ := C_reads hC1 hr0.1
  obtain ⟨nX, hnX⟩ : ∃ q, X.length = q := ⟨_, rfl⟩
  rw [hnX] at hc1 hr0
  have HX := Lib.hid hX
  have HNX := Lib.hid hnX
  have HC1 := Lib.hid hc1
  have HD1 := Lib.hid hd1
  have hXin : rowIn X := by rw [← hX]; exact HSM.out _ (getD_mem [] l pn hpl)
  have HXI := Lib.hid hXin
  obtain ⟨kk, hk1, hk0, hkn⟩ := place_f (c := q1) (n := (nX : Int)) hq1 (by omega)
  obtain ⟨k, rfl⟩ : ∃ j : Nat, kk = j := ⟨kk.toNat, by omega⟩
  have hkX : k < nX := by omega
  have HK := Lib.hid (fun (w : World) => dailieslaw06_place.calls q1 nX k w hk1)
  have hc := hok.shape.2.2.1
  obtain ⟨T, hT⟩ : ∃ T : Int, T = 2 ^ c.toNat := ⟨_, rfl⟩
  have hT2 : c = 10 ∧ T = 1024 ∨ c = 12 ∧ T = 4096 := by
   rcases hc with rfl | rfl
   ·left; exact ⟨rfl, by rw [hT]; decide⟩
   ·right; exact ⟨rfl, by rw [hT]; decide⟩
  obtain ⟨v, hv1, hv0, hvT⟩ := place_f (c := vv) (n := T) hvv (by omega)
  have eT : wrap64 (2 ^ c.toNat) = T := by rw [← hT]; exact w64 (by omega) (by omega)
  have hVw := fun (w : World) => dailieslaw06_place.calls vv T v w hv1
  rw [← eT] at hVw
  have HV := Lib.hid hVw
  clear eT hVw
  have HVT : Hid (0 ≤ v ∧ v < 2 ^ c.toNat) := ⟨hv0, by rw [← hT]; exact hvT⟩
  have HT := Lib.hid hT
  have HT2 := Lib.hid hT2
  have hv3 : v < 4096 := by omega
  have hv4 : v ≤ 65535 := by omega
  have HU16 : Hid (IntKind.u16.wrap v = v) := IntWalk.u16_in _ ⟨hv0, hv4⟩
  have hT3 : 0 < T ∧ T ≤ 4096 := by omega
  have hc2 : 0 ≤ c := by omega
  have hc3 : c ≤ 12 := by omega
  rw [HNL.out] at H2 ⊢
  have hn' : nL ≤ n := by omega
  have hn2' : nL * 24 ≤ 140737488351232 := by omega
  have hnXc : nX ≤ c1 := by omega
  clear hok hnL hp hX hnX hc1 hd1 hXin hk1 hc hv1 hT hT2 hle1 hC1 hp0 hk0 hkn hvT hpl hn hn2 hq0 hq1 hq2 hvv HEV
  have y0 := St.cells_mem H2.out mm0 0
  have y1 := St.cells_mem H2.out mm0 1
  have y2 := St.cells_mem H2.out mm0 2
  simp only [List.getElem?_cons_zero, List.getElem?_cons_succ] at y0 y1 y2
  have f0 := St.cells_mem H2.out mm1 0
  have f1 := St.cells_mem H2.out mm1 1
  have f2 := St.cells_mem H2.out mm1 2
  have f3 := St.cells_mem H2.out mm1 3
  have f4 := St.cells_mem H2.out mm1 4
  simp only [List.getElem?_cons_zero, List.getElem?_cons_succ] at f0 f1 f2 f3 f4
  go_wp2_with fail
  refine (HP.out _).mono ?_
  rintro en w3 ⟨rfl, hb⟩
  have H3 := Lib.hid (H2.out.of_below hb.below)
  clear H2 hb HP y0 y1 y2 f0 f1 f2 f3 f4
  have HD3 := Lib.hid H3.out.drew
  have t1 : (0 : Int) ≤ (pn : Int) := by omega
  have t2 : (pn : Int) < nL := by omega
  have t3 : (0 : Int) ≤ (k : Int) := by omega
  have t4 : (k : Int) < nX := by omega
  go_wp2_with fail
  refine start_ (n := 10) (S := fun w' => w'.cell? ⟨W.heap.size + 1, 1, none⟩ = some (.int .i64 q1) ∧ w'.cell? ⟨W.heap.size, 4, none⟩ = some (.slice (some ⟨b1, o1, none⟩) nL n) ∧ w'.cell? ⟨b1, o1 + pn, none⟩ = some (.slice (some ⟨e1, z1, none⟩) nX c1)) (ds := []) #[false, false, false, false, false, false, false, false, false, false] (by kernel_rfl) rfl rfl ⟨St.cells_mem HD3.out mm0 1, St.cells_mem HD3.out mm1 4, top_cell HD3.out HC1.out⟩ (fun hHeld => ?_)
  refine pu 0 39 #[true, false, false, false, false, false, false, false, false, false] ?_
  refine pu 2 41 #[true, false, true, false, false, false, false, false, false, false] ?_
  refine pu 4 43 #[true, false, true, false, true, false, false, false, false, false] ?_
  refine ta 1 40 #[true, true, true, false, true, false, false, false, false, false] hHeld ?_
  refine ta 3 42 #[true, true, true, true, true, false, false, false, false, false] hHeld ?_
  refine pu 5 44 #[true, true, true, true, true, true, false, false, false, false] ?_
  refine ta 6 45 #[true, true, true, true, true, true, true, false, false, false] hHeld ?_
  refine pu 7 46 #[true, true, true, true, true, true, true, true, false, false] ?_
  refine one_ (i := 8) (N := some 47) #[true, true, true, true, true, true, true, true, true, false] rfl rfl (by kernel_rfl) (by decide) (fun K hK => ?_)
  refine goes_ Try.func34 (by kernel_rfl) rfl #[.int .i64 q1, .int .i64 (nX : Nat)] (by rfl) rfl rfl (by simp only [List.map_toArray, List.map_cons, List.map_nil]; rfl) ?_
  with_reducible refine (HK.out _).mono ?_
  rintro en w4 ⟨rfl, hb⟩
  refine ⟨_, rfl, ?_⟩
  have H4 := Lib.hid (HD3.out.of_below hb.below)
  clear hb
  refine hK.out _ _ ⟨St.cells_mem H4.out mm0 1, St.cells_mem H4.out mm1 4, top_cell H4.out HC1.out⟩ (fun hHeld => ?_)
  clear hK K
  refine norm_ (a' := ?_) ?_ ?_
  rotate_left
  · show Act.put _ (some 47) _ = _
    simp only [Act.put, List.setIfInBounds_toArray, List.set_cons_zero, List.set_cons_succ, i64_w, i32_w]
    rfl
  refine pu 9 9 #[true, true, true, true, true, true, true, true, true, true] ?_
  refine done_ (by kernel_rfl) ?_
  clear H3 HD3 HK hHeld
  have f0 := St.cells_mem H4.out mm1 0
  have f1 := St.cells_mem H4.out mm1 1
  have f2 := St.cells_mem H4.out mm1 2
  have f3 := St.cells_mem H4.out mm1 3
  have f4 := St.cells_mem H4.out mm1 4
  simp only [List.getElem?_cons_zero, List.getElem?_cons_succ] at f0 f1 f2 f3 f4
  have hle := fun (w : World) hC => lend_ok w a b c d (some ⟨b1, o1, none⟩) n l hC (by rw [HNL.out]; exact hn2') HL.out (by rw [HNL.out]; exact hn')
  rw [HNL.out] at hle
  go_wp2_with fail
  refine (hle _ (by have h := Kd.C_below HC.out H4.out.below; rw [HNL.out] at h; exact h)).mono ?_
  rintro en w5 ⟨va, gL, gs, rfl, hgs, hS2⟩
  have hS2' := H4.out.frame hS2
  simp only [List.cons_append, List.nil_append] at hS2'
  obtain ⟨aoA, capA, rfl, -, -, -, -⟩ := hS2'.lentOpen.rowShape
  rw [HNL.out] at hS2' ⊢
  have H6 := Lib.hid (hS2'.alloc [.int .i64 a, .int .i64 b, .int .i64 c, .bool d, .slice (some ⟨gL, 0, none⟩) nL (nL + 2), .slice aoA nL capA, .slice (some ⟨gL, 0, none⟩) (nL + 2) (nL + 2)] 46)
  have HGS := Lib.hid hgs
  clear H4 hS2 hS2' hle hgs f0 f1 f2 f3 f4
  have x0 := St.cells_mem H6.out mm0 0
  have x1 := St.cells_mem H6.out mm0 1
  have x2 := St.cells_mem H6.out mm0 2
  have x3 := St.cells_mem H6.out mm0 3
  have x4 := St.cells_mem H6.out mm0 4
  simp only [List.getElem?_cons_zero, List.getElem?_cons_succ] at x0 x1 x2 x3 x4
  have H7 := Lib.hid (H6.out.alloc' (n := w5.heap.size + 1) (by simp) [.int .i64 a, .int .i64 b, .int .i64 c, .bool d, .slice (some ⟨gL, 0, none⟩) nL (nL + 2)] 39)
  go_wp2_with fail
  clear H6 x0 x1 x2 x3 x4
  generalize w5.heap.size = gX at *
  obtain ⟨w7, hw7⟩ : ∃ q, (w5.alloc (.cells #[.int .i64 a, .int .i64 b, .int .i64 c, .bool d, .slice (some ⟨gL, 0, none⟩) nL (nL + 2), .slice aoA nL capA, .slice (some ⟨gL, 0, none⟩) (nL + 2) (nL + 2)] 46)).alloc (.cells #[.int .i64 a, .int .i64 b, .int .i64 c, .bool d, .slice (some ⟨gL, 0, none⟩) nL (nL + 2)] 39) = q := ⟨_, rfl⟩
  rw [hw7] at H7
  have HD7 := Lib.hid H7.out.drew
  obtain ⟨g0, hg0⟩ : ∃ q, gs.getD pn 0 = q := ⟨_, rfl⟩
  have HG0 := Lib.hid hg0
  clear hg0
  have HHD : Hid (∀ (R' : List HP) (w' : World), St (top W) (lentIs (.slice aoA nL capA) gL gs l :: R') w' → w'.cell? ⟨gL, pn, none⟩ = some (.slice (some ⟨g0, 0, none⟩) nX (nX + 7))) := by
    intro R' w' h
    have h2 := lentHead h (by rw [HNL.out]; exact HGS.out) pn (by rw [HNL.out]; exact hpn)
    unfold headV at h2
    rw [HX.out, HNX.out, HG0.out] at h2
    exact h2
  have u16v := HU16.out
  rw [hw7]
  clear hw7
  refine start_ (n := 15) (S := fun w' => w'.cell? ⟨gX + 1, 4, none⟩ = some (.slice (some ⟨gL, 0, none⟩) nL (nL + 2)) ∧ w'.cell? ⟨gL, pn, none⟩ = some (.slice (some ⟨g0, 0, none⟩) nX (nX + 7)) ∧ w'.cell? ⟨W.heap.size, 2, none⟩ = some (.int .i64 c)) (ds := [14]) #[false, false, false, false, false, false, false, false, false, false, false, false, false, false, false] (by kernel_rfl) rfl rfl ⟨St.cells_mem HD7.out mm0 4, HHD.out _ _ (St.bring HD7.out 2), St.cells_mem HD7.out mm4 2⟩ (fun hHeld => ?_)
  refine pu 0 52 #[true, false, false, false, false, false, false, false, false, false, false, false, false, false, false] ?_
  refine pu 2 54 #[true, false, true, false, false, false, false, false, false, false, false, false, false, false, false] ?_
  refine pu 5 57 #[true, false, true, false, false, true, false, false, false, false, false, false, false, false, false] ?_
  refine pu 6 58 #[true, false, true, false, false, true, true, false, false, false, false, false, false, false, false] ?_
  refine pu 7 59 #[true, false, true, false, false, true, true, true, false, false, false, false, false, false, false] ?_
  refine pu 8 60 #[true, false, true, false, false, true, true, true, true, false, false, false, false, false, false] ?_
  refine ta 1 53 #[true, true, true, false, false, true, true, true, true, false, false, false, false, false, false] hHeld ?_
  refine pu 3 55 #[true, true, true, true, false, true, true, true, true, false, false, false, false, false, false] ?_
  refine ta 4 56 #[true, true, true, true, true, true, true, true, true, false, false, false, false, false, false] hHeld ?_
  refine ta 9 61 #[true, true, true, true, true, true, true, true, true, true, false, false, false, false, false] hHeld ?_
  refine pu 10 62 #[true, true, true, true, true, true, true, true, true, true, true, false, false, false, false] ?_
  refine one_ (i := 11) (N := some 63) #[true, true, true, true, true, true, true, true, true, true, true, true, false, false, false] rfl rfl (by kernel_rfl) (by decide) (fun K hK => ?_)
  refine goes_ Try.func34 (by kernel_rfl) rfl #[.int .i64 vv, .int .i64 (wrap64 (2 ^ c.toNat))] (by rfl) rfl rfl (by simp only [List.map_toArray, List.map_cons, List.map_nil]; rfl) ?_
  with_reducible refine (HV.out _).mono ?_
  rintro en w8 ⟨rfl, hb⟩
  refine ⟨_, rfl, ?_⟩
  have H8 := Lib.hid (HD7.out.of_below hb.below)
  clear hb
  have hset := lentSet (St.bring H8.out 2) (by rw [HNL.out]; exact HGS.out) pn k (by rw [HNL.out]; exact hpn) (by rw [HX.out, HNX.out]; exact hkX)
  rw [HX.out, HG0.out] at hset
  obtain ⟨⟨hcv, hcf⟩, hst⟩ := hset
  have hst1 : St (top W) (lentIs (.slice aoA nL capA) gL gs (oneL l pn k v) :: blk (gX + 1) [.int .i64 a, .int .i64 b, .int .i64 c, .bool d, .slice (some ⟨gL, 0, none⟩) nL (nL + 2)] 39 :: blk gX [.int .i64 a, .int .i64 b, .int .i64 c, .bool d, .slice (some ⟨gL, 0, none⟩) nL (nL + 2), .slice aoA nL capA, .slice (some ⟨gL, 0, none⟩) (nL + 2) (nL + 2)] 46 :: blk (W.heap.size + 1) [.int .i64 q0, .int .i64 q1, .int .i64 q2] 77 :: blk W.heap.size [.int .i64 a, .int .i64 b, .int .i64 c, .bool d, .slice (some ⟨b1, o1, none⟩) nL n] 39 :: []) (w8.setCell ⟨g0, k, none⟩ (.int .u16 v)) := by have h := hst v; rw [← HX.out] at h; exact h
  have H9 := Lib.hid hst1
  clear hst hst1
  refine hK.out _ _ ⟨St.cells_mem H8.out mm0 4, HHD.out _ _ (St.bring H8.out 2), St.cells_mem H8.out mm4 2⟩ (fun hHeld => ?_)
  clear hK K
  refine norm_ (a' := ?_) ?_ ?_
  rotate_left
  · show Act.put _ (some 63) _ = _
    simp only [Act.put, List.setIfInBounds_toArray, List.set_cons_zero, List.set_cons_succ, i64_w, i32_w]
    rfl
  refine pu 12 64 #[true, true, true, true, true, true, true, true, true, true, true, true, true, false, false] ?_
  refine pu 13 65 #[true, true, true, true, true, true, true, true, true, true, true, true, true, true, false] ?_
  refine last_ (i := 14) (N := none) #[true, true, true, true, true, true, true, true, true, true, true, true, true, true, true] rfl rfl (by kernel_rfl) (by decide) (fun K hK => ?_)
  refine skip_ (w1 := ?_) (by rfl) rfl ?_ ?_
  rotate_left
  · go_simp
    rfl
  refine hK.out _ _ ?_
  clear hK K
  refine done_ (by kernel_rfl) ?_
  clear u16v hcv hcf H7 HD7 H8 HV hHeld
  generalize w8.setCell ⟨g0, k, none⟩ (.int .u16 v) = w9 at *
  have HD9 := Lib.hid H9.out.drew
  have HHD9 : Hid (∀ (R' : List HP) (w' : World), St (top W) (lentIs (.slice aoA nL capA) gL gs (oneL l pn k v) :: R') w' → w'.cell? ⟨gL, pn, none⟩ = some (.slice (some ⟨g0, 0, none⟩) nX (nX + 7)) ∧ w'.cell? ⟨g0, k, none⟩ = some (.int .u16 v)) := by
    intro R' w' h
    have hln : pn < l.length := by rw [HNL.out]; exact hpn
    have e1 : (oneL l pn k v).getD pn [] = X.set k v := by rw [oneL_at pn k v hln, if_pos rfl, HX.out]
    have h2 := lentHead h (by rw [oneL_length, HNL.out]; exact HGS.out) pn (by rw [oneL_length]; exact hln)
    have h3 := (lentSet h (by rw [oneL_length, HNL.out]; exact HGS.out) pn k (by rw [oneL_length]; exact hln) (by rw [e1, List.length_set, HNX.out]; exact hkX)).1.1
    unfold headV at h2
    rw [e1, List.length_set, HNX.out, HG0.out] at h2
    rw [e1, getD_set X k v (by rw [HNX.out]; exact hkX), if_pos rfl, HG0.out] at h3
    exact ⟨h2, h3⟩
  obtain ⟨u, hu⟩ : ∃ q, X.getD k 0 = q := ⟨_, rfl⟩
  have bu := rowIn_at HXI.out k
  have hcu := HD1.out k (by rw [HNX.out]; exact hkX)
  rw [hu] at bu hcu
  have HU := Lib.hid hu
  have HCU := Lib.hid hcu
  have bv : 0 ≤ v ∧ v ≤ 65535 := by omega
  clear hu hcu
  obtain ⟨dn, hdn⟩ : ∃ q, v - u = q := ⟨_, rfl⟩
  have HDN := Lib.hid hdn
  have HWV : Hid (wrap64 v = v ∧ wrap64 u = u ∧ wrap64 dn = dn) := ⟨w64 (by omega) (by omega), w64 (by omega) (by omega), w64 (by omega) (by omega)⟩
  go_wp2_with fail
  obtain ⟨e10, e11, e12⟩ := HWV.out
  refine start_ (n := 20) (S := fun w' => w'.cell? ⟨gX + 1, 4, none⟩ = some (.slice (some ⟨gL, 0, none⟩) nL (nL + 2)) ∧ w'.cell? ⟨gL, pn, none⟩ = some (.slice (some ⟨g0, 0, none⟩) nX (nX + 7)) ∧ w'.cell? ⟨g0, k, none⟩ = some (.int .u16 v) ∧ w'.cell? ⟨W.heap.size, 4, none⟩ = some (.slice (some ⟨b1, o1, none⟩) nL n) ∧ w'.cell? ⟨b1, o1 + pn, none⟩ = some (.slice (some ⟨e1, z1, none⟩) nX c1) ∧ w'.cell? ⟨e1, z1 + k, none⟩ = some (.int .u16 u)) (ds := []) #[false, false, false, false, false, false, false, false, false, false, false, false, false, false, false, false, false, false, false, false] (by kernel_rfl) rfl rfl ⟨St.cells_mem HD9.out mm1 4, (HHD9.out _ _ HD9.out).1, (HHD9.out _ _ HD9.out).2, St.cells_mem HD9.out mm4 4, top_cell HD9.out HC1.out, top_cell HD9.out HCU.out⟩ (fun hHeld => ?_)
  refine pu 0 66 #[true, false, false, false, false, false, false, false, false, false, false, false, false, false, false, false, false, false, false, false] ?_
  refine pu 2 68 #[true, false, true, false, false, false, false, false, false, false, false, false, false, false, false, false, false, false, false, false] ?_
  refine pu 5 71 #[true, false, true, false, false, true, false, false, false, false, false, false, false, false, false, false, false, false, false, false] ?_
  refine pu 9 75 #[true, false, true, false, false, true, false, false, false, true, false, false, false, false, false, false, false, false, false, false] ?_
  refine pu 11 77 #[true, false, true, false, false, true, false, false, false, true, false, true, false, false, false, false, false, false, false, false] ?_
  refine pu 14 80 #[true, false, true, false, false, true, false, false, false, true, false, true, false, false, true, false, false, false, false, false] ?_
  refine ta 1 67 #[true, true, true, false, false, true, false, false, false, true, false, true, false, false, true, false, false, false, false, false] hHeld ?_
  refine pu 3 69 #[true, true, true, true, false, true, false, false, false, true, false, true, false, false, true, false, false, false, false, false] ?_
  refine ta 4 70 #[true, true, true, true, true, true, false, false, false, true, false, true, false, false, true, false, false, false, false, false] hHeld ?_
  refine pu 6 72 #[true, true, true, true, true, true, true, false, false, true, false, true, false, false, true, false, false, false, false, false] ?_
  refine ta 7 73 #[true, true, true, true, true, true, true, true, false, true, false, true, false, false, true, false, false, false, false, false] hHeld ?_
  refine pu 8 74 #[true, true, true, true, true, true, true, true, true, true, false, true, false, false, true, false, false, false, false, false] ?_
  refine ta 10 76 #[true, true, true, true, true, true, true, true, true, true, true, true, false, false, true, false, false, false, false, false] hHeld ?_
  refine pu 12 78 #[true, true, true, true, true, true, true, true, true, true, true, true, true, false, true, false, false, false, false, false] ?_
  refine ta 13 79 #[true, true, true, true, true, true, true, true, true, true, true, true, true, true, true, false, false, false, false, false] hHeld ?_
  refine pu 15 81 #[true, true, true, true, true, true, true, true, true, true, true, true, true, true, true, true, false, false, false, false] ?_
  refine ta 16 82 #[true, true, true, true, true, true, true, true, true, true, true, true, true, true, true, true, true, false, false, false] hHeld ?_
  refine pu 17 83 #[true, true, true, true, true, true, true, true, true, true, true, true, true, true, true, true, true, true, false, false] ?_
  refine pu 18 84 #[true, true, true, true, true, true, true, true, true, true, true, true, true, true, true, true, true, true, true, false] ?_
  refine pu 19 12 #[true, true, true, true, true, true, true, true, true, true, true, true, true, true, true, true, true, true, true, true] ?_
  refine done_ (by kernel_rfl) ?_
  clear H9 hHeld e10 e11 e12 hdn
  obtain ⟨e, he⟩ : ∃ q, adf u v = q := ⟨_, rfl⟩
  have hee : 0 ≤ e ∧ e ≤ 65535 := by rw [← he]; exact adf_bd bu bv
  obtain ⟨r0, r1, r2, r3, hr4⟩ := four (L := ([0, 0, 0, 0] : List Int).set pn e) (by rw [List.length_set]; rfl)
  have hln : pn < l.length := by rw [HNL.out]; exact hpn
  have hkl : k < (l.getD pn []).length := by rw [HX.out, HNX.out]; exact hkX
  have x1 := one_apart0 HOK.out pn k v hln hkl HVT.out
  have x2 := one_apart1 HOK.out pn k v hln hkl HVT.out
  have x3 := one_err HOK.out pn k v hln hkl HVT.out
  have x4 := one_same (W := a) (H := b) (D := c) (A := d) pn k v hln hkl
  rw [HX.out, HU.out, he] at x2 x3 x4
  rw [HNX.out] at x3
  rw [hr4] at x2
  obtain ⟨Lo, hLo⟩ : ∃ q, oneL l pn k v = q := ⟨_, rfl⟩
  have hsm2 : smp Lo := by rw [← hLo]; exact smp_one HSM.out pn k v hln bv
  have hln2 : ∀ x ∈ Lo, x.length * 2 ≤ 140737488351232 := by rw [← hLo]; exact lens_one HL.out pn k v hln
  have hlo : Lo.length = nL := by rw [← hLo, oneL_length, HNL.out]
  rw [hLo] at x2 x3 x4 HHD9 HD9
  obtain ⟨ee, hee2⟩ : ∃ q, e * e = q := ⟨_, rfl⟩
  have bee : 0 ≤ ee ∧ ee ≤ 4294836225 := by rw [← hee2]; exact mul_bd hee.1 hee.2 hee.1 hee.2
  have hqo := quoF_ok ee nX bee.1 hr0.1 hr0.2
  rw [hee2] at x3
  obtain ⟨qf, hqf⟩ : ∃ q, quoF ee nX = q := ⟨_, rfl⟩
  rw [hqf] at x3 hqo
  obtain ⟨sv, hsv⟩ : ∃ q, decide (e = 0) = q := ⟨_, rfl⟩
  rw [hsv] at x4
  have h1 := fun (w : World) q1 q2 => (papart_ok w a b c d (some ⟨b1, o1, none⟩) n l a b c d (some ⟨b1, o1, none⟩) n l q1 (by rw [HNL.out]; exact hn') q2 (by rw [HNL.out]; exact hn') HSM.out HSM.out HL.out HL.out).mono fun _ _ h => apPost_is (by rw [x1]) (by rw [x1]) h
  have h2 := fun (w : World) q1 q2 => (papart_ok w a b c d (some ⟨b1, o1, none⟩) n l a b c d (some ⟨gL, 0, none⟩) (nL + 2) Lo q1 (by rw [HNL.out]; exact hn') q2 (by omega) HSM.out hsm2 HL.out hln2).mono fun _ _ h => apPost_is (by rw [x2]) (by rw [x2]) h
  have h3 := fun (w : World) q1 q2 => perror_ok w a b c d (some ⟨b1, o1, none⟩) n l a b c d (some ⟨gL, 0, none⟩) (nL + 2) Lo pn q1 (by rw [HNL.out]; exact hn') q2 (by omega) HSM.out hsm2 HL.out hln2
  have h4 := fun (w : World) q1 q2 => perror_ok w a b c d (some ⟨gL, 0, none⟩) (nL + 2) Lo a b c d (some ⟨b1, o1, none⟩) n l pn q1 (by omega) q2 (by rw [HNL.out]; exact hn') hsm2 HSM.out hln2 HL.out
  have h5 := fun (w : World) q1 q2 => plane_Same.calls a b c d (some ⟨b1, o1, none⟩) n l a b c d (some ⟨gL, 0, none⟩) (nL + 2) Lo sv w q1 (by rw [HNL.out]; exact hn') q2 (by omega) (by unfold plane_Same.f; rw [x4])
  rw [x3.1] at h3
  rw [x3.2] at h4
  rw [hlo] at h2 h3 h4 h5
  rw [HNL.out] at h1 h2 h3 h4 h5
  have C1 := Lib.hid h1
  have C2 := Lib.hid h2
  have C3 := Lib.hid h3
  have C4 := Lib.hid h4
  have C5 := Lib.hid h5
  have HQO := Lib.hid hqo
  have LC : Hid (∀ w' R', St (top W) (lentIs (.slice aoA nL capA) gL gs Lo :: R') w' → Kd.C (Kd.slice 72 (Kd.int .u16)) w' (some ⟨gL, 0, none⟩) nL Lo) := by
   intro w' R' h
   have h5 := lentC h (by rw [hlo]; exact HGS.out) (by rw [hlo]; exact hn2')
   rw [hlo] at h5
   exact h5
  have HCn : Hid (Kd.C (Kd.slice 72 (Kd.int .u16)) W (some ⟨b1, o1, none⟩) nL l) := by have h := HC.out; rw [HNL.out] at h; exact h
  have HR4 := Lib.hid hr4
  have HSV := Lib.hid hsv
  have hi4 : pn < 4 := by omega
  have HEE := Lib.hid hee2
  have HE := Lib.hid he
  have hadf : (dn < 0 ∧ -dn = e) ∨ (¬ dn < 0 ∧ dn = e) := by
    have hdn := HDN.out
    rw [← he]; unfold adf
    by_cases h : v < u
    · left; exact ⟨by omega, by rw [if_pos h]; omega⟩
    · right; exact ⟨by omega, by rw [if_neg h]; omega⟩
  clear x1 x2 x3 x4 hr4 hLo hsm2 hln2 hlo hqo hqf hsv h1 h2 h3 h4 h5 he hee2 hln hkl
  rcases hadf with ⟨hlt, hd0⟩ | ⟨hlt, hd0⟩
  ·have hdb : -65535 ≤ dn := by omega
   have x0 := St.cells_mem HD9.out mm4 0
   have x1 := St.cells_mem HD9.out mm4 1
   have x2 := St.cells_mem HD9.out mm4 2
   have x3 := St.cells_mem HD9.out mm4 3
   have x4 := St.cells_mem HD9.out mm4 4
   simp only [List.getElem?_cons_zero, List.getElem?_cons_succ] at x0 x1 x2 x3 x4
   go_wp2_with fail
   refine (C1.out _ (Kd.C_below HCn.out HD9.out.below) (Kd.C_below HCn.out HD9.out.below)).mono ?_
   rintro en wa ⟨rfl, hbl⟩
   have Ha := Lib.hid ((HD9.out.of_below hbl).alloc' rfl [.int .i64 0, .int .i64 0, .int .i64 0, .int .i64 0] 83)
   clear HD9 hbl x0 x1 x2 x3 x4
   have x0 := St.cells_mem Ha.out mm5 0
   have x1 := St.cells_mem Ha.out mm5 1
   have x2 := St.cells_mem Ha.out mm5 2
   have x3 := St.cells_mem Ha.out mm5 3
   have x4 := St.cells_mem Ha.out mm5 4
   simp only [List.getElem?_cons_zero, List.getElem?_cons_succ] at x0 x1 x2 x3 x4
   have y0 := St.cells_mem Ha.out mm2 0
   have y1 := St.cells_mem Ha.out mm2 1
   have y2 := St.cells_mem Ha.out mm2 2
   have y3 := St.cells_mem Ha.out mm2 3
   have y4 := St.cells_mem Ha.out mm2 4
   simp only [List.getElem?_cons_zero, List.getElem?_cons_succ] at y0 y1 y2 y3 y4
   go_wp2_with fail
   generalize wa.heap.size = g1 at *
   refine (C2.out _ (Kd.C_below HCn.out Ha.out.below) (LC.out _ _ (St.bring Ha.out 1))).mono ?_
   rintro en wb ⟨rfl, hbl⟩
   have Hb := Lib.hid ((Ha.out.of_below hbl).alloc' rfl [.int .i64 r0, .int .i64 r1, .int .i64 r2, .int .i64 r3] 83)
   clear Ha hbl x0 x1 x2 x3 x4 y0 y1 y2 y3 y4
   have x0 := St.cells_mem Hb.out mm6 0
   have x1 := St.cells_mem Hb.out mm6 1
   have x2 := St.cells_mem Hb.out mm6 2
   have x3 := St.cells_mem Hb.out mm6 3
   have x4 := St.cells_mem Hb.out mm6 4
   simp only [List.getElem?_cons_zero, List.getElem?_cons_succ] at x0 x1 x2 x3 x4
   have y0 := St.cells_mem Hb.out mm3 0
   have y1 := St.cells_mem Hb.out mm3 1
   have y2 := St.cells_mem Hb.out mm3 2
   have y3 := St.cells_mem Hb.out mm3 3
   have y4 := St.cells_mem Hb.out mm3 4
   simp only [List.getElem?_cons_zero, List.getElem?_cons_succ] at y0 y1 y2 y3 y4
   go_wp2_with fail
   generalize wb.heap.size = g2 at *
   refine (C3.out _ (Kd.C_below HCn.out Hb.out.below) (LC.out _ _ (St.bring Hb.out 2))).mono ?_
   rintro en wc ⟨rfl, hbl⟩
   have Hc := Lib.hid (Hb.out.of_below hbl)
   clear Hb hbl x0 x1 x2 x3 x4 y0 y1 y2 y3 y4
   have x0 := St.cells_mem Hc.out mm6 0
   have x1 := St.cells_mem Hc.out mm6 1
   have x2 := St.cells_mem Hc.out mm6 2
   have x3 := St.cells_mem Hc.out mm6 3
   have x4 := St.cells_mem Hc.out mm6 4
   simp only [List.getElem?_cons_zero, List.getElem?_cons_succ] at x0 x1 x2 x3 x4
   have y0 := St.cells_mem Hc.out mm3 0
   have y1 := St.cells_mem Hc.out mm3 1
   have y2 := St.cells_mem Hc.out mm3 2
   have y3 := St.cells_mem Hc.out mm3 3
   have y4 := St.cells_mem Hc.out mm3 4
   simp only [List.getElem?_cons_zero, List.getElem?_cons_succ] at y0 y1 y2 y3 y4
   go_wp2_with fail
   refine (C4.out _ (LC.out _ _ (St.bring Hc.out 2)) (Kd.C_below HCn.out Hc.out.below)).mono ?_
   rintro en wd ⟨rfl, hbl⟩
   have Hd := Lib.hid (Hc.out.of_below hbl)
   clear Hc hbl x0 x1 x2 x3 x4 y0 y1 y2 y3 y4
   have hw := Hd.out.alloc' rfl [.int .i64 0, .int .i64 0, .int .i64 0, .int .i64 0] 83
   have w0 := hw.cell pn
   rw [zeros_at pn hi4] at w0
   have w1 := hw.frozen pn
   have HW := Lib.hid (Hd.out.alloc' rfl (([.int .i64 0, .int .i64 0, .int .i64 0, .int .i64 0] : List Value).set pn (.int .i64 e)) 83)
   have e5 : ([.int .i64 0, .int .i64 0, .int .i64 0, .int .i64 0] : List Value).set pn (.int .i64 e) = [.int .i64 r0, .int .i64 r1, .int .i64 r2, .int .i64 r3] := by
     have h1 := nums_set .i64 [0, 0, 0, 0] pn e
     rw [HR4.out] at h1
     exact h1
   have HE5 := Lib.hid e5
   clear hw e5 Hd
   have x0 := St.cells_mem HW.out mm7 0
   have x1 := St.cells_mem HW.out mm7 1
   have x2 := St.cells_mem HW.out mm7 2
   have x3 := St.cells_mem HW.out mm7 3
   have x4 := St.cells_mem HW.out mm7 4
   simp only [List.getElem?_cons_zero, List.getElem?_cons_succ] at x0 x1 x2 x3 x4
   have y0 := St.cells_mem HW.out mm4 0
   have y1 := St.cells_mem HW.out mm4 1
   have y2 := St.cells_mem HW.out mm4 2
   have y3 := St.cells_mem HW.out mm4 3
   have y4 := St.cells_mem HW.out mm4 4
   simp only [List.getElem?_cons_zero, List.getElem?_cons_succ] at y0 y1 y2 y3 y4
   have t7 : (pn : Int) < 4 := by omega
   go_wp2_with fail
   refine (C5.out _ (Kd.C_below HCn.out HW.out.below) (LC.out _ _ (St.bring HW.out 3))).mono ?_
   rintro en we ⟨rfl, hbl⟩
   have hE := HW.out.of_below hbl
   rw [HE5.out] at hE
   have He := Lib.hid hE
   clear hE HW hbl w0 w1 x0 x1 x2 x3 x4 y0 y1 y2 y3 y4
   have k0 := St.cells_mem He.out mm0 0
   have k1 := St.cells_mem He.out mm0 1
   have k2 := St.cells_mem He.out mm0 2
   have k3 := St.cells_mem He.out mm0 3
   simp only [List.getElem?_cons_zero, List.getElem?_cons_succ] at k0 k1 k2 k3
   have m0 := St.cells_mem He.out mm1 0
   have m1 := St.cells_mem He.out mm1 1
   have m2 := St.cells_mem He.out mm1 2
   have m3 := St.cells_mem He.out mm1 3
   simp only [List.getElem?_cons_zero, List.getElem?_cons_succ] at m0 m1 m2 m3
   have s0 := St.cells_mem He.out mm2 0
   have s1 := St.cells_mem He.out mm2 1
   have s2 := St.cells_mem He.out mm2 2
   have s3 := St.cells_mem He.out mm2 3
   simp only [List.getElem?_cons_zero, List.getElem?_cons_succ] at s0 s1 s2 s3
   have x4 := St.cells_mem He.out mm7 4
   simp only [List.getElem?_cons_zero, List.getElem?_cons_succ] at x4
   have hcc := top_cell He.out HC1.out
   have q8 := equalIn_rung we r0 r1 r2 r3 r0 r1 r2 r3
   have q9 := equalIn_rung we 0 0 0 0 0 0 0 0
   have zz1 : ([r0, r1, r2, r3] == [r0, r1, r2, r3]) = true := beq_self_eq_true _
   have zz2 : (([0, 0, 0, 0] : List Int) == [0, 0, 0, 0]) = true := rfl
   rw [zz1] at q8
   rw [zz2] at q9
   clear zz1 zz2
   have q3 := HQO.out.2
   have hqr : (binOp .quo 86 (.float .f64 (floatOfInt .f64 ee)) (.float .f64 (floatOfInt .f64 (nX : Int)))).run Try.prog we = .ok (.float .f64 qf) we := run_float_arith (P := Try.prog) we .quo 86 .f64 _ _ qf HQO.out.1
   have e6 := HEE.out
   have e7 : (e == 0) = sv := by
     rw [← HSV.out]; rfl
   have e8 : (sv == sv) = true := beq_self_eq_true _
   have HW6 : Hid (wrap64 ee = ee) := w64 (by omega) (by omega)
   have e9 := HW6.out
   go_wp2_with fail
   go_ret
   exact ⟨rfl, He.out.below⟩
  ·have hd1 := hd0.symm
   subst hd1
   clear hd0
   have x0 := St.cells_mem HD9.out mm4 0
   have x1 := St.cells_mem HD9.out mm4 1
   have x2 := St.cells_mem HD9.out mm4 2
   have x3 := St.cells_mem HD9.out mm4 3
   have x4 := St.cells_mem HD9.out mm4 4
   simp only [List.getElem?_cons_zero, List.getElem?_cons_succ] at x0 x1 x2 x3 x4
   go_wp2_with fail
   refine (C1.out _ (Kd.C_below HCn.out HD9.out.below) (Kd.C_below HCn.out HD9.out.below)).mono ?_
   rintro en wa ⟨rfl, hbl⟩
   have Ha := Lib.hid ((HD9.out.of_below hbl).alloc' rfl [.int .i64 0, .int .i64 0, .int .i64 0, .int .i64 0] 83)
   clear HD9 hbl x0 x1 x2 x3 x4
   have x0 := St.cells_mem Ha.out mm5 0
   have x1 := St.cells_mem Ha.out mm5 1
   have x2 := St.cells_mem Ha.out mm5 2
   have x3 := St.cells_mem Ha.out mm5 3
   have x4 := St.cells_mem Ha.out mm5 4
   simp only [List.getElem?_cons_zero, List.getElem?_cons_succ] at x0 x1 x2 x3 x4
   have y0 := St.cells_mem Ha.out mm2 0
   have y1 := St.cells_mem Ha.out mm2 1
   have y2 := St.cells_mem Ha.out mm2 2
   have y3 := St.cells_mem Ha.out mm2 3
   have y4 := St.cells_mem Ha.out mm2 4
   simp only [List.getElem?_cons_zero, List.getElem?_cons_succ] at y0 y1 y2 y3 y4
   go_wp2_with fail
   generalize wa.heap.size = g1 at *
   refine (C2.out _ (Kd.C_below HCn.out Ha.out.below) (LC.out _ _ (St.bring Ha.out 1))).mono ?_
   rintro en wb ⟨rfl, hbl⟩
   have Hb := Lib.hid ((Ha.out.of_below hbl).alloc' rfl [.int .i64 r0, .int .i64 r1, .int .i64 r2, .int .i64 r3] 83)
   clear Ha hbl x0 x1 x2 x3 x4 y0 y1 y2 y3 y4
   have x0 := St.cells_mem Hb.out mm6 0
   have x1 := St.cells_mem Hb.out mm6 1
   have x2 := St.cells_mem Hb.out mm6 2
   have x3 := St.cells_mem Hb.out mm6 3
   have x4 := St.cells_mem Hb.out mm6 4
   simp only [List.getElem?_cons_zero, List.getElem?_cons_succ] at x0 x1 x2 x3 x4
   have y0 := St.cells_mem Hb.out mm3 0
   have y1 := St.cells_mem Hb.out mm3 1
   have y2 := St.cells_mem Hb.out mm3 2
   have y3 := St.cells_mem Hb.out mm3 3
   have y4 := St.cells_mem Hb.out mm3 4
   simp only [List.getElem?_cons_zero, List.getElem?_cons_succ] at y0 y1 y2 y3 y4
   go_wp2_with fail
   generalize wb.heap.size = g2 at *
   refine (C3.out _ (Kd.C_below HCn.out Hb.out.below) (LC.out _ _ (St.bring Hb.out 2))).mono ?_
   rintro en wc ⟨rfl, hbl⟩
   have Hc := Lib.hid (Hb.out.of_below hbl)
   clear Hb hbl x0 x1 x2 x3 x4 y0 y1 y2 y3 y4
   have x0 := St.cells_mem Hc.out mm6 0
   have x1 := St.cells_mem Hc.out mm6 1
   have x2 := St.cells_mem Hc.out mm6 2
   have x3 := St.cells_mem Hc.out mm6 3
   have x4 := St.cells_mem Hc.out mm6 4
   simp only [List.getElem?_cons_zero, List.getElem?_cons_succ] at x0 x1 x2 x3 x4
   have y0 := St.cells_mem Hc.out mm3 0
   have y1 := St.cells_mem Hc.out mm3 1
   have y2 := St.cells_mem Hc.out mm3 2
   have y3 := St.cells_mem Hc.out mm3 3
   have y4 := St.cells_mem Hc.out mm3 4
   simp only [List.getElem?_cons_zero, List.getElem?_cons_succ] at y0 y1 y2 y3 y4
   go_wp2_with fail
   refine (C4.out _ (LC.out _ _ (St.bring Hc.out 2)) (Kd.C_below HCn.out Hc.out.below)).mono ?_
   rintro en wd ⟨rfl, hbl⟩
   have Hd := Lib.hid (Hc.out.of_below hbl)
   clear Hc hbl x0 x1 x2 x3 x4 y0 y1 y2 y3 y4
   have hw := Hd.out.alloc' rfl [.int .i64 0, .int .i64 0, .int .i64 0, .int .i64 0] 83
   have w0 := hw.cell pn
   rw [zeros_at pn hi4] at w0
   have w1 := hw.frozen pn
   have HW := Lib.hid (Hd.out.alloc' rfl (([.int .i64 0, .int .i64 0, .int .i64 0, .int .i64 0] : List Value).set pn (.int .i64 e)) 83)
   have e5 : ([.int .i64 0, .int .i64 0, .int .i64 0, .int .i64 0] : List Value).set pn (.int .i64 e) = [.int .i64 r0, .int .i64 r1, .int .i64 r2, .int .i64 r3] := by
     have h1 := nums_set .i64 [0, 0, 0, 0] pn e
     rw [HR4.out] at h1
     exact h1
   have HE5 := Lib.hid e5
   clear hw e5 Hd
   have x0 := St.cells_mem HW.out mm7 0
   have x1 := St.cells_mem HW.out mm7 1
   have x2 := St.cells_mem HW.out mm7 2
   have x3 := St.cells_mem HW.out mm7 3
   have x4 := St.cells_mem HW.out mm7 4
   simp only [List.getElem?_cons_zero, List.getElem?_cons_succ] at x0 x1 x2 x3 x4
   have y0 := St.cells_mem HW.out mm4 0
   have y1 := St.cells_mem HW.out mm4 1
   have y2 := St.cells_mem HW.out mm4 2
   have y3 := St.cells_mem HW.out mm4 3
   have y4 := St.cells_mem HW.out mm4 4
   simp only [List.getElem?_cons_zero, List.getElem?_cons_succ] at y0 y1 y2 y3 y4
   have t7 : (pn : Int) < 4 := by omega
   go_wp2_with fail
   refine (C5.out _ (Kd.C_below HCn.out HW.out.below) (LC.out _ _ (St.bring HW.out 3))).mono ?_
   rintro en we ⟨rfl, hbl⟩
   have hE := HW.out.of_below hbl
   rw [HE5.out] at hE
   have He := Lib.hid hE
   clear hE HW hbl w0 w1 x0 x1 x2 x3 x4 y0 y1 y2 y3 y4
   have k0 := St.cells_mem He.out mm0 0
   have k1 := St.cells_mem He.out mm0 1
   have k2 := St.cells_mem He.out mm0 2
   have k3 := St.cells_mem He.out mm0 3
   simp only [List.getElem?_cons_zero, List.getElem?_cons_succ] at k0 k1 k2 k3
   have m0 := St.cells_mem He.out mm1 0
   have m1 := St.cells_mem He.out mm1 1
   have m2 := St.cells_mem He.out mm1 2
   have m3 := St.cells_mem He.out mm1 3
   simp only [List.getElem?_cons_zero, List.getElem?_cons_succ] at m0 m1 m2 m3
   have s0 := St.cells_mem He.out mm2 0
   have s1 := St.cells_mem He.out mm2 1
   have s2 := St.cells_mem He.out mm2 2
   have s3 := St.cells_mem He.out mm2 3
   simp only [List.getElem?_cons_zero, List.getElem?_cons_succ] at s0 s1 s2 s3
   have x4 := St.cells_mem He.out mm7 4
   simp only [List.getElem?_cons_zero, List.getElem?_cons_succ] at x4
   have hcc := top_cell He.out HC1.out
   have q8 := equalIn_rung we r0 r1 r2 r3 r0 r1 r2 r3
   have q9 := equalIn_rung we 0 0 0 0 0 0 0 0
   have zz1 : ([r0, r1, r2, r3] == [r0, r1, r2, r3]) = true := beq_self_eq_true _
   have zz2 : (([0, 0, 0, 0] : List Int) == [0, 0, 0, 0]) = true := rfl
   rw [zz1] at q8
   rw [zz2] at q9
   clear zz1 zz2
   have q3 := HQO.out.2
   have hqr : (binOp .quo 86 (.float .f64 (floatOfInt .f64 ee)) (.float .f64 (floatOfInt .f64 (nX : Int)))).run Try.prog we = .ok (.float .f64 qf) we := run_float_arith (P := Try.prog) we .quo 86 .f64 _ _ qf HQO.out.1
   have e6 := HEE.out
   have e7 : (e == 0) = sv := by
     rw [← HSV.out]; rfl
   have e8 : (sv == sv) = true := beq_self_eq_true _
   have HW6 : Hid (wrap64 ee = ee) := w64 (by omega) (by omega)
   have e9 := HW6.out
   go_wp2_with fail
   go_ret
   exact ⟨rfl, He.out.below⟩
 ·have hne : (ev != 0) = true := by simpa using hz
  go_wp2_with fail
  go_ret
  exact ⟨rfl, H2.out.below⟩
end Go.Proofs.Ytdoikehkibefpaa
