-- Laid by a program of this session (wip/tools/prx.py), over the kit's printer of walks; Lean checks it.
import Derived.Test.YtdoikehkibefpaaPPbx0
import Derived.Test.YtdoikehkibefpaaPPbx2
import Derived.Test.YtdoikehkibefpaaPPbx3
namespace Go.Proofs.Ytdoikehkibefpaa.PPb
open Go.RowKit Go.Proofs.YtdoikehkibefpaaW.PrintWords Go.Proofs.YtdoikehkibefpaaW.PrintLast Go.Proofs.YtdoikehkibefpaaW.PrintMore
open Go.Proofs.YtdoikehkibefpaaW.PrintWords renaming blk_far → bF, below_set → bS, blk_frozen → bZ, below_alloc → bA, pw_below_drewN → bN, below_drew1 → bD, blk_below → bB, blk_cell → bC, blk_set → bs, blk_lt → bL, blk_put → bP, below_step → bT, below_size → bU, box_event → bE, gate_dst → gD
open Go.Proofs.YtdoikehkibefpaaW.PrintWords.Kd renaming S_far → kF, S_types → kT, S_alloc → kA, S_drewN → kN, S_drew → kD
set_option linter.unusedVariables false
set_option linter.unusedSimpArgs false

/-! ### plane_part: function 69 -/
def plane_part.f (a0 : Int) (a1_0 : Int) (a1_1 : Int) (a1_2 : Int) (a1_3 : Int) : Option (Int × Int × Int × Int) := if a0 = 1 then ((plane_half.f a1_2).bind fun t174 => (some (wrap64 (Int.tdiv a1_0 2), a1_1, t174, a1_3))) else (if a0 = 2 then ((plane_half.f a1_2).bind fun t175 => (some (wrap64 (Int.tdiv a1_0 2), a1_1, t175, a1_3))) else (some (a1_0, a1_1, a1_2, a1_3)))
def plane_part.T2 : Bool × List (List Nat × List Nat) := (true, [([], []), ([0], [0]), ([1], [1]), ([], []), ([3], [3]), ([], []), ([5], [5]), ([6], [6]), ([], []), ([8], [8]), ([2, 4, 7, 9], [2, 4, 7, 9]), ([10, 7, 0, 1, 2, 3, 4, 5, 6, 7, 8, 9, 10], [10])])
def plane_part.B2 : List Nat := [0, 1, 3, 0, 8, 0, 32, 96, 0, 256, 1023, 2047]
theorem plane_part.tab2 : rtab .any (opsOf Try.f69 2) = plane_part.T2 := by kernel_rfl
theorem plane_part.bits2 : waitsOk plane_part.T2.2 plane_part.B2 = true := by kernel_rfl
set_option maxHeartbeats 8000000 in
set_option maxRecDepth 100000 in
theorem plane_part.calls (a0 : Int) (a1_0 : Int) (a1_1 : Int) (a1_2 : Int) (a1_3 : Int) (r1 : Int) (r2 : Int) (r3 : Int) (r4 : Int) (w : World) (h : plane_part.f a0 a1_0 a1_1 a1_2 a1_3 = some (r1, r2, r3, r4)) :
  Calls Try.prog 69 #[.int .i64 a0, .agg #[.int .i64 a1_0, .int .i64 a1_1, .int .i64 a1_2, .int .i64 a1_3]] w fun e w' => e = .returned (.agg #[.int .i64 r1, .int .i64 r2, .int .i64 r3, .int .i64 r4]) ∧ Below w.heap.size w w' := by
 have hu52 := Try.underlying52
 have HB := am (Below.refl w.heap.size w)
 have H : (if a0 = 1 then ((plane_half.f a1_2).bind fun t174 => (some (wrap64 (Int.tdiv a1_0 2), a1_1, t174, a1_3))) else (if a0 = 2 then ((plane_half.f a1_2).bind fun t175 => (some (wrap64 (Int.tdiv a1_0 2), a1_1, t175, a1_3))) else (some (a1_0, a1_1, a1_2, a1_3)))) = some (r1, r2, r3, r4) := h
 clear h
 by_cases c3 : a0 = 1
 ·rw [if_pos c3] at H
  have c3b0 : (a0 == 1) = true := beq_iff_eq.mpr c3
  have c3b1 : (a0 != 1) = false := bne_eq_false_iff_eq.mpr c3
  clear c3
  replace H := Option.bind_eq_some_iff.mp H
  obtain ⟨t174, A40, H⟩ := H
  replace H : (some (wrap64 (Int.tdiv a1_0 2), a1_1, t174, a1_3)) = some (r1, r2, r3, r4) := H
  have A4 := am A40
  clear A40
  simp only [Option.some.injEq, Prod.mk.injEq] at H
  obtain ⟨rfl, rfl, rfl, rfl⟩ := H
  go_enter Try.func69, Try.ntmps69
  try go_wp2_with (first | ((with_reducible refine gD (N := 3) rfl ?_); refine bE ?hg (N := 3) ?hd (cs := #[.int .i64 a1_0, .int .i64 a1_1, .int .i64 a1_2, .int .i64 a1_3]) (t := 52) ?hr ?_; (case hd => rfl); (case hg => rfl); (case hr => first | (go_simp; done) | (go_simp; rfl)); intro gb172 hg w5 hbox hb; have n0_ := am (bT (by repeat (first | (with_reducible first | exact HB.out | apply bA | apply bN | apply bD) | exact HB.out)) hb); have n1_ := am (hbox); have n2_ := am ((by rw [hg]; exact (bU (by repeat (first | (with_reducible first | exact HB.out | apply bA | apply bN | apply bD) | exact HB.out))) : w.heap.size ≤ gb172)); have n3_ := am ((by rw [hg]; exact (bU (by repeat (first | (with_reducible first | exact HB.out | apply bA | apply bN | apply bD) | exact HB.out))) : w.heap.size ≤ gb172)); clear HB; have HB := n0_; have BK172 := n1_; have GW172 := n2_; have GE172 := n3_; clear n0_ n1_ n2_ n3_; clear hb hbox hg) | ((with_reducible refine gD (N := 4) rfl ?_); refine bE ?hg (N := 4) ?hd (cs := #[.int .i64 0, .int .i64 0, .int .i64 0, .int .i64 0]) (t := 52) ?hr ?_; (case hd => rfl); (case hg => rfl); (case hr => first | (go_simp; done) | (go_simp; rfl)); intro gb173 hg w6 hbox hb; have n0_ := am (bB (g := gb172) (o := .cells #[.int .i64 a1_0, .int .i64 a1_1, .int .i64 a1_2, .int .i64 a1_3] 52 (0, 0)) (by (with_reducible repeat apply dX); exact BK172.out) hb); have n1_ := am (bT (by repeat (first | (with_reducible first | exact HB.out | apply bA | apply bN | apply bD | refine bS ?_ GE172.out) | exact HB.out)) hb); have n2_ := am (hbox); have n3_ := am ((by rw [hg]; exact (bU (by repeat (first | (with_reducible first | exact HB.out | apply bA | apply bN | apply bD | refine bS ?_ GE172.out) | exact HB.out))) : w.heap.size ≤ gb173)); have n4_ := am ((by rw [hg]; exact (bU (by repeat (first | (with_reducible first | exact HB.out | apply bA | apply bN | apply bD | refine bS ?_ GE172.out) | exact HB.out))) : w.heap.size ≤ gb173)); have n5_ := am ((by rw [hg]; exact nL (bL (g := gb172) (o := .cells #[.int .i64 a1_0, .int .i64 a1_1, .int .i64 a1_2, .int .i64 a1_3] 52 (0, 0)) (by (with_reducible repeat apply dX); exact BK172.out)) : gb172 ≠ gb173)); have n6_ := am ((by rw [hg]; exact nG (bL (g := gb172) (o := .cells #[.int .i64 a1_0, .int .i64 a1_1, .int .i64 a1_2, .int .i64 a1_3] 52 (0, 0)) (by (with_reducible repeat apply dX); exact BK172.out)) : gb173 ≠ gb172)); clear BK172; clear HB; have BK172 := n0_; have HB := n1_; have BK173 := n2_; have GW173 := n3_; have GE173 := n4_; have NB172_173 := n5_; have NB173_172 := n6_; clear n0_ n1_ n2_ n3_ n4_ n5_ n6_; clear hb hbox hg))
  have n0_ := am (blk_drew BK172.out)
  have n1_ := am (blk_drew BK173.out)
  have n2_ := am (bD HB.out)
  clear BK172
  clear BK173
  clear HB
  have BK172 := n0_
  have BK173 := n1_
  have HB := n2_
  clear n0_ n1_ n2_
  refine start_ (n := 12) (S := fun w' => w'.cell? ⟨gb172, 0, none⟩ = some (.int .i64 a1_0) ∧ w'.cell? ⟨gb172, 1, none⟩ = some (.int .i64 a1_1) ∧ w'.cell? ⟨gb172, 2, none⟩ = some (.int .i64 a1_2) ∧ w'.cell? ⟨gb172, 3, none⟩ = some (.int .i64 a1_3)) (ds := []) #[false, false, false, false, false, false, false, false, false, false, false, false] (by kernel_rfl) rfl rfl ⟨(bC BK172.out 0).trans rfl, (bC BK172.out 1).trans rfl, (bC BK172.out 2).trans rfl, (bC BK172.out 3).trans rfl⟩ (fun hHeld => ?_); refine with_tabW plane_part.tab2 plane_part.bits2 (fun HT_ HW_ => ?_)
  generalize w6.drew = w7 at BK172 BK173 HB hHeld ⊢
  refine pure_ (i := 0) (N := some 11) (v := ?_) (a' := ?_) #[true, false, false, false, false, false, false, false, false, false, false, false] rfl rfl (any_of HT_.out (by kernel_rfl)) (fun _ _ _ h => h) (Or.inl ⟨by rfl, ?_⟩) ?_ ?_
  rotate_left
  ·intro w'
   go_simp
   with_reducible rfl
  rotate_left
  ·simp only [Act.put, List.setIfInBounds_toArray, List.set_cons_zero, List.set_cons_succ, i64_w, i32_w]
   rfl
  refine pure_ (i := 3) (N := some 14) (v := ?_) (a' := ?_) #[true, false, false, true, false, false, false, false, false, false, false, false] rfl rfl (any_of HT_.out (by kernel_rfl)) (fun _ _ _ h => h) (Or.inl ⟨by rfl, ?_⟩) ?_ ?_
  rotate_left
  ·intro w'
   go_simp
   with_reducible rfl
  rotate_left
  ·simp only [Act.put, List.setIfInBounds_toArray, List.set_cons_zero, List.set_cons_succ, i64_w, i32_w]
   rfl
  refine pure_ (i := 5) (N := some 16) (v := ?_) (a' := ?_) #[true, false, false, true, false, true, false, false, false, false, false, false] rfl rfl (any_of HT_.out (by kernel_rfl)) (fun _ _ _ h => h) (Or.inl ⟨by rfl, ?_⟩) ?_ ?_
  rotate_left
  ·intro w'
   go_simp
   with_reducible rfl
  rotate_left
  ·simp only [Act.put, List.setIfInBounds_toArray, List.set_cons_zero, List.set_cons_succ, i64_w, i32_w]
   rfl
  refine pure_ (i := 8) (N := some 19) (v := ?_) (a' := ?_) #[true, false, false, true, false, true, false, false, true, false, false, false] rfl rfl (any_of HT_.out (by kernel_rfl)) (fun _ _ _ h => h) (Or.inl ⟨by rfl, ?_⟩) ?_ ?_
  rotate_left
  ·intro w'
   go_simp
   with_reducible rfl
  rotate_left
  ·simp only [Act.put, List.setIfInBounds_toArray, List.set_cons_zero, List.set_cons_succ, i64_w, i32_w]
   rfl
  refine take_ (i := 1) (N := some 12) (v := ?_) (a' := ?_) #[true, true, false, true, false, true, false, false, true, false, false, false] rfl rfl (take_ofW HT_.out HW_.out (by kernel_rfl)) (fun _ _ _ h => h) (Or.inl ⟨by rfl, ?_⟩) hHeld ?_ ?_
  rotate_left
  ·rintro w' ⟨s0, s1, s2, s3⟩
   go_simp
   with_reducible rfl
  rotate_left
  ·simp only [Act.put, List.setIfInBounds_toArray, List.set_cons_zero, List.set_cons_succ, i64_w, i32_w]
   rfl
  refine pure_ (i := 2) (N := some 13) (v := ?_) (a' := ?_) #[true, true, true, true, false, true, false, false, true, false, false, false] rfl rfl (any_of HT_.out (by kernel_rfl)) (fun _ _ _ h => h) (Or.inl ⟨by rfl, ?_⟩) ?_ ?_
  rotate_left
  ·intro w'
   go_simp
   with_reducible rfl
  rotate_left
  ·simp only [Act.put, List.setIfInBounds_toArray, List.set_cons_zero, List.set_cons_succ, i64_w, i32_w]
   rfl
  refine take_ (i := 4) (N := some 15) (v := ?_) (a' := ?_) #[true, true, true, true, true, true, false, false, true, false, false, false] rfl rfl (take_ofW HT_.out HW_.out (by kernel_rfl)) (fun _ _ _ h => h) (Or.inl ⟨by rfl, ?_⟩) hHeld ?_ ?_
  rotate_left
  ·rintro w' ⟨s0, s1, s2, s3⟩
   go_simp
   with_reducible rfl
  rotate_left
  ·simp only [Act.put, List.setIfInBounds_toArray, List.set_cons_zero, List.set_cons_succ, i64_w, i32_w]
   rfl
  refine take_ (i := 6) (N := some 17) (v := ?_) (a' := ?_) #[true, true, true, true, true, true, true, false, true, false, false, false] rfl rfl (take_ofW HT_.out HW_.out (by kernel_rfl)) (fun _ _ _ h => h) (Or.inl ⟨by rfl, ?_⟩) hHeld ?_ ?_
  rotate_left
  ·rintro w' ⟨s0, s1, s2, s3⟩
   go_simp
   with_reducible rfl
  rotate_left
  ·simp only [Act.put, List.setIfInBounds_toArray, List.set_cons_zero, List.set_cons_succ, i64_w, i32_w]
   rfl
  refine take_ (i := 9) (N := some 20) (v := ?_) (a' := ?_) #[true, true, true, true, true, true, true, false, true, true, false, false] rfl rfl (take_ofW HT_.out HW_.out (by kernel_rfl)) (fun _ _ _ h => h) (Or.inl ⟨by rfl, ?_⟩) hHeld ?_ ?_
  rotate_left
  ·rintro w' ⟨s0, s1, s2, s3⟩
   go_simp
   with_reducible rfl
  rotate_left
  ·simp only [Act.put, List.setIfInBounds_toArray, List.set_cons_zero, List.set_cons_succ, i64_w, i32_w]
   rfl
  refine one_ (i := 7) (N := some 18) #[true, true, true, true, true, true, true, true, true, true, false, false] rfl rfl (one_of HT_.out (by kernel_rfl)) (by decide) (fun K hK => ?_)
  refine goes_ Try.func79 (by kernel_rfl) rfl #[.int .i64 a1_2] (by rfl) rfl rfl (by (try simp only [List.map_toArray, List.map_cons, List.map_nil]); first | done | rfl | (simp only [List.length_drop, List.length_take]; rfl)) ?_
  with_reducible refine (plane_half.calls a1_2 t174 _ A4.out).mono ?_
  rintro e w' ⟨rfl, ⟨nd, rfl⟩⟩
  refine ⟨_, rfl, ?_⟩
  refine hK.out _ _ ⟨(bC BK172.out 0).trans rfl, (bC BK172.out 1).trans rfl, (bC BK172.out 2).trans rfl, (bC BK172.out 3).trans rfl⟩ (fun hHeld => ?_)
  clear hK K
  refine norm_ (a' := ?_) ?_ ?_
  rotate_left
  ·show Act.put _ (some 18) _ = _
   simp only [Act.put, List.setIfInBounds_toArray, List.set_cons_zero, List.set_cons_succ, i64_w, i32_w]
   rfl
  refine pure_ (i := 10) (N := some 21) (v := ?_) (a' := ?_) #[true, true, true, true, true, true, true, true, true, true, true, false] rfl rfl (any_of HT_.out (by kernel_rfl)) (fun _ _ _ h => h) (Or.inl ⟨by rfl, ?_⟩) ?_ ?_
  rotate_left
  ·intro w'
   go_simp
   with_reducible rfl
  rotate_left
  ·simp only [Act.put, List.setIfInBounds_toArray, List.set_cons_zero, List.set_cons_succ, i64_w, i32_w]
   rfl
  refine one_ (i := 11) (N := none) #[true, true, true, true, true, true, true, true, true, true, true, true] rfl rfl (one_of HT_.out (by kernel_rfl)) (by decide) (fun K hK => ?_)
  have hs8 : w7.cell? ⟨gb173, 0, none⟩ = some (.int .i64 0) := (bC BK173.out 0).trans rfl
  have hfs8 := bZ BK173.out 0
  have hns8_0 := NB172_173.out
  have hms8_0 := NB173_172.out
  have hs9 : w7.cell? ⟨gb173, 1, none⟩ = some (.int .i64 0) := (bC BK173.out 1).trans rfl
  have hfs9 := bZ BK173.out 1
  have hns9_0 := NB172_173.out
  have hms9_0 := NB173_172.out
  have hs10 : w7.cell? ⟨gb173, 2, none⟩ = some (.int .i64 0) := (bC BK173.out 2).trans rfl
  have hfs10 := bZ BK173.out 2
  have hns10_0 := NB172_173.out
  have hms10_0 := NB173_172.out
  have hs11 : w7.cell? ⟨gb173, 3, none⟩ = some (.int .i64 0) := (bC BK173.out 3).trans rfl
  have hfs11 := bZ BK173.out 3
  have hns11_0 := NB172_173.out
  have hms11_0 := NB173_172.out
  refine skip_ (w1 := ?_) (by rfl) rfl ?_ ?_
  rotate_left
  ·go_simp
   rfl
  refine hK.out _ _ ⟨((cell_far (p := ⟨gb173, _, none⟩) NB172_173.out _).trans (((cell_far (p := ⟨gb173, _, none⟩) NB172_173.out _).trans (((cell_far (p := ⟨gb173, _, none⟩) NB172_173.out _).trans (((cell_far (p := ⟨gb173, _, none⟩) NB172_173.out _).trans (hHeld.1)))))))), ((cell_far (p := ⟨gb173, _, none⟩) NB172_173.out _).trans (((cell_far (p := ⟨gb173, _, none⟩) NB172_173.out _).trans (((cell_far (p := ⟨gb173, _, none⟩) NB172_173.out _).trans (((cell_far (p := ⟨gb173, _, none⟩) NB172_173.out _).trans (hHeld.2.1)))))))), ((cell_far (p := ⟨gb173, _, none⟩) NB172_173.out _).trans (((cell_far (p := ⟨gb173, _, none⟩) NB172_173.out _).trans (((cell_far (p := ⟨gb173, _, none⟩) NB172_173.out _).trans (((cell_far (p := ⟨gb173, _, none⟩) NB172_173.out _).trans (hHeld.2.2.1)))))))), ((cell_far (p := ⟨gb173, _, none⟩) NB172_173.out _).trans (((cell_far (p := ⟨gb173, _, none⟩) NB172_173.out _).trans (((cell_far (p := ⟨gb173, _, none⟩) NB172_173.out _).trans (((cell_far (p := ⟨gb173, _, none⟩) NB172_173.out _).trans (hHeld.2.2.2))))))))⟩ (fun hHeld => ?_)
  clear hK K
  refine done_ (done_of HT_.out (by kernel_rfl)) ?_
  try go_wp2
  refine bodyPost_ret (results_cell_row rfl _ _ gb173 52 #[.int .i64 (wrap64 (Int.tdiv a1_0 2)), .int .i64 a1_1, .int .i64 t174, .int .i64 a1_3] (0, 0) _ rfl (by (with_reducible repeat apply dX); refine bP (cs := #[.int .i64 (wrap64 (Int.tdiv a1_0 2)), .int .i64 a1_1, .int .i64 t174, .int .i64 0]) ?_ 3 _ rfl; (with_reducible repeat apply dX); refine bP (cs := #[.int .i64 (wrap64 (Int.tdiv a1_0 2)), .int .i64 a1_1, .int .i64 0, .int .i64 0]) ?_ 2 _ rfl; (with_reducible repeat apply dX); refine bP (cs := #[.int .i64 (wrap64 (Int.tdiv a1_0 2)), .int .i64 0, .int .i64 0, .int .i64 0]) ?_ 1 _ rfl; (with_reducible repeat apply dX); refine bP (cs := #[.int .i64 0, .int .i64 0, .int .i64 0, .int .i64 0]) ?_ 0 _ rfl; (with_reducible repeat apply dX); exact BK173.out) Try.underlying52 rfl (by kernel_rfl)) rfl ?_
  exact ⟨by first | rfl | (simp [errW_none, errW_some] <;> rfl) | (simp [*, errW_none, errW_some] <;> rfl), by repeat (first | (with_reducible first | exact HB.out | apply bA | apply bN | apply bD | refine bS ?_ GE172.out | refine bS ?_ GE173.out) | exact HB.out)⟩
 ·rw [if_neg c3] at H
  have c3b0 : (a0 == 1) = false := beq_eq_false_iff_ne.mpr c3
  have c3b1 : (a0 != 1) = true := bne_iff_ne.mpr c3
  by_cases c12 : a0 = 2
  ·rw [if_pos c12] at H
   have c12b0 : (a0 == 2) = true := beq_iff_eq.mpr c12
   have c12b1 : (a0 != 2) = false := bne_eq_false_iff_eq.mpr c12
   clear c12
   replace H := Option.bind_eq_some_iff.mp H
   obtain ⟨t175, A130, H⟩ := H
   replace H : (some (wrap64 (Int.tdiv a1_0 2), a1_1, t175, a1_3)) = some (r1, r2, r3, r4) := H
   have A13 := am A130
   clear A130
   simp only [Option.some.injEq, Prod.mk.injEq] at H
   obtain ⟨rfl, rfl, rfl, rfl⟩ := H
   go_enter Try.func69, Try.ntmps69
   try go_wp2_with (first | ((with_reducible refine gD (N := 3) rfl ?_); refine bE ?hg (N := 3) ?hd (cs := #[.int .i64 a1_0, .int .i64 a1_1, .int .i64 a1_2, .int .i64 a1_3]) (t := 52) ?hr ?_; (case hd => rfl); (case hg => rfl); (case hr => first | (go_simp; done) | (go_simp; rfl)); intro gb172 hg w14 hbox hb; have n0_ := am (bT (by repeat (first | (with_reducible first | exact HB.out | apply bA | apply bN | apply bD) | exact HB.out)) hb); have n1_ := am (hbox); have n2_ := am ((by rw [hg]; exact (bU (by repeat (first | (with_reducible first | exact HB.out | apply bA | apply bN | apply bD) | exact HB.out))) : w.heap.size ≤ gb172)); have n3_ := am ((by rw [hg]; exact (bU (by repeat (first | (with_reducible first | exact HB.out | apply bA | apply bN | apply bD) | exact HB.out))) : w.heap.size ≤ gb172)); clear HB; have HB := n0_; have BK172 := n1_; have GW172 := n2_; have GE172 := n3_; clear n0_ n1_ n2_ n3_; clear hb hbox hg) | ((with_reducible refine gD (N := 4) rfl ?_); refine bE ?hg (N := 4) ?hd (cs := #[.int .i64 0, .int .i64 0, .int .i64 0, .int .i64 0]) (t := 52) ?hr ?_; (case hd => rfl); (case hg => rfl); (case hr => first | (go_simp; done) | (go_simp; rfl)); intro gb173 hg w15 hbox hb; have n0_ := am (bB (g := gb172) (o := .cells #[.int .i64 a1_0, .int .i64 a1_1, .int .i64 a1_2, .int .i64 a1_3] 52 (0, 0)) (by (with_reducible repeat apply dX); exact BK172.out) hb); have n1_ := am (bT (by repeat (first | (with_reducible first | exact HB.out | apply bA | apply bN | apply bD | refine bS ?_ GE172.out) | exact HB.out)) hb); have n2_ := am (hbox); have n3_ := am ((by rw [hg]; exact (bU (by repeat (first | (with_reducible first | exact HB.out | apply bA | apply bN | apply bD | refine bS ?_ GE172.out) | exact HB.out))) : w.heap.size ≤ gb173)); have n4_ := am ((by rw [hg]; exact (bU (by repeat (first | (with_reducible first | exact HB.out | apply bA | apply bN | apply bD | refine bS ?_ GE172.out) | exact HB.out))) : w.heap.size ≤ gb173)); have n5_ := am ((by rw [hg]; exact nL (bL (g := gb172) (o := .cells #[.int .i64 a1_0, .int .i64 a1_1, .int .i64 a1_2, .int .i64 a1_3] 52 (0, 0)) (by (with_reducible repeat apply dX); exact BK172.out)) : gb172 ≠ gb173)); have n6_ := am ((by rw [hg]; exact nG (bL (g := gb172) (o := .cells #[.int .i64 a1_0, .int .i64 a1_1, .int .i64 a1_2, .int .i64 a1_3] 52 (0, 0)) (by (with_reducible repeat apply dX); exact BK172.out)) : gb173 ≠ gb172)); clear BK172; clear HB; have BK172 := n0_; have HB := n1_; have BK173 := n2_; have GW173 := n3_; have GE173 := n4_; have NB172_173 := n5_; have NB173_172 := n6_; clear n0_ n1_ n2_ n3_ n4_ n5_ n6_; clear hb hbox hg))
   have n0_ := am (blk_drew BK172.out)
   have n1_ := am (blk_drew BK173.out)
   have n2_ := am (bD HB.out)
   clear BK172
   clear BK173
   clear HB
   have BK172 := n0_
   have BK173 := n1_
   have HB := n2_
   clear n0_ n1_ n2_
   refine start_ (n := 12) (S := fun w' => w'.cell? ⟨gb172, 0, none⟩ = some (.int .i64 a1_0) ∧ w'.cell? ⟨gb172, 1, none⟩ = some (.int .i64 a1_1) ∧ w'.cell? ⟨gb172, 2, none⟩ = some (.int .i64 a1_2) ∧ w'.cell? ⟨gb172, 3, none⟩ = some (.int .i64 a1_3)) (ds := []) #[false, false, false, false, false, false, false, false, false, false, false, false] (by kernel_rfl) rfl rfl ⟨(bC BK172.out 0).trans rfl, (bC BK172.out 1).trans rfl, (bC BK172.out 2).trans rfl, (bC BK172.out 3).trans rfl⟩ (fun hHeld => ?_); refine with_tabW plane_part.tab2 plane_part.bits2 (fun HT_ HW_ => ?_)
   generalize w15.drew = w16 at BK172 BK173 HB hHeld ⊢
   refine pure_ (i := 0) (N := some 11) (v := ?_) (a' := ?_) #[true, false, false, false, false, false, false, false, false, false, false, false] rfl rfl (any_of HT_.out (by kernel_rfl)) (fun _ _ _ h => h) (Or.inl ⟨by rfl, ?_⟩) ?_ ?_
   rotate_left
   ·intro w'
    go_simp
    with_reducible rfl
   rotate_left
   ·simp only [Act.put, List.setIfInBounds_toArray, List.set_cons_zero, List.set_cons_succ, i64_w, i32_w]
    rfl
   refine pure_ (i := 3) (N := some 14) (v := ?_) (a' := ?_) #[true, false, false, true, false, false, false, false, false, false, false, false] rfl rfl (any_of HT_.out (by kernel_rfl)) (fun _ _ _ h => h) (Or.inl ⟨by rfl, ?_⟩) ?_ ?_
   rotate_left
   ·intro w'
    go_simp
    with_reducible rfl
   rotate_left
   ·simp only [Act.put, List.setIfInBounds_toArray, List.set_cons_zero, List.set_cons_succ, i64_w, i32_w]
    rfl
   refine pure_ (i := 5) (N := some 16) (v := ?_) (a' := ?_) #[true, false, false, true, false, true, false, false, false, false, false, false] rfl rfl (any_of HT_.out (by kernel_rfl)) (fun _ _ _ h => h) (Or.inl ⟨by rfl, ?_⟩) ?_ ?_
   rotate_left
   ·intro w'
    go_simp
    with_reducible rfl
   rotate_left
   ·simp only [Act.put, List.setIfInBounds_toArray, List.set_cons_zero, List.set_cons_succ, i64_w, i32_w]
    rfl
   refine pure_ (i := 8) (N := some 19) (v := ?_) (a' := ?_) #[true, false, false, true, false, true, false, false, true, false, false, false] rfl rfl (any_of HT_.out (by kernel_rfl)) (fun _ _ _ h => h) (Or.inl ⟨by rfl, ?_⟩) ?_ ?_
   rotate_left
   ·intro w'
    go_simp
    with_reducible rfl
   rotate_left
   ·simp only [Act.put, List.setIfInBounds_toArray, List.set_cons_zero, List.set_cons_succ, i64_w, i32_w]
    rfl
   refine take_ (i := 1) (N := some 12) (v := ?_) (a' := ?_) #[true, true, false, true, false, true, false, false, true, false, false, false] rfl rfl (take_ofW HT_.out HW_.out (by kernel_rfl)) (fun _ _ _ h => h) (Or.inl ⟨by rfl, ?_⟩) hHeld ?_ ?_
   rotate_left
   ·rintro w' ⟨s0, s1, s2, s3⟩
    go_simp
    with_reducible rfl
   rotate_left
   ·simp only [Act.put, List.setIfInBounds_toArray, List.set_cons_zero, List.set_cons_succ, i64_w, i32_w]
    rfl
   refine pure_ (i := 2) (N := some 13) (v := ?_) (a' := ?_) #[true, true, true, true, false, true, false, false, true, false, false, false] rfl rfl (any_of HT_.out (by kernel_rfl)) (fun _ _ _ h => h) (Or.inl ⟨by rfl, ?_⟩) ?_ ?_
   rotate_left
   ·intro w'
    go_simp
    with_reducible rfl
   rotate_left
   ·simp only [Act.put, List.setIfInBounds_toArray, List.set_cons_zero, List.set_cons_succ, i64_w, i32_w]
    rfl
   refine take_ (i := 4) (N := some 15) (v := ?_) (a' := ?_) #[true, true, true, true, true, true, false, false, true, false, false, false] rfl rfl (take_ofW HT_.out HW_.out (by kernel_rfl)) (fun _ _ _ h => h) (Or.inl ⟨by rfl, ?_⟩) hHeld ?_ ?_
   rotate_left
   ·rintro w' ⟨s0, s1, s2, s3⟩
    go_simp
    with_reducible rfl
   rotate_left
   ·simp only [Act.put, List.setIfInBounds_toArray, List.set_cons_zero, List.set_cons_succ, i64_w, i32_w]
    rfl
   refine take_ (i := 6) (N := some 17) (v := ?_) (a' := ?_) #[true, true, true, true, true, true, true, false, true, false, false, false] rfl rfl (take_ofW HT_.out HW_.out (by kernel_rfl)) (fun _ _ _ h => h) (Or.inl ⟨by rfl, ?_⟩) hHeld ?_ ?_
   rotate_left
   ·rintro w' ⟨s0, s1, s2, s3⟩
    go_simp
    with_reducible rfl
   rotate_left
   ·simp only [Act.put, List.setIfInBounds_toArray, List.set_cons_zero, List.set_cons_succ, i64_w, i32_w]
    rfl
   refine take_ (i := 9) (N := some 20) (v := ?_) (a' := ?_) #[true, true, true, true, true, true, true, false, true, true, false, false] rfl rfl (take_ofW HT_.out HW_.out (by kernel_rfl)) (fun _ _ _ h => h) (Or.inl ⟨by rfl, ?_⟩) hHeld ?_ ?_
   rotate_left
   ·rintro w' ⟨s0, s1, s2, s3⟩
    go_simp
    with_reducible rfl
   rotate_left
   ·simp only [Act.put, List.setIfInBounds_toArray, List.set_cons_zero, List.set_cons_succ, i64_w, i32_w]
    rfl
   refine one_ (i := 7) (N := some 18) #[true, true, true, true, true, true, true, true, true, true, false, false] rfl rfl (one_of HT_.out (by kernel_rfl)) (by decide) (fun K hK => ?_)
   refine goes_ Try.func79 (by kernel_rfl) rfl #[.int .i64 a1_2] (by rfl) rfl rfl (by (try simp only [List.map_toArray, List.map_cons, List.map_nil]); first | done | rfl | (simp only [List.length_drop, List.length_take]; rfl)) ?_
   with_reducible refine (plane_half.calls a1_2 t175 _ A13.out).mono ?_
   rintro e w' ⟨rfl, ⟨nd, rfl⟩⟩
   refine ⟨_, rfl, ?_⟩
   refine hK.out _ _ ⟨(bC BK172.out 0).trans rfl, (bC BK172.out 1).trans rfl, (bC BK172.out 2).trans rfl, (bC BK172.out 3).trans rfl⟩ (fun hHeld => ?_)
   clear hK K
   refine norm_ (a' := ?_) ?_ ?_
   rotate_left
   ·show Act.put _ (some 18) _ = _
    simp only [Act.put, List.setIfInBounds_toArray, List.set_cons_zero, List.set_cons_succ, i64_w, i32_w]
    rfl
   refine pure_ (i := 10) (N := some 21) (v := ?_) (a' := ?_) #[true, true, true, true, true, true, true, true, true, true, true, false] rfl rfl (any_of HT_.out (by kernel_rfl)) (fun _ _ _ h => h) (Or.inl ⟨by rfl, ?_⟩) ?_ ?_
   rotate_left
   ·intro w'
    go_simp
    with_reducible rfl
   rotate_left
   ·simp only [Act.put, List.setIfInBounds_toArray, List.set_cons_zero, List.set_cons_succ, i64_w, i32_w]
    rfl
   refine one_ (i := 11) (N := none) #[true, true, true, true, true, true, true, true, true, true, true, true] rfl rfl (one_of HT_.out (by kernel_rfl)) (by decide) (fun K hK => ?_)
   have hs17 : w16.cell? ⟨gb173, 0, none⟩ = some (.int .i64 0) := (bC BK173.out 0).trans rfl
   have hfs17 := bZ BK173.out 0
   have hns17_0 := NB172_173.out
   have hms17_0 := NB173_172.out
   have hs18 : w16.cell? ⟨gb173, 1, none⟩ = some (.int .i64 0) := (bC BK173.out 1).trans rfl
   have hfs18 := bZ BK173.out 1
   have hns18_0 := NB172_173.out
   have hms18_0 := NB173_172.out
   have hs19 : w16.cell? ⟨gb173, 2, none⟩ = some (.int .i64 0) := (bC BK173.out 2).trans rfl
   have hfs19 := bZ BK173.out 2
   have hns19_0 := NB172_173.out
   have hms19_0 := NB173_172.out
   have hs20 : w16.cell? ⟨gb173, 3, none⟩ = some (.int .i64 0) := (bC BK173.out 3).trans rfl
   have hfs20 := bZ BK173.out 3
   have hns20_0 := NB172_173.out
   have hms20_0 := NB173_172.out
   refine skip_ (w1 := ?_) (by rfl) rfl ?_ ?_
   rotate_left
   ·go_simp
    rfl
   refine hK.out _ _ ⟨((cell_far (p := ⟨gb173, _, none⟩) NB172_173.out _).trans (((cell_far (p := ⟨gb173, _, none⟩) NB172_173.out _).trans (((cell_far (p := ⟨gb173, _, none⟩) NB172_173.out _).trans (((cell_far (p := ⟨gb173, _, none⟩) NB172_173.out _).trans (hHeld.1)))))))), ((cell_far (p := ⟨gb173, _, none⟩) NB172_173.out _).trans (((cell_far (p := ⟨gb173, _, none⟩) NB172_173.out _).trans (((cell_far (p := ⟨gb173, _, none⟩) NB172_173.out _).trans (((cell_far (p := ⟨gb173, _, none⟩) NB172_173.out _).trans (hHeld.2.1)))))))), ((cell_far (p := ⟨gb173, _, none⟩) NB172_173.out _).trans (((cell_far (p := ⟨gb173, _, none⟩) NB172_173.out _).trans (((cell_far (p := ⟨gb173, _, none⟩) NB172_173.out _).trans (((cell_far (p := ⟨gb173, _, none⟩) NB172_173.out _).trans (hHeld.2.2.1)))))))), ((cell_far (p := ⟨gb173, _, none⟩) NB172_173.out _).trans (((cell_far (p := ⟨gb173, _, none⟩) NB172_173.out _).trans (((cell_far (p := ⟨gb173, _, none⟩) NB172_173.out _).trans (((cell_far (p := ⟨gb173, _, none⟩) NB172_173.out _).trans (hHeld.2.2.2))))))))⟩ (fun hHeld => ?_)
   clear hK K
   refine done_ (done_of HT_.out (by kernel_rfl)) ?_
   try go_wp2
   refine bodyPost_ret (results_cell_row rfl _ _ gb173 52 #[.int .i64 (wrap64 (Int.tdiv a1_0 2)), .int .i64 a1_1, .int .i64 t175, .int .i64 a1_3] (0, 0) _ rfl (by (with_reducible repeat apply dX); refine bP (cs := #[.int .i64 (wrap64 (Int.tdiv a1_0 2)), .int .i64 a1_1, .int .i64 t175, .int .i64 0]) ?_ 3 _ rfl; (with_reducible repeat apply dX); refine bP (cs := #[.int .i64 (wrap64 (Int.tdiv a1_0 2)), .int .i64 a1_1, .int .i64 0, .int .i64 0]) ?_ 2 _ rfl; (with_reducible repeat apply dX); refine bP (cs := #[.int .i64 (wrap64 (Int.tdiv a1_0 2)), .int .i64 0, .int .i64 0, .int .i64 0]) ?_ 1 _ rfl; (with_reducible repeat apply dX); refine bP (cs := #[.int .i64 0, .int .i64 0, .int .i64 0, .int .i64 0]) ?_ 0 _ rfl; (with_reducible repeat apply dX); exact BK173.out) Try.underlying52 rfl (by kernel_rfl)) rfl ?_
   exact ⟨by first | rfl | (simp [errW_none, errW_some] <;> rfl) | (simp [*, errW_none, errW_some] <;> rfl), by repeat (first | (with_reducible first | exact HB.out | apply bA | apply bN | apply bD | refine bS ?_ GE172.out | refine bS ?_ GE173.out) | exact HB.out)⟩
  ·rw [if_neg c12] at H
   have c12b0 : (a0 == 2) = false := beq_eq_false_iff_ne.mpr c12
   have c12b1 : (a0 != 2) = true := bne_iff_ne.mpr c12
   simp only [Option.some.injEq, Prod.mk.injEq] at H
   obtain ⟨rfl, rfl, rfl, rfl⟩ := H
   go_enter Try.func69, Try.ntmps69
   go_wp2_with (first | ((with_reducible refine gD (N := 3) rfl ?_); refine bE ?hg (N := 3) ?hd (cs := #[.int .i64 a1_0, .int .i64 a1_1, .int .i64 a1_2, .int .i64 a1_3]) (t := 52) ?hr ?_; (case hd => rfl); (case hg => rfl); (case hr => first | (go_simp; done) | (go_simp; rfl)); intro gb172 hg w21 hbox hb; have n0_ := am (bT (by repeat (first | (with_reducible first | exact HB.out | apply bA | apply bN | apply bD) | exact HB.out)) hb); have n1_ := am (hbox); have n2_ := am ((by rw [hg]; exact (bU (by repeat (first | (with_reducible first | exact HB.out | apply bA | apply bN | apply bD) | exact HB.out))) : w.heap.size ≤ gb172)); have n3_ := am ((by rw [hg]; exact (bU (by repeat (first | (with_reducible first | exact HB.out | apply bA | apply bN | apply bD) | exact HB.out))) : w.heap.size ≤ gb172)); clear HB; have HB := n0_; have BK172 := n1_; have GW172 := n2_; have GE172 := n3_; clear n0_ n1_ n2_ n3_; clear hb hbox hg) | ((with_reducible refine gD (N := 4) rfl ?_); refine bE ?hg (N := 4) ?hd (cs := #[.int .i64 0, .int .i64 0, .int .i64 0, .int .i64 0]) (t := 52) ?hr ?_; (case hd => rfl); (case hg => rfl); (case hr => first | (go_simp; done) | (go_simp; rfl)); intro gb173 hg w22 hbox hb; have n0_ := am (bB (g := gb172) (o := .cells #[.int .i64 a1_0, .int .i64 a1_1, .int .i64 a1_2, .int .i64 a1_3] 52 (0, 0)) (by (with_reducible repeat apply dX); exact BK172.out) hb); have n1_ := am (bT (by repeat (first | (with_reducible first | exact HB.out | apply bA | apply bN | apply bD | refine bS ?_ GE172.out) | exact HB.out)) hb); have n2_ := am (hbox); have n3_ := am ((by rw [hg]; exact (bU (by repeat (first | (with_reducible first | exact HB.out | apply bA | apply bN | apply bD | refine bS ?_ GE172.out) | exact HB.out))) : w.heap.size ≤ gb173)); have n4_ := am ((by rw [hg]; exact (bU (by repeat (first | (with_reducible first | exact HB.out | apply bA | apply bN | apply bD | refine bS ?_ GE172.out) | exact HB.out))) : w.heap.size ≤ gb173)); have n5_ := am ((by rw [hg]; exact nL (bL (g := gb172) (o := .cells #[.int .i64 a1_0, .int .i64 a1_1, .int .i64 a1_2, .int .i64 a1_3] 52 (0, 0)) (by (with_reducible repeat apply dX); exact BK172.out)) : gb172 ≠ gb173)); have n6_ := am ((by rw [hg]; exact nG (bL (g := gb172) (o := .cells #[.int .i64 a1_0, .int .i64 a1_1, .int .i64 a1_2, .int .i64 a1_3] 52 (0, 0)) (by (with_reducible repeat apply dX); exact BK172.out)) : gb173 ≠ gb172)); clear BK172; clear HB; have BK172 := n0_; have HB := n1_; have BK173 := n2_; have GW173 := n3_; have GE173 := n4_; have NB172_173 := n5_; have NB173_172 := n6_; clear n0_ n1_ n2_ n3_ n4_ n5_ n6_; clear hb hbox hg; have hnb23 := NB172_173.out; have hnc23 := NB173_172.out; have hcz24_0 : w22.cell? ⟨gb172, 0, none⟩ = some (.int .i64 a1_0) := (bC BK172.out 0).trans rfl; have hcz24_1 : w22.cell? ⟨gb172, 1, none⟩ = some (.int .i64 a1_1) := (bC BK172.out 1).trans rfl; have hcz24_2 : w22.cell? ⟨gb172, 2, none⟩ = some (.int .i64 a1_2) := (bC BK172.out 2).trans rfl; have hcz24_3 : w22.cell? ⟨gb172, 3, none⟩ = some (.int .i64 a1_3) := (bC BK172.out 3).trans rfl; have hfz24_0 := bZ BK172.out 0; have hfz24_1 := bZ BK172.out 1; have hfz24_2 := bZ BK172.out 2; have hfz24_3 := bZ BK172.out 3; have hcz25_0 : w22.cell? ⟨gb173, 0, none⟩ = some (.int .i64 0) := (bC BK173.out 0).trans rfl; have hcz25_1 : w22.cell? ⟨gb173, 1, none⟩ = some (.int .i64 0) := (bC BK173.out 1).trans rfl; have hcz25_2 : w22.cell? ⟨gb173, 2, none⟩ = some (.int .i64 0) := (bC BK173.out 2).trans rfl; have hcz25_3 : w22.cell? ⟨gb173, 3, none⟩ = some (.int .i64 0) := (bC BK173.out 3).trans rfl; have hfz25_0 := bZ BK173.out 0; have hfz25_1 := bZ BK173.out 1; have hfz25_2 := bZ BK173.out 2; have hfz25_3 := bZ BK173.out 3))
   refine bodyPost_ret (results_cell_row rfl _ _ gb173 52 #[.int .i64 a1_0, .int .i64 a1_1, .int .i64 a1_2, .int .i64 a1_3] (0, 0) _ rfl (by (with_reducible repeat apply dX); refine bP (cs := #[.int .i64 a1_0, .int .i64 a1_1, .int .i64 a1_2, .int .i64 0]) ?_ 3 _ rfl; (with_reducible repeat apply dX); refine bP (cs := #[.int .i64 a1_0, .int .i64 a1_1, .int .i64 0, .int .i64 0]) ?_ 2 _ rfl; (with_reducible repeat apply dX); refine bP (cs := #[.int .i64 a1_0, .int .i64 0, .int .i64 0, .int .i64 0]) ?_ 1 _ rfl; (with_reducible repeat apply dX); refine bP (cs := #[.int .i64 0, .int .i64 0, .int .i64 0, .int .i64 0]) ?_ 0 _ rfl; (with_reducible repeat apply dX); exact BK173.out) Try.underlying52 rfl (by kernel_rfl)) rfl ?_
   exact ⟨by first | rfl | (simp [errW_none, errW_some] <;> rfl) | (simp [*, errW_none, errW_some] <;> rfl), by repeat (first | (with_reducible first | exact HB.out | apply bA | apply bN | apply bD | refine bS ?_ GE172.out | refine bS ?_ GE173.out) | exact HB.out)⟩

/-! ### plane_taken: function 66 -/
def plane_taken.l0 : Nat → List Int → Int → List Int → Int → Int → Int → Int → Int → Option (List Int)
 | 0, _, _, _, _, _, _, _, _ => none
 | k + 1, x0, x1, x7, x8, x177000, x177001, x177002, x177003 => if x8 < (wrap64 (x177001 + x177003)) then (if 0 ≤ (wrap64 ((wrap64 (x8 * x1)) + x177000)) then (if (wrap64 ((wrap64 (x8 * x1)) + x177000)) ≤ (wrap64 ((wrap64 ((wrap64 (x8 * x1)) + x177000)) + x177002)) then (if (wrap64 ((wrap64 ((wrap64 (x8 * x1)) + x177000)) + x177002)) ≤ (x0.length : Int) then (if x7.length + ((x0.take ((wrap64 ((wrap64 ((wrap64 (x8 * x1)) + x177000)) + x177002)) : Int).toNat).drop ((wrap64 ((wrap64 (x8 * x1)) + x177000)) : Int).toNat).length < 70368744177664 then (plane_taken.l0 k x0 x1 (x7 ++ ((x0.take ((wrap64 ((wrap64 ((wrap64 (x8 * x1)) + x177000)) + x177002)) : Int).toNat).drop ((wrap64 ((wrap64 (x8 * x1)) + x177000)) : Int).toNat)) (wrap64 (x8 + 1)) x177000 x177001 x177002 x177003) else (none)) else (none)) else (none)) else (none)) else (some x7)
def plane_taken.f (k : Nat) (l0 : List Int) (a1 : Int) (a2_0 : Int) (a2_1 : Int) (a2_2 : Int) (a2_3 : Int) : Option (List Int) := if 0 ≤ (wrap64 (a2_2 * a2_3)) then (if (wrap64 (a2_2 * a2_3) : Int).toNat ≤ 140737488355328 then (plane_taken.l0 k l0 a1 (([] : List Int)) a2_1 a2_0 a2_1 a2_2 a2_3) else (none)) else (none)
theorem plane_taken.mono_l : ∀ k, (∀ y0 y1 y2 y3 y4 y5 y6 y7, LeO (plane_taken.l0 k y0 y1 y2 y3 y4 y5 y6 y7) (plane_taken.l0 (k + 1) y0 y1 y2 y3 y4 y5 y6 y7))
 | 0 => fun _ _ _ _ _ _ _ _ r h => by simp [plane_taken.l0] at h
 | k + 1 => by
  have ih0 := plane_taken.mono_l k
  ·intro y0 y1 y2 y3 y4 y5 y6 y7
   unfold plane_taken.l0
   repeat' first
   | (with_reducible exact ih0 _ _ _ _ _ _ _ _)
   | (with_reducible exact LeO.refl _)
   | (with_reducible exact LeO.none _)
   | (with_reducible refine LeO.ite ?_ ?_)
   | (with_reducible refine LeO.bind ?_ (fun _ => ?_))
   | exact ih0 _ _ _ _ _ _ _ _
   | exact LeO.none _
   | refine LeO.ite ?_ ?_
   | refine LeO.bind ?_ (fun _ => ?_)
theorem plane_taken.mono : ∀ a0 a1 a2 a3 a4 a5 k, LeO (plane_taken.f k a0 a1 a2 a3 a4 a5) (plane_taken.f (k + 1) a0 a1 a2 a3 a4 a5) := by
 intro a0 a1 a2 a3 a4 a5 k
 have ih0 := plane_taken.mono_l k
 unfold plane_taken.f
 repeat' first
   | (with_reducible exact ih0 _ _ _ _ _ _ _ _)
   | (with_reducible exact LeO.refl _)
   | (with_reducible exact LeO.none _)
   | (with_reducible refine LeO.ite ?_ ?_)
   | (with_reducible refine LeO.bind ?_ (fun _ => ?_))
   | exact ih0 _ _ _ _ _ _ _ _
   | exact LeO.none _
   | refine LeO.ite ?_ ?_
   | refine LeO.bind ?_ (fun _ => ?_)
set_option maxHeartbeats 8000000 in
set_option maxRecDepth 100000 in
theorem plane_taken.calls (k : Nat) (A0 : Option Addr) (c0 : Nat) (l0 : List Int) (a1 : Int) (a2_0 : Int) (a2_1 : Int) (a2_2 : Int) (a2_3 : Int) (r : List Int) (w : World) (hr0 : Kd.C (Kd.int .u16) w A0 l0.length l0) (hc0 : l0.length ≤ c0) (h : plane_taken.f k l0 a1 a2_0 a2_1 a2_2 a2_3 = some r) :
  Calls Try.prog 66 #[.slice A0 l0.length c0, .int .i64 a1, .agg #[.int .i64 a2_0, .int .i64 a2_1, .int .i64 a2_2, .int .i64 a2_3]] w fun e w' => ∃ v0_ : Value, e = .returned (v0_) ∧ Kd.R (Kd.int .u16) 72 w' w.heap.size (fun _ => True) v0_ r ∧ Below w.heap.size w w' := by
 have hu52 := Try.underlying52
 have HR0 := am hr0
 have HC0 := am hc0
 clear hr0 hc0
 have HB := am (Below.refl w.heap.size w)
 have H : (if 0 ≤ (wrap64 (a2_2 * a2_3)) then (if (wrap64 (a2_2 * a2_3) : Int).toNat ≤ 140737488355328 then (plane_taken.l0 k l0 a1 (([] : List Int)) a2_1 a2_0 a2_1 a2_2 a2_3) else (none)) else (none)) = some r := h
 clear h
 obtain ⟨ji4, hji4⟩ : ∃ j_ : Int, (wrap64 (a2_2 * a2_3)) = j_ := ⟨_, rfl⟩
 replace H : (if 0 ≤ (ji4) then (if (ji4 : Int).toNat ≤ 140737488355328 then (plane_taken.l0 k l0 a1 (([] : List Int)) a2_1 a2_0 a2_1 a2_2 a2_3) else (none)) else (none)) = some r := by first | (rw [hji4] at H; exact H) | (simp only [hji4] at H ⊢; exact H)
 have hji4w : (IntKind.i64.wrap (a2_2 * a2_3)) = ji4 := (i64_w _).trans hji4
 by_cases c5 : 0 ≤ (ji4)
 ·rw [if_pos c5] at H
  have c5b0 := eq_true c5
  have c5b1 : decide (0 ≤ (ji4)) = true := decide_eq_true c5
  clear c5
  by_cases c6 : (ji4 : Int).toNat ≤ 140737488355328
  ·rw [if_pos c6] at H
   have c6b0 := eq_true c6
   have c6b1 : decide ((ji4 : Int).toNat ≤ 140737488355328) = true := decide_eq_true c6
   clear c6
   obtain ⟨y177, hy177⟩ : ∃ y_ : List Int, y_ = (([] : List Int)) := ⟨_, rfl⟩
   replace H : (plane_taken.l0 k l0 a1 y177 a2_1 a2_0 a2_1 a2_2 a2_3) = some r := by first | (rw [hy177]; with_reducible exact H) | (have H2_ := (Option.bind_some _ _).symm.trans H; rw [hy177]; with_reducible exact H2_) | (have H2_ := (Option.bind_some _ _).symm.trans H; with_reducible exact H2_) | with_reducible exact H | (rw [hy177]; exact H) | exact H
   have Ny177 := am hy177
   clear hy177
   have H' := am H
   clear H
   go_enter Try.func66, Try.ntmps66
   go_wp2_with (first | ((with_reducible refine gD (N := 5) rfl ?_); refine bE ?hg (N := 5) ?hd (cs := #[.int .i64 a2_0, .int .i64 a2_1, .int .i64 a2_2, .int .i64 a2_3]) (t := 52) ?hr ?_; (case hd => rfl); (case hg => rfl); (case hr => first | (go_simp; done) | (go_simp; rfl)); intro gb176 hg w7 hbox hb; have n0_ := am (bT (by repeat (first | (with_reducible first | exact HB.out | apply bA | apply bN | apply bD) | exact HB.out)) hb); have n1_ := am (hbox); have n2_ := am ((by rw [hg]; exact (bU (by repeat (first | (with_reducible first | exact HB.out | apply bA | apply bN | apply bD) | exact HB.out))) : w.heap.size ≤ gb176)); have n3_ := am ((by rw [hg]; exact (bU (by repeat (first | (with_reducible first | exact HB.out | apply bA | apply bN | apply bD) | exact HB.out))) : w.heap.size ≤ gb176)); clear HB; have HB := n0_; have BK176 := n1_; have GW176 := n2_; have GE176 := n3_; clear n0_ n1_ n2_ n3_; clear hb hbox hg; have hcz8_0 : w7.cell? ⟨gb176, 0, none⟩ = some (.int .i64 a2_0) := (bC BK176.out 0).trans rfl; have hcz8_1 : w7.cell? ⟨gb176, 1, none⟩ = some (.int .i64 a2_1) := (bC BK176.out 1).trans rfl; have hcz8_2 : w7.cell? ⟨gb176, 2, none⟩ = some (.int .i64 a2_2) := (bC BK176.out 2).trans rfl; have hcz8_3 : w7.cell? ⟨gb176, 3, none⟩ = some (.int .i64 a2_3) := (bC BK176.out 3).trans rfl; have hfz8_0 := bZ BK176.out 0; have hfz8_1 := bZ BK176.out 1; have hfz8_2 := bZ BK176.out 2; have hfz8_3 := bZ BK176.out 3) | ((with_reducible refine gD (N := 14) rfl ?_); refine Kd.R_make0 (Kd.int .u16) _ 72 rfl (N := 14) rfl 53 _ _ rfl ji4 rfl rfl Try.underlying53 (.int .u16 0) 2 info72 rfl (by decide) (by omega) 0 (ok := fun _ => True) (okp := fun _ => True) rfl (fun _ hk => hk) trivial (of_decide_eq_true (by first | (with_reducible assumption) | assumption)) (Nat.le_trans (Nat.mul_le_mul_right _ (of_decide_eq_true (by first | (with_reducible assumption) | assumption) : ji4.toNat ≤ 140737488355328)) (by omega)) (Below.refl _ _) (Nat.le_refl _) ?_; intro v178 w9 ho10 hb hg_ hnew_; clear hg_ hnew_; (first | rw [← Ny177.out] at ho10 | (simp only [Int.reduceToNat] at ho10; rw [← Ny177.out] at ho10)); have n0_ := am (Kd.R_lower ho10 (bU (by repeat (first | (with_reducible first | exact HB.out | apply bA | apply bN | apply bD | refine bS ?_ GE176.out) | exact HB.out)))); have n1_ := am (bB (g := gb176) (o := .cells #[.int .i64 a2_0, .int .i64 a2_1, .int .i64 a2_2, .int .i64 a2_3] 52 (0, 0)) (by (with_reducible repeat apply dX); exact BK176.out) hb); have n2_ := am (bT (by repeat (first | (with_reducible first | exact HB.out | apply bA | apply bN | apply bD | refine bS ?_ GE176.out) | exact HB.out)) hb); clear BK176; clear HB; have HO179 := n0_; have BK176 := n1_; have HB := n2_; clear n0_ n1_ n2_; clear hb ho10; have hcz11_0 : w9.cell? ⟨gb176, 0, none⟩ = some (.int .i64 a2_0) := (bC BK176.out 0).trans rfl; have hcz11_1 : w9.cell? ⟨gb176, 1, none⟩ = some (.int .i64 a2_1) := (bC BK176.out 1).trans rfl; have hcz11_2 : w9.cell? ⟨gb176, 2, none⟩ = some (.int .i64 a2_2) := (bC BK176.out 2).trans rfl; have hcz11_3 : w9.cell? ⟨gb176, 3, none⟩ = some (.int .i64 a2_3) := (bC BK176.out 3).trans rfl; have hfz11_0 := bZ BK176.out 0; have hfz11_1 := bZ BK176.out 1; have hfz11_2 := bZ BK176.out 2; have hfz11_3 := bZ BK176.out 3))
   go_loopg [7, 8] k (fun kq v7 v8 w' => ∃ (x7_1 : List Int) (x8_1 : Int), v8 = .int .i64 x8_1 ∧ Aside0 (plane_taken.l0 kq l0 a1 x7_1 x8_1 a2_0 a2_1 a2_2 a2_3 = some r) ∧ Aside0 (kq ≤ k) ∧ Aside0 (Kd.R (Kd.int .u16) 72 w' w.heap.size (fun _ => True) v7 x7_1) ∧ Aside0 (w'.heap[gb176]? = some (.cells #[.int .i64 a2_0, .int .i64 a2_1, .int .i64 a2_2, .int .i64 a2_3] 52 (0, 0))) ∧ Aside0 (Below w.heap.size w w'))
   case atStart => exact ⟨(y177), (a2_1), (by first | rfl | (simp; done) | (simp [*]; done)), H', ⟨Nat.le_refl _⟩, ⟨by (with_reducible repeat (first | apply Kd.R_alloc | apply Kd.R_drewN | apply Kd.R_drew)); exact HO179.out⟩, ⟨by (with_reducible repeat apply dX); exact BK176.out⟩, ⟨by repeat (first | (with_reducible first | exact HB.out | apply bA | apply bN | apply bD | refine bS ?_ GE176.out) | exact HB.out)⟩⟩
   case round =>
    clear H'
    try clear p2
    try clear c5
    try clear c5b0
    try clear c5b1
    try clear c6
    try clear c6b0
    try clear c6b1
    try clear p6
    try clear hcz11_0
    try clear hcz11_1
    try clear hcz11_2
    try clear hcz11_3
    try clear hcz8_0
    try clear hcz8_1
    try clear hcz8_2
    try clear hcz8_3
    try clear hfz11_0
    try clear hfz11_1
    try clear hfz11_2
    try clear hfz11_3
    try clear hfz8_0
    try clear hfz8_1
    try clear hfz8_2
    try clear hfz8_3
    obtain ⟨x7_1, x8_1, rfl, HA, HK1, HO_7, BK176, HB⟩ := hrel
    cases gk with
    | zero => exact absurd HA.out (by simp [plane_taken.l0])
    | succ k1 =>
     have H := HA.out
     clear HA
     simp only [plane_taken.l0] at H
     by_cases c12 : x8_1 < (wrap64 (a2_1 + a2_3))
     ·rw [if_pos c12] at H
      have c12b0 : decide (x8_1 < (wrap64 (a2_1 + a2_3))) = true := decide_eq_true c12
      clear c12
      obtain ⟨ji13, hji13⟩ : ∃ j_ : Int, (wrap64 ((wrap64 (x8_1 * a1)) + a2_0)) = j_ := ⟨_, rfl⟩
      replace H : (if 0 ≤ (ji13) then (if (ji13) ≤ (wrap64 ((ji13) + a2_2)) then (if (wrap64 ((ji13) + a2_2)) ≤ (l0.length : Int) then (if x7_1.length + ((l0.take ((wrap64 ((ji13) + a2_2)) : Int).toNat).drop ((ji13) : Int).toNat).length < 70368744177664 then (plane_taken.l0 k1 l0 a1 (x7_1 ++ ((l0.take ((wrap64 ((ji13) + a2_2)) : Int).toNat).drop ((ji13) : Int).toNat)) (wrap64 (x8_1 + 1)) a2_0 a2_1 a2_2 a2_3) else (none)) else (none)) else (none)) else (none)) = some r := by first | (rw [hji13] at H; exact H) | (simp only [hji13] at H ⊢; exact H)
      have hji13w : (IntKind.i64.wrap ((wrap64 (x8_1 * a1)) + a2_0)) = ji13 := (i64_w _).trans hji13
      by_cases c14 : 0 ≤ (ji13)
      ·rw [if_pos c14] at H
       have c14b0 := eq_true c14
       have c14b1 : decide (0 ≤ (ji13)) = true := decide_eq_true c14
       clear c14
       by_cases c15 : (ji13) ≤ (wrap64 ((ji13) + a2_2))
       ·rw [if_pos c15] at H
        have c15b0 := eq_true c15
        have c15b1 : decide ((ji13) ≤ (wrap64 ((ji13) + a2_2))) = true := decide_eq_true c15
        by_cases c16 : (wrap64 ((ji13) + a2_2)) ≤ (l0.length : Int)
        ·rw [if_pos c16] at H
         have c16b0 := eq_true c16
         have c16b1 : decide ((wrap64 ((ji13) + a2_2)) ≤ (l0.length : Int)) = true := decide_eq_true c16
         by_cases c17 : x7_1.length + ((l0.take ((wrap64 ((ji13) + a2_2)) : Int).toNat).drop ((ji13) : Int).toNat).length < 70368744177664
         ·rw [if_pos c17] at H
          have LMc17 := am c17
          clear c17
          obtain ⟨y181, hy181⟩ : ∃ y_ : List Int, y_ = (x7_1 ++ ((l0.take ((wrap64 ((ji13) + a2_2)) : Int).toNat).drop ((ji13) : Int).toNat)) := ⟨_, rfl⟩
          replace H : (plane_taken.l0 k1 l0 a1 y181 (wrap64 (x8_1 + 1)) a2_0 a2_1 a2_2 a2_3) = some r := by first | (rw [hy181]; with_reducible exact H) | (have H2_ := (Option.bind_some _ _).symm.trans H; rw [hy181]; with_reducible exact H2_) | (have H2_ := (Option.bind_some _ _).symm.trans H; with_reducible exact H2_) | with_reducible exact H | (rw [hy181]; exact H) | exact H
          have Ny181 := am hy181
          clear hy181
          have H' := am H
          clear H
          have hcz18_0 : wr.cell? ⟨gb176, 0, none⟩ = some (.int .i64 a2_0) := (bC BK176.out 0).trans rfl
          have hcz18_1 : wr.cell? ⟨gb176, 1, none⟩ = some (.int .i64 a2_1) := (bC BK176.out 1).trans rfl
          have hcz18_2 : wr.cell? ⟨gb176, 2, none⟩ = some (.int .i64 a2_2) := (bC BK176.out 2).trans rfl
          have hcz18_3 : wr.cell? ⟨gb176, 3, none⟩ = some (.int .i64 a2_3) := (bC BK176.out 3).trans rfl
          have hfz18_0 := bZ BK176.out 0
          have hfz18_1 := bZ BK176.out 1
          have hfz18_2 := bZ BK176.out 2
          have hfz18_3 := bZ BK176.out 3
          obtain ⟨i019, hi019, _, hsz19, _⟩ := info_parts info72
          obtain ⟨A19, hcut19, hA19, hC19⟩ := print_mid_of (P := Try.prog) (Value.int .u16) 0 53 72 .i64 .i64 Try.underlying53 hi019 hsz19 A0 c0 l0 (ji13) (wrap64 ((ji13) + a2_2)) (of_decide_eq_true (by first | (with_reducible assumption) | assumption)) (by first | omega | exact of_decide_eq_true (by first | (with_reducible assumption) | assumption)) (of_decide_eq_true (by first | (with_reducible assumption) | assumption)) HC0.out
          have HR180 := am (Kd.C_of_reads (h1 := fun _ => rfl) (hA19 _ (Kd.reads_of_C HR0.out)))
          have HC180 := am hC19
          clear hA19 hC19 hi019 hsz19
          go_wp2_with (first | ((with_reducible refine gate_builtin (b := .append) (xs := #[.tmp 26, .tmp 43]) rfl ?_); at_builtin; refine Kd.R_append_rows (Kd.int .u16) (w0 := w) w.heap.size rfl (.tmp 26) (.tmp 43) 53 72 (.int .u16 0) 2 rfl Try.underlying53 info72 rfl (by decide) (by omega) u7 x7_1 ((l0.take ((wrap64 ((ji13) + a2_2)) : Int).toNat).drop ((ji13) : Int).toNat) _ _ _ (fun _ => True) (fun _ => False) rfl rfl ?aO ?aR (fun _ _ h => h) (fun _ h => h.elim) ?aF ?aB ?aS ?aL ?_; (case aR => first | (rw [← show ((l0.take ((wrap64 ((ji13) + a2_2)) : Int).toNat).drop ((ji13) : Int).toNat).length = ((wrap64 ((ji13) + a2_2)).toNat - (ji13).toNat) from (by rw [List.length_drop, List.length_take]; have h_ : ((wrap64 ((ji13) + a2_2)) : Int) ≤ (l0.length : Int) := of_decide_eq_true (by first | (with_reducible assumption) | assumption); omega)]; repeat (first | exact (Kd.C_below HR180.out HB.out) | (with_reducible refine Kd.C_alloc ?_ _) | (with_reducible refine Kd.C_drewN ?_ _) | (with_reducible refine Kd.C_drew ?_))) | (repeat (first | exact (Kd.C_below HR180.out HB.out) | (with_reducible refine Kd.C_alloc ?_ _) | (with_reducible refine Kd.C_drewN ?_ _) | (with_reducible refine Kd.C_drew ?_)))); (case aB => exact (by repeat (first | (with_reducible first | exact HB.out | apply bA | apply bN | apply bD | refine bS ?_ GE176.out) | exact HB.out))); (case aF => exact (fun _ _ => trivial)); (case aO => exact (by (with_reducible repeat (first | apply Kd.R_alloc | apply Kd.R_drewN | apply Kd.R_drew)); exact HO_7.out)); (case aS => exact (bU (by repeat (first | (with_reducible first | exact HB.out | apply bA | apply bN | apply bD | refine bS ?_ GE176.out) | exact HB.out)))); (case aL => have := LMc17.out; have hlx_ := (show ((l0.take ((wrap64 ((ji13) + a2_2)) : Int).toNat).drop ((ji13) : Int).toNat).length = ((wrap64 ((ji13) + a2_2)).toNat - (ji13).toNat) from (by rw [List.length_drop, List.length_take]; have h_ : ((wrap64 ((ji13) + a2_2)) : Int) ≤ (l0.length : Int) := of_decide_eq_true (by first | (with_reducible assumption) | assumption); omega)); omega); intro v182 w20 ho hb hg hat; rw [← Ny181.out] at ho; have n0_ := am (blk_grown (g := gb176) (o := .cells #[.int .i64 a2_0, .int .i64 a2_1, .int .i64 a2_2, .int .i64 a2_3] 52 (0, 0)) (by (with_reducible repeat apply dX); exact BK176.out) hg (Kd.R_ne HO_7.out BK176.out (by decide))); have n1_ := am (hb); have n2_ := am (ho); clear BK176; clear HB; clear HO_7; have BK176 := n0_; have HB := n1_; have HO183 := n2_; clear n0_ n1_ n2_; clear ho hb hg hat))
          go_roundg k1
          case measure => have := HK1.out; omega
          case rel => exact ⟨(y181), (wrap64 (x8_1 + 1)), (by first | rfl | (simp; done) | (simp [*]; done)), H', ⟨by have := HK1.out; omega⟩, ⟨by (with_reducible repeat (first | apply Kd.R_alloc | apply Kd.R_drewN | apply Kd.R_drew)); exact HO183.out⟩, ⟨by (with_reducible repeat apply dX); exact BK176.out⟩, ⟨by repeat (first | (with_reducible first | exact HB.out | apply bA | apply bN | apply bD | refine bS ?_ GE176.out) | exact HB.out)⟩⟩
         ·rw [if_neg c17] at H
          exact absurd H (by simp)
        ·rw [if_neg c16] at H
         exact absurd H (by simp)
       ·rw [if_neg c15] at H
        exact absurd H (by simp)
      ·rw [if_neg c14] at H
       exact absurd H (by simp)
     ·rw [if_neg c12] at H
      have c12b0 : decide (x8_1 < (wrap64 (a2_1 + a2_3))) = false := decide_eq_false c12
      clear c12
      obtain rfl := Option.some.inj H
      have hcz21_0 : wr.cell? ⟨gb176, 0, none⟩ = some (.int .i64 a2_0) := (bC BK176.out 0).trans rfl
      have hcz21_1 : wr.cell? ⟨gb176, 1, none⟩ = some (.int .i64 a2_1) := (bC BK176.out 1).trans rfl
      have hcz21_2 : wr.cell? ⟨gb176, 2, none⟩ = some (.int .i64 a2_2) := (bC BK176.out 2).trans rfl
      have hcz21_3 : wr.cell? ⟨gb176, 3, none⟩ = some (.int .i64 a2_3) := (bC BK176.out 3).trans rfl
      have hfz21_0 := bZ BK176.out 0
      have hfz21_1 := bZ BK176.out 1
      have hfz21_2 := bZ BK176.out 2
      have hfz21_3 := bZ BK176.out 3
      go_wp2
      go_ret
      exact ⟨_, by first | rfl | (simp [errW_none, errW_some] <;> rfl) | (simp only [← hji4]; first | rfl | (simp [errW_none, errW_some] <;> rfl)) | (simp [*, errW_none, errW_some] <;> rfl), by (with_reducible repeat (first | apply Kd.R_alloc | apply Kd.R_drewN | apply Kd.R_drew)); exact HO_7.out, by repeat (first | (with_reducible first | exact HB.out | apply bA | apply bN | apply bD | refine bS ?_ GE176.out) | exact HB.out)⟩
  ·rw [if_neg c6] at H
   exact absurd H (by simp)
 ·rw [if_neg c5] at H
  exact absurd H (by simp)

/-! ### dailiesref06_there: function 56 -/
def dailiesref06_there.f (a0_0 : Int) (a0_1 : Int) (a0_2 : Int) (a0_3 : Bool) (a1 : Int) : Option (Bool) := if a1 ≥ 0 then ((dailiesref06_count.f a0_0 a0_1 a0_2 a0_3).bind fun t185 => (some (decide (a1 < t185)))) else (some false)
set_option maxHeartbeats 8000000 in
set_option maxRecDepth 100000 in
theorem dailiesref06_there.calls (a0_0 : Int) (a0_1 : Int) (a0_2 : Int) (a0_3 : Bool) (a1 : Int) (r : Bool) (w : World) (h : dailiesref06_there.f a0_0 a0_1 a0_2 a0_3 a1 = some r) :
  Calls Try.prog 56 #[.agg #[.int .i64 a0_0, .int .i64 a0_1, .int .i64 a0_2, .bool a0_3], .int .i64 a1] w fun e w' => e = .returned (.bool r) ∧ Below w.heap.size w w' := by
 have hu26 := Try.underlying26
 have HB := am (Below.refl w.heap.size w)
 have H : (if a1 ≥ 0 then ((dailiesref06_count.f a0_0 a0_1 a0_2 a0_3).bind fun t185 => (some (decide (a1 < t185)))) else (some false)) = some r := h
 clear h
 by_cases c3 : a1 ≥ 0
 ·rw [if_pos c3] at H
  have c3b0 : decide (0 ≤ a1) = true := decide_eq_true c3
  clear c3
  replace H := Option.bind_eq_some_iff.mp H
  obtain ⟨t185, A40, H⟩ := H
  replace H : (some (decide (a1 < t185))) = some r := H
  have A4 := am A40
  clear A40
  obtain rfl := Option.some.inj H
  go_enter Try.func56, Try.ntmps56
  go_wp2_with (first | ((with_reducible refine gD (N := 2) rfl ?_); refine bE ?hg (N := 2) ?hd (cs := #[.int .i64 a0_0, .int .i64 a0_1, .int .i64 a0_2, .bool a0_3]) (t := 26) ?hr ?_; (case hd => rfl); (case hg => rfl); (case hr => first | (go_simp; done) | (go_simp; rfl)); intro gb184 hg w5 hbox hb; have n0_ := am (bT (by repeat (first | (with_reducible first | exact HB.out | apply bA | apply bN | apply bD) | exact HB.out)) hb); have n1_ := am (hbox); have n2_ := am ((by rw [hg]; exact (bU (by repeat (first | (with_reducible first | exact HB.out | apply bA | apply bN | apply bD) | exact HB.out))) : w.heap.size ≤ gb184)); have n3_ := am ((by rw [hg]; exact (bU (by repeat (first | (with_reducible first | exact HB.out | apply bA | apply bN | apply bD) | exact HB.out))) : w.heap.size ≤ gb184)); clear HB; have HB := n0_; have BK184 := n1_; have GW184 := n2_; have GE184 := n3_; clear n0_ n1_ n2_ n3_; clear hb hbox hg; have hcz6_0 : w5.cell? ⟨gb184, 0, none⟩ = some (.int .i64 a0_0) := (bC BK184.out 0).trans rfl; have hcz6_1 : w5.cell? ⟨gb184, 1, none⟩ = some (.int .i64 a0_1) := (bC BK184.out 1).trans rfl; have hcz6_2 : w5.cell? ⟨gb184, 2, none⟩ = some (.int .i64 a0_2) := (bC BK184.out 2).trans rfl; have hcz6_3 : w5.cell? ⟨gb184, 3, none⟩ = some (.bool a0_3) := (bC BK184.out 3).trans rfl; have hfz6_0 := bZ BK184.out 0; have hfz6_1 := bZ BK184.out 1; have hfz6_2 := bZ BK184.out 2; have hfz6_3 := bZ BK184.out 3) | (go_at_call 60; (with_reducible refine (dailiesref06_count.calls a0_0 a0_1 a0_2 a0_3 t185 _ A4.out).mono ?_); rintro e w7 ⟨rfl, hb⟩; have n0_ := am (bB (g := gb184) (o := .cells #[.int .i64 a0_0, .int .i64 a0_1, .int .i64 a0_2, .bool a0_3] 26 (0, 0)) (by (with_reducible repeat apply dX); exact BK184.out) hb); have n1_ := am (bT (by repeat (first | (with_reducible first | exact HB.out | apply bA | apply bN | apply bD | refine bS ?_ GE184.out) | exact HB.out)) hb); clear BK184; clear HB; have BK184 := n0_; have HB := n1_; clear n0_ n1_; (try clear hb); (try clear hb2); (try clear hk); (try clear hi)))
  go_ret
  exact ⟨by first | rfl | (simp [errW_none, errW_some] <;> rfl) | (simp [*, errW_none, errW_some] <;> rfl), by repeat (first | (with_reducible first | exact HB.out | apply bA | apply bN | apply bD | refine bS ?_ GE184.out) | exact HB.out)⟩
 ·rw [if_neg c3] at H
  have c3b0 : decide (0 ≤ a1) = false := decide_eq_false c3
  clear c3
  obtain rfl := Option.some.inj H
  go_enter Try.func56, Try.ntmps56
  go_wp2_with (first | ((with_reducible refine gD (N := 2) rfl ?_); refine bE ?hg (N := 2) ?hd (cs := #[.int .i64 a0_0, .int .i64 a0_1, .int .i64 a0_2, .bool a0_3]) (t := 26) ?hr ?_; (case hd => rfl); (case hg => rfl); (case hr => first | (go_simp; done) | (go_simp; rfl)); intro gb184 hg w8 hbox hb; have n0_ := am (bT (by repeat (first | (with_reducible first | exact HB.out | apply bA | apply bN | apply bD) | exact HB.out)) hb); have n1_ := am (hbox); have n2_ := am ((by rw [hg]; exact (bU (by repeat (first | (with_reducible first | exact HB.out | apply bA | apply bN | apply bD) | exact HB.out))) : w.heap.size ≤ gb184)); have n3_ := am ((by rw [hg]; exact (bU (by repeat (first | (with_reducible first | exact HB.out | apply bA | apply bN | apply bD) | exact HB.out))) : w.heap.size ≤ gb184)); clear HB; have HB := n0_; have BK184 := n1_; have GW184 := n2_; have GE184 := n3_; clear n0_ n1_ n2_ n3_; clear hb hbox hg))
  go_ret
  exact ⟨by first | rfl | (simp [errW_none, errW_some] <;> rfl) | (simp [*, errW_none, errW_some] <;> rfl), by repeat (first | (with_reducible first | exact HB.out | apply bA | apply bN | apply bD | refine bS ?_ GE184.out) | exact HB.out)⟩

/-! ### dailiesref06_lies: function 67 -/
def dailiesref06_lies.f (a0_0 : Int) (a0_1 : Int) (a0_2 : Int) (a0_3 : Int) (a1 : Int) (a2 : Int) : Option (Bool) := if a0_2 < 1 then (some false) else (if a0_3 < 1 then (some false) else (if a0_0 < 0 then (some false) else (if a0_1 < 0 then (some false) else (if a0_2 > a1 then (some false) else (if a0_3 > a2 then (some false) else (if a0_0 ≤ (wrap64 (a1 - a0_2)) then (some (decide (a0_1 ≤ (wrap64 (a2 - a0_3))))) else (some false)))))))
set_option maxHeartbeats 8000000 in
set_option maxRecDepth 100000 in
theorem dailiesref06_lies.calls (a0_0 : Int) (a0_1 : Int) (a0_2 : Int) (a0_3 : Int) (a1 : Int) (a2 : Int) (r : Bool) (w : World) (h : dailiesref06_lies.f a0_0 a0_1 a0_2 a0_3 a1 a2 = some r) :
  Calls Try.prog 67 #[.agg #[.int .i64 a0_0, .int .i64 a0_1, .int .i64 a0_2, .int .i64 a0_3], .int .i64 a1, .int .i64 a2] w fun e w' => e = .returned (.bool r) ∧ Below w.heap.size w w' := by
 have hu52 := Try.underlying52
 have HB := am (Below.refl w.heap.size w)
 have H : (if a0_2 < 1 then (some false) else (if a0_3 < 1 then (some false) else (if a0_0 < 0 then (some false) else (if a0_1 < 0 then (some false) else (if a0_2 > a1 then (some false) else (if a0_3 > a2 then (some false) else (if a0_0 ≤ (wrap64 (a1 - a0_2)) then (some (decide (a0_1 ≤ (wrap64 (a2 - a0_3))))) else (some false)))))))) = some r := h
 clear h
 by_cases c4 : a0_2 < 1
 ·rw [if_pos c4] at H
  have c4b0 : decide (a0_2 < 1) = true := decide_eq_true c4
  clear c4
  obtain rfl := Option.some.inj H
  go_enter Try.func67, Try.ntmps67
  go_wp2_with (first | ((with_reducible refine gD (N := 3) rfl ?_); refine bE ?hg (N := 3) ?hd (cs := #[.int .i64 a0_0, .int .i64 a0_1, .int .i64 a0_2, .int .i64 a0_3]) (t := 52) ?hr ?_; (case hd => rfl); (case hg => rfl); (case hr => first | (go_simp; done) | (go_simp; rfl)); intro gb186 hg w5 hbox hb; have n0_ := am (bT (by repeat (first | (with_reducible first | exact HB.out | apply bA | apply bN | apply bD) | exact HB.out)) hb); have n1_ := am (hbox); have n2_ := am ((by rw [hg]; exact (bU (by repeat (first | (with_reducible first | exact HB.out | apply bA | apply bN | apply bD) | exact HB.out))) : w.heap.size ≤ gb186)); have n3_ := am ((by rw [hg]; exact (bU (by repeat (first | (with_reducible first | exact HB.out | apply bA | apply bN | apply bD) | exact HB.out))) : w.heap.size ≤ gb186)); clear HB; have HB := n0_; have BK186 := n1_; have GW186 := n2_; have GE186 := n3_; clear n0_ n1_ n2_ n3_; clear hb hbox hg; have hcz6_0 : w5.cell? ⟨gb186, 0, none⟩ = some (.int .i64 a0_0) := (bC BK186.out 0).trans rfl; have hcz6_1 : w5.cell? ⟨gb186, 1, none⟩ = some (.int .i64 a0_1) := (bC BK186.out 1).trans rfl; have hcz6_2 : w5.cell? ⟨gb186, 2, none⟩ = some (.int .i64 a0_2) := (bC BK186.out 2).trans rfl; have hcz6_3 : w5.cell? ⟨gb186, 3, none⟩ = some (.int .i64 a0_3) := (bC BK186.out 3).trans rfl; have hfz6_0 := bZ BK186.out 0; have hfz6_1 := bZ BK186.out 1; have hfz6_2 := bZ BK186.out 2; have hfz6_3 := bZ BK186.out 3))
  go_ret
  exact ⟨by first | rfl | (simp [errW_none, errW_some] <;> rfl) | (simp [*, errW_none, errW_some] <;> rfl), by repeat (first | (with_reducible first | exact HB.out | apply bA | apply bN | apply bD | refine bS ?_ GE186.out) | exact HB.out)⟩
 ·rw [if_neg c4] at H
  have c4b0 : decide (a0_2 < 1) = false := decide_eq_false c4
  clear c4
  by_cases c7 : a0_3 < 1
  ·rw [if_pos c7] at H
   have c7b0 : decide (a0_3 < 1) = true := decide_eq_true c7
   clear c7
   obtain rfl := Option.some.inj H
   go_enter Try.func67, Try.ntmps67
   go_wp2_with (first | ((with_reducible refine gD (N := 3) rfl ?_); refine bE ?hg (N := 3) ?hd (cs := #[.int .i64 a0_0, .int .i64 a0_1, .int .i64 a0_2, .int .i64 a0_3]) (t := 52) ?hr ?_; (case hd => rfl); (case hg => rfl); (case hr => first | (go_simp; done) | (go_simp; rfl)); intro gb186 hg w8 hbox hb; have n0_ := am (bT (by repeat (first | (with_reducible first | exact HB.out | apply bA | apply bN | apply bD) | exact HB.out)) hb); have n1_ := am (hbox); have n2_ := am ((by rw [hg]; exact (bU (by repeat (first | (with_reducible first | exact HB.out | apply bA | apply bN | apply bD) | exact HB.out))) : w.heap.size ≤ gb186)); have n3_ := am ((by rw [hg]; exact (bU (by repeat (first | (with_reducible first | exact HB.out | apply bA | apply bN | apply bD) | exact HB.out))) : w.heap.size ≤ gb186)); clear HB; have HB := n0_; have BK186 := n1_; have GW186 := n2_; have GE186 := n3_; clear n0_ n1_ n2_ n3_; clear hb hbox hg; have hcz9_0 : w8.cell? ⟨gb186, 0, none⟩ = some (.int .i64 a0_0) := (bC BK186.out 0).trans rfl; have hcz9_1 : w8.cell? ⟨gb186, 1, none⟩ = some (.int .i64 a0_1) := (bC BK186.out 1).trans rfl; have hcz9_2 : w8.cell? ⟨gb186, 2, none⟩ = some (.int .i64 a0_2) := (bC BK186.out 2).trans rfl; have hcz9_3 : w8.cell? ⟨gb186, 3, none⟩ = some (.int .i64 a0_3) := (bC BK186.out 3).trans rfl; have hfz9_0 := bZ BK186.out 0; have hfz9_1 := bZ BK186.out 1; have hfz9_2 := bZ BK186.out 2; have hfz9_3 := bZ BK186.out 3))
   go_ret
   exact ⟨by first | rfl | (simp [errW_none, errW_some] <;> rfl) | (simp [*, errW_none, errW_some] <;> rfl), by repeat (first | (with_reducible first | exact HB.out | apply bA | apply bN | apply bD | refine bS ?_ GE186.out) | exact HB.out)⟩
  ·rw [if_neg c7] at H
   have c7b0 : decide (a0_3 < 1) = false := decide_eq_false c7
   clear c7
   by_cases c10 : a0_0 < 0
   ·rw [if_pos c10] at H
    have c10b0 : decide (a0_0 < 0) = true := decide_eq_true c10
    clear c10
    obtain rfl := Option.some.inj H
    go_enter Try.func67, Try.ntmps67
    go_wp2_with (first | ((with_reducible refine gD (N := 3) rfl ?_); refine bE ?hg (N := 3) ?hd (cs := #[.int .i64 a0_0, .int .i64 a0_1, .int .i64 a0_2, .int .i64 a0_3]) (t := 52) ?hr ?_; (case hd => rfl); (case hg => rfl); (case hr => first | (go_simp; done) | (go_simp; rfl)); intro gb186 hg w11 hbox hb; have n0_ := am (bT (by repeat (first | (with_reducible first | exact HB.out | apply bA | apply bN | apply bD) | exact HB.out)) hb); have n1_ := am (hbox); have n2_ := am ((by rw [hg]; exact (bU (by repeat (first | (with_reducible first | exact HB.out | apply bA | apply bN | apply bD) | exact HB.out))) : w.heap.size ≤ gb186)); have n3_ := am ((by rw [hg]; exact (bU (by repeat (first | (with_reducible first | exact HB.out | apply bA | apply bN | apply bD) | exact HB.out))) : w.heap.size ≤ gb186)); clear HB; have HB := n0_; have BK186 := n1_; have GW186 := n2_; have GE186 := n3_; clear n0_ n1_ n2_ n3_; clear hb hbox hg; have hcz12_0 : w11.cell? ⟨gb186, 0, none⟩ = some (.int .i64 a0_0) := (bC BK186.out 0).trans rfl; have hcz12_1 : w11.cell? ⟨gb186, 1, none⟩ = some (.int .i64 a0_1) := (bC BK186.out 1).trans rfl; have hcz12_2 : w11.cell? ⟨gb186, 2, none⟩ = some (.int .i64 a0_2) := (bC BK186.out 2).trans rfl; have hcz12_3 : w11.cell? ⟨gb186, 3, none⟩ = some (.int .i64 a0_3) := (bC BK186.out 3).trans rfl; have hfz12_0 := bZ BK186.out 0; have hfz12_1 := bZ BK186.out 1; have hfz12_2 := bZ BK186.out 2; have hfz12_3 := bZ BK186.out 3))
    go_ret
    exact ⟨by first | rfl | (simp [errW_none, errW_some] <;> rfl) | (simp [*, errW_none, errW_some] <;> rfl), by repeat (first | (with_reducible first | exact HB.out | apply bA | apply bN | apply bD | refine bS ?_ GE186.out) | exact HB.out)⟩
   ·rw [if_neg c10] at H
    have c10b0 : decide (a0_0 < 0) = false := decide_eq_false c10
    clear c10
    by_cases c13 : a0_1 < 0
    ·rw [if_pos c13] at H
     have c13b0 : decide (a0_1 < 0) = true := decide_eq_true c13
     clear c13
     obtain rfl := Option.some.inj H
     go_enter Try.func67, Try.ntmps67
     go_wp2_with (first | ((with_reducible refine gD (N := 3) rfl ?_); refine bE ?hg (N := 3) ?hd (cs := #[.int .i64 a0_0, .int .i64 a0_1, .int .i64 a0_2, .int .i64 a0_3]) (t := 52) ?hr ?_; (case hd => rfl); (case hg => rfl); (case hr => first | (go_simp; done) | (go_simp; rfl)); intro gb186 hg w14 hbox hb; have n0_ := am (bT (by repeat (first | (with_reducible first | exact HB.out | apply bA | apply bN | apply bD) | exact HB.out)) hb); have n1_ := am (hbox); have n2_ := am ((by rw [hg]; exact (bU (by repeat (first | (with_reducible first | exact HB.out | apply bA | apply bN | apply bD) | exact HB.out))) : w.heap.size ≤ gb186)); have n3_ := am ((by rw [hg]; exact (bU (by repeat (first | (with_reducible first | exact HB.out | apply bA | apply bN | apply bD) | exact HB.out))) : w.heap.size ≤ gb186)); clear HB; have HB := n0_; have BK186 := n1_; have GW186 := n2_; have GE186 := n3_; clear n0_ n1_ n2_ n3_; clear hb hbox hg; have hcz15_0 : w14.cell? ⟨gb186, 0, none⟩ = some (.int .i64 a0_0) := (bC BK186.out 0).trans rfl; have hcz15_1 : w14.cell? ⟨gb186, 1, none⟩ = some (.int .i64 a0_1) := (bC BK186.out 1).trans rfl; have hcz15_2 : w14.cell? ⟨gb186, 2, none⟩ = some (.int .i64 a0_2) := (bC BK186.out 2).trans rfl; have hcz15_3 : w14.cell? ⟨gb186, 3, none⟩ = some (.int .i64 a0_3) := (bC BK186.out 3).trans rfl; have hfz15_0 := bZ BK186.out 0; have hfz15_1 := bZ BK186.out 1; have hfz15_2 := bZ BK186.out 2; have hfz15_3 := bZ BK186.out 3))
     go_ret
     exact ⟨by first | rfl | (simp [errW_none, errW_some] <;> rfl) | (simp [*, errW_none, errW_some] <;> rfl), by repeat (first | (with_reducible first | exact HB.out | apply bA | apply bN | apply bD | refine bS ?_ GE186.out) | exact HB.out)⟩
    ·rw [if_neg c13] at H
     have c13b0 : decide (a0_1 < 0) = false := decide_eq_false c13
     clear c13
     by_cases c16 : a0_2 > a1
     ·rw [if_pos c16] at H
      have c16b0 : decide (a1 < a0_2) = true := decide_eq_true c16
      clear c16
      obtain rfl := Option.some.inj H
      go_enter Try.func67, Try.ntmps67
      go_wp2_with (first | ((with_reducible refine gD (N := 3) rfl ?_); refine bE ?hg (N := 3) ?hd (cs := #[.int .i64 a0_0, .int .i64 a0_1, .int .i64 a0_2, .int .i64 a0_3]) (t := 52) ?hr ?_; (case hd => rfl); (case hg => rfl); (case hr => first | (go_simp; done) | (go_simp; rfl)); intro gb186 hg w17 hbox hb; have n0_ := am (bT (by repeat (first | (with_reducible first | exact HB.out | apply bA | apply bN | apply bD) | exact HB.out)) hb); have n1_ := am (hbox); have n2_ := am ((by rw [hg]; exact (bU (by repeat (first | (with_reducible first | exact HB.out | apply bA | apply bN | apply bD) | exact HB.out))) : w.heap.size ≤ gb186)); have n3_ := am ((by rw [hg]; exact (bU (by repeat (first | (with_reducible first | exact HB.out | apply bA | apply bN | apply bD) | exact HB.out))) : w.heap.size ≤ gb186)); clear HB; have HB := n0_; have BK186 := n1_; have GW186 := n2_; have GE186 := n3_; clear n0_ n1_ n2_ n3_; clear hb hbox hg; have hcz18_0 : w17.cell? ⟨gb186, 0, none⟩ = some (.int .i64 a0_0) := (bC BK186.out 0).trans rfl; have hcz18_1 : w17.cell? ⟨gb186, 1, none⟩ = some (.int .i64 a0_1) := (bC BK186.out 1).trans rfl; have hcz18_2 : w17.cell? ⟨gb186, 2, none⟩ = some (.int .i64 a0_2) := (bC BK186.out 2).trans rfl; have hcz18_3 : w17.cell? ⟨gb186, 3, none⟩ = some (.int .i64 a0_3) := (bC BK186.out 3).trans rfl; have hfz18_0 := bZ BK186.out 0; have hfz18_1 := bZ BK186.out 1; have hfz18_2 := bZ BK186.out 2; have hfz18_3 := bZ BK186.out 3))
      go_ret
      exact ⟨by first | rfl | (simp [errW_none, errW_some] <;> rfl) | (simp [*, errW_none, errW_some] <;> rfl), by repeat (first | (with_reducible first | exact HB.out | apply bA | apply bN | apply bD | refine bS ?_ GE186.out) | exact HB.out)⟩
     ·rw [if_neg c16] at H
      have c16b0 : decide (a1 < a0_2) = false := decide_eq_false c16
      clear c16
      by_cases c19 : a0_3 > a2
      ·rw [if_pos c19] at H
       have c19b0 : decide (a2 < a0_3) = true := decide_eq_true c19
       clear c19
       obtain rfl := Option.some.inj H
       go_enter Try.func67, Try.ntmps67
       go_wp2_with (first | ((with_reducible refine gD (N := 3) rfl ?_); refine bE ?hg (N := 3) ?hd (cs := #[.int .i64 a0_0, .int .i64 a0_1, .int .i64 a0_2, .int .i64 a0_3]) (t := 52) ?hr ?_; (case hd => rfl); (case hg => rfl); (case hr => first | (go_simp; done) | (go_simp; rfl)); intro gb186 hg w20 hbox hb; have n0_ := am (bT (by repeat (first | (with_reducible first | exact HB.out | apply bA | apply bN | apply bD) | exact HB.out)) hb); have n1_ := am (hbox); have n2_ := am ((by rw [hg]; exact (bU (by repeat (first | (with_reducible first | exact HB.out | apply bA | apply bN | apply bD) | exact HB.out))) : w.heap.size ≤ gb186)); have n3_ := am ((by rw [hg]; exact (bU (by repeat (first | (with_reducible first | exact HB.out | apply bA | apply bN | apply bD) | exact HB.out))) : w.heap.size ≤ gb186)); clear HB; have HB := n0_; have BK186 := n1_; have GW186 := n2_; have GE186 := n3_; clear n0_ n1_ n2_ n3_; clear hb hbox hg; have hcz21_0 : w20.cell? ⟨gb186, 0, none⟩ = some (.int .i64 a0_0) := (bC BK186.out 0).trans rfl; have hcz21_1 : w20.cell? ⟨gb186, 1, none⟩ = some (.int .i64 a0_1) := (bC BK186.out 1).trans rfl; have hcz21_2 : w20.cell? ⟨gb186, 2, none⟩ = some (.int .i64 a0_2) := (bC BK186.out 2).trans rfl; have hcz21_3 : w20.cell? ⟨gb186, 3, none⟩ = some (.int .i64 a0_3) := (bC BK186.out 3).trans rfl; have hfz21_0 := bZ BK186.out 0; have hfz21_1 := bZ BK186.out 1; have hfz21_2 := bZ BK186.out 2; have hfz21_3 := bZ BK186.out 3))
       go_ret
       exact ⟨by first | rfl | (simp [errW_none, errW_some] <;> rfl) | (simp [*, errW_none, errW_some] <;> rfl), by repeat (first | (with_reducible first | exact HB.out | apply bA | apply bN | apply bD | refine bS ?_ GE186.out) | exact HB.out)⟩
      ·rw [if_neg c19] at H
       have c19b0 : decide (a2 < a0_3) = false := decide_eq_false c19
       clear c19
       by_cases c22 : a0_0 ≤ (wrap64 (a1 - a0_2))
       ·rw [if_pos c22] at H
        have c22b0 : decide (a0_0 ≤ (wrap64 (a1 - a0_2))) = true := decide_eq_true c22
        clear c22
        obtain rfl := Option.some.inj H
        go_enter Try.func67, Try.ntmps67
        go_wp2_with (first | ((with_reducible refine gD (N := 3) rfl ?_); refine bE ?hg (N := 3) ?hd (cs := #[.int .i64 a0_0, .int .i64 a0_1, .int .i64 a0_2, .int .i64 a0_3]) (t := 52) ?hr ?_; (case hd => rfl); (case hg => rfl); (case hr => first | (go_simp; done) | (go_simp; rfl)); intro gb186 hg w23 hbox hb; have n0_ := am (bT (by repeat (first | (with_reducible first | exact HB.out | apply bA | apply bN | apply bD) | exact HB.out)) hb); have n1_ := am (hbox); have n2_ := am ((by rw [hg]; exact (bU (by repeat (first | (with_reducible first | exact HB.out | apply bA | apply bN | apply bD) | exact HB.out))) : w.heap.size ≤ gb186)); have n3_ := am ((by rw [hg]; exact (bU (by repeat (first | (with_reducible first | exact HB.out | apply bA | apply bN | apply bD) | exact HB.out))) : w.heap.size ≤ gb186)); clear HB; have HB := n0_; have BK186 := n1_; have GW186 := n2_; have GE186 := n3_; clear n0_ n1_ n2_ n3_; clear hb hbox hg; have hcz24_0 : w23.cell? ⟨gb186, 0, none⟩ = some (.int .i64 a0_0) := (bC BK186.out 0).trans rfl; have hcz24_1 : w23.cell? ⟨gb186, 1, none⟩ = some (.int .i64 a0_1) := (bC BK186.out 1).trans rfl; have hcz24_2 : w23.cell? ⟨gb186, 2, none⟩ = some (.int .i64 a0_2) := (bC BK186.out 2).trans rfl; have hcz24_3 : w23.cell? ⟨gb186, 3, none⟩ = some (.int .i64 a0_3) := (bC BK186.out 3).trans rfl; have hfz24_0 := bZ BK186.out 0; have hfz24_1 := bZ BK186.out 1; have hfz24_2 := bZ BK186.out 2; have hfz24_3 := bZ BK186.out 3))
        go_ret
        exact ⟨by first | rfl | (simp [errW_none, errW_some] <;> rfl) | (simp [*, errW_none, errW_some] <;> rfl), by repeat (first | (with_reducible first | exact HB.out | apply bA | apply bN | apply bD | refine bS ?_ GE186.out) | exact HB.out)⟩
       ·rw [if_neg c22] at H
        have c22b0 : decide (a0_0 ≤ (wrap64 (a1 - a0_2))) = false := decide_eq_false c22
        clear c22
        obtain rfl := Option.some.inj H
        go_enter Try.func67, Try.ntmps67
        go_wp2_with (first | ((with_reducible refine gD (N := 3) rfl ?_); refine bE ?hg (N := 3) ?hd (cs := #[.int .i64 a0_0, .int .i64 a0_1, .int .i64 a0_2, .int .i64 a0_3]) (t := 52) ?hr ?_; (case hd => rfl); (case hg => rfl); (case hr => first | (go_simp; done) | (go_simp; rfl)); intro gb186 hg w25 hbox hb; have n0_ := am (bT (by repeat (first | (with_reducible first | exact HB.out | apply bA | apply bN | apply bD) | exact HB.out)) hb); have n1_ := am (hbox); have n2_ := am ((by rw [hg]; exact (bU (by repeat (first | (with_reducible first | exact HB.out | apply bA | apply bN | apply bD) | exact HB.out))) : w.heap.size ≤ gb186)); have n3_ := am ((by rw [hg]; exact (bU (by repeat (first | (with_reducible first | exact HB.out | apply bA | apply bN | apply bD) | exact HB.out))) : w.heap.size ≤ gb186)); clear HB; have HB := n0_; have BK186 := n1_; have GW186 := n2_; have GE186 := n3_; clear n0_ n1_ n2_ n3_; clear hb hbox hg; have hcz26_0 : w25.cell? ⟨gb186, 0, none⟩ = some (.int .i64 a0_0) := (bC BK186.out 0).trans rfl; have hcz26_1 : w25.cell? ⟨gb186, 1, none⟩ = some (.int .i64 a0_1) := (bC BK186.out 1).trans rfl; have hcz26_2 : w25.cell? ⟨gb186, 2, none⟩ = some (.int .i64 a0_2) := (bC BK186.out 2).trans rfl; have hcz26_3 : w25.cell? ⟨gb186, 3, none⟩ = some (.int .i64 a0_3) := (bC BK186.out 3).trans rfl; have hfz26_0 := bZ BK186.out 0; have hfz26_1 := bZ BK186.out 1; have hfz26_2 := bZ BK186.out 2; have hfz26_3 := bZ BK186.out 3))
        go_ret
        exact ⟨by first | rfl | (simp [errW_none, errW_some] <;> rfl) | (simp [*, errW_none, errW_some] <;> rfl), by repeat (first | (with_reducible first | exact HB.out | apply bA | apply bN | apply bD | refine bS ?_ GE186.out) | exact HB.out)⟩

end Go.Proofs.Ytdoikehkibefpaa.PPb
