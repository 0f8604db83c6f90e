import Derived.Test.YtjceegplkjfdoaaPQax1
import Derived.Test.YtjceegplkjfdoaaPQax3
import Derived.Test.YtjceegplkjfdoaaPQax4
import Derived.Test.YtjceegplkjfdoaaPxF
import Derived.Test.YtjceegplkjfdoaaPxQ
import Derived.Test.YtjceegplkjfdoaaPxShape
/-! The sizes. -/
namespace Go.Proofs.Ytjceegplkjfdoaa
set_option linter.unusedSimpArgs false
set_option linter.unusedVariables false
open Go Go.RowKit Go.Proofs.Ytjceegplkjfdoaa.PQa Go.Proofs.YtjceegplkjfdoaaW.PrintWords Go.Proofs.YtjceegplkjfdoaaW.PrintLast

theorem mv_no {W H D : Int} {A : Bool} (h : mv W H D A ≠ 0) : vz W H D A = (0, mv W H D A) := by
  unfold vz
  unfold mv at h ⊢
  by_cases hs : okShape W H D A
  · simp only [if_pos hs] at h ⊢
    by_cases hD : D = 10
    · simp only [if_pos hD] at h ⊢
      cases A
      · exact absurd rfl h
      · rfl
    · simp only [if_neg hD]
  · simp only [if_neg hs]
theorem mv_yes {W H D : Int} {A : Bool} (h : mv W H D A = 0) : vz W H D A = (wrap64 (H * rowV W), 0) := by
  unfold vz
  unfold mv at h
  by_cases hs : okShape W H D A
  · simp only [if_pos hs] at h ⊢
    by_cases hD : D = 10
    · simp only [if_pos hD] at h ⊢
      cases A
      · rfl
      · cases h
    · simp only [if_neg hD] at h
      cases h
  · simp only [if_neg hs] at h
    cases h

set_option maxHeartbeats 2000000 in
set_option maxRecDepth 100000 in
theorem bytes_f (c : Ctx) (R : List HP) (w : World) (W H D : Int) (A : Bool) (hS : St c R w) :
    Calls Try.prog 44 #[.agg #[.func (.func 61) #[] #[], .func (.func 62) #[] #[], .func (.func 63) #[] #[], .func (.func 64) #[] #[]], .agg #[.int .i64 W, .int .i64 H, .int .i64 D, .bool A]] w fun e w' => e = .returned (.tuple #[.int .i64 (pz W H D A).1, .int .i64 (pz W H D A).2]) ∧ St c R w' := by
  have HS := Lib.hid ((hS.alloc' rfl [.func (.func 61) #[] #[], .func (.func 62) #[] #[], .func (.func 63) #[] #[], .func (.func 64) #[] #[]] 68).alloc' (n := w.heap.size + 1) (by simp) [.int .i64 W, .int .i64 H, .int .i64 D, .bool A] 24)
  clear hS
  go_enter Try.func44, Try.ntmps44
  go_wp2_with fail
  refine (plane_Shaped.calls 5 W H D A _ _ (shaped_f W H D A 0)).mono ?_
  rintro en w1 ⟨rfl, hb⟩
  have HS1 := Lib.hid (HS.out.of_below hb)
  clear HS hb
  by_cases h : okShape W H D A
  · rw [shp_ok h]
    have EQ : Hid (pz W H D A = (wrap64 (2 * tot W H A), 0)) := if_pos h
    have SF := Lib.hid (psize_f W H D A 0 h)
    clear h
    obtain ⟨z, hz⟩ : ∃ z, wrap64 (2 * tot W H A) = z := ⟨_, rfl⟩
    rw [hz] at EQ SF
    clear hz
    obtain ⟨f0, f1, f2, f3⟩ := HS1.out.cells4 mm0
    obtain ⟨g0, g1, g2, g3⟩ := HS1.out.cells4 mm1
    go_wp2_with fail
    refine (pixel_sizePlanar.calls 5 W H D A z _ SF.out).mono ?_
    rintro en w2 ⟨rfl, hb⟩
    have HS2 := Lib.hid (HS1.out.of_below hb)
    clear HS1 hb f0 f1 f2 f3 g0 g1 g2 g3
    go_wp2_with fail
    go_ret2
    exact ⟨by rw [EQ.out]; rfl, HS2.out.drop.drop⟩
  · rw [shp_no h]
    have EQ : Hid (pz W H D A = (0, 61)) := if_neg h
    clear h
    go_wp2_with fail
    go_ret2
    exact ⟨by rw [EQ.out]; rfl, HS1.out.drop.drop⟩

set_option maxHeartbeats 2000000 in
set_option maxRecDepth 100000 in
theorem bytes_t (c : Ctx) (R : List HP) (w : World) (W H D : Int) (A : Bool) (hS : St c R w) :
    Calls Try.prog 44 #[.agg #[.func (.func 57) #[] #[], .func (.func 58) #[] #[], .func (.func 59) #[] #[], .func (.func 60) #[] #[]], .agg #[.int .i64 W, .int .i64 H, .int .i64 D, .bool A]] w fun e w' => e = .returned (.tuple #[.int .i64 (vz W H D A).1, .int .i64 (vz W H D A).2]) ∧ St c R w' := by
  have HS := Lib.hid ((hS.alloc' rfl [.func (.func 57) #[] #[], .func (.func 58) #[] #[], .func (.func 59) #[] #[], .func (.func 60) #[] #[]] 68).alloc' (n := w.heap.size + 1) (by simp) [.int .i64 W, .int .i64 H, .int .i64 D, .bool A] 24)
  clear hS
  go_enter Try.func44, Try.ntmps44
  go_wp2_with fail
  refine (pixel_mayV210.calls 5 W H D A _ _ (mayV_f W H D A 0)).mono ?_
  rintro en w1 ⟨rfl, hb⟩
  have HS1 := Lib.hid (HS.out.of_below hb)
  clear HS hb
  by_cases h : mv W H D A = 0
  · rw [h]
    have EQ := Lib.hid (mv_yes h)
    have SF := Lib.hid (vsize_f W H D A)
    clear h
    obtain ⟨z, hz⟩ : ∃ z, wrap64 (H * rowV W) = z := ⟨_, rfl⟩
    rw [hz] at EQ SF
    clear hz
    obtain ⟨f0, f1, f2, f3⟩ := HS1.out.cells4 mm0
    obtain ⟨g0, g1, g2, g3⟩ := HS1.out.cells4 mm1
    go_wp2_with fail
    refine (pixel_sizeV210.calls W H D A z _ SF.out).mono ?_
    rintro en w2 ⟨rfl, hb⟩
    have HS2 := Lib.hid (HS1.out.of_below hb)
    clear HS1 hb f0 f1 f2 f3 g0 g1 g2 g3
    go_wp2_with fail
    go_ret2
    exact ⟨by rw [EQ.out]; rfl, HS2.out.drop.drop⟩
  · have EQ := Lib.hid (mv_no h)
    obtain ⟨m, hm⟩ : ∃ m, mv W H D A = m := ⟨_, rfl⟩
    rw [hm] at h EQ
    rw [hm]
    have hm0 : (m != 0) = true := by simpa using h
    clear hm
    go_wp2_with fail
    go_ret2
    exact ⟨by rw [EQ.out]; rfl, HS1.out.drop.drop⟩

set_option maxHeartbeats 2000000 in
set_option maxRecDepth 100000 in
theorem Size_f (c : Ctx) (R : List HP) (w : World) (W H D : Int) (A : Bool) (hS : St c R w) :
    Calls Try.prog 19 #[.agg #[.int .i64 W, .int .i64 H, .int .i64 D, .bool A]] w fun e w' => e = .returned (.tuple #[.int .i64 (pz W H D A).1, .int .i64 (pz W H D A).2]) ∧ St c R w' := by
  have HD := Lib.hid (hS.alloc' rfl [.int .i64 W, .int .i64 H, .int .i64 D, .bool A] 24).drew
  clear hS
  go_enter Try.func19, Try.ntmps19
  go_wp2_with fail
  refine start_ (n := 7) (S := fun w' => w'.cell? ⟨w.heap.size, 0, none⟩ = some (.int .i64 W) ∧ w'.cell? ⟨w.heap.size, 1, none⟩ = some (.int .i64 H) ∧ w'.cell? ⟨w.heap.size, 2, none⟩ = some (.int .i64 D) ∧ w'.cell? ⟨w.heap.size, 3, none⟩ = some (.bool A)) (ds := [2]) #[false, false, false, false, false, false, false] (by kernel_rfl) rfl rfl ⟨St.cells_mem HD.out mm0 0, St.cells_mem HD.out mm0 1, St.cells_mem HD.out mm0 2, St.cells_mem HD.out mm0 3⟩ (fun hHeld => ?_)
  refine take_ (i := 1) (N := some 5) (v := ?_) (a' := ?_) #[false, true, false, false, false, false, false] rfl rfl (by kernel_rfl) (fun _ _ _ h => h) (Or.inl ⟨by rfl, ?_⟩) hHeld ?_ ?_
  rotate_left
  · rintro w' ⟨s0, s1, s2, s3⟩
    go_simp
    with_reducible rfl
  rotate_left
  · simp only [Act.put, List.setIfInBounds_toArray, List.set_cons_zero, List.set_cons_succ, i64_w, i32_w]
    rfl
  refine one_ (i := 0) (N := some 4) #[true, true, false, false, false, false, false] rfl rfl (by kernel_rfl) (by decide) (fun K hK => ?_)
  refine goes_ Try.func36 (by kernel_rfl) rfl #[.bool false] (by rfl) rfl rfl (by simp only [List.map_toArray, List.map_cons, List.map_nil]; rfl) ?_
  with_reducible refine (formatOf_f c _ _ HD.out).mono ?_
  rintro en x1 ⟨rfl, hS9⟩
  refine ⟨_, rfl, ?_⟩
  have HX := Lib.hid hS9
  clear hS9
  refine hK.out _ _ ⟨St.cells_mem HX.out mm0 0, St.cells_mem HX.out mm0 1, St.cells_mem HX.out mm0 2, St.cells_mem HX.out mm0 3⟩ (fun hHeld => ?_)
  clear hK K
  refine norm_ (a' := ?_) ?_ ?_
  rotate_left
  · show Act.put _ (some 4) _ = _
    simp only [Act.put, List.setIfInBounds_toArray, List.set_cons_zero, List.set_cons_succ, i64_w, i32_w]
    rfl
  refine last_ (i := 2) (N := some 6) #[true, true, true, false, false, false, false] rfl rfl (by kernel_rfl) (by decide) (fun K hK => ?_)
  refine goes_ Try.func44 (by kernel_rfl) rfl #[.agg #[.func (.func 61) #[] #[], .func (.func 62) #[] #[], .func (.func 63) #[] #[], .func (.func 64) #[] #[]], .agg #[.int .i64 W, .int .i64 H, .int .i64 D, .bool A]] (by rfl) rfl rfl (by simp only [List.map_toArray, List.map_cons, List.map_nil]; rfl) ?_
  with_reducible refine (bytes_f c R _ W H D A HX.out.drop).mono ?_
  rintro en x2 ⟨rfl, hS9⟩
  refine ⟨_, rfl, ?_⟩
  have HY := Lib.hid hS9
  clear hS9
  refine hK.out _ _ ?_
  clear hK K
  refine norm_ (a' := ?_) ?_ ?_
  rotate_left
  · show Act.put _ (some 6) _ = _
    simp only [Act.put, List.setIfInBounds_toArray, List.set_cons_zero, List.set_cons_succ, i64_w, i32_w]
    rfl
  refine pure_ (i := 3) (N := some 7) (v := ?_) (a' := ?_) #[true, true, true, true, false, false, false] rfl rfl (by kernel_rfl) (fun _ _ _ h => h) (Or.inl ⟨by rfl, ?_⟩) ?_ ?_
  rotate_left
  · intro w'
    go_simp
    with_reducible rfl
  rotate_left
  · simp only [Act.put, List.setIfInBounds_toArray, List.set_cons_zero, List.set_cons_succ, i64_w, i32_w]
    rfl
  refine pure_ (i := 4) (N := some 8) (v := ?_) (a' := ?_) #[true, true, true, true, true, false, false] rfl rfl (by kernel_rfl) (fun _ _ _ h => h) (Or.inl ⟨by rfl, ?_⟩) ?_ ?_
  rotate_left
  · intro w'
    go_simp
    with_reducible rfl
  rotate_left
  · simp only [Act.put, List.setIfInBounds_toArray, List.set_cons_zero, List.set_cons_succ, i64_w, i32_w]
    rfl
  refine pure_ (i := 5) (N := some 2) (v := ?_) (a' := ?_) #[true, true, true, true, true, true, false] rfl rfl (by kernel_rfl) (fun _ _ _ h => h) (Or.inl ⟨by rfl, ?_⟩) ?_ ?_
  rotate_left
  · intro w'
    go_simp
    with_reducible rfl
  rotate_left
  · simp only [Act.put, List.setIfInBounds_toArray, List.set_cons_zero, List.set_cons_succ, i64_w, i32_w]
    rfl
  refine pure_ (i := 6) (N := some 3) (v := ?_) (a' := ?_) #[true, true, true, true, true, true, true] rfl rfl (by kernel_rfl) (fun _ _ _ h => h) (Or.inl ⟨by rfl, ?_⟩) ?_ ?_
  rotate_left
  · intro w'
    go_simp
    with_reducible rfl
  rotate_left
  · simp only [Act.put, List.setIfInBounds_toArray, List.set_cons_zero, List.set_cons_succ, i64_w, i32_w]
    rfl
  refine done_ (by kernel_rfl) ?_
  go_wp2_with fail
  go_ret2
  exact ⟨rfl, HY.out⟩

set_option maxHeartbeats 2000000 in
set_option maxRecDepth 100000 in
theorem Size_t (c : Ctx) (R : List HP) (w : World) (W H D : Int) (A : Bool) (hS : St c R w) :
    Calls Try.prog 21 #[.agg #[.int .i64 W, .int .i64 H, .int .i64 D, .bool A]] w fun e w' => e = .returned (.tuple #[.int .i64 (vz W H D A).1, .int .i64 (vz W H D A).2]) ∧ St c R w' := by
  have HD := Lib.hid (hS.alloc' rfl [.int .i64 W, .int .i64 H, .int .i64 D, .bool A] 24).drew
  clear hS
  go_enter Try.func21, Try.ntmps21
  go_wp2_with fail
  refine start_ (n := 7) (S := fun w' => w'.cell? ⟨w.heap.size, 0, none⟩ = some (.int .i64 W) ∧ w'.cell? ⟨w.heap.size, 1, none⟩ = some (.int .i64 H) ∧ w'.cell? ⟨w.heap.size, 2, none⟩ = some (.int .i64 D) ∧ w'.cell? ⟨w.heap.size, 3, none⟩ = some (.bool A)) (ds := [2]) #[false, false, false, false, false, false, false] (by kernel_rfl) rfl rfl ⟨St.cells_mem HD.out mm0 0, St.cells_mem HD.out mm0 1, St.cells_mem HD.out mm0 2, St.cells_mem HD.out mm0 3⟩ (fun hHeld => ?_)
  refine take_ (i := 1) (N := some 5) (v := ?_) (a' := ?_) #[false, true, false, false, false, false, false] rfl rfl (by kernel_rfl) (fun _ _ _ h => h) (Or.inl ⟨by rfl, ?_⟩) hHeld ?_ ?_
  rotate_left
  · rintro w' ⟨s0, s1, s2, s3⟩
    go_simp
    with_reducible rfl
  rotate_left
  · simp only [Act.put, List.setIfInBounds_toArray, List.set_cons_zero, List.set_cons_succ, i64_w, i32_w]
    rfl
  refine one_ (i := 0) (N := some 4) #[true, true, false, false, false, false, false] rfl rfl (by kernel_rfl) (by decide) (fun K hK => ?_)
  refine goes_ Try.func36 (by kernel_rfl) rfl #[.bool true] (by rfl) rfl rfl (by simp only [List.map_toArray, List.map_cons, List.map_nil]; rfl) ?_
  with_reducible refine (formatOf_t c _ _ HD.out).mono ?_
  rintro en x1 ⟨rfl, hS9⟩
  refine ⟨_, rfl, ?_⟩
  have HX := Lib.hid hS9
  clear hS9
  refine hK.out _ _ ⟨St.cells_mem HX.out mm0 0, St.cells_mem HX.out mm0 1, St.cells_mem HX.out mm0 2, St.cells_mem HX.out mm0 3⟩ (fun hHeld => ?_)
  clear hK K
  refine norm_ (a' := ?_) ?_ ?_
  rotate_left
  · show Act.put _ (some 4) _ = _
    simp only [Act.put, List.setIfInBounds_toArray, List.set_cons_zero, List.set_cons_succ, i64_w, i32_w]
    rfl
  refine last_ (i := 2) (N := some 6) #[true, true, true, false, false, false, false] rfl rfl (by kernel_rfl) (by decide) (fun K hK => ?_)
  refine goes_ Try.func44 (by kernel_rfl) rfl #[.agg #[.func (.func 57) #[] #[], .func (.func 58) #[] #[], .func (.func 59) #[] #[], .func (.func 60) #[] #[]], .agg #[.int .i64 W, .int .i64 H, .int .i64 D, .bool A]] (by rfl) rfl rfl (by simp only [List.map_toArray, List.map_cons, List.map_nil]; rfl) ?_
  with_reducible refine (bytes_t c R _ W H D A HX.out.drop).mono ?_
  rintro en x2 ⟨rfl, hS9⟩
  refine ⟨_, rfl, ?_⟩
  have HY := Lib.hid hS9
  clear hS9
  refine hK.out _ _ ?_
  clear hK K
  refine norm_ (a' := ?_) ?_ ?_
  rotate_left
  · show Act.put _ (some 6) _ = _
    simp only [Act.put, List.setIfInBounds_toArray, List.set_cons_zero, List.set_cons_succ, i64_w, i32_w]
    rfl
  refine pure_ (i := 3) (N := some 7) (v := ?_) (a' := ?_) #[true, true, true, true, false, false, false] rfl rfl (by kernel_rfl) (fun _ _ _ h => h) (Or.inl ⟨by rfl, ?_⟩) ?_ ?_
  rotate_left
  · intro w'
    go_simp
    with_reducible rfl
  rotate_left
  · simp only [Act.put, List.setIfInBounds_toArray, List.set_cons_zero, List.set_cons_succ, i64_w, i32_w]
    rfl
  refine pure_ (i := 4) (N := some 8) (v := ?_) (a' := ?_) #[true, true, true, true, true, false, false] rfl rfl (by kernel_rfl) (fun _ _ _ h => h) (Or.inl ⟨by rfl, ?_⟩) ?_ ?_
  rotate_left
  · intro w'
    go_simp
    with_reducible rfl
  rotate_left
  · simp only [Act.put, List.setIfInBounds_toArray, List.set_cons_zero, List.set_cons_succ, i64_w, i32_w]
    rfl
  refine pure_ (i := 5) (N := some 2) (v := ?_) (a' := ?_) #[true, true, true, true, true, true, false] rfl rfl (by kernel_rfl) (fun _ _ _ h => h) (Or.inl ⟨by rfl, ?_⟩) ?_ ?_
  rotate_left
  · intro w'
    go_simp
    with_reducible rfl
  rotate_left
  · simp only [Act.put, List.setIfInBounds_toArray, List.set_cons_zero, List.set_cons_succ, i64_w, i32_w]
    rfl
  refine pure_ (i := 6) (N := some 3) (v := ?_) (a' := ?_) #[true, true, true, true, true, true, true] rfl rfl (by kernel_rfl) (fun _ _ _ h => h) (Or.inl ⟨by rfl, ?_⟩) ?_ ?_
  rotate_left
  · intro w'
    go_simp
    with_reducible rfl
  rotate_left
  · simp only [Act.put, List.setIfInBounds_toArray, List.set_cons_zero, List.set_cons_succ, i64_w, i32_w]
    rfl
  refine done_ (by kernel_rfl) ?_
  go_wp2_with fail
  go_ret2
  exact ⟨rfl, HY.out⟩

set_option maxHeartbeats 4000000 in
set_option maxRecDepth 100000 in
theorem pixelSizes_walk {H : Type} {enc : TypeId × Value → H} (W : World) (base : Nat) (v0 : Value) (a0 : Arg enc Try.prog W base 24 v0) :
    Calls Try.prog 5 #[v0] W fun e W' => e = .returned (.bool true) ∧ Below W.heap.size W W' := by
  obtain ⟨a, b, d, A, rfl, -⟩ := arg_shape a0
  clear a0
  have HS := Lib.hid ((St.top W).alloc' rfl [.int .i64 a, .int .i64 b, .int .i64 d, .bool A] 24)
  obtain ⟨⟨p1, p2⟩, hp⟩ : ∃ p, pz a b d A = p := ⟨_, rfl⟩
  obtain ⟨⟨q1, q2⟩, hq⟩ : ∃ p, vz a b d A = p := ⟨_, rfl⟩
  have HP := Lib.hid hp
  have HQ := Lib.hid hq
  clear hp hq
  go_enter Try.func5, Try.ntmps5
  go_wp2_with fail
  refine (alive_ok _ _ _ HS.out).mono ?_
  rintro en w1 ⟨rfl, hS1⟩
  have HS1 := Lib.hid hS1
  clear hS1 HS
  obtain ⟨f0, f1, f2, f3⟩ := HS1.out.cells4 mm0
  go_wp2_with fail
  refine (Size_f _ _ _ a b d A HS1.out).mono ?_
  rw [HP.out]
  rintro en w2 ⟨rfl, hS2⟩
  have HS2 := Lib.hid hS2
  clear hS2 HS1 f0 f1 f2 f3
  obtain ⟨f0, f1, f2, f3⟩ := HS2.out.cells4 mm0
  go_wp2_with fail
  refine (dailiesref07_PlanarSize.calls 6 a b d A p1 p2 _ ((rpsize_f a b d A 0).trans (congrArg some HP.out))).mono ?_
  rintro en w3 ⟨rfl, hb⟩
  have HS3 := Lib.hid (HS2.out.of_below hb)
  clear hb HS2 f0 f1 f2 f3
  obtain ⟨f0, f1, f2, f3⟩ := HS3.out.cells4 mm0
  go_wp2_with fail
  refine (Size_t _ _ _ a b d A HS3.out).mono ?_
  rw [HQ.out]
  rintro en w4 ⟨rfl, hS4⟩
  have HS4 := Lib.hid hS4
  clear hS4 HS3 f0 f1 f2 f3
  obtain ⟨f0, f1, f2, f3⟩ := HS4.out.cells4 mm0
  go_wp2_with fail
  refine (dailiesref07_V210Size.calls 6 a b d A q1 q2 _ ((rvsize_f a b d A 0).trans (congrArg some HQ.out))).mono ?_
  rintro en w5 ⟨rfl, hb⟩
  have HS5 := Lib.hid (HS4.out.of_below hb)
  clear hb HS4 f0 f1 f2 f3
  go_wp2_with fail
  go_ret
  exact ⟨rfl, HS5.out.below⟩

end Go.Proofs.Ytjceegplkjfdoaa
