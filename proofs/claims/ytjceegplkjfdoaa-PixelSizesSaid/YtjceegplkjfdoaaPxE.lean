import Derived.Test.YtjceegplkjfdoaaPQax1
import Derived.Test.YtjceegplkjfdoaaPQax2
import Derived.Test.YtjceegplkjfdoaaPQax3
import Derived.Test.YtjceegplkjfdoaaPxD
/-! Both packs of the tiny frame; alive. -/
namespace Go.Proofs.Ytjceegplkjfdoaa
set_option linter.unusedSimpArgs false
set_option linter.unusedVariables false
open Go Go.RowKit Go.Proofs.Ytjceegplkjfdoaa.PQa Go.Proofs.YtjceegplkjfdoaaW.PrintWords Go.Proofs.YtjceegplkjfdoaaW.PrintLast

theorem one_C {w : World} {a : Nat} {v : Int} (h : w.cell? ⟨a, 0, none⟩ = some (.int .u16 v)) : Kd.C (Kd.int .u16) w (some ⟨a, 0, none⟩) 1 [v] := by
  refine ⟨rfl, by omega, fun h0 => ⟨_, rfl, fun j p hj => ?_⟩⟩
  match j, hj with
  | 0, hj =>
    simp at hj
    subst hj
    refine ⟨[.int .u16 v], rfl, rfl, fun i u hi => ?_⟩
    match i, hi with
    | 0, hi =>
      simp at hi
      subst hi
      rw [Addr.add_lit]
      simpa using h

theorem St.tinyC {c : Ctx} {R : List HP} {w : World} {q a b d : Nat} (h : St c (tinyQ q a b d :: tinyA d 769 :: tinyA b 2 :: tinyA a 1 :: R) w) : Kd.C (Kd.slice 62 (Kd.int .u16)) w (some ⟨q, 0, none⟩) 3 [[1], [2], [769]] := by
  have q0 : w.cell? ⟨q, 0, none⟩ = some (oneV a) := St.cells_mem h mm0 0
  have q1 : w.cell? ⟨q, 1, none⟩ = some (oneV b) := St.cells_mem h mm0 1
  have q2 : w.cell? ⟨q, 2, none⟩ = some (oneV d) := St.cells_mem h mm0 2
  have p0 : w.cell? ⟨a, 0, none⟩ = some (.int .u16 1) := St.cells_mem h mm3 0
  have p1 : w.cell? ⟨b, 0, none⟩ = some (.int .u16 2) := St.cells_mem h mm2 0
  have p2 : w.cell? ⟨d, 0, none⟩ = some (.int .u16 769) := St.cells_mem h mm1 0
  refine ⟨rfl, by omega, fun h0 => ⟨_, rfl, fun j p hj => ?_⟩⟩
  match j, hj with
  | 0, hj =>
    simp at hj
    subst hj
    refine ⟨[oneV a], rfl, ⟨_, _, rfl, by decide, one_C p0⟩, fun i u hi => ?_⟩
    match i, hi with
    | 0, hi =>
      simp at hi
      subst hi
      rw [Addr.add_lit]
      simpa [Kd.slice] using q0
  | 1, hj =>
    simp at hj
    subst hj
    refine ⟨[oneV b], rfl, ⟨_, _, rfl, by decide, one_C p1⟩, fun i u hi => ?_⟩
    match i, hi with
    | 0, hi =>
      simp at hi
      subst hi
      rw [Addr.add_lit]
      simpa [Kd.slice] using q1
  | 2, hj =>
    simp at hj
    subst hj
    refine ⟨[oneV d], rfl, ⟨_, _, rfl, by decide, one_C p2⟩, fun i u hi => ?_⟩
    match i, hi with
    | 0, hi =>
      simp at hi
      subst hi
      rw [Addr.add_lit]
      simpa [Kd.slice] using q2

set_option maxHeartbeats 2000000 in
set_option maxRecDepth 100000 in
theorem pack_f (c : Ctx) (R : List HP) (w : World) (q a b d : Nat) (hS : St c (tinyQ q a b d :: tinyA d 769 :: tinyA b 2 :: tinyA a 1 :: R) w) :
    Calls Try.prog 37 #[.agg #[.func (.func 61) #[] #[], .func (.func 62) #[] #[], .func (.func 63) #[] #[], .func (.func 64) #[] #[]], .agg #[.int .i64 1, .int .i64 1, .int .i64 10, .bool false, .slice (some ⟨q, 0, none⟩) 3 3]] w fun e w' => ∃ g cap, e = .returned (.tuple #[.slice (some ⟨g, 0, none⟩) 6 cap, .int .i64 0]) ∧ St c (row 5 1 (.slice (some ⟨g, 0, none⟩) 6 cap) 6 (bytesV ([1, 0, 2, 0, 1, 3])) :: tinyQ q a b d :: tinyA d 769 :: tinyA b 2 :: tinyA a 1 :: R) w' := by
  have HS := Lib.hid ((hS.alloc' rfl [.func (.func 61) #[] #[], .func (.func 62) #[] #[], .func (.func 63) #[] #[], .func (.func 64) #[] #[]] 68).alloc' (n := w.heap.size + 1) (by simp) [.int .i64 1, .int .i64 1, .int .i64 10, .bool false, .slice (some ⟨q, 0, none⟩) 3 3] 27)
  clear hS
  go_enter Try.func37, Try.ntmps37
  go_wp2_with fail
  refine (plane_Valid.calls 40 1 1 10 false (some ⟨q, 0, none⟩) 3 [[1], [2], [769]] 0 _ HS.out.drop.drop.tinyC (by decide) valid_tiny).mono ?_
  rintro en w1 ⟨rfl, hb⟩
  have HS1 := Lib.hid (HS.out.of_below hb)
  clear HS hb
  obtain ⟨f0, f1, f2, f3, f4⟩ := HS1.out.cells5 mm0
  obtain ⟨g0, g1, g2, g3⟩ := HS1.out.cells4 mm1
  go_wp2_with fail
  refine (plane_Shaped.calls 40 1 1 10 false 0 _ shaped_tiny).mono ?_
  rintro en w2 ⟨rfl, hb⟩
  have HS2 := Lib.hid (HS1.out.of_below hb)
  clear HS1 hb f0 f1 f2 f3 f4 g0 g1 g2 g3
  obtain ⟨f0, f1, f2, f3, f4⟩ := HS2.out.cells5 mm0
  obtain ⟨g0, g1, g2, g3⟩ := HS2.out.cells4 mm1
  go_wp2_with fail
  refine (writePlanar_tiny c R _ q a b d HS2.out.drop.drop).mono ?_
  rintro en w3 ⟨g, cap, rfl, hS3⟩
  have HS3 := Lib.hid hS3
  clear hS3 HS2 f0 f1 f2 f3 f4 g0 g1 g2 g3
  go_wp2_with fail
  go_ret2
  exact ⟨_, _, rfl, HS3.out⟩

set_option maxHeartbeats 2000000 in
set_option maxRecDepth 100000 in
theorem pack_t (c : Ctx) (R : List HP) (w : World) (q a b d : Nat) (hS : St c (tinyQ q a b d :: tinyA d 769 :: tinyA b 2 :: tinyA a 1 :: R) w) :
    Calls Try.prog 37 #[.agg #[.func (.func 57) #[] #[], .func (.func 58) #[] #[], .func (.func 59) #[] #[], .func (.func 60) #[] #[]], .agg #[.int .i64 1, .int .i64 1, .int .i64 10, .bool false, .slice (some ⟨q, 0, none⟩) 3 3]] w fun e w' => ∃ g cap, e = .returned (.tuple #[.slice (some ⟨g, 0, none⟩) 128 cap, .int .i64 0]) ∧ St c (row 5 1 (.slice (some ⟨g, 0, none⟩) 128 cap) 128 (bytesV ([2, 4, 16, 48] ++ List.replicate 124 0)) :: tinyQ q a b d :: tinyA d 769 :: tinyA b 2 :: tinyA a 1 :: R) w' := by
  have HS := Lib.hid ((hS.alloc' rfl [.func (.func 57) #[] #[], .func (.func 58) #[] #[], .func (.func 59) #[] #[], .func (.func 60) #[] #[]] 68).alloc' (n := w.heap.size + 1) (by simp) [.int .i64 1, .int .i64 1, .int .i64 10, .bool false, .slice (some ⟨q, 0, none⟩) 3 3] 27)
  clear hS
  go_enter Try.func37, Try.ntmps37
  go_wp2_with fail
  refine (plane_Valid.calls 40 1 1 10 false (some ⟨q, 0, none⟩) 3 [[1], [2], [769]] 0 _ HS.out.drop.drop.tinyC (by decide) valid_tiny).mono ?_
  rintro en w1 ⟨rfl, hb⟩
  have HS1 := Lib.hid (HS.out.of_below hb)
  clear HS hb
  obtain ⟨f0, f1, f2, f3, f4⟩ := HS1.out.cells5 mm0
  obtain ⟨g0, g1, g2, g3⟩ := HS1.out.cells4 mm1
  go_wp2_with fail
  refine (pixel_mayV210.calls 40 1 1 10 false 0 _ mayV_tiny).mono ?_
  rintro en w2 ⟨rfl, hb⟩
  have HS2 := Lib.hid (HS1.out.of_below hb)
  clear HS1 hb f0 f1 f2 f3 f4 g0 g1 g2 g3
  obtain ⟨f0, f1, f2, f3, f4⟩ := HS2.out.cells5 mm0
  obtain ⟨g0, g1, g2, g3⟩ := HS2.out.cells4 mm1
  go_wp2_with fail
  refine (writeV210_tiny c R _ q a b d HS2.out.drop.drop).mono ?_
  rintro en w3 ⟨g, cap, rfl, hS3⟩
  have HS3 := Lib.hid hS3
  clear hS3 HS2 f0 f1 f2 f3 f4 g0 g1 g2 g3
  go_wp2_with fail
  go_ret2
  exact ⟨_, _, rfl, HS3.out⟩

set_option maxHeartbeats 2000000 in
set_option maxRecDepth 100000 in
theorem Pack_f (c : Ctx) (R : List HP) (w : World) (q a b d : Nat) (hS : St c (tinyQ q a b d :: tinyA d 769 :: tinyA b 2 :: tinyA a 1 :: R) w) :
    Calls Try.prog 11 #[.agg #[.int .i64 1, .int .i64 1, .int .i64 10, .bool false, .slice (some ⟨q, 0, none⟩) 3 3]] w fun e w' => ∃ g cap, e = .returned (.tuple #[.slice (some ⟨g, 0, none⟩) 6 cap, .int .i64 0]) ∧ St c (row 5 1 (.slice (some ⟨g, 0, none⟩) 6 cap) 6 (bytesV ([1, 0, 2, 0, 1, 3])) :: tinyQ q a b d :: tinyA d 769 :: tinyA b 2 :: tinyA a 1 :: R) w' := by
  have HD := Lib.hid (hS.alloc' rfl [.int .i64 1, .int .i64 1, .int .i64 10, .bool false, .slice (some ⟨q, 0, none⟩) 3 3] 27).drew
  clear hS
  go_enter Try.func11, Try.ntmps11
  go_wp2_with fail
  refine start_ (n := 7) (S := fun w' => w'.cell? ⟨w.heap.size, 0, none⟩ = some (.int .i64 1) ∧ w'.cell? ⟨w.heap.size, 1, none⟩ = some (.int .i64 1) ∧ w'.cell? ⟨w.heap.size, 2, none⟩ = some (.int .i64 10) ∧ w'.cell? ⟨w.heap.size, 3, none⟩ = some (.bool false) ∧ w'.cell? ⟨w.heap.size, 4, none⟩ = some (.slice (some ⟨q, 0, none⟩) 3 3)) (ds := [2]) #[false, false, false, false, false, false, false] (by kernel_rfl) rfl rfl ⟨St.cells_mem HD.out mm0 0, St.cells_mem HD.out mm0 1, St.cells_mem HD.out mm0 2, St.cells_mem HD.out mm0 3, St.cells_mem HD.out mm0 4⟩ (fun hHeld => ?_)
  refine take_ (i := 1) (N := some 5) (v := ?_) (a' := ?_) #[false, true, false, false, false, false, false] rfl rfl (by kernel_rfl) (fun _ _ _ h => h) (Or.inl ⟨by rfl, ?_⟩) hHeld ?_ ?_
  rotate_left
  · rintro w' ⟨s0, s1, s2, s3, s4⟩
    go_simp
    with_reducible rfl
  rotate_left
  · simp only [Act.put, List.setIfInBounds_toArray, List.set_cons_zero, List.set_cons_succ, i64_w, i32_w]
    rfl
  refine one_ (i := 0) (N := some 4) #[true, true, false, false, false, false, false] rfl rfl (by kernel_rfl) (by decide) (fun K hK => ?_)
  refine goes_ Try.func36 (by kernel_rfl) rfl #[.bool false] (by rfl) rfl rfl (by simp only [List.map_toArray, List.map_cons, List.map_nil]; rfl) ?_
  with_reducible refine (formatOf_f c _ _ HD.out).mono ?_
  rintro en x1 ⟨rfl, hS9⟩
  refine ⟨_, rfl, ?_⟩
  have HX := Lib.hid hS9
  clear hS9
  refine hK.out _ _ ⟨St.cells_mem HX.out mm0 0, St.cells_mem HX.out mm0 1, St.cells_mem HX.out mm0 2, St.cells_mem HX.out mm0 3, St.cells_mem HX.out mm0 4⟩ (fun hHeld => ?_)
  clear hK K
  refine norm_ (a' := ?_) ?_ ?_
  rotate_left
  · show Act.put _ (some 4) _ = _
    simp only [Act.put, List.setIfInBounds_toArray, List.set_cons_zero, List.set_cons_succ, i64_w, i32_w]
    rfl
  refine last_ (i := 2) (N := some 6) #[true, true, true, false, false, false, false] rfl rfl (by kernel_rfl) (by decide) (fun K hK => ?_)
  refine goes_ Try.func37 (by kernel_rfl) rfl #[.agg #[.func (.func 61) #[] #[], .func (.func 62) #[] #[], .func (.func 63) #[] #[], .func (.func 64) #[] #[]], .agg #[.int .i64 1, .int .i64 1, .int .i64 10, .bool false, .slice (some ⟨q, 0, none⟩) 3 3]] (by rfl) rfl rfl (by simp only [List.map_toArray, List.map_cons, List.map_nil]; rfl) ?_
  with_reducible refine (pack_f c R _ q a b d HX.out.drop).mono ?_
  rintro en x2 ⟨g, cap, rfl, hS9⟩
  refine ⟨_, rfl, ?_⟩
  have HY := Lib.hid hS9
  clear hS9
  refine hK.out _ _ ?_
  clear hK K
  refine norm_ (a' := ?_) ?_ ?_
  rotate_left
  · show Act.put _ (some 6) _ = _
    simp only [Act.put, List.setIfInBounds_toArray, List.set_cons_zero, List.set_cons_succ, i64_w, i32_w]
    rfl
  refine pure_ (i := 3) (N := some 7) (v := ?_) (a' := ?_) #[true, true, true, true, false, false, false] rfl rfl (by kernel_rfl) (fun _ _ _ h => h) (Or.inl ⟨by rfl, ?_⟩) ?_ ?_
  rotate_left
  · intro w'
    go_simp
    with_reducible rfl
  rotate_left
  · simp only [Act.put, List.setIfInBounds_toArray, List.set_cons_zero, List.set_cons_succ, i64_w, i32_w]
    rfl
  refine pure_ (i := 4) (N := some 8) (v := ?_) (a' := ?_) #[true, true, true, true, true, false, false] rfl rfl (by kernel_rfl) (fun _ _ _ h => h) (Or.inl ⟨by rfl, ?_⟩) ?_ ?_
  rotate_left
  · intro w'
    go_simp
    with_reducible rfl
  rotate_left
  · simp only [Act.put, List.setIfInBounds_toArray, List.set_cons_zero, List.set_cons_succ, i64_w, i32_w]
    rfl
  refine pure_ (i := 5) (N := some 2) (v := ?_) (a' := ?_) #[true, true, true, true, true, true, false] rfl rfl (by kernel_rfl) (fun _ _ _ h => h) (Or.inl ⟨by rfl, ?_⟩) ?_ ?_
  rotate_left
  · intro w'
    go_simp
    with_reducible rfl
  rotate_left
  · simp only [Act.put, List.setIfInBounds_toArray, List.set_cons_zero, List.set_cons_succ, i64_w, i32_w]
    rfl
  refine pure_ (i := 6) (N := some 3) (v := ?_) (a' := ?_) #[true, true, true, true, true, true, true] rfl rfl (by kernel_rfl) (fun _ _ _ h => h) (Or.inl ⟨by rfl, ?_⟩) ?_ ?_
  rotate_left
  · intro w'
    go_simp
    with_reducible rfl
  rotate_left
  · simp only [Act.put, List.setIfInBounds_toArray, List.set_cons_zero, List.set_cons_succ, i64_w, i32_w]
    rfl
  refine done_ (by kernel_rfl) ?_
  go_wp2_with fail
  go_ret2
  exact ⟨_, _, rfl, HY.out⟩

set_option maxHeartbeats 2000000 in
set_option maxRecDepth 100000 in
theorem Pack_t (c : Ctx) (R : List HP) (w : World) (q a b d : Nat) (hS : St c (tinyQ q a b d :: tinyA d 769 :: tinyA b 2 :: tinyA a 1 :: R) w) :
    Calls Try.prog 12 #[.agg #[.int .i64 1, .int .i64 1, .int .i64 10, .bool false, .slice (some ⟨q, 0, none⟩) 3 3]] w fun e w' => ∃ g cap, e = .returned (.tuple #[.slice (some ⟨g, 0, none⟩) 128 cap, .int .i64 0]) ∧ St c (row 5 1 (.slice (some ⟨g, 0, none⟩) 128 cap) 128 (bytesV ([2, 4, 16, 48] ++ List.replicate 124 0)) :: tinyQ q a b d :: tinyA d 769 :: tinyA b 2 :: tinyA a 1 :: R) w' := by
  have HD := Lib.hid (hS.alloc' rfl [.int .i64 1, .int .i64 1, .int .i64 10, .bool false, .slice (some ⟨q, 0, none⟩) 3 3] 27).drew
  clear hS
  go_enter Try.func12, Try.ntmps12
  go_wp2_with fail
  refine start_ (n := 7) (S := fun w' => w'.cell? ⟨w.heap.size, 0, none⟩ = some (.int .i64 1) ∧ w'.cell? ⟨w.heap.size, 1, none⟩ = some (.int .i64 1) ∧ w'.cell? ⟨w.heap.size, 2, none⟩ = some (.int .i64 10) ∧ w'.cell? ⟨w.heap.size, 3, none⟩ = some (.bool false) ∧ w'.cell? ⟨w.heap.size, 4, none⟩ = some (.slice (some ⟨q, 0, none⟩) 3 3)) (ds := [2]) #[false, false, false, false, false, false, false] (by kernel_rfl) rfl rfl ⟨St.cells_mem HD.out mm0 0, St.cells_mem HD.out mm0 1, St.cells_mem HD.out mm0 2, St.cells_mem HD.out mm0 3, St.cells_mem HD.out mm0 4⟩ (fun hHeld => ?_)
  refine take_ (i := 1) (N := some 5) (v := ?_) (a' := ?_) #[false, true, false, false, false, false, false] rfl rfl (by kernel_rfl) (fun _ _ _ h => h) (Or.inl ⟨by rfl, ?_⟩) hHeld ?_ ?_
  rotate_left
  · rintro w' ⟨s0, s1, s2, s3, s4⟩
    go_simp
    with_reducible rfl
  rotate_left
  · simp only [Act.put, List.setIfInBounds_toArray, List.set_cons_zero, List.set_cons_succ, i64_w, i32_w]
    rfl
  refine one_ (i := 0) (N := some 4) #[true, true, false, false, false, false, false] rfl rfl (by kernel_rfl) (by decide) (fun K hK => ?_)
  refine goes_ Try.func36 (by kernel_rfl) rfl #[.bool true] (by rfl) rfl rfl (by simp only [List.map_toArray, List.map_cons, List.map_nil]; rfl) ?_
  with_reducible refine (formatOf_t c _ _ HD.out).mono ?_
  rintro en x1 ⟨rfl, hS9⟩
  refine ⟨_, rfl, ?_⟩
  have HX := Lib.hid hS9
  clear hS9
  refine hK.out _ _ ⟨St.cells_mem HX.out mm0 0, St.cells_mem HX.out mm0 1, St.cells_mem HX.out mm0 2, St.cells_mem HX.out mm0 3, St.cells_mem HX.out mm0 4⟩ (fun hHeld => ?_)
  clear hK K
  refine norm_ (a' := ?_) ?_ ?_
  rotate_left
  · show Act.put _ (some 4) _ = _
    simp only [Act.put, List.setIfInBounds_toArray, List.set_cons_zero, List.set_cons_succ, i64_w, i32_w]
    rfl
  refine last_ (i := 2) (N := some 6) #[true, true, true, false, false, false, false] rfl rfl (by kernel_rfl) (by decide) (fun K hK => ?_)
  refine goes_ Try.func37 (by kernel_rfl) rfl #[.agg #[.func (.func 57) #[] #[], .func (.func 58) #[] #[], .func (.func 59) #[] #[], .func (.func 60) #[] #[]], .agg #[.int .i64 1, .int .i64 1, .int .i64 10, .bool false, .slice (some ⟨q, 0, none⟩) 3 3]] (by rfl) rfl rfl (by simp only [List.map_toArray, List.map_cons, List.map_nil]; rfl) ?_
  with_reducible refine (pack_t c R _ q a b d HX.out.drop).mono ?_
  rintro en x2 ⟨g, cap, rfl, hS9⟩
  refine ⟨_, rfl, ?_⟩
  have HY := Lib.hid hS9
  clear hS9
  refine hK.out _ _ ?_
  clear hK K
  refine norm_ (a' := ?_) ?_ ?_
  rotate_left
  · show Act.put _ (some 6) _ = _
    simp only [Act.put, List.setIfInBounds_toArray, List.set_cons_zero, List.set_cons_succ, i64_w, i32_w]
    rfl
  refine pure_ (i := 3) (N := some 7) (v := ?_) (a' := ?_) #[true, true, true, true, false, false, false] rfl rfl (by kernel_rfl) (fun _ _ _ h => h) (Or.inl ⟨by rfl, ?_⟩) ?_ ?_
  rotate_left
  · intro w'
    go_simp
    with_reducible rfl
  rotate_left
  · simp only [Act.put, List.setIfInBounds_toArray, List.set_cons_zero, List.set_cons_succ, i64_w, i32_w]
    rfl
  refine pure_ (i := 4) (N := some 8) (v := ?_) (a' := ?_) #[true, true, true, true, true, false, false] rfl rfl (by kernel_rfl) (fun _ _ _ h => h) (Or.inl ⟨by rfl, ?_⟩) ?_ ?_
  rotate_left
  · intro w'
    go_simp
    with_reducible rfl
  rotate_left
  · simp only [Act.put, List.setIfInBounds_toArray, List.set_cons_zero, List.set_cons_succ, i64_w, i32_w]
    rfl
  refine pure_ (i := 5) (N := some 2) (v := ?_) (a' := ?_) #[true, true, true, true, true, true, false] rfl rfl (by kernel_rfl) (fun _ _ _ h => h) (Or.inl ⟨by rfl, ?_⟩) ?_ ?_
  rotate_left
  · intro w'
    go_simp
    with_reducible rfl
  rotate_left
  · simp only [Act.put, List.setIfInBounds_toArray, List.set_cons_zero, List.set_cons_succ, i64_w, i32_w]
    rfl
  refine pure_ (i := 6) (N := some 3) (v := ?_) (a' := ?_) #[true, true, true, true, true, true, true] rfl rfl (by kernel_rfl) (fun _ _ _ h => h) (Or.inl ⟨by rfl, ?_⟩) ?_ ?_
  rotate_left
  · intro w'
    go_simp
    with_reducible rfl
  rotate_left
  · simp only [Act.put, List.setIfInBounds_toArray, List.set_cons_zero, List.set_cons_succ, i64_w, i32_w]
    rfl
  refine done_ (by kernel_rfl) ?_
  go_wp2_with fail
  go_ret2
  exact ⟨_, _, rfl, HY.out⟩

end Go.Proofs.Ytjceegplkjfdoaa
