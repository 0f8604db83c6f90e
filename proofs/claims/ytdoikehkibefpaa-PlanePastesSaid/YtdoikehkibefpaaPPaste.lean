import Derived.Test.YtdoikehkibefpaaPPbx2
import Derived.Test.YtdoikehkibefpaaPPbx3
import Derived.Test.YtdoikehkibefpaaPPbx6
import Derived.Test.YtdoikehkibefpaaPasteVm
import Derived.Test.YtdoikehkibefpaaRPasteM
/-! plane.Paste: what it refuses early; what both Pastes answer. -/
namespace Go.Proofs.Ytdoikehkibefpaa
set_option linter.unusedSimpArgs false
set_option linter.unusedVariables false
open Go Go.RowKit Go.Proofs.Ytdoikehkibefpaa.PPb Go.Proofs.YtdoikehkibefpaaW.PrintWords Go.Proofs.YtdoikehkibefpaaW.PrintLast

/-- What Paste answers. -/
def pasteF (W H D : Int) (A : Bool) (l : List (List Int)) (p x y bw bh : Int) (b : List Int) : Int × Int × Int × Bool × List (List Int) × Int :=
  if valF W H D A l = 0 then
    (if (0 ≤ p ∧ p < plN A) ∧ liesIn x y bw bh (wd W p) H then
      (if perr D bw bh b = 0 then (W, H, D, A, pasted W l p.toNat x.toNat y.toNat bw bh b, 0) else (0, 0, 0, false, [], perr D bw bh b))
    else (0, 0, 0, false, [], 65))
  else (0, 0, 0, false, [], valF W H D A l)

section
variable (w : World) (W H D : Int) (A : Bool) (A0 : Option Addr) (n : Nat) (l : List (List Int)) (p x y bw bh : Int) (Ab : Option Addr) (bn : Nat) (b : List Int) (hC : Kd.C (Kd.slice 72 (Kd.int .u16)) w A0 l.length l) (hn : l.length ≤ n) (hs : smp l) (hl : ∀ x ∈ l, x.length * 2 ≤ 140737488351232)
include hC hn hs hl
set_option maxHeartbeats 4000000 in
set_option maxRecDepth 100000 in
theorem ppaste_bad (hv : valF W H D A l ≠ 0) : Calls Try.prog 41 #[.agg #[.int .i64 W, .int .i64 H, .int .i64 D, .bool A, .slice A0 l.length n], .int .i64 p, .int .i64 x, .int .i64 y, .agg #[.int .i64 bw, .int .i64 bh, .slice Ab b.length bn]] w (rcutPost w 0 0 0 false [] (valF W H D A l)) := by
  obtain ⟨ev, hev⟩ : ∃ q, valF W H D A l = q := ⟨_, rfl⟩
  have CV := Lib.hid (fun (w : World) hr hc => plane_Valid.calls (0 + 12) W H D A A0 n l ev w hr hc (by rw [valid_f W H D A l hs 0, hev]))
  rw [hev] at hv ⊢
  have hne : (ev != 0) = true := by simpa using hv
  have hM := hl
  clear hM
  have HS := Lib.hid ((((St.top w).alloc' rfl [.int .i64 W, .int .i64 H, .int .i64 D, .bool A, .slice A0 l.length n] 39).alloc' (n := w.heap.size + 1) (by simp) [.int .i64 bw, .int .i64 bh, .slice Ab b.length bn] 55).alloc' (n := w.heap.size + 2) (by simp) [.int .i64 0, .int .i64 0, .int .i64 0, .bool false, .slice none 0 0] 39)
  have HC := Lib.hid (Kd.C_below hC HS.out.below)
  clear hev hv hC hs hl
  go_enter Try.func41, Try.ntmps41
  go_wp2_with fail
  refine (CV.out _ HC.out hn).mono ?_
  rintro en w1 ⟨rfl, hb⟩
  have H1 := Lib.hid (HS.out.of_below hb)
  clear HS hb
  obtain ⟨d0, d1, d2, d3, d4⟩ := H1.out.cells5 mm0
  have hr := H1.out.blk_mem (g := w.heap.size + 2) mm0
  have fr : ∀ j, World.frozen? w1 ⟨w.heap.size + 2, j, none⟩ = false := fun j => by simp [World.frozen?, hr]
  have fr0 := fr 0
  have fr1 := fr 1
  have fr2 := fr 2
  have fr3 := fr 3
  have fr4 := fr 4
  clear fr hr
  go_wp2_with fail
  have h3 := ((((H1.out.setCell 0 (.int .i64 0)).setCell 1 (.int .i64 0)).setCell 2 (.int .i64 0)).setCell 3 (.bool false)).setCell 4 (.slice none 0 0)
  have h4 := h3.blk_at
  exact bodyPost_ret (results_ct rfl _ _ (w.heap.size + 2) 39 #[.int .i64 0, .int .i64 0, .int .i64 0, .bool false, .slice none 0 0] (0, 0) _ rfl h4 Try.underlying39 rfl (by kernel_rfl)) rfl ⟨_, rfl, (h3.drop.drop.drop).matNil _ _ _⟩
set_option maxHeartbeats 4000000 in
set_option maxRecDepth 100000 in
theorem ppaste_off (hv : valF W H D A l = 0) (hp : ¬ (0 ≤ p ∧ p < plN A)) : Calls Try.prog 41 #[.agg #[.int .i64 W, .int .i64 H, .int .i64 D, .bool A, .slice A0 l.length n], .int .i64 p, .int .i64 x, .int .i64 y, .agg #[.int .i64 bw, .int .i64 bh, .slice Ab b.length bn]] w (rcutPost w 0 0 0 false [] 65) := by
  have CV := Lib.hid (fun (w : World) hr hc => plane_Valid.calls (0 + 12) W H D A A0 n l 0 w hr hc (by rw [valid_f W H D A l hs 0, hv]))
  have CT := Lib.hid (fun (w : World) => plane_there.calls W H D A p false w (by rw [there_f, decide_eq_false hp]))
  have hM := hl
  clear hM
  have HS := Lib.hid ((((St.top w).alloc' rfl [.int .i64 W, .int .i64 H, .int .i64 D, .bool A, .slice A0 l.length n] 39).alloc' (n := w.heap.size + 1) (by simp) [.int .i64 bw, .int .i64 bh, .slice Ab b.length bn] 55).alloc' (n := w.heap.size + 2) (by simp) [.int .i64 0, .int .i64 0, .int .i64 0, .bool false, .slice none 0 0] 39)
  have HC := Lib.hid (Kd.C_below hC HS.out.below)
  clear hv hp hC hs hl
  go_enter Try.func41, Try.ntmps41
  go_wp2_with fail
  refine (CV.out _ HC.out hn).mono ?_
  rintro en w1 ⟨rfl, hb⟩
  have H1 := Lib.hid (HS.out.of_below hb)
  clear HS hb
  obtain ⟨x0, x1, x2, x3, x4⟩ := H1.out.cells5 mm2
  obtain ⟨y0, y1, y2⟩ := H1.out.cells3 mm1
  go_wp2_with fail
  clear x0 x1 x2 x3 x4 y0 y1 y2
  have HD := Lib.hid (H1.out.alloc' rfl [.int .i64 x, .int .i64 y, .int .i64 bw, .int .i64 bh] 52).drew
  clear H1
  generalize w1.heap.size = gT at *
  generalize w1.alloc (.cells #[.int .i64 x, .int .i64 y, .int .i64 bw, .int .i64 bh] 52) = w2 at *
  refine start_ (n := 18) (S := fun w' => w'.cell? ⟨w.heap.size, 0, none⟩ = some (.int .i64 W) ∧ w'.cell? ⟨w.heap.size, 1, none⟩ = some (.int .i64 H) ∧ w'.cell? ⟨w.heap.size, 2, none⟩ = some (.int .i64 D) ∧ w'.cell? ⟨w.heap.size, 3, none⟩ = some (.bool A) ∧ w'.cell? ⟨w.heap.size, 4, none⟩ = some (.slice A0 l.length n) ∧ w'.cell? ⟨gT, 0, none⟩ = some (.int .i64 x) ∧ w'.cell? ⟨gT, 1, none⟩ = some (.int .i64 y) ∧ w'.cell? ⟨gT, 2, none⟩ = some (.int .i64 bw) ∧ w'.cell? ⟨gT, 3, none⟩ = some (.int .i64 bh)) (ds := []) #[false, false, false, false, false, false, false, false, false, false, false, false, false, false, false, false, false, false] (by kernel_rfl) rfl rfl ⟨St.cells_mem HD.out mm3 0, St.cells_mem HD.out mm3 1, St.cells_mem HD.out mm3 2, St.cells_mem HD.out mm3 3, St.cells_mem HD.out mm3 4, St.cells_mem HD.out mm0 0, St.cells_mem HD.out mm0 1, St.cells_mem HD.out mm0 2, St.cells_mem HD.out mm0 3⟩ (fun hHeld => ?_)
  refine pu 0 33 #[true, false, false, false, false, false, false, false, false, false, false, false, false, false, false, false, false, false] ?_
  refine pu 2 35 #[true, false, true, false, false, false, false, false, false, false, false, false, false, false, false, false, false, false] ?_
  refine ta 1 34 #[true, true, true, false, false, false, false, false, false, false, false, false, false, false, false, false, false, false] hHeld ?_
  refine one_ (i := 3) (N := some 36) #[true, true, true, true, false, false, false, false, false, false, false, false, false, false, false, false, false, false] rfl rfl (by kernel_rfl) (by decide) (fun K hK => ?_)
  refine goes_ Try.func54 (by kernel_rfl) rfl #[.agg #[.int .i64 W, .int .i64 H, .int .i64 D, .bool A], .int .i64 p] (by rfl) rfl rfl (by simp only [List.map_toArray, List.map_cons, List.map_nil]; rfl) ?_
  with_reducible refine (CT.out _).mono ?_
  rintro en x1 ⟨rfl, hb⟩
  refine ⟨_, rfl, ?_⟩
  have H1 := Lib.hid (HD.out.of_below hb)
  clear hb
  refine hK.out _ _ ⟨St.cells_mem H1.out mm3 0, St.cells_mem H1.out mm3 1, St.cells_mem H1.out mm3 2, St.cells_mem H1.out mm3 3, St.cells_mem H1.out mm3 4, St.cells_mem H1.out mm0 0, St.cells_mem H1.out mm0 1, St.cells_mem H1.out mm0 2, St.cells_mem H1.out mm0 3⟩ (fun hHeld => ?_)
  clear hK K
  refine norm_ (a' := ?_) ?_ ?_
  rotate_left
  · show Act.put _ (some 36) _ = _
    simp only [Act.put, List.setIfInBounds_toArray, List.set_cons_zero, List.set_cons_succ, i64_w, i32_w]
    rfl
  refine pu 4 37 #[true, true, true, true, true, false, false, false, false, false, false, false, false, false, false, false, false, false] ?_
  refine pu 5 38 #[true, true, true, true, true, true, false, false, false, false, false, false, false, false, false, false, false, false] ?_
  refine pure_ (i := 6) (N := some 39) (v := undef) (a' := ?_) #[true, true, true, true, true, true, true, false, false, false, false, false, false, false, false, false, false, false] rfl rfl (by kernel_rfl) (fun _ _ _ h => h) (Or.inr ⟨by rfl, rfl⟩) ?_ ?_
  rotate_left
  · simp only [Act.put, List.setIfInBounds_toArray, List.set_cons_zero, List.set_cons_succ, i64_w, i32_w]
    rfl
  refine pure_ (i := 7) (N := some 40) (v := undef) (a' := ?_) #[true, true, true, true, true, true, true, true, false, false, false, false, false, false, false, false, false, false] rfl rfl (by kernel_rfl) (fun _ _ _ h => h) (Or.inr ⟨by rfl, rfl⟩) ?_ ?_
  rotate_left
  · simp only [Act.put, List.setIfInBounds_toArray, List.set_cons_zero, List.set_cons_succ, i64_w, i32_w]
    rfl
  refine pure_ (i := 8) (N := some 41) (v := undef) (a' := ?_) #[true, true, true, true, true, true, true, true, true, false, false, false, false, false, false, false, false, false] rfl rfl (by kernel_rfl) (fun _ _ _ h => h) (Or.inr ⟨by rfl, rfl⟩) ?_ ?_
  rotate_left
  · simp only [Act.put, List.setIfInBounds_toArray, List.set_cons_zero, List.set_cons_succ, i64_w, i32_w]
    rfl
  refine pure_ (i := 9) (N := some 42) (v := undef) (a' := ?_) #[true, true, true, true, true, true, true, true, true, true, false, false, false, false, false, false, false, false] rfl rfl (by kernel_rfl) (fun _ _ _ h => h) (Or.inr ⟨by rfl, rfl⟩) ?_ ?_
  rotate_left
  · simp only [Act.put, List.setIfInBounds_toArray, List.set_cons_zero, List.set_cons_succ, i64_w, i32_w]
    rfl
  refine pure_ (i := 10) (N := some 43) (v := undef) (a' := ?_) #[true, true, true, true, true, true, true, true, true, true, true, false, false, false, false, false, false, false] rfl rfl (by kernel_rfl) (fun _ _ _ h => h) (Or.inr ⟨by rfl, rfl⟩) ?_ ?_
  rotate_left
  · simp only [Act.put, List.setIfInBounds_toArray, List.set_cons_zero, List.set_cons_succ, i64_w, i32_w]
    rfl
  refine pure_ (i := 11) (N := some 44) (v := undef) (a' := ?_) #[true, true, true, true, true, true, true, true, true, true, true, true, false, false, false, false, false, false] rfl rfl (by kernel_rfl) (fun _ _ _ h => h) (Or.inr ⟨by rfl, rfl⟩) ?_ ?_
  rotate_left
  · simp only [Act.put, List.setIfInBounds_toArray, List.set_cons_zero, List.set_cons_succ, i64_w, i32_w]
    rfl
  refine pure_ (i := 12) (N := some 45) (v := undef) (a' := ?_) #[true, true, true, true, true, true, true, true, true, true, true, true, true, false, false, false, false, false] rfl rfl (by kernel_rfl) (fun _ _ _ h => h) (Or.inr ⟨by rfl, rfl⟩) ?_ ?_
  rotate_left
  · simp only [Act.put, List.setIfInBounds_toArray, List.set_cons_zero, List.set_cons_succ, i64_w, i32_w]
    rfl
  refine pure_ (i := 13) (N := some 46) (v := undef) (a' := ?_) #[true, true, true, true, true, true, true, true, true, true, true, true, true, true, false, false, false, false] rfl rfl (by kernel_rfl) (fun _ _ _ h => h) (Or.inr ⟨by rfl, rfl⟩) ?_ ?_
  rotate_left
  · simp only [Act.put, List.setIfInBounds_toArray, List.set_cons_zero, List.set_cons_succ, i64_w, i32_w]
    rfl
  refine pure_ (i := 14) (N := some 47) (v := undef) (a' := ?_) #[true, true, true, true, true, true, true, true, true, true, true, true, true, true, true, false, false, false] rfl rfl (by kernel_rfl) (fun _ _ _ h => h) (Or.inr ⟨by rfl, rfl⟩) ?_ ?_
  rotate_left
  · simp only [Act.put, List.setIfInBounds_toArray, List.set_cons_zero, List.set_cons_succ, i64_w, i32_w]
    rfl
  refine pure_ (i := 15) (N := some 48) (v := undef) (a' := ?_) #[true, true, true, true, true, true, true, true, true, true, true, true, true, true, true, true, false, false] rfl rfl (by kernel_rfl) (fun _ _ _ h => h) (Or.inr ⟨by rfl, rfl⟩) ?_ ?_
  rotate_left
  · simp only [Act.put, List.setIfInBounds_toArray, List.set_cons_zero, List.set_cons_succ, i64_w, i32_w]
    rfl
  refine pu 16 49 #[true, true, true, true, true, true, true, true, true, true, true, true, true, true, true, true, true, false] ?_
  refine pu 17 32 #[true, true, true, true, true, true, true, true, true, true, true, true, true, true, true, true, true, true] ?_
  refine done_ (by kernel_rfl) ?_
  obtain ⟨d0, d1, d2, d3, d4⟩ := H1.out.cells5 mm1
  have hr := H1.out.blk_mem (g := w.heap.size + 2) mm1
  have fr : ∀ j, World.frozen? x1 ⟨w.heap.size + 2, j, none⟩ = false := fun j => by simp [World.frozen?, hr]
  have fr0 := fr 0
  have fr1 := fr 1
  have fr2 := fr 2
  have fr3 := fr 3
  have fr4 := fr 4
  clear fr hr
  go_wp2_with fail
  have h3 := ((((H1.out.swap.setCell 0 (.int .i64 0)).setCell 1 (.int .i64 0)).setCell 2 (.int .i64 0)).setCell 3 (.bool false)).setCell 4 (.slice none 0 0)
  have h4 := h3.blk_at
  exact bodyPost_ret (results_ct rfl _ _ (w.heap.size + 2) 39 #[.int .i64 0, .int .i64 0, .int .i64 0, .bool false, .slice none 0 0] (0, 0) _ rfl h4 Try.underlying39 rfl (by kernel_rfl)) rfl ⟨_, rfl, (h3.drop.drop.drop.drop).matNil _ _ _⟩
set_option maxHeartbeats 4000000 in
set_option maxRecDepth 100000 in
theorem ppaste_out (hv : valF W H D A l = 0) (hp : 0 ≤ p ∧ p < plN A) (ho : ¬ liesIn x y bw bh (wd W p) H) : Calls Try.prog 41 #[.agg #[.int .i64 W, .int .i64 H, .int .i64 D, .bool A, .slice A0 l.length n], .int .i64 p, .int .i64 x, .int .i64 y, .agg #[.int .i64 bw, .int .i64 bh, .slice Ab b.length bn]] w (rcutPost w 0 0 0 false [] 65) := by
  have hok := ok_of_valF hv
  have hW := hok.shape.1
  have hH := hok.shape.2.1
  obtain ⟨wp, hwp⟩ : ∃ q, wd W p = q := ⟨_, rfl⟩
  have hwb := wd_bd (p := p) hW.1 hW.2
  have CV := Lib.hid (fun (w : World) hr hc => plane_Valid.calls (0 + 12) W H D A A0 n l 0 w hr hc (by rw [valid_f W H D A l hs 0, hv]))
  have CT := Lib.hid (fun (w : World) => plane_there.calls W H D A p true w (by rw [there_f, decide_eq_true hp]))
  have CWI := Lib.hid (fun (w : World) => plane_width.calls W H D A p wp w (by rw [width_f p (by omega) (by omega), hwp]))
  have CL := Lib.hid (fun (w : World) => plane_lies.calls x y bw bh wp H false w (by rw [lies_f x y bw bh (by omega) (by omega), ← hwp, decide_eq_false ho]))
  have hM := hl
  clear hM
  have HS := Lib.hid ((((St.top w).alloc' rfl [.int .i64 W, .int .i64 H, .int .i64 D, .bool A, .slice A0 l.length n] 39).alloc' (n := w.heap.size + 1) (by simp) [.int .i64 bw, .int .i64 bh, .slice Ab b.length bn] 55).alloc' (n := w.heap.size + 2) (by simp) [.int .i64 0, .int .i64 0, .int .i64 0, .bool false, .slice none 0 0] 39)
  have HC := Lib.hid (Kd.C_below hC HS.out.below)
  clear hv hp ho hwp hwb hok hW hH hC hs hl
  go_enter Try.func41, Try.ntmps41
  go_wp2_with fail
  refine (CV.out _ HC.out hn).mono ?_
  rintro en w1 ⟨rfl, hb⟩
  have H1 := Lib.hid (HS.out.of_below hb)
  clear HS hb
  obtain ⟨x0, x1, x2, x3, x4⟩ := H1.out.cells5 mm2
  obtain ⟨y0, y1, y2⟩ := H1.out.cells3 mm1
  go_wp2_with fail
  clear x0 x1 x2 x3 x4 y0 y1 y2
  have HD := Lib.hid (H1.out.alloc' rfl [.int .i64 x, .int .i64 y, .int .i64 bw, .int .i64 bh] 52).drew
  clear H1
  generalize w1.heap.size = gT at *
  generalize w1.alloc (.cells #[.int .i64 x, .int .i64 y, .int .i64 bw, .int .i64 bh] 52) = w2 at *
  refine start_ (n := 18) (S := fun w' => w'.cell? ⟨w.heap.size, 0, none⟩ = some (.int .i64 W) ∧ w'.cell? ⟨w.heap.size, 1, none⟩ = some (.int .i64 H) ∧ w'.cell? ⟨w.heap.size, 2, none⟩ = some (.int .i64 D) ∧ w'.cell? ⟨w.heap.size, 3, none⟩ = some (.bool A) ∧ w'.cell? ⟨w.heap.size, 4, none⟩ = some (.slice A0 l.length n) ∧ w'.cell? ⟨gT, 0, none⟩ = some (.int .i64 x) ∧ w'.cell? ⟨gT, 1, none⟩ = some (.int .i64 y) ∧ w'.cell? ⟨gT, 2, none⟩ = some (.int .i64 bw) ∧ w'.cell? ⟨gT, 3, none⟩ = some (.int .i64 bh)) (ds := []) #[false, false, false, false, false, false, false, false, false, false, false, false, false, false, false, false, false, false] (by kernel_rfl) rfl rfl ⟨St.cells_mem HD.out mm3 0, St.cells_mem HD.out mm3 1, St.cells_mem HD.out mm3 2, St.cells_mem HD.out mm3 3, St.cells_mem HD.out mm3 4, St.cells_mem HD.out mm0 0, St.cells_mem HD.out mm0 1, St.cells_mem HD.out mm0 2, St.cells_mem HD.out mm0 3⟩ (fun hHeld => ?_)
  refine pu 0 33 #[true, false, false, false, false, false, false, false, false, false, false, false, false, false, false, false, false, false] ?_
  refine pu 2 35 #[true, false, true, false, false, false, false, false, false, false, false, false, false, false, false, false, false, false] ?_
  refine ta 1 34 #[true, true, true, false, false, false, false, false, false, false, false, false, false, false, false, false, false, false] hHeld ?_
  refine one_ (i := 3) (N := some 36) #[true, true, true, true, false, false, false, false, false, false, false, false, false, false, false, false, false, false] rfl rfl (by kernel_rfl) (by decide) (fun K hK => ?_)
  refine goes_ Try.func54 (by kernel_rfl) rfl #[.agg #[.int .i64 W, .int .i64 H, .int .i64 D, .bool A], .int .i64 p] (by rfl) rfl rfl (by simp only [List.map_toArray, List.map_cons, List.map_nil]; rfl) ?_
  with_reducible refine (CT.out _).mono ?_
  rintro en x1 ⟨rfl, hb⟩
  refine ⟨_, rfl, ?_⟩
  have H1 := Lib.hid (HD.out.of_below hb)
  clear hb
  refine hK.out _ _ ⟨St.cells_mem H1.out mm3 0, St.cells_mem H1.out mm3 1, St.cells_mem H1.out mm3 2, St.cells_mem H1.out mm3 3, St.cells_mem H1.out mm3 4, St.cells_mem H1.out mm0 0, St.cells_mem H1.out mm0 1, St.cells_mem H1.out mm0 2, St.cells_mem H1.out mm0 3⟩ (fun hHeld => ?_)
  clear hK K
  refine norm_ (a' := ?_) ?_ ?_
  rotate_left
  · show Act.put _ (some 36) _ = _
    simp only [Act.put, List.setIfInBounds_toArray, List.set_cons_zero, List.set_cons_succ, i64_w, i32_w]
    rfl
  refine pu 4 37 #[true, true, true, true, true, false, false, false, false, false, false, false, false, false, false, false, false, false] ?_
  refine pu 5 38 #[true, true, true, true, true, true, false, false, false, false, false, false, false, false, false, false, false, false] ?_
  refine pu 7 40 #[true, true, true, true, true, true, false, true, false, false, false, false, false, false, false, false, false, false] ?_
  refine pu 9 42 #[true, true, true, true, true, true, false, true, false, true, false, false, false, false, false, false, false, false] ?_
  refine pu 11 44 #[true, true, true, true, true, true, false, true, false, true, false, true, false, false, false, false, false, false] ?_
  refine pu 12 45 #[true, true, true, true, true, true, false, true, false, true, false, true, true, false, false, false, false, false] ?_
  refine ta 6 39 #[true, true, true, true, true, true, true, true, false, true, false, true, true, false, false, false, false, false] hHeld ?_
  refine ta 8 41 #[true, true, true, true, true, true, true, true, true, true, false, true, true, false, false, false, false, false] hHeld ?_
  refine ta 13 46 #[true, true, true, true, true, true, true, true, true, true, false, true, true, true, false, false, false, false] hHeld ?_
  refine one_ (i := 10) (N := some 43) #[true, true, true, true, true, true, true, true, true, true, true, true, true, true, false, false, false, false] rfl rfl (by kernel_rfl) (by decide) (fun K hK => ?_)
  refine goes_ Try.func55 (by kernel_rfl) rfl #[.agg #[.int .i64 W, .int .i64 H, .int .i64 D, .bool A], .int .i64 p] (by rfl) rfl rfl (by simp only [List.map_toArray, List.map_cons, List.map_nil]; rfl) ?_
  with_reducible refine (CWI.out _).mono ?_
  rintro en x2 ⟨rfl, hb⟩
  refine ⟨_, rfl, ?_⟩
  have H2 := Lib.hid (H1.out.of_below hb)
  clear hb
  refine hK.out _ _ ⟨St.cells_mem H2.out mm3 0, St.cells_mem H2.out mm3 1, St.cells_mem H2.out mm3 2, St.cells_mem H2.out mm3 3, St.cells_mem H2.out mm3 4, St.cells_mem H2.out mm0 0, St.cells_mem H2.out mm0 1, St.cells_mem H2.out mm0 2, St.cells_mem H2.out mm0 3⟩ (fun hHeld => ?_)
  clear hK K
  refine norm_ (a' := ?_) ?_ ?_
  rotate_left
  · show Act.put _ (some 43) _ = _
    simp only [Act.put, List.setIfInBounds_toArray, List.set_cons_zero, List.set_cons_succ, i64_w, i32_w]
    rfl
  refine one_ (i := 14) (N := some 47) #[true, true, true, true, true, true, true, true, true, true, true, true, true, true, true, false, false, false] rfl rfl (by kernel_rfl) (by decide) (fun K hK => ?_)
  refine goes_ Try.func65 (by kernel_rfl) rfl #[.agg #[.int .i64 x, .int .i64 y, .int .i64 bw, .int .i64 bh], .int .i64 wp, .int .i64 H] (by rfl) rfl rfl (by simp only [List.map_toArray, List.map_cons, List.map_nil]; rfl) ?_
  with_reducible refine (CL.out _).mono ?_
  rintro en x3 ⟨rfl, hb⟩
  refine ⟨_, rfl, ?_⟩
  have H3 := Lib.hid (H2.out.of_below hb)
  clear hb
  refine hK.out _ _ ⟨St.cells_mem H3.out mm3 0, St.cells_mem H3.out mm3 1, St.cells_mem H3.out mm3 2, St.cells_mem H3.out mm3 3, St.cells_mem H3.out mm3 4, St.cells_mem H3.out mm0 0, St.cells_mem H3.out mm0 1, St.cells_mem H3.out mm0 2, St.cells_mem H3.out mm0 3⟩ (fun hHeld => ?_)
  clear hK K
  refine norm_ (a' := ?_) ?_ ?_
  rotate_left
  · show Act.put _ (some 47) _ = _
    simp only [Act.put, List.setIfInBounds_toArray, List.set_cons_zero, List.set_cons_succ, i64_w, i32_w]
    rfl
  refine pu 15 48 #[true, true, true, true, true, true, true, true, true, true, true, true, true, true, true, true, false, false] ?_
  refine pu 16 49 #[true, true, true, true, true, true, true, true, true, true, true, true, true, true, true, true, true, false] ?_
  refine pu 17 32 #[true, true, true, true, true, true, true, true, true, true, true, true, true, true, true, true, true, true] ?_
  refine done_ (by kernel_rfl) ?_
  obtain ⟨d0, d1, d2, d3, d4⟩ := H3.out.cells5 mm1
  have hr := H3.out.blk_mem (g := w.heap.size + 2) mm1
  have fr : ∀ j, World.frozen? x3 ⟨w.heap.size + 2, j, none⟩ = false := fun j => by simp [World.frozen?, hr]
  have fr0 := fr 0
  have fr1 := fr 1
  have fr2 := fr 2
  have fr3 := fr 3
  have fr4 := fr 4
  clear fr hr
  go_wp2_with fail
  have h3 := ((((H3.out.swap.setCell 0 (.int .i64 0)).setCell 1 (.int .i64 0)).setCell 2 (.int .i64 0)).setCell 3 (.bool false)).setCell 4 (.slice none 0 0)
  have h4 := h3.blk_at
  exact bodyPost_ret (results_ct rfl _ _ (w.heap.size + 2) 39 #[.int .i64 0, .int .i64 0, .int .i64 0, .bool false, .slice none 0 0] (0, 0) _ rfl h4 Try.underlying39 rfl (by kernel_rfl)) rfl ⟨_, rfl, (h3.drop.drop.drop.drop).matNil _ _ _⟩
theorem ppaste_ok (hCb : Kd.C (Kd.int .u16) w Ab b.length b) (hbn : b.length ≤ bn) (hbs : ∀ v ∈ b, 0 ≤ v ∧ v ≤ 65535)
    (hw1 : -9223372036854775808 ≤ bw ∧ bw ≤ 9223372036854775807) (hw2 : -9223372036854775808 ≤ bh ∧ bh ≤ 9223372036854775807) {r1 r2 r3 : Int} {r4 : Bool} {L : List (List Int)} {r6 : Int} (he : pasteF W H D A l p x y bw bh b = (r1, r2, r3, r4, L, r6)) : Calls Try.prog 41 #[.agg #[.int .i64 W, .int .i64 H, .int .i64 D, .bool A, .slice A0 l.length n], .int .i64 p, .int .i64 x, .int .i64 y, .agg #[.int .i64 bw, .int .i64 bh, .slice Ab b.length bn]] w (rcutPost w r1 r2 r3 r4 L r6) := by
  unfold pasteF at he
  by_cases hv : valF W H D A l = 0
  · rw [if_pos hv] at he
    have hok := ok_of_valF hv
    by_cases ho : (0 ≤ p ∧ p < plN A) ∧ liesIn x y bw bh (wd W p) H
    · rw [if_pos ho] at he
      have hW := hok.shape.1
      have hH := hok.shape.2.1
      have hwb := wd_bd (p := p) hW.1 hW.2
      have hl2 := ho.2
      unfold liesIn at hl2
      obtain ⟨pn, rfl⟩ : ∃ k : Nat, p = k := ⟨p.toNat, by omega⟩
      obtain ⟨xn, rfl⟩ : ∃ k : Nat, x = k := ⟨x.toNat, by omega⟩
      obtain ⟨yn, rfl⟩ : ∃ k : Nat, y = k := ⟨y.toNat, by omega⟩
      rw [Int.toNat_natCast, Int.toNat_natCast, Int.toNat_natCast] at he
      have hpl : pn < l.length := by have := hok.len; omega
      have h := pasteV_ok w W H D A A0 n l hC hn hok hs pn xn yn hpl (by omega) (by omega) bw bh Ab bn b hCb hbn hbs hw1 hw2 ho.2
      refine h.mono ?_
      rintro e w' (⟨h1, h2⟩ | ⟨h1, h2⟩)
      · rw [if_neg h1] at he
        simp only [Prod.mk.injEq] at he
        obtain ⟨rfl, rfl, rfl, rfl, rfl, rfl⟩ := he
        exact h2
      · rw [if_pos h1] at he
        simp only [Prod.mk.injEq] at he
        obtain ⟨rfl, rfl, rfl, rfl, rfl, rfl⟩ := he
        exact h2
    · rw [if_neg ho] at he
      simp only [Prod.mk.injEq] at he
      obtain ⟨rfl, rfl, rfl, rfl, rfl, rfl⟩ := he
      by_cases hp : 0 ≤ p ∧ p < plN A
      · exact ppaste_out w W H D A A0 n l p x y bw bh Ab bn b hC hn hs hl hv hp (fun h => ho ⟨hp, h⟩)
      · exact ppaste_off w W H D A A0 n l p x y bw bh Ab bn b hC hn hs hl hv hp
  · rw [if_neg hv] at he
    simp only [Prod.mk.injEq] at he
    obtain ⟨rfl, rfl, rfl, rfl, rfl, rfl⟩ := he
    exact ppaste_bad w W H D A A0 n l p x y bw bh Ab bn b hC hn hs hl hv
theorem rpaste_ok (hCb : Kd.C (Kd.int .u16) w Ab b.length b) (hbn : b.length ≤ bn) (hbs : ∀ v ∈ b, 0 ≤ v ∧ v ≤ 65535)
    (hw1 : -9223372036854775808 ≤ bw ∧ bw ≤ 9223372036854775807) (hw2 : -9223372036854775808 ≤ bh ∧ bh ≤ 9223372036854775807) {r1 r2 r3 : Int} {r4 : Bool} {L : List (List Int)} {r6 : Int} (he : pasteF W H D A l p x y bw bh b = (r1, r2, r3, r4, L, r6)) : Calls Try.prog 42 #[.agg #[.int .i64 W, .int .i64 H, .int .i64 D, .bool A, .slice A0 l.length n], .int .i64 p, .int .i64 x, .int .i64 y, .agg #[.int .i64 bw, .int .i64 bh, .slice Ab b.length bn]] w (rcutPost w r1 r2 r3 r4 L r6) := by
  unfold pasteF at he
  by_cases hv : valF W H D A l = 0
  · rw [if_pos hv] at he
    have hok := ok_of_valF hv
    by_cases ho : (0 ≤ p ∧ p < plN A) ∧ liesIn x y bw bh (wd W p) H
    · rw [if_pos ho] at he
      have hW := hok.shape.1
      have hH := hok.shape.2.1
      have hwb := wd_bd (p := p) hW.1 hW.2
      have hl2 := ho.2
      unfold liesIn at hl2
      obtain ⟨pn, rfl⟩ : ∃ k : Nat, p = k := ⟨p.toNat, by omega⟩
      obtain ⟨xn, rfl⟩ : ∃ k : Nat, x = k := ⟨x.toNat, by omega⟩
      obtain ⟨yn, rfl⟩ : ∃ k : Nat, y = k := ⟨y.toNat, by omega⟩
      rw [Int.toNat_natCast, Int.toNat_natCast, Int.toNat_natCast] at he
      have hpl : pn < l.length := by have := hok.len; omega
      unfold perr at he
      by_cases hz : (b.length : Int) = bw * bh
      · by_cases hg : bigIn D b = true
        · rw [if_pos hz, if_pos hg, if_neg (by decide)] at he
          simp only [Prod.mk.injEq] at he
          obtain ⟨rfl, rfl, rfl, rfl, rfl, rfl⟩ := he
          exact rpaste_low w W H D A A0 n l (pn : Nat) (xn : Nat) (yn : Nat) bw bh Ab bn b hC hn hs hl hv ho.1 ho.2 hz hCb hbn hbs hg
        · rw [if_pos hz, if_neg hg, if_pos rfl] at he
          simp only [Prod.mk.injEq] at he
          obtain ⟨rfl, rfl, rfl, rfl, rfl, rfl⟩ := he
          obtain ⟨bwn, rfl⟩ : ∃ k : Nat, bw = k := ⟨bw.toNat, by omega⟩
          obtain ⟨bhn, rfl⟩ : ∃ k : Nat, bh = k := ⟨bh.toNat, by omega⟩
          have hbl : b.length = bwn * bhn := by exact_mod_cast hz
          have h := rpaste_good w W H D A A0 n l Ab bn b hC hn hs hl pn xn yn bwn bhn hv ho.1 ho.2 hz hCb hbn hbs (by simpa using hg)
          have hrw := rows_at hok.rows hW hH pn hpl
          have e : psk (l.getD pn []) b (wd W pn).toNat xn yn bwn b.length = pst (l.getD pn []) b (wd W pn).toNat xn yn bwn bhn := by
            rw [show b.length = bhn * bwn by rw [hbl, Nat.mul_comm]]
            exact psk_pst hbl (by omega) (by rw [hrw, Nat.mul_comm (wd W pn).toNat]; exact Nat.mul_le_mul_right _ (by omega)) bhn (Nat.le_refl _)
          rw [e] at h
          exact h
      · rw [if_neg hz, if_neg (by decide)] at he
        simp only [Prod.mk.injEq] at he
        obtain ⟨rfl, rfl, rfl, rfl, rfl, rfl⟩ := he
        exact rpaste_size w W H D A A0 n l (pn : Nat) (xn : Nat) (yn : Nat) bw bh Ab bn b hC hn hs hl hv ho.1 ho.2 hz
    · rw [if_neg ho] at he
      simp only [Prod.mk.injEq] at he
      obtain ⟨rfl, rfl, rfl, rfl, rfl, rfl⟩ := he
      by_cases hp : 0 ≤ p ∧ p < plN A
      · exact rpaste_out w W H D A A0 n l p x y bw bh Ab bn b hC hn hs hl hv hp (fun h => ho ⟨hp, h⟩)
      · exact rpaste_off w W H D A A0 n l p x y bw bh Ab bn b hC hn hs hl hv hp
  · rw [if_neg hv] at he
    simp only [Prod.mk.injEq] at he
    obtain ⟨rfl, rfl, rfl, rfl, rfl, rfl⟩ := he
    exact rpaste_bad w W H D A A0 n l p x y bw bh Ab bn b hC hn hs hl hv
end
end Go.Proofs.Ytdoikehkibefpaa
