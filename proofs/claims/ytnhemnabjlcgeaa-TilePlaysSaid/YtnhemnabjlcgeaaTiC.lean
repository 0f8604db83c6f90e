import Derived.Test.YtnhemnabjlcgeaaTiB
import Derived.Test.YtnhemnabjlcgeaaTiS
import Derived.Test.YtnhemnabjlcgeaaPPax1
import Derived.Lib.Hide
/-! Tiles: New of a shape that may be. -/
namespace Go.Proofs.Ytnhemnabjlcgeaa
set_option linter.unusedSimpArgs false
set_option linter.unusedVariables false
open Go Go.RowKit Go.Proofs.Ytnhemnabjlcgeaa.PPa

def gcells (g : Gd) : List Value := [.int .i64 g.W, .int .i64 g.H, .int .i64 g.D, .bool g.A, .int .i64 g.w, .int .i64 g.h, .int .i64 g.cols, .int .i64 g.rows]
theorem gat_of {c : Ctx} {R : List HP} {w : World} {b : Nat} {g : Gd} {T : TypeId} (h : St c (blk b (gcells g) T :: R) w) : GAt w b g :=
  ⟨h.cell 0, h.cell 1, h.cell 2, h.cell 3, h.cell 4, h.cell 5, h.cell 6, h.cell 7⟩

set_option maxHeartbeats 2000000 in
set_option maxRecDepth 100000 in
theorem new_ok (g : Gd) (w : World) (hg : g.Ok) (hs : okShape g.W g.H g.D g.A) :
    Calls Try.prog 9 #[.agg #[.int .i64 g.W, .int .i64 g.H, .int .i64 g.D, .bool g.A], .int .i64 g.w, .int .i64 g.h] w fun e w' => ∃ b, e = .returned (.tuple #[.pointer (some ⟨b, 0, none⟩), .int .i64 0]) ∧ w.heap.size ≤ b ∧ GAt w' b g ∧ Below w.heap.size w w' := by
  have H := Lib.hid (St.alloc (St.top w) [.int .i64 g.W, .int .i64 g.H, .int .i64 g.D, .bool g.A] 28)
  have SH : Hid (plane_Shaped.f 5 g.W g.H g.D g.A = some 0) := Lib.hid (by have := shaped_f g.W g.H g.D g.A 0; rwa [shp_ok hs] at this)
  have c0 := St.cell H.out 0
  have c1 := St.cell H.out 1
  have c2 := St.cell H.out 2
  have c3 := St.cell H.out 3
  simp only [List.getElem?_cons_zero, List.getElem?_cons_succ] at c0 c1 c2 c3
  have a1 := hg.a1
  have a2 := hg.a2
  have b1 := hg.b1
  have b2 := hg.b2
  have w1 := hg.w1
  have w2 := hg.w2
  have h1 := hg.h1
  have h2 := hg.h2
  have t1 : Int.tmod g.w 2 = 0 := by rw [Int.tmod_eq_emod_of_nonneg (by omega)]; exact hg.a3
  clear hg hs
  go_enter Try.func9, Try.ntmps9
  go_wp2_with fail
  refine (plane_Shaped.calls 5 g.W g.H g.D g.A 0 _ SH.out).mono ?_
  rintro e w1 ⟨rfl, hb⟩
  have H2 := Lib.hid (H.out.of_below hb)
  clear H hb c0 c1 c2 c3
  have c0 := St.cell H2.out 0
  have c1 := St.cell H2.out 1
  have c2 := St.cell H2.out 2
  have c3 := St.cell H2.out 3
  simp only [List.getElem?_cons_zero, List.getElem?_cons_succ] at c0 c1 c2 c3
  go_wp2_with (first
    | (go_at_call 21; with_reducible refine (may_t g.w _ (by omega) (by omega)).mono ?_; rintro e w2 ⟨rfl, rfl⟩; simp only [])
    | (go_at_call 21; with_reducible refine (may_t g.h _ (by omega) (by omega)).mono ?_; rintro e w2 ⟨rfl, rfl⟩; simp only []))
  refine wp_region_head_tail 12 (by kernel_rfl) (by kernel_rfl) ?_
  simp only [List.take_succ_cons, List.take_zero, List.drop_succ_cons, List.drop_zero]
  repeat (go_big_quiet_step ((first
    | (go_at_call 22; with_reducible exact Calls.quiet_of_same (up_is g.W g.w g.cols _ (by omega) (by omega) (by omega) (by omega) rfl))
    | (go_at_call 22; with_reducible exact Calls.quiet_of_same (up_is g.H g.h g.rows _ (by omega) (by omega) (by omega) (by omega) rfl)))))
  refine wpQuiet_nil ?_
  intro m
  go_wp2_with fail
  go_ret2
  have H3 := St.alloc (H2.out.drewN m) (gcells g) 69
  exact ⟨_, rfl, (H2.out.drewN m).below.size, gat_of H3, H3.below⟩
end Go.Proofs.Ytnhemnabjlcgeaa
