import Derived.Test.YtnhemnabjlcgeaaTiC
import Derived.Test.YtnhemnabjlcgeaaTiSr
import Derived.Test.YtnhemnabjlcgeaaPPax2
/-! New of any shape and sides: the code's and the document's. -/
namespace Go.Proofs.Ytnhemnabjlcgeaa
set_option linter.unusedSimpArgs false
set_option linter.unusedVariables false
open Go Go.RowKit Go.Proofs.Ytnhemnabjlcgeaa.PPa

def sidesOk (w h : Int) : Prop := (16 ≤ w ∧ w ≤ 4096) ∧ w % 2 = 0 ∧ (16 ≤ h ∧ h ≤ 4096)
instance (w h : Int) : Decidable (sidesOk w h) := by unfold sidesOk; infer_instance
instance (W H D : Int) (A : Bool) : Decidable (okShape W H D A) := by unfold okShape; infer_instance
def newE (g : Gd) : Int := if okShape g.W g.H g.D g.A then (if sidesOk g.w g.h then 0 else 81) else 61
theorem newE_ok {g : Gd} (h : newE g = 0) : okShape g.W g.H g.D g.A ∧ g.Ok := by
  unfold newE at h
  split at h
  · rename_i h1
    split at h
    · rename_i h2
      exact ⟨h1, ⟨h1.1.1, h1.1.2, h1.2.1.1, h1.2.1.2, h2.1.1, h2.1.2, h2.2.1, h2.2.2.1, h2.2.2.2⟩⟩
    · cases h
  · cases h

theorem rnew_any (g : Gd) (w : World) :
    Calls Try.prog 28 #[.agg #[.int .i64 g.W, .int .i64 g.H, .int .i64 g.D, .bool g.A], .int .i64 g.w, .int .i64 g.h] w fun e w' => e = .returned (.int .i64 (newE g)) ∧ Below w.heap.size w w' := by
  refine dailiesref08_New.calls 6 g.W g.H g.D g.A g.w g.h (newE g) w ?_
  unfold dailiesref08_New.f
  rw [rshaped_f g.W g.H g.D g.A 0]
  unfold newE
  by_cases hs : okShape g.W g.H g.D g.A
  · rw [if_pos hs, shp_ok hs]
    simp only [Option.bind_some, if_true]
    by_cases h1 : g.w < 16
    · rw [if_pos h1, if_neg (show ¬ sidesOk g.w g.h by unfold sidesOk; omega)]
    by_cases h2 : g.w > 4096
    · rw [if_neg h1, if_pos h2, if_neg (show ¬ sidesOk g.w g.h by unfold sidesOk; omega)]
    have e : Int.tmod g.w 2 = g.w % 2 := Int.tmod_eq_emod_of_nonneg (by omega)
    rw [if_neg h1, if_neg h2, e]
    by_cases h3 : g.w % 2 = 0
    · rw [if_pos h3]
      by_cases h4 : g.h < 16
      · rw [if_pos h4, if_neg (show ¬ sidesOk g.w g.h by unfold sidesOk; omega)]
      by_cases h5 : g.h > 4096
      · rw [if_neg h4, if_pos h5, if_neg (show ¬ sidesOk g.w g.h by unfold sidesOk; omega)]
      · rw [if_neg h4, if_neg h5, if_pos (show sidesOk g.w g.h by unfold sidesOk; omega)]
    · rw [if_neg h3, if_neg (show ¬ sidesOk g.w g.h by unfold sidesOk; omega)]
  · rw [if_neg hs, shp_no hs]
    rfl

set_option maxHeartbeats 2000000 in
set_option maxRecDepth 100000 in
theorem new_no (g : Gd) (w : World) (hn : newE g ≠ 0) :
    Calls Try.prog 9 #[.agg #[.int .i64 g.W, .int .i64 g.H, .int .i64 g.D, .bool g.A], .int .i64 g.w, .int .i64 g.h] w fun e w' => e = .returned (.tuple #[.pointer none, .int .i64 (newE g)]) ∧ Below w.heap.size w w' := by
  have H := Lib.hid (St.alloc (St.top w) [.int .i64 g.W, .int .i64 g.H, .int .i64 g.D, .bool g.A] 28)
  have c0 := St.cell H.out 0
  have c1 := St.cell H.out 1
  have c2 := St.cell H.out 2
  have c3 := St.cell H.out 3
  simp only [List.getElem?_cons_zero, List.getElem?_cons_succ] at c0 c1 c2 c3
  obtain ⟨E, hE⟩ : ∃ E, newE g = E := ⟨_, rfl⟩
  rw [hE] at hn ⊢
  unfold newE at hE
  by_cases hs : okShape g.W g.H g.D g.A
  · have SH : Hid (plane_Shaped.f 5 g.W g.H g.D g.A = some 0) := Lib.hid (by have := shaped_f g.W g.H g.D g.A 0; rwa [shp_ok hs] at this)
    rw [if_pos hs] at hE
    have hsd : ¬ sidesOk g.w g.h := fun h => hn (by rw [← hE, if_pos h])
    rw [if_neg hsd] at hE
    subst hE
    unfold sidesOk at hsd
    clear hs hn
    by_cases h1 : 16 ≤ g.w ∧ g.w ≤ 4096
    · obtain ⟨a1, a2⟩ := h1
      have e : Int.tmod g.w 2 = g.w % 2 := Int.tmod_eq_emod_of_nonneg (by omega)
      by_cases h3 : g.w % 2 = 0
      · have t1 : Int.tmod g.w 2 = 0 := by rw [e, h3]
        have HN : Hid (¬ (16 ≤ g.h ∧ g.h ≤ 4096)) := Lib.hid (fun h => hsd ⟨⟨a1, a2⟩, h3, h⟩)
        clear hsd h3 e
        go_enter Try.func9, Try.ntmps9
        go_wp2_with fail
        refine (plane_Shaped.calls 5 g.W g.H g.D g.A 0 _ SH.out).mono ?_
        rintro e w1 ⟨rfl, hb⟩
        have H2 := Lib.hid (H.out.of_below hb)
        clear H hb c0 c1 c2 c3
        go_wp2_with (first
          | (go_at_call 21; with_reducible refine (may_t g.w _ (by omega) (by omega)).mono ?_; rintro e w2 ⟨rfl, rfl⟩; simp only [])
          | (go_at_call 21; with_reducible refine (may_f g.h _ HN.out).mono ?_; rintro e w2 ⟨rfl, rfl⟩; simp only []))
        go_ret2
        exact ⟨rfl, H2.out.below⟩
      · have t1 : Int.tmod g.w 2 = 1 := by omega
        clear hsd h3 e
        go_enter Try.func9, Try.ntmps9
        go_wp2_with fail
        refine (plane_Shaped.calls 5 g.W g.H g.D g.A 0 _ SH.out).mono ?_
        rintro e w1 ⟨rfl, hb⟩
        have H2 := Lib.hid (H.out.of_below hb)
        clear H hb c0 c1 c2 c3
        go_wp2_with (first
          | (go_at_call 21; with_reducible refine (may_t g.w _ (by omega) (by omega)).mono ?_; rintro e w2 ⟨rfl, rfl⟩; simp only []))
        go_ret2
        exact ⟨rfl, H2.out.below⟩
    · have HN := Lib.hid h1
      clear hsd h1
      go_enter Try.func9, Try.ntmps9
      go_wp2_with fail
      refine (plane_Shaped.calls 5 g.W g.H g.D g.A 0 _ SH.out).mono ?_
      rintro e w1 ⟨rfl, hb⟩
      have H2 := Lib.hid (H.out.of_below hb)
      clear H hb c0 c1 c2 c3
      go_wp2_with (first
        | (go_at_call 21; with_reducible refine (may_f g.w _ HN.out).mono ?_; rintro e w2 ⟨rfl, rfl⟩; simp only []))
      go_ret2
      exact ⟨rfl, H2.out.below⟩
  · have SH : Hid (plane_Shaped.f 5 g.W g.H g.D g.A = some 61) := Lib.hid (by have := shaped_f g.W g.H g.D g.A 0; rwa [shp_no hs] at this)
    rw [if_neg hs] at hE
    subst hE
    clear hs hn
    go_enter Try.func9, Try.ntmps9
    go_wp2_with fail
    refine (plane_Shaped.calls 5 g.W g.H g.D g.A 61 _ SH.out).mono ?_
    rintro e w1 ⟨rfl, hb⟩
    have H2 := Lib.hid (H.out.of_below hb)
    clear H hb c0 c1 c2 c3
    go_wp2_with fail
    go_ret2
    exact ⟨rfl, H2.out.below⟩
end Go.Proofs.Ytnhemnabjlcgeaa
