import Derived.Test.YtdoikehkibefpaaBookL
/-! take -/
namespace Go.Proofs.Ytdoikehkibefpaa
set_option linter.unusedSimpArgs false
set_option linter.unusedVariables false
open Go Go.RowKit Go.Proofs.YtdoikehkibefpaaW.PrintWords Go.Proofs.YtdoikehkibefpaaW.PrintLast

theorem St.bookNew {c : Ctx} {R : List HP} {w : World} {gB : Nat} (h : St c (blk gB [.slice none 0 0, .int .i64 0, .slice none 0 0] 36 :: R) w) : St c (book gB 0 [] :: R) w := by
  have h1 : St c (bkO (.slice none 0 0) 0 [] :: bkM [] [] :: bkP [] :: bkH (.slice none 0 0) [] :: bkB gB (.slice none 0 0) (.slice none 0 0) :: R) w :=
    St.nilRow (St.sepNil (St.poolNil (St.nilRow h 97 2) 72)) 37 1
  have h2 := h1.reo 5 [4, 3, 2, 0, 1] (by decide)
  exact St.bookShut (outs := []) h2 ⟨Nat.le_refl _, Nat.le_refl _, fun j => Nat.zero_le _, fun j _ => Nat.zero_le _, fun j => ⟨0, rfl⟩⟩ rfl (fun o ho => by cases ho)
theorem St.bookMono {c : Ctx} {R : List HP} {w : World} {gB n m : Nat} {os : List Nat} (h : St c (book gB n os :: R) w) (hn : n ≤ m) : St c (book gB m os :: R) w := by
  obtain ⟨vl, hs, vout, vos, outs, hp, rfl, h3, h4, h⟩ := h.bookOpen
  exact h.bookShut ⟨hp.low, Nat.le_trans hp.many hn, hp.len, hp.len2, hp.mark⟩ h3 h4

set_option maxHeartbeats 8000000 in
set_option maxRecDepth 100000 in
theorem take_ok (c : Ctx) (R : List HP) (w : World) (gB n : Nat) (os : List Nat) (v : Value) (ls : List (List Int)) (hS : St c (book gB n os :: matU v ls :: R) w) (hb : ∀ l ∈ ls, l.length ≤ BIG) (ho : os.length ≤ 100) :
    Calls Try.prog 26 #[.pointer (some ⟨gB, 0, none⟩), v] w fun e w' => e = .returned (.tuple #[]) ∧ St c (book gB n (os ++ [ls.length]) :: R) w' := by
  obtain ⟨vl, hs, vout, vos, outs, hpre, rfl, hvo, hbig, h0⟩ := hS.bookOpen
  obtain ⟨aoO, capO, rfl, -, -, -, -⟩ := h0.rot4.rowShape
  obtain ⟨aoV, nV, capV, rfl⟩ : ∃ ao n cap, v = .slice ao n cap := by
    obtain ⟨A, cap, h, -⟩ := (h0.rot6).matC
    exact ⟨_, _, _, h⟩
  rw [List.length_map] at ho
  have H0 := Lib.hid h0.rot4
  have HB := Lib.hid hb
  have HBIG := Lib.hid hbig
  have b2 : w.cell? ⟨gB, 2, none⟩ = some (.slice aoO outs.length capO) := St.cells_mem h0 mm0 2
  clear hS h0 hb hbig
  go_enter Try.func26, Try.ntmps26
  go_wp2_with (at_builtin; go_must (refine St.append1 rfl (.tmp 8) (.tmp 10) _ rfl elemOut rfl H0.out _ _ rfl rfl (by omega) (by simp [maxLen]; omega) ?_))
  intro g' cp' w' hcp h1
  clear b2
  have b2 : w'.cell? ⟨gB, 2, none⟩ = some (.slice aoO outs.length capO) := St.cells_mem h1 mm1 2
  have hbb := St.blk_mem (g := gB) h1 mm1
  have hbz : w'.frozen? ⟨gB, 2, none⟩ = false := by simp [World.frozen?, hbb]
  have h3 := h1.swap.setCell 2 (.slice (some ⟨g', 0, none⟩) (outs.length + 1) cp')
  have H3 := Lib.hid h3
  clear h3 hbb h1
  go_wp2_with fail
  go_end0
  refine ⟨rfl, ?_⟩
  have h1 : St c (Sep (List.zipWith matU vos outs ++ [matU (.slice aoV nV capV) ls]) :: bkB gB vl (.slice (some ⟨g', 0, none⟩) (outs.length + 1) cp') :: bkO (.slice (some ⟨g', 0, none⟩) (outs.length + 1) cp') (outs.length + 1) (vos ++ [.slice aoV nV capV]) :: bkH vl hs :: bkP hs :: R) (w'.setCell ⟨gB, 2, none⟩ (.slice (some ⟨g', 0, none⟩) (outs.length + 1) cp')) :=
    St.sepSnoc (A := matU (.slice aoV nV capV) ls) (Z := List.zipWith matU vos outs) (H3.out.reo 6 [5, 4, 0, 1, 2, 3] (by decide))
  rw [← zip_snoc matU vos outs (.slice aoV nV capV) ls hvo] at h1
  have h2 := h1.reo 5 [1, 3, 4, 2, 0] (by decide)
  have h3 := St.bookShut (outs := outs ++ [ls]) (N := n) (by rw [List.length_append]; exact h2) hpre (by simp [hvo]) (fun o ho l hl => by
    rcases List.mem_append.1 ho with h | h
    · exact HBIG.out o h l hl
    · simp at h; subst h; exact HB.out l hl)
  rw [List.map_append] at h3
  exact h3
end Go.Proofs.Ytdoikehkibefpaa
