import Derived.Test.YtakmkjdmonmilaaDoorGoA
namespace Go.Proofs.YtakmkjdmonmilaaDoor
set_option linter.unusedSimpArgs false
set_option linter.unusedVariables false
open Go Go.RowKit

/-! golomb: runs. -/
/-- How many bits a run's rest has, by the rate. -/
def J (r : Nat) : Nat := [0, 0, 0, 0, 1, 1, 1, 1, 2, 2, 2, 3, 3, 4, 4, 5, 6, 7, 8, 9, 10, 11, 12].getD r 0
theorem J_le (r : Nat) : J r ≤ 12 := by
  unfold J
  rcases Nat.lt_or_ge r 23 with h | h
  · have : ∀ k, k < 23 → [0, 0, 0, 0, 1, 1, 1, 1, 2, 2, 2, 3, 3, 4, 4, 5, 6, 7, 8, 9, 10, 11, 12].getD k 0 ≤ 12 := by decide
    exact this r h
  · rw [List.getD_eq_getElem?_getD, List.getElem?_eq_none (by simpa using h)]; decide

/-- The table is there. -/
def Tab (w : World) : Prop := ∀ i : Nat, i < 23 → w.cell? ⟨0, i, none⟩ = some (.int .i64 (J i : Nat))
theorem Tab.at {W w : World} {l : List HP} (h : Tab W) (H : St (top W) l w) : Tab w := fun i hi => top_cell H (h i hi)

/-- A coder of runs. -/
def runs (g r : Nat) : HP := blk g [.int .i64 (r : Nat)] 83

theorem stretch_ok (W : World) (hT : Tab W) (R : List HP) (g r p : Nat) (w : World) (hS : St (top W) (runs g r :: R) w) (hr : r ≤ 22) (hp : 2 ^ J r = p) :
    Calls Tryd.prog 37 #[.pointer (some ⟨g, 0, none⟩)] w fun e w' => e = .returned (.int .i64 (p : Nat)) ∧ ∃ m, w' = w.drewN m := by
  have c0 := hS.cell 0
  simp only [List.getElem?_cons_zero] at c0
  have ct := hT.at hS r (by omega)
  have hw := pow_wrap (J r) (by have := J_le r; omega)
  have hJ := J_le r
  rw [hp] at hw
  clear hS hT hp
  generalize J r = j at *
  go_enter Tryd.func37, Tryd.ntmps37
  go_wp2
  go_ret
  exact ⟨by rw [hw]; rfl, 0, rfl⟩

theorem St.runsSet {c : Ctx} {R : List HP} {g r r2 : Nat} {w : World} (h : St c (runs g r :: R) w) (x : Int) (hx : x = (r2 : Nat)) : St c (runs g r2 :: R) (w.setCell ⟨g, 0, none⟩ (.int .i64 x)) := by
  subst hx
  exact h.setCell 0 (.int .i64 (r2 : Nat))

theorem up_ok (c : Ctx) (R : List HP) (g r r2 : Nat) (w : World) (hS : St c (runs g r :: R) w) (hr : r ≤ 22) (hr2 : min (r + 1) 22 = r2) :
    Calls Tryd.prog 39 #[.pointer (some ⟨g, 0, none⟩)] w fun e w' => e = .returned (.tuple #[]) ∧ St c (runs g r2 :: R) w' := by
  have c0 := hS.cell 0
  simp only [List.getElem?_cons_zero] at c0
  have f0 := hS.frozen 0
  have HS := Lib.hid hS
  have H2 := Lib.hid hr2
  clear hS hr2
  by_cases h : r = 22
  · have h' : (22 : Int) < (r : Int) + 1 := by omega
    have H := Lib.hid h
    clear h
    go_enter Tryd.func39, Tryd.ntmps39
    go_wp2
    go_end0
    exact ⟨rfl, HS.out.runsSet _ (by have := H2.out; have := H.out; omega)⟩
  · have h' : ¬ (22 : Int) < (r : Int) + 1 := by omega
    go_enter Tryd.func39, Tryd.ntmps39
    go_wp2
    go_end0
    exact ⟨rfl, HS.out.runsSet _ (by have := H2.out; omega)⟩

theorem down_ok (c : Ctx) (R : List HP) (g r r2 : Nat) (w : World) (hS : St c (runs g r :: R) w) (hr : r ≤ 22) (hr2 : r - 1 = r2) :
    Calls Tryd.prog 40 #[.pointer (some ⟨g, 0, none⟩)] w fun e w' => e = .returned (.tuple #[]) ∧ St c (runs g r2 :: R) w' := by
  have c0 := hS.cell 0
  simp only [List.getElem?_cons_zero] at c0
  have f0 := hS.frozen 0
  have HS := Lib.hid hS
  have H2 := Lib.hid hr2
  clear hS hr2
  by_cases h : r = 0
  · have h' : (r : Int) - 1 < 0 := by omega
    have H := Lib.hid h
    clear h
    go_enter Tryd.func40, Tryd.ntmps40
    go_wp2
    go_end0
    exact ⟨rfl, HS.out.runsSet _ (by have := H2.out; have := H.out; omega)⟩
  · have h' : ¬ (r : Int) - 1 < 0 := by omega
    go_enter Tryd.func40, Tryd.ntmps40
    go_wp2
    go_end0
    exact ⟨rfl, HS.out.runsSet _ (by have := H2.out; omega)⟩

/-- The stretches of a run: how many, the rate behind them, the rest. -/
def runGo (r l : Nat) : Nat × Nat × Nat :=
  if h : 0 < l ∧ 2 ^ J r ≤ l then ((runGo (min (r + 1) 22) (l - 2 ^ J r)).1 + 1, (runGo (min (r + 1) 22) (l - 2 ^ J r)).2) else (0, r, l)
termination_by l
decreasing_by all_goals (have := Nat.two_pow_pos (J r); omega)

theorem runGo_in {r l : Nat} (h : 0 < l) (h2 : 2 ^ J r ≤ l) : runGo r l = ((runGo (min (r + 1) 22) (l - 2 ^ J r)).1 + 1, (runGo (min (r + 1) 22) (l - 2 ^ J r)).2) := by
  conv => lhs; rw [runGo]
  rw [dif_pos ⟨h, h2⟩]
theorem runGo_out {r l : Nat} (h : ¬ (0 < l ∧ 2 ^ J r ≤ l)) : runGo r l = (0, r, l) := by
  rw [runGo, dif_neg h]
theorem runGo_facts (l : Nat) : ∀ r, r ≤ 22 → (runGo r l).2.1 ≤ 22 ∧ (runGo r l).2.2 < 2 ^ J (runGo r l).2.1 ∧ (runGo r l).2.2 ≤ l ∧ (runGo r l).1 ≤ l := by
  induction l using Nat.strongRecOn with
  | _ l ih =>
    intro r hr
    by_cases h : 0 < l ∧ 2 ^ J r ≤ l
    · have hp := Nat.two_pow_pos (J r)
      have := ih (l - 2 ^ J r) (by omega) (min (r + 1) 22) (by omega)
      rw [runGo_in h.1 h.2]
      simp only
      omega
    · rw [runGo_out h]
      have hp := Nat.two_pow_pos (J r)
      simp only
      omega

/-- A run's form, and the rate behind it. -/
def rform (r n room : Nat) : List Bool :=
  List.replicate (runGo r n).1 true ++ (if n < room then false :: bitsOf (runGo r n).2.2 (J (runGo r n).2.1) else if 0 < (runGo r n).2.2 then [true] else [])
def rnext (r n room : Nat) : Nat := if n < room then (runGo r n).2.1 - 1 else (runGo r n).2.1

theorem bitsOf_11 : bitsOf (1 : Int).toNat (1 : Int).toNat = [true] := by decide
theorem bitsOf_01 : bitsOf (0 : Int).toNat (1 : Int).toNat = [false] := by decide

set_option maxHeartbeats 1000000 in
set_option maxRecDepth 100000 in
theorem RPut_ok (W : World) (hT : Tab W) (R : List HP) (g g2 r n room : Nat) (l : List Bool) (w : World) (hS : St (top W) (runs g r :: writer g2 l :: R) w) (hr : r ≤ 22) (h1 : 1 ≤ room) (h2 : room ≤ 4096) (hn : n ≤ room) (hl : l.length ≤ 562949953400000) :
    Calls Tryd.prog 16 #[.pointer (some ⟨g, 0, none⟩), .pointer (some ⟨g2, 0, none⟩), .int .i64 n, .int .i64 room] w
      fun e w' => e = .returned (.int .i64 0) ∧ St (top W) (runs g (rnext r n room) :: writer g2 (l ++ rform r n room) :: R) w' := by
  have HS := Lib.hid hS
  have HT := Lib.hid hT
  clear hS hT
  have t1 : decide ((room : Int) < 1) = false := by rw [decide_eq_false_iff_not]; omega
  have t2 : decide ((4096 : Int) < room) = false := by rw [decide_eq_false_iff_not]; omega
  have t3 : decide ((n : Int) < 0) = false := by rw [decide_eq_false_iff_not]; omega
  have t4 : decide ((room : Int) < n) = false := by rw [decide_eq_false_iff_not]; omega
  have t5 : decide (room < n) = false := by rw [decide_eq_false_iff_not]; omega
  go_enter Tryd.func16, Tryd.ntmps16
  go_wp2_with fail
  go_loopw [9] (fun v w' => ∃ (left r1 k : Nat), v = .int .i64 (left : Nat) ∧ r1 ≤ 22 ∧ left ≤ n ∧ k + left ≤ n ∧ Hid (St (top W) (runs g r1 :: writer g2 (l ++ List.replicate k true) :: R) w') ∧ Hid ((k + (runGo r1 left).1, (runGo r1 left).2) = runGo r n)) (fun v _ => (intOf v).toNat)
  case atStart => exact ⟨n, r, 0, rfl, hr, by omega, by omega, by simpa [Hid] using HS.out, by simp [Hid]⟩
  case round =>
    obtain ⟨left, r1, k, rfl, hr1, hleft, hkl, hS1, hG⟩ := hrel
    obtain ⟨p, hp⟩ : ∃ p, 2 ^ J r1 = p := ⟨_, rfl⟩
    have hp0 : 0 < p := by rw [← hp]; exact Nat.two_pow_pos _
    have HP_ := Lib.hid hp
    clear hp
    by_cases hin : 0 < left ∧ p ≤ left
    · obtain ⟨hin1, hin2⟩ := hin
      have t6 : decide ((0 : Int) < left) = true := by rw [decide_eq_true_iff]; omega
      have t7 : decide ((p : Int) ≤ left) = true := by rw [decide_eq_true_iff]; omega
      have hG2 := hG.out
      rw [runGo_in hin1 (by rw [HP_.out]; exact hin2), HP_.out] at hG2
      have HG2 := Lib.hid hG2
      have HL1 : Hid (l ++ List.replicate k true ++ bitsOf (1 : Int).toNat (1 : Int).toNat = l ++ List.replicate (k + 1) true) := by
        show _ = _
        rw [bitsOf_11, List.append_assoc, ← List.replicate_succ']
      have HL2 : Hid ((l ++ List.replicate k true).length ≤ 562949953421312) := by
        show _ ≤ _
        rw [List.length_append, List.length_replicate]; omega
      clear hG2
      go_wp2_with fail
      refine (stretch_ok W HT.out _ g r1 p _ hS1.out hr1 HP_.out).mono ?_
      rintro e w1 ⟨rfl, q1, rfl⟩
      go_wp2_with fail
      refine (Put_I (top W) (runs g r1 :: R) g2 _ _ 1 1 _ (hS1.out.drewN q1).swap (by omega) (by omega) (by omega) (by decide) HL2.out HL1.out).mono ?_
      rintro e w2 ⟨rfl, hS2⟩
      have HS2 := Lib.hid hS2.swap
      clear hS2
      go_wp2_with fail
      refine (stretch_ok W HT.out _ g r1 p _ HS2.out hr1 HP_.out).mono ?_
      rintro e w3 ⟨rfl, q3, rfl⟩
      go_wp2_with fail
      refine (up_ok (top W) _ g r1 _ _ (HS2.out.drewN q3) hr1 rfl).mono ?_
      rintro e w4 ⟨rfl, hS4⟩
      have HS4 := Lib.hid hS4
      clear hS4
      go_wp2_with fail
      go_roundw
      case rel => exact ⟨left - p, min (r1 + 1) 22, k + 1, by rw [Int.ofNat_sub hin2], by omega, by omega, by omega, HS4.out, (show _ = _ from by rw [← HG2.out, Nat.add_assoc, Nat.add_comm 1])⟩
      case measure => simp [intOf]; omega
    · have hG2 := hG.out
      rw [runGo_out (by rw [HP_.out]; exact hin)] at hG2
      have Hform : Hid (rform r n room = List.replicate k true ++ (if n < room then false :: bitsOf left (J r1) else if 0 < left then [true] else [])) := by
        show _ = _
        unfold rform; rw [← hG2]; simp
      have Hnext : Hid (rnext r n room = if n < room then r1 - 1 else r1) := by
        show _ = _
        unfold rnext; rw [← hG2]
      have hle := runGo_facts n r hr
      rw [← hG2] at hle
      have Hlt : Hid (left < 2 ^ J r1) := hle.2.1
      have HL2 : Hid ((l ++ List.replicate k true).length ≤ 562949953421312) := by
        show _ ≤ _
        rw [List.length_append, List.length_replicate]; omega
      have HL3 : Hid ((l ++ (List.replicate k true ++ [false])).length ≤ 562949953421312) := by
        show _ ≤ _
        rw [List.length_append, List.length_append, List.length_replicate]; simp; omega
      clear hG2 hle hG
      have Hin := Lib.hid hin
      clear hin
      by_cases hroom : n < room
      · have t8 : decide ((n : Int) < room) = true := by rw [decide_eq_true_iff]; omega
        have HL1 : Hid (l ++ List.replicate k true ++ bitsOf (0 : Int).toNat (1 : Int).toNat = l ++ (List.replicate k true ++ [false])) := by
          show _ = _
          rw [bitsOf_01, List.append_assoc]
        have HF : Hid (l ++ (List.replicate k true ++ [false]) ++ bitsOf (left : Int).toNat (J r1 : Int).toNat = l ++ rform r n room) := by
          show _ ++ bitsOf left (J r1) = _
          rw [Hform.out, if_pos hroom]; simp
        have HN : Hid (r1 - 1 = rnext r n room) := by show _ = _; rw [Hnext.out, if_pos hroom]
        have HV : Hid ((left : Int).toNat < 2 ^ (J r1 : Int).toNat) := Hlt.out
        have hJ := J_le r1
        have h32 : (left : Int) % 4294967296 = left := by omega
        by_cases hl0 : 0 < left
        · have hpl : ¬ p ≤ left := fun h => Hin.out ⟨hl0, h⟩
          have t6 : decide ((0 : Int) < left) = true := by rw [decide_eq_true_iff]; omega
          have t7 : decide ((p : Int) ≤ left) = false := by rw [decide_eq_false_iff_not]; omega
          have t7' : decide (p ≤ left) = false := by rw [decide_eq_false_iff_not]; omega
          go_wp2_with fail
          refine (stretch_ok W HT.out _ g r1 p _ hS1.out hr1 HP_.out).mono ?_
          rintro e w1 ⟨rfl, q1, rfl⟩
          go_wp2_with fail
          refine (Put_I (top W) (runs g r1 :: R) g2 _ _ 0 1 _ (hS1.out.drewN q1).swap (by omega) (by omega) (by omega) (by decide) HL2.out HL1.out).mono ?_
          rintro e w2 ⟨rfl, hS2⟩
          have HS2 := Lib.hid hS2
          clear hS2
          have c0 := HS2.out.swap.cell 0
          simp only [List.getElem?_cons_zero] at c0
          have ct := HT.out.at HS2.out r1 (by omega)
          generalize J r1 = j at *
          go_wp2_with fail
          refine (Put_I (top W) (runs g r1 :: R) g2 _ _ _ _ _ HS2.out (by omega) (by omega) (by omega) HV.out HL3.out HF.out).mono ?_
          rintro e w3 ⟨rfl, hS3⟩
          have HS3 := Lib.hid hS3.swap
          clear hS3 c0 ct
          go_wp2_with fail
          refine (down_ok (top W) _ g r1 _ _ HS3.out hr1 HN.out).mono ?_
          rintro e w4 ⟨rfl, hS4⟩
          have HS4 := Lib.hid hS4
          clear hS4
          go_wp2_with fail
          go_ret
          exact ⟨rfl, HS4.out⟩
        · have hl0' : left = 0 := by omega
          subst hl0'
          go_wp2_with fail
          refine (Put_I (top W) (runs g r1 :: R) g2 _ _ 0 1 _ hS1.out.swap (by omega) (by omega) (by omega) (by decide) HL2.out HL1.out).mono ?_
          rintro e w2 ⟨rfl, hS2⟩
          have HS2 := Lib.hid hS2
          clear hS2
          have c0 := HS2.out.swap.cell 0
          simp only [List.getElem?_cons_zero] at c0
          have ct := HT.out.at HS2.out r1 (by omega)
          generalize J r1 = j at *
          go_wp2_with fail
          refine (Put_I (top W) (runs g r1 :: R) g2 _ _ _ _ _ HS2.out (by omega) (by omega) (by omega) HV.out HL3.out HF.out).mono ?_
          rintro e w3 ⟨rfl, hS3⟩
          have HS3 := Lib.hid hS3.swap
          clear hS3 c0 ct
          go_wp2_with fail
          refine (down_ok (top W) _ g r1 _ _ HS3.out hr1 HN.out).mono ?_
          rintro e w4 ⟨rfl, hS4⟩
          have HS4 := Lib.hid hS4
          clear hS4
          go_wp2_with fail
          go_ret
          exact ⟨rfl, HS4.out⟩
      · have t8 : decide ((n : Int) < room) = false := by rw [decide_eq_false_iff_not]; omega
        have t8' : decide (n < room) = false := by rw [decide_eq_false_iff_not]; omega
        have HN : Hid (rnext r n room = r1) := by show _ = _; rw [Hnext.out, if_neg hroom]
        by_cases hl0 : 0 < left
        · have hpl : ¬ p ≤ left := fun h => Hin.out ⟨hl0, h⟩
          have t6 : decide ((0 : Int) < left) = true := by rw [decide_eq_true_iff]; omega
          have t7 : decide ((p : Int) ≤ left) = false := by rw [decide_eq_false_iff_not]; omega
          have t7' : decide (p ≤ left) = false := by rw [decide_eq_false_iff_not]; omega
          have HL1 : Hid (l ++ List.replicate k true ++ bitsOf (1 : Int).toNat (1 : Int).toNat = l ++ rform r n room) := by
            show _ = _
            rw [bitsOf_11, Hform.out, if_neg hroom, if_pos hl0, List.append_assoc]
          go_wp2_with fail
          refine (stretch_ok W HT.out _ g r1 p _ hS1.out hr1 HP_.out).mono ?_
          rintro e w1 ⟨rfl, q1, rfl⟩
          go_wp2_with fail
          refine (Put_I (top W) (runs g r1 :: R) g2 _ _ 1 1 _ (hS1.out.drewN q1).swap (by omega) (by omega) (by omega) (by decide) HL2.out HL1.out).mono ?_
          rintro e w2 ⟨rfl, hS2⟩
          have HS2 := Lib.hid hS2.swap
          clear hS2
          go_wp2_with fail
          go_ret
          exact ⟨rfl, by rw [HN.out]; exact HS2.out⟩
        · have hl0' : left = 0 := by omega
          subst hl0'
          have HF : Hid (rform r n room = List.replicate k true) := by
            show _ = _
            rw [Hform.out, if_neg hroom, if_neg (by omega), List.append_nil]
          go_wp2_with fail
          go_ret
          exact ⟨rfl, by rw [HN.out, HF.out]; exact hS1.out⟩

theorem NewRuns_ok (c : Ctx) (R : List HP) (w : World) (hS : St c R w) :
    Calls Tryd.prog 15 #[] w fun e w' => ∃ g, e = .returned (.pointer (some ⟨g, 0, none⟩)) ∧ St c (runs g 0 :: R) w' := by
  go_enter Tryd.func15, Tryd.ntmps15
  go_wp2
  go_ret
  exact ⟨_, rfl, hS.alloc [.int .i64 0] 83⟩

theorem Rate_q (c : Ctx) (R : List HP) (g r : Nat) (w : World) (hS : St c (runs g r :: R) w) :
    Calls Tryd.prog 28 #[.pointer (some ⟨g, 0, none⟩)] w fun e w' => e = .returned (.int .i64 (r : Nat)) ∧ w = w' := by
  have c0 := hS.cell 0
  simp only [List.getElem?_cons_zero] at c0
  clear hS
  go_enter Tryd.func28, Tryd.ntmps28
  go_wp2
  go_ret
  exact ⟨rfl, rfl⟩

end Go.Proofs.YtakmkjdmonmilaaDoor
