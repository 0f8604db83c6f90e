import Derived.Test.YtdoikehkibefpaaLendB
/-! still, turn -/
namespace Go.Proofs.Ytdoikehkibefpaa
set_option linter.unusedSimpArgs false
set_option linter.unusedVariables false
open Go Go.RowKit Go.Proofs.YtdoikehkibefpaaW.PrintWords

set_option maxHeartbeats 1000000 in
set_option maxRecDepth 100000 in
theorem stays_ok (w : World) (A A2 : Option Addr) (cap cap2 : Nat) (l : List Int) (hl : l.length ≤ 140737488355328) (h1 : Kd.C (Kd.int .u16) w A (lentL l).length (lentL l)) (h2 : Kd.C (Kd.int .u16) w A2 l.length l) :
    Calls Try.prog 43 #[.slice A (l.length + 7) cap, .slice A2 l.length cap2] w fun e w' => e = .returned (.bool true) ∧ ∃ m, w' = w.drewN m := by
  have hL := lentL_length l
  obtain ⟨b, off, rfl, hc1⟩ := C_reads h1 (by omega)
  rw [hL] at hc1
  have HC1 := Lib.hid hc1
  have H2 := Lib.hid h2
  clear hc1 h1 h2 hL
  go_enter Try.func43, Try.ntmps43
  go_wp2_with fail
  go_loopw [5] (fun v w' => ∃ i : Nat, v = .int .i64 (i : Nat) ∧ i ≤ l.length + 7 ∧ Hid (∃ m, w' = w.drewN m)) (fun v _ => l.length + 7 - (intOf v).toNat)
  case atStart => exact ⟨0, rfl, by omega, qt_refl w⟩
  case round =>
    obtain ⟨i, rfl, hi, hq⟩ := hrel
    obtain ⟨m, rfl⟩ := hq.out
    clear hq
    by_cases h7 : i < l.length + 7
    · have hc : w.cell? ⟨b, off + i, none⟩ = some (.int .u16 ((lentL l).getD i 0)) := HC1.out i h7
      have t0 : (0 : Int) ≤ (i : Int) := by omega
      have t1 : (i : Int) < ((l.length + 7 : Nat) : Int) := by omega
      by_cases hlt : i < l.length
      · obtain ⟨b2, off2, rfl, hc2⟩ := C_reads H2.out (by omega)
        have hd : w.cell? ⟨b2, off2 + i, none⟩ = some (.int .u16 (l.getD i 0)) := hc2 i hlt
        have e : (lentL l).getD i 0 = l.getD i 0 := by
          unfold lentL; rw [List.getD_eq_getElem?_getD, List.getElem?_append_left hlt, ← List.getD_eq_getElem?_getD]
        rw [e] at hc
        have t2 : decide ((i : Int) < l.length) = true := by rw [decide_eq_true_iff]; omega
        have t3 : decide (i < l.length) = true := by rw [decide_eq_true_iff]; omega
        have t4 : decide ((l.length : Int) ≤ i) = false := by rw [decide_eq_false_iff_not]; omega
        have t5 : decide (l.length ≤ i) = false := by rw [decide_eq_false_iff_not]; omega
        generalize l.getD i 0 = x at *
        clear hc2 e
        go_wp2_with fail
        go_quiet (fail)
        go_wp2_with fail
        go_roundw
        case rel => exact ⟨i + 1, by go_num, by omega, _, rfl⟩
        case measure => simp [intOf]; omega
      · have e : (lentL l).getD i 0 = 60000 := by
          unfold lentL; rw [List.getD_eq_getElem?_getD, List.getElem?_append_right (by omega), List.getElem?_replicate, if_pos (by omega)]; rfl
        rw [e] at hc
        have t2 : decide ((i : Int) < l.length) = false := by rw [decide_eq_false_iff_not]; omega
        have t3 : decide (i < l.length) = false := by rw [decide_eq_false_iff_not]; omega
        have t4 : decide ((l.length : Int) ≤ i) = true := by rw [decide_eq_true_iff]; omega
        have t5 : decide (l.length ≤ i) = true := by rw [decide_eq_true_iff]; omega
        clear e
        go_wp2_with fail
        go_quiet (fail)
        go_wp2_with fail
        go_roundw
        case rel => exact ⟨i + 1, by go_num, by omega, _, rfl⟩
        case measure => simp [intOf]; omega
    · go_wp2_with fail
      go_ret
      exact ⟨rfl, m, rfl⟩

section
variable {c : Ctx} {R : List HP} {w : World} {va : Value} {gL : Nat} {gs : List Nat} {ls : List (List Int)}
theorem St.lentOpen (h : St c (lentIs va gL gs ls :: R) w) : St c (row 53 1 va ls.length (List.zipWith lentV gs ls) :: row 53 1 (.slice (some ⟨gL, 0, none⟩) (ls.length + 2) (ls.length + 2)) (ls.length + 2) (List.zipWith headV gs ls ++ [.slice none 0 0, .slice none 0 0]) :: Sep (List.zipWith lentRow gs ls) :: R) w :=
  h.star.swap.star.rot3
theorem St.lentShut (h : St c (row 53 1 va ls.length (List.zipWith lentV gs ls) :: row 53 1 (.slice (some ⟨gL, 0, none⟩) (ls.length + 2) (ls.length + 2)) (ls.length + 2) (List.zipWith headV gs ls ++ [.slice none 0 0, .slice none 0 0]) :: Sep (List.zipWith lentRow gs ls) :: R) w) : St c (lentIs va gL gs ls :: R) w :=
  St.unstar (St.unstar h.back3).swap
theorem lent_row_C {g : Nat} {l : List Int} (h : St c (lentRow g l :: R) w) : Kd.C (Kd.int .u16) w (some ⟨g, 0, none⟩) (lentL l).length (lentL l) := by
  have ho := h.row_at
  have hl := lentL_length l
  rw [← hl] at ho
  obtain ⟨A, cap, e, _, hC⟩ := Kd.R_reads (d := Kd.int .u16) (Kd.R_of_own (h1 := fun _ => rfl) (ok := fun _ => True) ho (fun _ _ => trivial))
  unfold lentV at e
  injection e with e1 e2 e3
  rw [e1]
  exact hC
theorem lentFacts (h : St c (lentIs va gL gs ls :: R) w) (hg : gs.length = ls.length) (k : Nat) (hk : k < ls.length) :
    ∃ ga capA, va = .slice (some ⟨ga, 0, none⟩) ls.length capA ∧ ls.length ≤ capA ∧ w.cell? ⟨ga, k, none⟩ = some (lentV (gs.getD k 0) (ls.getD k [])) ∧ w.cell? ⟨gL, k, none⟩ = some (headV (gs.getD k 0) (ls.getD k [])) ∧
      Kd.C (Kd.int .u16) w (some ⟨gs.getD k 0, 0, none⟩) (lentL (ls.getD k [])).length (lentL (ls.getD k [])) := by
  have h1 := h.lentOpen
  obtain ⟨ga, capA, rfl, hc, -, hcell, -⟩ := h1.rowAt (by omega)
  obtain ⟨gL2, cL2, e, -, -, hlcell, -⟩ := h1.swap.rowAt (by omega)
  cases e
  refine ⟨ga, capA, rfl, hc, ?_, ?_, ?_⟩
  · rw [hcell k (by omega), zip_at lentV gs ls k 0 [] (by omega) hk]
  · rw [hlcell k (by omega), List.getElem?_append_left (by rw [List.length_zipWith]; omega), zip_at headV gs ls k 0 [] (by omega) hk]
  · have h2 := h1.rot3.sepIn
    have hz : k < (List.zipWith lentRow gs ls).length := by rw [List.length_zipWith]; omega
    have h3 := h2.pick k hz
    have e : (List.zipWith lentRow gs ls)[k] = lentRow (gs.getD k 0) (ls.getD k []) := by
      have := zip_at lentRow gs ls k 0 [] (by omega) hk
      rw [List.getElem?_eq_getElem hz] at this
      exact Option.some.inj this
    rw [e] at h3
    exact lent_row_C h3
theorem lentTail (h : St c (lentIs va gL gs ls :: R) w) (hg : gs.length = ls.length) : w.cell? ⟨gL, ls.length, none⟩ = some (.slice none 0 0) ∧ w.cell? ⟨gL, ls.length + 1, none⟩ = some (.slice none 0 0) := by
  have h1 := h.lentOpen
  obtain ⟨gL2, cL2, e, -, -, hlcell, -⟩ := h1.swap.rowAt (by omega)
  cases e
  have hz : (List.zipWith headV gs ls).length = ls.length := by rw [List.length_zipWith]; omega
  constructor
  · rw [hlcell _ (by omega), List.getElem?_append_right (by omega), hz, Nat.sub_self]; rfl
  · rw [hlcell _ (by omega), List.getElem?_append_right (by omega), hz, show ls.length + 1 - ls.length = 1 by omega]; rfl
end

set_option maxHeartbeats 4000000 in
set_option maxRecDepth 100000 in
theorem still_ok (c : Ctx) (R : List HP) (w : World) (va : Value) (gL : Nat) (gs : List Nat) (ls : List (List Int)) (x0 x1 x2 : Int) (x3 : Bool) (A : Option Addr) (n : Nat) (hS : St c (lentIs va gL gs ls :: R) w) (hg : gs.length = ls.length)
    (hC : Kd.C (Kd.slice 72 (Kd.int .u16)) w A ls.length ls) (hn : ls.length ≤ n) (hn2 : ls.length * 24 ≤ 140737488351232) (hl : ∀ x ∈ ls, x.length * 2 ≤ 140737488351232) :
    Calls Try.prog 30 #[.agg #[.int .i64 x0, .int .i64 x1, .int .i64 x2, .bool x3, .slice (some ⟨gL, 0, none⟩) ls.length (ls.length + 2), va, .slice (some ⟨gL, 0, none⟩) (ls.length + 2) (ls.length + 2)], .agg #[.int .i64 x0, .int .i64 x1, .int .i64 x2, .bool x3, .slice A ls.length n]] w
      fun e w' => e = .returned (.bool true) ∧ Below w.heap.size w w' := by
  obtain ⟨aoA, capA, rfl, -, -, -, -⟩ := hS.lentOpen.rowShape
  have HB := Lib.hid (below_alloc (below_alloc (Below.refl w.heap.size w) (.cells #[.int .i64 x0, .int .i64 x1, .int .i64 x2, .bool x3, .slice (some ⟨gL, 0, none⟩) ls.length (ls.length + 2), .slice aoA ls.length capA, .slice (some ⟨gL, 0, none⟩) (ls.length + 2) (ls.length + 2)] 46)) (.cells #[.int .i64 x0, .int .i64 x1, .int .i64 x2, .bool x3, .slice A ls.length n] 39))
  have HS := Lib.hid ((hS.alloc' rfl [.int .i64 x0, .int .i64 x1, .int .i64 x2, .bool x3, .slice (some ⟨gL, 0, none⟩) ls.length (ls.length + 2), .slice aoA ls.length capA, .slice (some ⟨gL, 0, none⟩) (ls.length + 2) (ls.length + 2)] 46).alloc' (n := w.heap.size + 1) (by simp) [.int .i64 x0, .int .i64 x1, .int .i64 x2, .bool x3, .slice A ls.length n] 39)
  have HC := Lib.hid (Kd.C_below hC HB.out)
  have HL := Lib.hid hl
  clear hS hC hl
  have hdd : ∀ b : Bool, (b != b) = false := by decide
  go_enter Try.func30, Try.ntmps30
  go_wp2_with fail
  go_loopw [5] (fun v w' => ∃ k : Nat, v = .int .i64 (k : Nat) ∧ k ≤ ls.length ∧ Hid (∃ m, w' = ((w.alloc (.cells #[.int .i64 x0, .int .i64 x1, .int .i64 x2, .bool x3, .slice (some ⟨gL, 0, none⟩) ls.length (ls.length + 2), .slice aoA ls.length capA, .slice (some ⟨gL, 0, none⟩) (ls.length + 2) (ls.length + 2)] 46)).alloc (.cells #[.int .i64 x0, .int .i64 x1, .int .i64 x2, .bool x3, .slice A ls.length n] 39)).drewN m)) (fun v _ => ls.length - (intOf v).toNat)
  case atStart => exact ⟨0, rfl, by omega, 0, rfl⟩
  case round =>
    obtain ⟨k, rfl, hk, hq⟩ := hrel
    have HSk := Lib.hid (HS.out.of_quiet hq.out)
    have HBk : Hid (Below w.heap.size w wr) := by obtain ⟨m, rfl⟩ := hq.out; exact pw_below_drewN HB.out m
    have HCk : Hid (Kd.C (Kd.slice 72 (Kd.int .u16)) wr A ls.length ls) := by obtain ⟨m, rfl⟩ := hq.out; exact Kd.C_drewN HC.out m
    have HQ := hq
    clear hq
    have f4 : wr.cell? ⟨w.heap.size + 1, 4, none⟩ = some (.slice A ls.length n) := St.cells_mem HSk.out mm0 4
    have g5 : wr.cell? ⟨w.heap.size, 5, none⟩ = some (.slice aoA ls.length capA) := St.cells_mem HSk.out mm1 5
    have g6 : wr.cell? ⟨w.heap.size, 6, none⟩ = some (.slice (some ⟨gL, 0, none⟩) (ls.length + 2) (ls.length + 2)) := St.cells_mem HSk.out mm1 6
    by_cases hkl : k < ls.length
    · obtain ⟨ga, capA2, e, hcA, hac, hhc, hCk⟩ := lentFacts HSk.out.drop.drop hg k hkl
      cases e
      obtain ⟨pb, po, A', cap', rfl, hcell, hle, hCi⟩ := C_rowAt HCk.out k hkl
      have hrl := HL.out (ls.getD k []) (getD_memL _ _ _ hkl)
      obtain ⟨rw_, hrw⟩ : ∃ r, ls.getD k [] = r := ⟨_, rfl⟩
      obtain ⟨gk, hgk⟩ : ∃ r, gs.getD k 0 = r := ⟨_, rfl⟩
      unfold lentV at hac
      unfold headV at hhc
      rw [hrw, hgk] at hac hhc hCk
      rw [hrw] at hcell hle hCi hrl
      have HCI := Lib.hid hCi
      have HCK := Lib.hid hCk
      have hll := lentL_length rw_
      have HLL := Lib.hid hll
      have t1 : (0 : Int) ≤ (k : Int) := by omega
      have t2 : (k : Int) < ls.length := by omega
      have t3 : (k : Int) < ((ls.length + 2 : Nat) : Int) := by omega
      clear hCi hCk hrw hgk hll
      have hstay : ∀ W : World, (∃ m, W = wr.drewN m) → Calls Try.prog 43 #[.slice (some ⟨gk, 0, none⟩) (rw_.length + 7) (rw_.length + 7), .slice A' rw_.length cap'] W fun e w' => e = .returned (.bool true) ∧ ∃ m, w' = W.drewN m := by
        rintro W ⟨m, rfl⟩
        exact stays_ok _ _ A' _ cap' rw_ (by omega) (Kd.C_drewN HCK.out m) (Kd.C_drewN HCI.out m)
      have HSTAY := Lib.hid hstay
      clear hstay
      go_wp2_with fail
      go_quiet (exact Calls.quiet_of (HSTAY.out _ ⟨_, rfl⟩))
      go_wp2_with fail
      go_quiet (fail)
      go_wp2_with fail
      go_roundw
      case rel => exact ⟨k + 1, by go_num, by omega, by obtain ⟨m, rfl⟩ := HQ.out; exact ⟨_, World.drewN_drewN ..⟩⟩
      case measure => simp [intOf]; omega
    · have hkl : k = ls.length := by omega
      subst hkl
      obtain ⟨t0, t1⟩ := lentTail HSk.out.drop.drop hg
      have knil : ∀ W : World, (binOp .eql 53 (.slice none 0 0) (.slice none 0 0)).run Try.prog W = .ok (.bool true) W := fun W => run_eql_nil_slice W 53 72 none 0 0 0 0 Try.underlying53
      go_wp2_with fail
      go_ret
      exact ⟨rfl, HBk.out⟩

end Go.Proofs.Ytdoikehkibefpaa
