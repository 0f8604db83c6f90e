import Derived.Test.YtdoikehkibefpaaPPvx2
import Derived.Test.YtdoikehkibefpaaPPvx4
import Derived.Test.YtdoikehkibefpaaPPvx5
import Derived.Test.YtdoikehkibefpaaLendF
namespace Go.Proofs.Ytdoikehkibefpaa
set_option linter.unusedSimpArgs false
set_option linter.unusedVariables false
open Go Go.RowKit Go.Proofs.Ytdoikehkibefpaa.PPv Go.Proofs.YtdoikehkibefpaaW.PrintWords Go.Proofs.YtdoikehkibefpaaW.PrintMore

set_option maxHeartbeats 4000000 in
set_option maxRecDepth 100000 in
theorem planeFrames_walk {H : Type} {enc : TypeId × Value → H} (W : World) (base : Nat) (v0 : Value) (a0 : Arg enc Try.prog W base 39 v0) :
    Calls Try.prog 5 #[v0] W fun e W' => e = .returned (.bool true) ∧ Below W.heap.size W W' := by
  obtain ⟨a, b, c, d, A, n, l, rfl, hn, hC, hs, hn2, hl2⟩ := arg_frame2 a0
  clear a0
  have hM : ∀ x ∈ l, x.length ≤ 140737488355328 := fun x hx => by have := hl2 x hx; omega
  have hM' : ∀ x ∈ l.map turnRow, x.length ≤ 140737488355328 := fun x hx => by
    obtain ⟨y, hy, rfl⟩ := List.mem_map.1 hx
    rw [turnRow_length]; exact hM y hy
  have hv1 := valid_f a b c d l hs 0
  have hv2 := valid_f a b c d (l.map turnRow) (smp_turn hs) 0
  have hr1 := rvalid_f a b c d l 140737488355328 hM (Nat.le_refl _) hs 0
  have hr2 := rvalid_f a b c d (l.map turnRow) 140737488355328 hM' (Nat.le_refl _) (smp_turn hs) 0
  obtain ⟨q1, hq1⟩ : ∃ q, valF a b c d l = q := ⟨_, rfl⟩
  obtain ⟨q2, hq2⟩ : ∃ q, valF a b c d (l.map turnRow) = q := ⟨_, rfl⟩
  rw [hq1] at hv1 hr1
  rw [hq2] at hv2 hr2
  have HV1 := Lib.hid hv1
  have HV2 := Lib.hid hv2
  have HR1 := Lib.hid hr1
  have HR2 := Lib.hid hr2
  have HL := Lib.hid hl2
  have HN := Lib.hid hn
  have HS := Lib.hid ((St.top W).alloc' rfl [.int .i64 a, .int .i64 b, .int .i64 c, .bool d, .slice A l.length n] 39)
  have HC := Lib.hid (Kd.C_alloc hC (.cells #[.int .i64 a, .int .i64 b, .int .i64 c, .bool d, .slice A l.length n] 39))
  have hlm : (l.map turnRow).length = l.length := List.length_map ..
  have HLM := Lib.hid hlm
  clear hC hn hs hl2 hM hM' hv1 hv2 hr1 hr2 hq1 hq2 hlm
  go_enter Try.func5, Try.ntmps5
  go_wp2_with fail
  refine (dailieslaw06_shown.calls 40 true _ shown_f).mono ?_
  rintro en w1 ⟨rfl, hb⟩
  have HS1 := Lib.hid (HS.out.of_below hb)
  have HC1 := Lib.hid (Kd.C_below HC.out hb)
  clear HS HC hb
  obtain ⟨f0, f1, f2, f3, f4⟩ := HS1.out.cells5 mm0
  go_wp2_with fail
  refine (lend_ok _ a b c d A n l HC1.out hn2 HL.out HN.out).mono ?_
  rintro en w2 ⟨va, gL, gs, rfl, hgs, hS2⟩
  have hb2 := hS2.below
  have hS2' := HS1.out.frame hS2
  simp only [List.cons_append, List.nil_append] at hS2'
  obtain ⟨aoA, capA, rfl, -, -, -, -⟩ := hS2'.lentOpen.rowShape
  have HS2 := Lib.hid (hS2'.alloc [.int .i64 a, .int .i64 b, .int .i64 c, .bool d, .slice (some ⟨gL, 0, none⟩) l.length (l.length + 2), .slice aoA l.length capA, .slice (some ⟨gL, 0, none⟩) (l.length + 2) (l.length + 2)] 46)
  have HC2 := Lib.hid (Kd.C_alloc (Kd.C_below HC1.out hb2) (.cells #[.int .i64 a, .int .i64 b, .int .i64 c, .bool d, .slice (some ⟨gL, 0, none⟩) l.length (l.length + 2), .slice aoA l.length capA, .slice (some ⟨gL, 0, none⟩) (l.length + 2) (l.length + 2)] 46))
  have HGS := Lib.hid hgs
  have hX : ∀ (w' : World) (m : List (List Int)) (R : List HP), St (top W) (blk w2.heap.size [.int .i64 a, .int .i64 b, .int .i64 c, .bool d, .slice (some ⟨gL, 0, none⟩) l.length (l.length + 2), .slice aoA l.length capA, .slice (some ⟨gL, 0, none⟩) (l.length + 2) (l.length + 2)] 46 :: R) w' →
      w'.cell? ⟨w2.heap.size, 0, none⟩ = some (.int .i64 a) ∧ w'.cell? ⟨w2.heap.size, 1, none⟩ = some (.int .i64 b) ∧ w'.cell? ⟨w2.heap.size, 2, none⟩ = some (.int .i64 c) ∧ w'.cell? ⟨w2.heap.size, 3, none⟩ = some (.bool d) ∧ w'.cell? ⟨w2.heap.size, 4, none⟩ = some (.slice (some ⟨gL, 0, none⟩) l.length (l.length + 2)) ∧ w'.cell? ⟨w2.heap.size, 5, none⟩ = some (.slice aoA l.length capA) ∧ w'.cell? ⟨w2.heap.size, 6, none⟩ = some (.slice (some ⟨gL, 0, none⟩) (l.length + 2) (l.length + 2)) :=
    fun w' m R h => ⟨h.cell 0, h.cell 1, h.cell 2, h.cell 3, h.cell 4, h.cell 5, h.cell 6⟩
  have HX := Lib.hid hX
  clear HS1 HC1 hS2 hS2' hb2 f0 f1 f2 f3 f4 hgs hX
  obtain ⟨c0, c1, c2, c3, c4, c5, c6⟩ := HX.out _ [] _ HS2.out
  go_wp2_with fail
  refine (plane_Valid.calls 12 a b c d (some ⟨gL, 0, none⟩) (l.length + 2) l q1 _ (lentC HS2.out.swap HGS.out hn2) (by omega) HV1.out).mono ?_
  rintro en w3 ⟨rfl, hb⟩
  have HS3 := Lib.hid (HS2.out.of_below hb)
  have HC3 := Lib.hid (Kd.C_below HC2.out hb)
  clear HS2 HC2 hb c0 c1 c2 c3 c4 c5 c6
  obtain ⟨c0, c1, c2, c3, c4, c5, c6⟩ := HX.out _ [] _ HS3.out
  go_wp2_with fail
  refine (plane_Valid.calls 12 a b c d (some ⟨gL, 0, none⟩) (l.length + 2) l q1 _ (lentC HS3.out.swap HGS.out hn2) (by omega) HV1.out).mono ?_
  rintro en w4 ⟨rfl, hb⟩
  have HS4 := Lib.hid (HS3.out.of_below hb)
  have HC4 := Lib.hid (Kd.C_below HC3.out hb)
  clear HS3 HC3 hb c0 c1 c2 c3 c4 c5 c6
  obtain ⟨c0, c1, c2, c3, c4, c5, c6⟩ := HX.out _ [] _ HS4.out
  obtain ⟨f0, f1, f2, f3, f4⟩ := HS4.out.cells5 mm2
  go_wp2_with fail
  refine (still_ok (top W) _ _ (.slice aoA l.length capA) gL gs l a b c d A n HS4.out.swap HGS.out HC4.out HN.out hn2 HL.out).mono ?_
  rintro en w5 ⟨rfl, hb⟩
  have HS5 := Lib.hid (HS4.out.of_below hb)
  have HC5 := Lib.hid (Kd.C_below HC4.out hb)
  clear HS4 HC4 hb c0 c1 c2 c3 c4 c5 c6 f0 f1 f2 f3 f4
  obtain ⟨f0, f1, f2, f3, f4⟩ := HS5.out.cells5 mm2
  go_wp2_with fail
  refine (dailiesref06_Valid.calls (0 + 140737488355328 + 14) a b c d A n l q1 _ HC5.out HN.out HR1.out).mono ?_
  rintro en w6 ⟨rfl, hb⟩
  have HS6 := Lib.hid (HS5.out.of_below hb)
  clear HS5 HC5 hb f0 f1 f2 f3 f4
  obtain ⟨c0, c1, c2, c3, c4, c5, c6⟩ := HX.out _ [] _ HS6.out
  go_wp2_with fail
  refine (turn_ok (top W) _ _ (.slice aoA l.length capA) gL gs l a b c d HS6.out.swap HGS.out hn2 HL.out).mono ?_
  rintro en w7 ⟨v, rfl, hS7⟩
  obtain ⟨A7, cap7, e7, hcap7, hC7⟩ := hS7.matC
  have hlc := lentC hS7.swap (by rw [HLM.out]; exact HGS.out) (by rw [HLM.out]; exact hn2)
  rw [HLM.out] at e7 hcap7 hC7 hlc
  subst e7
  have hcall1 := fun (w : World) hr hc => plane_Valid.calls 12 a b c d (some ⟨gL, 0, none⟩) (l.length + 2) (l.map turnRow) q2 w hr hc HV2.out
  have hcall2 := fun (w : World) hr hc => dailiesref06_Valid.calls (0 + 140737488355328 + 14) a b c d A7 cap7 (l.map turnRow) q2 w hr hc HR2.out
  rw [HLM.out] at hcall1 hcall2
  have HCALL1 := Lib.hid hcall1
  have HCALL2 := Lib.hid hcall2
  have HLC := Lib.hid (Kd.C_alloc hlc (.cells #[.int .i64 a, .int .i64 b, .int .i64 c, .bool d, .slice A7 l.length cap7] 39))
  have HC7 := Lib.hid (Kd.C_alloc hC7 (.cells #[.int .i64 a, .int .i64 b, .int .i64 c, .bool d, .slice A7 l.length cap7] 39))
  have HS7 := Lib.hid ((hS7.rot3).alloc [.int .i64 a, .int .i64 b, .int .i64 c, .bool d, .slice A7 l.length cap7] 39)
  have HCAP := Lib.hid hcap7
  clear HS6 hS7 hC7 hlc hcap7 c0 c1 c2 c3 c4 c5 c6 hcall1 hcall2
  obtain ⟨c0, c1, c2, c3, c4, c5, c6⟩ := HX.out _ [] _ HS7.out.swap
  go_wp2_with fail
  refine (HCALL1.out _ HLC.out (by omega)).mono ?_
  rintro en w8 ⟨rfl, hb⟩
  have HS8 := Lib.hid (HS7.out.of_below hb)
  have HC8 := Lib.hid (Kd.C_below HC7.out hb)
  clear HS7 HC7 HLC hb c0 c1 c2 c3 c4 c5 c6
  obtain ⟨f0, f1, f2, f3, f4⟩ := HS8.out.cells5 mm0
  go_wp2_with fail
  refine (HCALL2.out _ HC8.out HCAP.out).mono ?_
  rintro en w9 ⟨rfl, hb⟩
  go_wp2_with fail
  go_ret
  exact ⟨rfl, (HS8.out.of_below hb).below⟩

end Go.Proofs.Ytdoikehkibefpaa
