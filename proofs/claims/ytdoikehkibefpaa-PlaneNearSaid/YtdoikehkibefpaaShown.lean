import Derived.Test.YtdoikehkibefpaaPPbx3
import Derived.Test.YtdoikehkibefpaaPPbx6
import Derived.Test.YtdoikehkibefpaaMem
/-! shown -/
namespace Go.Proofs.Ytdoikehkibefpaa
set_option linter.unusedSimpArgs false
set_option linter.unusedVariables false
open Go Go.RowKit Go.Proofs.Ytdoikehkibefpaa.PPb Go.Proofs.YtdoikehkibefpaaW.PrintWords

set_option maxHeartbeats 2000000 in
set_option maxRecDepth 100000 in
theorem shown_ok (w : World) : Calls Try.prog 16 #[] w fun e w' => e = .returned (.bool true) ∧ Below w.heap.size w w' := by
  have A1 : Hid (plane_Size.f 10 5 2 10 false 1 = some (3, 2, 0)) := (by decide +kernel : plane_Size.f 10 5 2 10 false 1 = some (3, 2, 0))
  have A2 : Hid (plane_Samples.f 10 5 2 10 false = some (22, 0)) := (by decide +kernel : plane_Samples.f 10 5 2 10 false = some (22, 0))
  obtain ⟨L, hL⟩ : ∃ L : List (List Int), [List.replicate 10 0, List.replicate 6 0, List.replicate 6 0] = L := ⟨_, rfl⟩
  have a3 : plane_New.f 10 5 2 10 false = some (5, 2, 10, false, [List.replicate 10 0, List.replicate 6 0, List.replicate 6 0], 0) := by kernel_rfl
  rw [hL] at a3
  have A3 := Lib.hid a3
  have A4 : Hid (plane_Valid.f 20 5 2 10 false L = some 0) := by rw [← hL]; exact (by decide +kernel : plane_Valid.f 20 5 2 10 false [List.replicate 10 0, List.replicate 6 0, List.replicate 6 0] = some 0)
  have h3 : L.length = 3 := by rw [← hL]; rfl
  have t3 : ((L.length : Int) == 3) = true := by rw [h3]; rfl
  have H0 := Lib.hid ((St.top w).alloc' rfl [.int .i64 5, .int .i64 2, .int .i64 10, .bool false] 26)
  clear hL h3 a3
  obtain ⟨f0, f1, f2, f3⟩ := H0.out.cells4 mm0
  go_enter Try.func16, Try.ntmps16
  go_wp2_with fail
  refine (plane_Size.calls 10 5 2 10 false 1 3 2 0 _ A1.out).mono ?_
  rintro en w1 ⟨rfl, hb⟩
  have H1 := Lib.hid (H0.out.of_below hb)
  clear H0 hb f0 f1 f2 f3
  obtain ⟨f0, f1, f2, f3⟩ := H1.out.cells4 mm0
  go_wp2_with fail
  refine (plane_Samples.calls 10 5 2 10 false 22 0 _ A2.out).mono ?_
  rintro en w2 ⟨rfl, hb⟩
  have H2 := Lib.hid (H1.out.of_below hb)
  clear H1 hb f0 f1 f2 f3
  obtain ⟨f0, f1, f2, f3⟩ := H2.out.cells4 mm0
  go_wp2_with fail
  refine (plane_New.calls 10 5 2 10 false 5 2 10 false L 0 _ A3.out).mono ?_
  rintro en w3 ⟨v, rfl, hS, hb⟩
  have h1 := H2.out.of_S hb hS
  obtain ⟨P1, n1, rfl, hn1, hC⟩ := h1.matC
  have HN := Lib.hid hn1
  have H3 := Lib.hid (h1.alloc [.int .i64 5, .int .i64 2, .int .i64 10, .bool false, .slice P1 L.length n1] 39)
  have HC := Lib.hid (Kd.C_alloc hC (.cells #[.int .i64 5, .int .i64 2, .int .i64 10, .bool false, .slice P1 L.length n1] 39))
  clear H2 hb hS h1 hn1 hC f0 f1 f2 f3
  obtain ⟨f0, f1, f2, f3, f4⟩ := H3.out.cells5 mm0
  go_wp2_with fail
  refine (plane_Valid.calls 20 5 2 10 false P1 n1 L 0 _ HC.out HN.out A4.out).mono ?_
  rintro en w4 ⟨rfl, hb⟩
  go_wp2_with fail
  go_ret
  exact ⟨rfl, (H3.out.of_below hb).below⟩
end Go.Proofs.Ytdoikehkibefpaa
