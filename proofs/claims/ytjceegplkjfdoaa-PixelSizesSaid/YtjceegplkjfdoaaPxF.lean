import Derived.Test.YtjceegplkjfdoaaPxE
/-! alive. -/
namespace Go.Proofs.Ytjceegplkjfdoaa
set_option linter.unusedSimpArgs false
set_option linter.unusedVariables false
open Go Go.RowKit Go.Proofs.YtjceegplkjfdoaaW.PrintWords

theorem str6 : strB [1, 0, 2, 0, 1, 3] = ⟨#[1, 0, 2, 0, 1, 3]⟩ := by rfl
theorem str4 : strB [2, 4, 16, 48] = ⟨#[2, 4, 16, 48]⟩ := by rfl

set_option maxHeartbeats 2000000 in
set_option maxRecDepth 100000 in
theorem alive_ok (c : Ctx) (R : List HP) (w : World) (hS : St c R w) :
    Calls Try.prog 9 #[] w fun e w' => e = .returned (.bool true) ∧ St c R w' := by
  have HS := Lib.hid hS
  clear hS
  go_enter Try.func9, Try.ntmps9
  go_wp2_with fail
  refine (tiny_ok c _ _ HS.out).mono ?_
  rintro en w1 ⟨q, a, b, d, rfl, hS1⟩
  have HS1 := Lib.hid hS1
  clear hS1 HS
  unfold tinyV
  go_wp2_with fail
  refine (Pack_f c _ _ q a b d HS1.out).mono ?_
  rintro en w2 ⟨g, cap, rfl, hS2⟩
  have HS2 := Lib.hid hS2
  clear hS2 HS1
  go_wp2_with fail
  refine (tiny_ok c _ _ HS2.out).mono ?_
  rintro en w3 ⟨q2, a2, b2, d2, rfl, hS3⟩
  have HS3 := Lib.hid hS3
  clear hS3 HS2
  unfold tinyV
  go_wp2_with fail
  refine (Pack_t c _ _ q2 a2 b2 d2 HS3.out).mono ?_
  rintro en w4 ⟨g2, cap2, rfl, hS4⟩
  obtain ⟨g3, cap3, he, hcap, -, hcell, -⟩ := hS4.rowAt (by decide)
  cases he
  have hst1 := (hS4.drop.drop.drop.drop.drop.rowReads).str (P := Try.prog) (src := 33) (dst := 9) Try.underlying33 Try.underlying5 Try.underlying9
  rw [str6] at hst1
  have hr4 : Reads w4 (.slice (some ⟨g2, 0, none⟩) 4 cap2) ([2, 4, 16, 48].map fun b : Nat => .int .u8 (b : Int)) := by
    refine ⟨_, _, _, rfl, by omega, rfl, (fun h => by cases h), fun ad had j u hj => ?_⟩
    cases had
    have hj4 : j < 4 := (List.getElem?_eq_some_iff.1 hj).1
    rw [Addr.add_lit, Nat.zero_add, hcell j (by omega), ← hj]
    match j, hj4 with
    | 0, _ => rfl
    | 1, _ => rfl
    | 2, _ => rfl
    | 3, _ => rfl
  have hst2 := hr4.str (P := Try.prog) (src := 33) (dst := 9) Try.underlying33 Try.underlying5 Try.underlying9
  rw [str4] at hst2
  have hcp : 4 ≤ cap2 := by omega
  have HS4 := Lib.hid hS4.drop.drop.drop.drop.drop.drop.drop.drop.drop.drop
  clear hS4 hr4 hcell HS3
  go_wp2_with fail
  go_ret
  exact ⟨rfl, HS4.out⟩

set_option maxHeartbeats 2000000 in
set_option maxRecDepth 100000 in
theorem pixelNames_walk (W : World) : Calls Try.prog 3 #[] W fun e W' => e = .returned (.bool true) ∧ Below W.heap.size W W' := by
  have HS := Lib.hid (St.top W)
  go_enter Try.func3, Try.ntmps3
  go_wp2_with fail
  refine (alive_ok _ _ _ HS.out).mono ?_
  rintro en w1 ⟨rfl, hS1⟩
  have HS1 := Lib.hid hS1
  clear hS1 HS
  go_wp2_with fail
  go_ret
  exact ⟨rfl, HS1.out.below⟩

end Go.Proofs.Ytjceegplkjfdoaa
