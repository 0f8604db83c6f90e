import Derived.Test.YtdoikehkibefpaaProg
import Derived.Test.YtdoikehkibefpaaKArg
/-! Arguments of the plane's laws. -/
namespace Go.Proofs.Ytdoikehkibefpaa
set_option linter.unusedSimpArgs false
set_option linter.unusedVariables false
open Go Go.RowKit Go.WideShapes Go.Proofs.YtdoikehkibefpaaW.PrintWords
section
variable {H : Type} {enc : TypeId × Value → H} {W : World} {base : Nat} {v : Value}

theorem cInt : Try.prog.cellsOf 3 = 1 := by kernel_rfl
theorem cBool : Try.prog.cellsOf 4 = 1 := by kernel_rfl
theorem i64_wf {n : Int} (h : (Lit.int .i64 n).wf = true) : -9223372036854775808 ≤ n ∧ n ≤ 9223372036854775807 := bounds_i64 h

set_option maxRecDepth 100000 in
theorem ok_shape {cs : List Value} (h : Ok enc Try.prog W 26 cs) : ∃ (a b c : Int) (d : Bool), cs = [.int .i64 a, .int .i64 b, .int .i64 c, .bool d] ∧ (-9223372036854775808 ≤ a ∧ a ≤ 9223372036854775807) ∧ (-9223372036854775808 ≤ b ∧ b ≤ 9223372036854775807) ∧ (-9223372036854775808 ≤ c ∧ c ≤ 9223372036854775807) := by
  obtain ⟨hl, hf⟩ := ok_struct Try.underlying26 h
  have hlen : cs.length = 4 := hl.trans (by kernel_rfl)
  match cs, hlen with
  | [y0, y1, y2, y3], _ =>
    obtain ⟨n0, q0, w0⟩ := ok_int (k := .i64) Try.underlying3 (hf 0 _ rfl)
    obtain ⟨n1, q1, w1⟩ := ok_int (k := .i64) Try.underlying3 (hf 1 _ rfl)
    obtain ⟨n2, q2, w2⟩ := ok_int (k := .i64) Try.underlying3 (hf 2 _ rfl)
    obtain ⟨n3, q3⟩ := ok_bool Try.underlying4 (hf 3 _ rfl)
    simp [cInt, cBool] at q0 q1 q2 q3
    subst q0; subst q1; subst q2; subst q3
    exact ⟨n0, n1, n2, n3, rfl, i64_wf w0, i64_wf w1, i64_wf w2⟩

set_option maxRecDepth 100000 in
theorem ok_rect {cs : List Value} (h : Ok enc Try.prog W 52 cs) :
    ∃ a b c d : Int, cs = [.int .i64 a, .int .i64 b, .int .i64 c, .int .i64 d] ∧ (-9223372036854775808 ≤ a ∧ a ≤ 9223372036854775807) ∧ (-9223372036854775808 ≤ b ∧ b ≤ 9223372036854775807) ∧ (-9223372036854775808 ≤ c ∧ c ≤ 9223372036854775807) ∧ (-9223372036854775808 ≤ d ∧ d ≤ 9223372036854775807) := by
  obtain ⟨hl, hf⟩ := ok_struct Try.underlying52 h
  have hlen : cs.length = 4 := hl.trans (by kernel_rfl)
  match cs, hlen with
  | [y0, y1, y2, y3], _ =>
    obtain ⟨n0, q0, w0⟩ := ok_int (k := .i64) Try.underlying3 (hf 0 _ rfl)
    obtain ⟨n1, q1, w1⟩ := ok_int (k := .i64) Try.underlying3 (hf 1 _ rfl)
    obtain ⟨n2, q2, w2⟩ := ok_int (k := .i64) Try.underlying3 (hf 2 _ rfl)
    obtain ⟨n3, q3, w3⟩ := ok_int (k := .i64) Try.underlying3 (hf 3 _ rfl)
    simp [cInt] at q0 q1 q2 q3
    subst q0; subst q1; subst q2; subst q3
    exact ⟨n0, n1, n2, n3, rfl, i64_wf w0, i64_wf w1, i64_wf w2, i64_wf w3⟩

theorem arg_rect (h : Arg enc Try.prog W base 52 v) : ∃ a b c d : Int, v = .agg #[.int .i64 a, .int .i64 b, .int .i64 c, .int .i64 d] ∧ (-9223372036854775808 ≤ a ∧ a ≤ 9223372036854775807) ∧ (-9223372036854775808 ≤ b ∧ b ≤ 9223372036854775807) ∧ (-9223372036854775808 ≤ c ∧ c ≤ 9223372036854775807) ∧ (-9223372036854775808 ≤ d ∧ d ≤ 9223372036854775807) := by
  have h2 := h.2
  obtain ⟨cs, rfl, _, _⟩ := arg_struct Try.underlying52 h
  have h3 : Ok enc Try.prog W 52 cs := by simpa [Value.cells] using h2
  obtain ⟨a, b, c, d, e, r⟩ := ok_rect h3
  exact ⟨a, b, c, d, by rw [e], r⟩

end
end Go.Proofs.Ytdoikehkibefpaa
