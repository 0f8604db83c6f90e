import Derived.Test.YtdoikehkibefpaaProg
import Derived.Test.YtdoikehkibefpaaKArg
/-! Arguments of the plane's laws. -/
namespace Go.Proofs.Ytdoikehkibefpaa
set_option linter.unusedSimpArgs false
set_option linter.unusedVariables false
open Go Go.RowKit Go.WideShapes Go.Proofs.YtdoikehkibefpaaW.PrintWords
section
variable {H : Type} {enc : TypeId × Value → H} {W : World} {base : Nat} {v : Value}

theorem cInt : Try.prog.cellsOf 3 = 1 := by kernel_rfl
theorem cBool : Try.prog.cellsOf 4 = 1 := by kernel_rfl
theorem i64_wf {n : Int} (h : (Lit.int .i64 n).wf = true) : -9223372036854775808 ≤ n ∧ n ≤ 9223372036854775807 := bounds_i64 h

set_option maxRecDepth 100000 in
theorem ok_shape {cs : List Value} (h : Ok enc Try.prog W 26 cs) : ∃ (a b c : Int) (d : Bool), cs = [.int .i64 a, .int .i64 b, .int .i64 c, .bool d] ∧ (-9223372036854775808 ≤ a ∧ a ≤ 9223372036854775807) ∧ (-9223372036854775808 ≤ b ∧ b ≤ 9223372036854775807) ∧ (-9223372036854775808 ≤ c ∧ c ≤ 9223372036854775807) := by
  obtain ⟨hl, hf⟩ := ok_struct Try.underlying26 h
  have hlen : cs.length = 4 := hl.trans (by kernel_rfl)
  match cs, hlen with
  | [y0, y1, y2, y3], _ =>
    obtain ⟨n0, q0, w0⟩ := ok_int (k := .i64) Try.underlying3 (hf 0 _ rfl)
    obtain ⟨n1, q1, w1⟩ := ok_int (k := .i64) Try.underlying3 (hf 1 _ rfl)
    obtain ⟨n2, q2, w2⟩ := ok_int (k := .i64) Try.underlying3 (hf 2 _ rfl)
    obtain ⟨n3, q3⟩ := ok_bool Try.underlying4 (hf 3 _ rfl)
    simp [cInt, cBool] at q0 q1 q2 q3
    subst q0; subst q1; subst q2; subst q3
    exact ⟨n0, n1, n2, n3, rfl, i64_wf w0, i64_wf w1, i64_wf w2⟩

set_option maxRecDepth 100000 in
theorem ok_rect {cs : List Value} (h : Ok enc Try.prog W 52 cs) :
    ∃ a b c d : Int, cs = [.int .i64 a, .int .i64 b, .int .i64 c, .int .i64 d] ∧ (-9223372036854775808 ≤ a ∧ a ≤ 9223372036854775807) ∧ (-9223372036854775808 ≤ b ∧ b ≤ 9223372036854775807) ∧ (-9223372036854775808 ≤ c ∧ c ≤ 9223372036854775807) ∧ (-9223372036854775808 ≤ d ∧ d ≤ 9223372036854775807) := by
  obtain ⟨hl, hf⟩ := ok_struct Try.underlying52 h
  have hlen : cs.length = 4 := hl.trans (by kernel_rfl)
  match cs, hlen with
  | [y0, y1, y2, y3], _ =>
    obtain ⟨n0, q0, w0⟩ := ok_int (k := .i64) Try.underlying3 (hf 0 _ rfl)
    obtain ⟨n1, q1, w1⟩ := ok_int (k := .i64) Try.underlying3 (hf 1 _ rfl)
    obtain ⟨n2, q2, w2⟩ := ok_int (k := .i64) Try.underlying3 (hf 2 _ rfl)
    obtain ⟨n3, q3, w3⟩ := ok_int (k := .i64) Try.underlying3 (hf 3 _ rfl)
    simp [cInt] at q0 q1 q2 q3
    subst q0; subst q1; subst q2; subst q3
    exact ⟨n0, n1, n2, n3, rfl, i64_wf w0, i64_wf w1, i64_wf w2, i64_wf w3⟩

theorem arg_shape (h : Arg enc Try.prog W base 26 v) : ∃ (a b c : Int) (d : Bool), v = .agg #[.int .i64 a, .int .i64 b, .int .i64 c, .bool d] ∧ (-9223372036854775808 ≤ a ∧ a ≤ 9223372036854775807) ∧ (-9223372036854775808 ≤ b ∧ b ≤ 9223372036854775807) ∧ (-9223372036854775808 ≤ c ∧ c ≤ 9223372036854775807) := by
  have h2 := h.2
  obtain ⟨cs, rfl, _, _⟩ := arg_struct Try.underlying26 h
  have h3 : Ok enc Try.prog W 26 cs := by simpa [Value.cells] using h2
  obtain ⟨a, b, c, d, e, r⟩ := ok_shape h3
  exact ⟨a, b, c, d, by rw [e], r⟩

theorem arg_rect (h : Arg enc Try.prog W base 52 v) : ∃ a b c d : Int, v = .agg #[.int .i64 a, .int .i64 b, .int .i64 c, .int .i64 d] ∧ (-9223372036854775808 ≤ a ∧ a ≤ 9223372036854775807) ∧ (-9223372036854775808 ≤ b ∧ b ≤ 9223372036854775807) ∧ (-9223372036854775808 ≤ c ∧ c ≤ 9223372036854775807) ∧ (-9223372036854775808 ≤ d ∧ d ≤ 9223372036854775807) := by
  have h2 := h.2
  obtain ⟨cs, rfl, _, _⟩ := arg_struct Try.underlying52 h
  have h3 : Ok enc Try.prog W 52 cs := by simpa [Value.cells] using h2
  obtain ⟨a, b, c, d, e, r⟩ := ok_rect h3
  exact ⟨a, b, c, d, by rw [e], r⟩

theorem arg_ints (h : Arg enc Try.prog W base 64 v) : ∃ (A : Option Addr) (c : Nat) (l : List Int), v = .slice A l.length c ∧ l.length ≤ c ∧ Kd.C (Kd.int .i64) W A l.length l ∧ c * 8 ≤ 140737488351232 ∧ ∀ x ∈ l, (Lit.int .i64 x).wf = true :=
  C_ints Try.underlying64 Try.underlying3 cInt (by kernel_rfl) (by decide) (arg_slice Try.underlying64 h)

set_option maxRecDepth 100000 in
theorem arg_frame (h : Arg enc Try.prog W base 39 v) : ∃ (a b c : Int) (d : Bool) (A : Option Addr) (n : Nat) (l : List (List Int)), v = .agg #[.int .i64 a, .int .i64 b, .int .i64 c, .bool d, .slice A l.length n] ∧ l.length ≤ n ∧ Kd.C (Kd.slice 72 (Kd.int .u16)) W A l.length l ∧ (∀ x ∈ l, ∀ y ∈ x, 0 ≤ y ∧ y ≤ 65535) ∧ ∃ M : Nat, (∀ x ∈ l, x.length ≤ M) ∧ M ≤ 140737488355328 := by
  have h2 := h.2
  obtain ⟨cs, rfl, _, _⟩ := arg_struct Try.underlying39 h
  have h3 : Ok enc Try.prog W 39 cs := by simpa [Value.cells] using h2
  obtain ⟨hl, hf⟩ := ok_struct Try.underlying39 h3
  have hlen : cs.length = 5 := hl.trans (by kernel_rfl)
  have c4 : Try.prog.cellsOf 26 = 4 := by kernel_rfl
  have c1 : Try.prog.cellsOf 37 = 1 := by kernel_rfl
  match cs, hlen with
  | [y0, y1, y2, y3, y4], _ =>
    have f0 := hf 0 _ rfl
    have f1 := hf 1 _ rfl
    have f0' : Ok enc Try.prog W 26 [y0, y1, y2, y3] := by simpa [c4] using f0
    have f1' : Ok enc Try.prog W 37 [y4] := by simpa [c1] using f1
    obtain ⟨a, b, c, d, e, _⟩ := ok_shape f0'
    obtain ⟨A, n, l, e2, hln, hC, _, hg⟩ := C_rows (k := .u16) (e := 72) (u := 53) (B := 2) (B2 := 24) Try.underlying37 Try.underlying53 Try.underlying72 (by kernel_rfl) (by kernel_rfl) (by kernel_rfl) (by decide) (by kernel_rfl) (by decide) f1'
    subst e2
    simp only [List.cons.injEq, and_true] at e
    obtain ⟨rfl, rfl, rfl, rfl⟩ := e
    refine ⟨a, b, c, d, A, n, l, rfl, hln, hC, fun x hx y hy => ?_, 140737488355328, fun x hx => ?_, Nat.le_refl _⟩
    · have := (hg x hx).2 y hy
      have := bounds_u16 this
      omega
    · have := (hg x hx).1
      omega

set_option maxRecDepth 100000 in
theorem arg_at (h : Arg enc Try.prog W base 77 v) : ∃ a b c : Int, v = .agg #[.int .i64 a, .int .i64 b, .int .i64 c] ∧ (-9223372036854775808 ≤ a ∧ a ≤ 9223372036854775807) ∧ (-9223372036854775808 ≤ b ∧ b ≤ 9223372036854775807) ∧ (-9223372036854775808 ≤ c ∧ c ≤ 9223372036854775807) := by
  have h2 := h.2
  obtain ⟨cs, rfl, _, _⟩ := arg_struct Try.underlying77 h
  have h3 : Ok enc Try.prog W 77 cs := by simpa [Value.cells] using h2
  obtain ⟨hl, hf⟩ := ok_struct Try.underlying77 h3
  have hlen : cs.length = 3 := hl.trans (by kernel_rfl)
  match cs, hlen with
  | [y0, y1, y2], _ =>
    obtain ⟨n0, q0, w0⟩ := ok_int (k := .i64) Try.underlying3 (hf 0 _ rfl)
    obtain ⟨n1, q1, w1⟩ := ok_int (k := .i64) Try.underlying3 (hf 1 _ rfl)
    obtain ⟨n2, q2, w2⟩ := ok_int (k := .i64) Try.underlying3 (hf 2 _ rfl)
    simp [cInt] at q0 q1 q2
    subst q0; subst q1; subst q2
    exact ⟨n0, n1, n2, rfl, i64_wf w0, i64_wf w1, i64_wf w2⟩
end
end Go.Proofs.Ytdoikehkibefpaa
