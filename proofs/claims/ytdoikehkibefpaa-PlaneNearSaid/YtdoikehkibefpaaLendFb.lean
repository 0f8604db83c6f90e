import Derived.Test.YtdoikehkibefpaaLendE
import Derived.Test.YtdoikehkibefpaaPlaneVb
import Derived.Test.YtdoikehkibefpaaPlaneR
/-! Lent lists, read; frames that came in. -/
namespace Go.Proofs.Ytdoikehkibefpaa
set_option linter.unusedSimpArgs false
set_option linter.unusedVariables false
open Go Go.RowKit Go.WideShapes Go.Proofs.YtdoikehkibefpaaW.PrintWords Go.Proofs.Ytdoikehkibefpaa.PPb

section
variable {c : Ctx} {R : List HP} {w : World} {va : Value} {gL : Nat} {gs : List Nat} {ls : List (List Int)}
theorem lentC (h : St c (lentIs va gL gs ls :: R) w) (hg : gs.length = ls.length) (hn : ls.length * 24 ≤ 140737488351232) : Kd.C (Kd.slice 72 (Kd.int .u16)) w (some ⟨gL, 0, none⟩) ls.length ls := by
  refine ⟨rfl, by omega, fun h0 => ⟨_, rfl, fun j p hj => ?_⟩⟩
  obtain ⟨hjl, rfl⟩ := List.getElem?_eq_some_iff.1 hj
  obtain ⟨ga, capA, rfl, -, -, h1, h2⟩ := lentFacts h hg j hjl
  have e : ls.getD j [] = ls[j] := by rw [List.getD_eq_getElem?_getD, List.getElem?_eq_getElem hjl]; rfl
  rw [e] at h1 h2
  have h3 := Kd.C_take (m := ls[j].length) h2 (by rw [lentL_length]; omega)
  have e2 : (lentL ls[j]).take ls[j].length = ls[j] := by unfold lentL; exact List.take_left' rfl
  rw [e2] at h3
  refine ⟨[headV (gs.getD j 0) ls[j]], rfl, ⟨_, _, rfl, by omega, h3⟩, fun i u hi => ?_⟩
  match i, hi with
  | 0, hi =>
    simp at hi
    subst hi
    rw [Addr.add_lit]
    simpa [Kd.slice] using h1
end

theorem smp_turn {ls : List (List Int)} (h : smp ls) : smp (ls.map turnRow) := by
  intro l hl v hv
  obtain ⟨l0, hl0, rfl⟩ := List.mem_map.1 hl
  obtain ⟨j, hj, rfl⟩ := List.getElem_of_mem hv
  have hj' : j < l0.length := by rwa [turnRow_length] at hj
  have e := turnTo_get l0.length l0 j hj'
  rw [if_pos hj'] at e
  have e2 : (turnRow l0)[j] = turnV (l0.getD j 0) j := by
    have : (turnRow l0)[j]? = some (turnV (l0.getD j 0) j) := e
    rw [List.getElem?_eq_getElem hj] at this
    exact Option.some.inj this
  rw [e2]
  have hm : l0.getD j 0 ∈ l0 := by rw [List.getD_eq_getElem?_getD, List.getElem?_eq_getElem hj']; exact List.getElem_mem hj'
  have := h l0 hl0 _ hm
  exact turnV_bd _ _ this.1 this.2

set_option maxRecDepth 100000 in
theorem arg_frame2 {H : Type} {enc : TypeId × Value → H} {W : World} {base : Nat} {v : Value} (h : Arg enc Try.prog W base 39 v) : ∃ (a b c : Int) (d : Bool) (A : Option Addr) (n : Nat) (l : List (List Int)), v = .agg #[.int .i64 a, .int .i64 b, .int .i64 c, .bool d, .slice A l.length n] ∧ l.length ≤ n ∧ Kd.C (Kd.slice 72 (Kd.int .u16)) W A l.length l ∧ smp l ∧ l.length * 24 ≤ 140737488351232 ∧ (∀ x ∈ l, x.length * 2 ≤ 140737488351232) := by
  have h2 := h.2
  obtain ⟨cs, rfl, _, _⟩ := arg_struct Try.underlying39 h
  have h3 : Ok enc Try.prog W 39 cs := by simpa [Value.cells] using h2
  obtain ⟨hl, hf⟩ := ok_struct Try.underlying39 h3
  have hlen : cs.length = 5 := hl.trans (by kernel_rfl)
  have c4 : Try.prog.cellsOf 26 = 4 := by kernel_rfl
  have c1 : Try.prog.cellsOf 37 = 1 := by kernel_rfl
  match cs, hlen with
  | [y0, y1, y2, y3, y4], _ =>
    have f0 := hf 0 _ rfl
    have f1 := hf 1 _ rfl
    have f0' : Ok enc Try.prog W 26 [y0, y1, y2, y3] := by simpa [c4] using f0
    have f1' : Ok enc Try.prog W 37 [y4] := by simpa [c1] using f1
    obtain ⟨a, b, c, d, e, _⟩ := ok_shape f0'
    obtain ⟨A, n, l, e2, hln, hC, hb, hg⟩ := C_rows (k := .u16) (e := 72) (u := 53) (B := 2) (B2 := 24) Try.underlying37 Try.underlying53 Try.underlying72 (by kernel_rfl) (by kernel_rfl) (by kernel_rfl) (by decide) (by kernel_rfl) (by decide) f1'
    subst e2
    simp only [List.cons.injEq, and_true] at e
    obtain ⟨rfl, rfl, rfl, rfl⟩ := e
    refine ⟨a, b, c, d, A, n, l, rfl, hln, hC, fun x hx y hy => ?_, by omega, fun x hx => (hg x hx).1⟩
    have := bounds_u16 ((hg x hx).2 y hy)
    omega

end Go.Proofs.Ytdoikehkibefpaa
