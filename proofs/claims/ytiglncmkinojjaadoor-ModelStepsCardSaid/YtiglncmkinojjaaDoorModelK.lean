import Derived.Test.YtiglncmkinojjaaDoorModelJ
namespace Go.Proofs.YtiglncmkinojjaaDoor
set_option linter.unusedSimpArgs false
set_option linter.unusedVariables false
open Go Go.RowKit

theorem fin_inv {a b s n : Int} (n1 : 2 ≤ n) (n2 : n ≤ 64) (a1 : 0 ≤ a) (a2 : a ≤ 4096 * (n + 32)) (s1 : -128 ≤ s) (s2 : s ≤ 127) :
    Inv (fin a b s n) ∧ (fin a b s n).2.2.2 = n ∧ -1 ≤ (fin a b s n).2.2.1 - s ∧ (fin a b s n).2.2.1 - s ≤ 1 := by
  unfold fin
  split
  · exact ⟨⟨by simp only; omega, by simp only; omega, by simp only; omega, by simp only; omega, by simp only; omega, by simp only; omega, by simp only; omega, by simp only; omega⟩, rfl, by simp only; omega, by simp only; omega⟩
  · split
    · exact ⟨⟨by simp only; omega, by simp only; omega, by simp only; omega, by simp only; omega, by simp only; omega, by simp only; omega, by simp only; omega, by simp only; omega⟩, rfl, by simp only; omega, by simp only; omega⟩
    · exact ⟨⟨by simp only; omega, by simp only; omega, by simp only; omega, by simp only; omega, by simp only; omega, by simp only; omega, by simp only; omega, by simp only; omega⟩, rfl, by simp only; omega, by simp only; omega⟩

theorem learn_fin (M : Mo) (x : Int × Int × Int × Int) (q : Int) : ∃ a b n, learnI M x q = fin a b x.2.2.1 n ∧ n = (if x.2.2.2 = 64 then 33 else x.2.2.2 + 1) ∧
    a = (if x.2.2.2 = 64 then (x.1 + max (cutI q (-M.span) M.span) (-cutI q (-M.span) M.span)) / 2 else x.1 + max (cutI q (-M.span) M.span) (-cutI q (-M.span) M.span)) := ⟨_, _, _, rfl, rfl, rfl⟩

theorem learn_inv (M : Mo) (hM : M.Fits) (x : Int × Int × Int × Int) (q : Int) (hx : Inv x) :
    Inv (learnI M x q) ∧ (learnI M x q).2.2.2 = (if x.2.2.2 = 64 then 33 else x.2.2.2 + 1) ∧ -1 ≤ (learnI M x q).2.2.1 - x.2.2.1 ∧ (learnI M x q).2.2.1 - x.2.2.1 ≤ 1 := by
  obtain ⟨a, b, n, e, hn, ha⟩ := learn_fin M x q
  have h1 := hx.n1
  have h2 := hx.n2
  have h3 := hx.a1
  have h4 := hx.a2
  have h0 := hM.p0
  have h5 := hM.p1
  have h6 := cut_bounds q (-M.span) M.span (by omega)
  generalize cutI q (-M.span) M.span = u at *
  rw [e, ← hn]
  have h7 : 2 ≤ n ∧ n ≤ 64 ∧ 0 ≤ a ∧ a ≤ 4096 * (n + 32) := by
    by_cases h64 : x.2.2.2 = 64
    · rw [if_pos h64] at hn ha
      omega
    · rw [if_neg h64] at hn ha
      omega
  exact fin_inv h7.1 h7.2.1 h7.2.2.1 h7.2.2.2 hx.s1 hx.s2

structure Opx where
  k : Int
  s : Int
  a : Int
  b : Int
  c : Int
  d : Int
  kind : Int
  two : Bool

def OpIs (xs : List Value) (p : Opx) : Prop := xs = [.int .i64 p.kind, .int .i64 p.k, .int .i64 p.s, .int .i64 p.a, .int .i64 p.b, .int .i64 p.c, .int .i64 p.d, .bool p.two] ∧
  (Lit.int .i64 p.kind).wf = true ∧ (Lit.int .i64 p.k).wf = true ∧ (Lit.int .i64 p.s).wf = true ∧ (Lit.int .i64 p.a).wf = true ∧ (Lit.int .i64 p.b).wf = true ∧ (Lit.int .i64 p.c).wf = true ∧ (Lit.int .i64 p.d).wf = true

theorem ok_op {H : Type} {enc : TypeId × Value → H} {W : World} (xs : List Value) (h : Ok enc Tryd.prog W 34 xs) : ∃ p, OpIs xs p := by
  obtain ⟨h1, h2⟩ := ok_struct Tryd.underlying34 h
  have hlen : xs.length = 8 := h1.trans (by kernel_rfl)
  have c1 : Tryd.prog.cellsOf 3 = 1 := by kernel_rfl
  have c4 : Tryd.prog.cellsOf 4 = 1 := by kernel_rfl
  match xs, hlen with
  | [x0, x1, x2, x3, x4, x5, x6, x7], _ =>
    obtain ⟨n0, q0, w0⟩ := ok_int (k := .i64) Tryd.underlying3 (h2 0 _ rfl)
    obtain ⟨n1, q1, w1⟩ := ok_int (k := .i64) Tryd.underlying3 (h2 1 _ rfl)
    obtain ⟨n2, q2, w2⟩ := ok_int (k := .i64) Tryd.underlying3 (h2 2 _ rfl)
    obtain ⟨n3, q3, w3⟩ := ok_int (k := .i64) Tryd.underlying3 (h2 3 _ rfl)
    obtain ⟨n4, q4, w4⟩ := ok_int (k := .i64) Tryd.underlying3 (h2 4 _ rfl)
    obtain ⟨n5, q5, w5⟩ := ok_int (k := .i64) Tryd.underlying3 (h2 5 _ rfl)
    obtain ⟨n6, q6, w6⟩ := ok_int (k := .i64) Tryd.underlying3 (h2 6 _ rfl)
    obtain ⟨b7, q7⟩ := ok_bool Tryd.underlying4 (h2 7 _ rfl)
    simp [c1] at q0 q1 q2 q3 q4 q5 q6
    simp [c4] at q7
    refine ⟨⟨n1, n2, n3, n4, n5, n6, n0, b7⟩, ?_, w0, w1, w2, w3, w4, w5, w6⟩
    rw [q0, q1, q2, q3, q4, q5, q6, q7]

theorem ok_ops {H : Type} {enc : TypeId × Value → H} {W : World} {v : Value} (h : Ok enc Tryd.prog W 32 [v]) :
    ∃ (ao : Option Addr) (cap : Nat) (l : List Opx), v = .slice ao l.length cap ∧ l.length ≤ cap ∧ l.length * 64 ≤ 140737488351232 ∧
      ∀ i (hi : i < l.length), ∃ b off, ao = some ⟨b, off, none⟩ ∧
        W.cell? ⟨b, off + i * 8, none⟩ = some (.int .i64 l[i].kind) ∧ W.cell? ⟨b, off + i * 8 + 1, none⟩ = some (.int .i64 l[i].k) ∧ W.cell? ⟨b, off + i * 8 + 2, none⟩ = some (.int .i64 l[i].s) ∧
        W.cell? ⟨b, off + i * 8 + 3, none⟩ = some (.int .i64 l[i].a) ∧ W.cell? ⟨b, off + i * 8 + 4, none⟩ = some (.int .i64 l[i].b) ∧ W.cell? ⟨b, off + i * 8 + 5, none⟩ = some (.int .i64 l[i].c) ∧ W.cell? ⟨b, off + i * 8 + 6, none⟩ = some (.int .i64 l[i].d) ∧
        W.cell? ⟨b, off + i * 8 + 7, none⟩ = some (.bool l[i].two) ∧
        (Lit.int .i64 l[i].kind).wf = true ∧ (Lit.int .i64 l[i].k).wf = true ∧ (Lit.int .i64 l[i].s).wf = true ∧ (Lit.int .i64 l[i].a).wf = true ∧ (Lit.int .i64 l[i].b).wf = true ∧ (Lit.int .i64 l[i].c).wf = true ∧ (Lit.int .i64 l[i].d).wf = true := by
  obtain ⟨ao, cap, l, rfl, hlc, hw, hn, ha⟩ := ok_rows OpIs Tryd.underlying32 ok_op (sz := 8) (B := 64) (by kernel_rfl) (by decide) (by kernel_rfl) h
  refine ⟨ao, cap, l, rfl, hlc, ?_, ?_⟩
  · have : reachBytes = 140737488351232 := rfl
    omega
  · intro i hi
    obtain ⟨b, off, xs, h1, ⟨rfl, hw⟩, h5, h6⟩ := ha i hi
    exact ⟨b, off, h1, h6 0 (by decide), h6 1 (by decide), h6 2 (by decide), h6 3 (by decide), h6 4 (by decide), h6 5 (by decide), h6 6 (by decide), h6 7 (by decide), hw⟩

end Go.Proofs.YtiglncmkinojjaaDoor
