import Derived.Test.YtdoikehkibefpaaPPaste
import Derived.Test.YtdoikehkibefpaaLendFb
/-! What the law of Paste hands in and writes over. -/
namespace Go.Proofs.Ytdoikehkibefpaa
set_option linter.unusedSimpArgs false
set_option linter.unusedVariables false
open Go Go.RowKit Go.WideShapes Go.Proofs.Ytdoikehkibefpaa.PPb Go.Proofs.YtdoikehkibefpaaW.PrintWords

set_option maxRecDepth 100000 in
theorem arg_put {H : Type} {enc : TypeId × Value → H} {W : World} {base : Nat} {v : Value} (h : Arg enc Try.prog W base 68 v) : ∃ (p x y a b : Int) (A : Option Addr) (n : Nat) (l : List Int), v = .agg #[.int .i64 p, .int .i64 x, .int .i64 y, .int .i64 a, .int .i64 b, .slice A l.length n] ∧ l.length ≤ n ∧ Kd.C (Kd.int .u16) W A l.length l ∧ (∀ x ∈ l, 0 ≤ x ∧ x ≤ 65535) ∧ (-9223372036854775808 ≤ a ∧ a ≤ 9223372036854775807) ∧ (-9223372036854775808 ≤ b ∧ b ≤ 9223372036854775807) ∧ n * 2 ≤ 140737488351232 := by
  have h2 := h.2
  obtain ⟨cs, rfl, _, _⟩ := arg_struct Try.underlying68 h
  have h3 : Ok enc Try.prog W 68 cs := by simpa [Value.cells] using h2
  obtain ⟨hl, hf⟩ := ok_struct Try.underlying68 h3
  have hlen : cs.length = 6 := hl.trans (by kernel_rfl)
  have c1 : Try.prog.cellsOf 53 = 1 := by kernel_rfl
  have c3 : Try.prog.cellsOf 55 = 3 := by kernel_rfl
  match cs, hlen with
  | [z0, z1, z2, y0, y1, y2], _ =>
    obtain ⟨m0, p0, v0⟩ := ok_int (k := .i64) Try.underlying3 (hf 0 _ rfl)
    obtain ⟨m1, p1, v1⟩ := ok_int (k := .i64) Try.underlying3 (hf 1 _ rfl)
    obtain ⟨m2, p2, v2⟩ := ok_int (k := .i64) Try.underlying3 (hf 2 _ rfl)
    have f3 := hf 3 _ rfl
    have f3' : Ok enc Try.prog W 55 [y0, y1, y2] := by simpa [c3] using f3
    simp [cInt] at p0 p1 p2
    obtain ⟨hl2, hf2⟩ := ok_struct Try.underlying55 f3'
    obtain ⟨n0, q0, w0⟩ := ok_int (k := .i64) Try.underlying3 (hf2 0 _ rfl)
    obtain ⟨n1, q1, w1⟩ := ok_int (k := .i64) Try.underlying3 (hf2 1 _ rfl)
    have f2 := hf2 2 _ rfl
    simp [cInt] at q0 q1
    have f2' : Ok enc Try.prog W 53 [y2] := by simpa [cInt, c1] using f2
    obtain ⟨A, n, l, e2, hln, hC, hb, hg⟩ := C_ints (k := .u16) (e := 72) (B := 2) Try.underlying53 Try.underlying72 (by kernel_rfl) (by kernel_rfl) (by decide) f2'
    subst q0; subst q1; subst e2; subst p0; subst p1; subst p2
    exact ⟨m0, m1, m2, n0, n1, A, n, l, rfl, hln, hC, fun x hx => by have := bounds_u16 (hg x hx); omega, i64_wf w0, i64_wf w1, hb⟩

def x3 (v : Int) : Int := bits .xor .u16 v 3
theorem x3_bd (v : Int) (h0 : 0 ≤ v) (h1 : v ≤ 65535) : 0 ≤ x3 v ∧ x3 v ≤ 65535 := by
  obtain ⟨n, rfl⟩ := Int.eq_ofNat_of_zero_le h0
  unfold x3
  rw [show (3 : Int) = ((3 : Nat) : Int) from rfl, u16_xor_nat _ _ (by omega) (by omega)]
  have : n ^^^ 3 < 2 ^ 16 := Nat.xor_lt_two_pow (by omega) (by omega)
  omega
/-- k samples written over. -/
def xorTo (l : List Int) : Nat → List Int
  | 0 => l
  | k + 1 => (xorTo l k).set k (x3 (l.getD k 0))
theorem xorTo_length (l : List Int) : ∀ k, (xorTo l k).length = l.length
  | 0 => rfl
  | k + 1 => by rw [xorTo, List.length_set]; exact xorTo_length l k
theorem xorTo_at (l : List Int) (j : Nat) : ∀ k, k ≤ j → (xorTo l k).getD j 0 = l.getD j 0
  | 0, _ => rfl
  | k + 1, h => by
    have := xorTo_at l j k (by omega)
    rw [xorTo, List.getD_eq_getElem?_getD, List.getElem?_set_ne (by omega), ← List.getD_eq_getElem?_getD, this]
theorem xorTo_bd (l : List Int) (h : ∀ v ∈ l, 0 ≤ v ∧ v ≤ 65535) : ∀ k, k ≤ l.length → ∀ v ∈ xorTo l k, 0 ≤ v ∧ v ≤ 65535
  | 0, _, v, hv => h v hv
  | k + 1, hk, v, hv => by
    rcases List.mem_or_eq_of_mem_set hv with h1 | rfl
    · exact xorTo_bd l h k (by omega) v h1
    · have hm : l.getD k 0 ∈ l := by rw [List.getD_eq_getElem?_getD, List.getElem?_eq_getElem (by omega)]; exact List.getElem_mem (by omega)
      have := h _ hm
      exact x3_bd _ this.1 this.2

section
variable {c : Ctx} {R : List HP} {w : World} {g : Nat} {l : List Int}
theorem lentRowC (h : St c (lentRow g l :: R) w) : Kd.C (Kd.int .u16) w (some ⟨g, 0, none⟩) (lentL l).length (lentL l) ∧ Kd.C (Kd.int .u16) w (some ⟨g, 0, none⟩) l.length l := by
  have h1 : St c (inner 72 .u16 (.slice (some ⟨g, 0, none⟩) (l.length + 7) (l.length + 7)) (lentL l) :: R) w := by unfold inner; rw [lentL_length]; exact h
  have h2 := h1.innerC'.2.2
  refine ⟨h2, ?_⟩
  have h3 := Kd.C_take (m := l.length) h2 (by rw [lentL_length]; omega)
  have e2 : (lentL l).take l.length = l := by unfold lentL; exact List.take_left' rfl
  rw [e2] at h3
  exact h3
theorem lentRowSet (h : St c (lentRow g l :: R) w) (j : Nat) (hj : j < l.length) : w.cell? ⟨g, j, none⟩ = some (.int .u16 (l.getD j 0)) ∧ w.frozen? ⟨g, j, none⟩ = false ∧ ∀ v, St c (lentRow g (l.set j v) :: R) (w.setCell ⟨g, j, none⟩ (.int .u16 v)) := by
  unfold lentRow lentV at h
  obtain ⟨g2, cap2, e, -, -, hc, hf⟩ := h.rowAt (by omega)
  cases e
  refine ⟨?_, hf j, fun v => ?_⟩
  · rw [hc j (by omega), nums_at _ _ _ (by rw [lentL_length]; omega)]
    unfold lentL
    rw [List.getD_eq_getElem?_getD, List.getElem?_append_left hj, ← List.getD_eq_getElem?_getD]
  · have h1 := h.setRow j (.int .u16 v)
    rw [nums_set] at h1
    have e : (lentL l).set j v = lentL (l.set j v) := by unfold lentL; rw [List.set_append_left _ _ hj]
    rw [e] at h1
    unfold lentRow lentV
    rw [List.length_set]
    exact h1
end
theorem pasteF_len {W H D : Int} {A : Bool} {l : List (List Int)} {p x y bw bh : Int} {b : List Int} {r1 r2 r3 : Int} {r4 : Bool} {L : List (List Int)} {r6 : Int} (e : pasteF W H D A l p x y bw bh b = (r1, r2, r3, r4, L, r6)) : L.length ≤ 4 ∧ ∀ c ∈ L, c.length ≤ 16777216 := by
  unfold pasteF at e
  split at e
  · rename_i hv
    have hok := ok_of_valF hv
    split at e
    · rename_i hw
      split at e
      · rename_i hp
        simp only [Prod.mk.injEq] at e
        obtain ⟨-, -, -, -, rfl, -⟩ := e
        have hrow : ∀ i, i < l.length → (l.getD i []).length ≤ 16777216 := fun i hi => by
          have hr := rows_at hok.rows hok.shape.1 hok.shape.2.1 i hi
          have hwd := wd_bd (p := (i : Int)) hok.shape.1.1 hok.shape.1.2
          have hH := hok.shape.2.1
          rw [hr]
          exact Nat.le_trans (Nat.mul_le_mul (show (wd W i).toNat ≤ 4096 by omega) (show H.toNat ≤ 4096 by omega)) (by decide)
        refine ⟨by unfold pasted; rw [List.length_set]; have := hok.len; have := plN_le A; omega, fun c hc => ?_⟩
        unfold pasted at hc
        rcases List.mem_or_eq_of_mem_set hc with h1 | rfl
        · obtain ⟨i, hi, rfl⟩ := List.getElem_of_mem h1
          have := hrow i hi
          rwa [List.getD_eq_getElem?_getD, List.getElem?_eq_getElem hi] at this
        · have h := hw.2
          have hlen := hok.len
          have hpl : p.toNat < l.length := by omega
          have hwd := wd_bd (p := p) hok.shape.1.1 hok.shape.1.2
          have hr := rows_at hok.rows hok.shape.1 hok.shape.2.1 p.toNat hpl
          have hH := hok.shape.2.1
          rw [show ((p.toNat : Nat) : Int) = p by omega] at hr ⊢
          unfold liesIn at h
          unfold perr at hp
          split at hp
          · rename_i hz
            have hbl : b.length = bw.toNat * bh.toNat := by
              have e1 : (bw.toNat : Int) = bw := by omega
              have e2 : (bh.toNat : Int) = bh := by omega
              have : (b.length : Int) = ((bw.toNat * bh.toNat : Nat) : Int) := by rw [Int.natCast_mul, e1, e2]; exact hz
              exact_mod_cast this
            rw [pst_length hbl (by omega) (by rw [hr, Nat.mul_comm (wd W p).toNat]; exact Nat.mul_le_mul_right _ (by omega)) _ (Nat.le_refl _)]
            exact hrow _ hpl
          · exact absurd hp (by decide)
      · simp only [Prod.mk.injEq] at e
        obtain ⟨-, -, -, -, rfl, -⟩ := e
        exact ⟨by simp, fun c hc => by cases hc⟩
    · simp only [Prod.mk.injEq] at e
      obtain ⟨-, -, -, -, rfl, -⟩ := e
      exact ⟨by simp, fun c hc => by cases hc⟩
  · simp only [Prod.mk.injEq] at e
    obtain ⟨-, -, -, -, rfl, -⟩ := e
    exact ⟨by simp, fun c hc => by cases hc⟩
end Go.Proofs.Ytdoikehkibefpaa
