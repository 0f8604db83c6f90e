import Derived.Test.YtdoikehkibefpaaPPbx6
import Derived.Test.YtdoikehkibefpaaPPbx9
import Derived.Test.YtdoikehkibefpaaPasteP
import Derived.Test.YtdoikehkibefpaaMat2
/-! A plane picked out of a frame's own; a copy in a region; noughts. -/
namespace Go.Proofs.Ytdoikehkibefpaa
set_option linter.unusedSimpArgs false
set_option linter.unusedVariables false
open Go Go.RowKit Go.Proofs.Ytdoikehkibefpaa.PPb Go.Proofs.YtdoikehkibefpaaW.PrintWords

theorem St.matPick {c : Ctx} {R : List HP} {w : World} {e t : TypeId} {k : IntKind} {v : Value} {ls : List (List Int)} (h : St c (mat e t k v ls :: R) w) (i : Nat) (hi : i < ls.length) (h0 : 0 < (ls.getD i []).length) :
    ∃ gv cp g cap E, v = .slice (some ⟨gv, 0, none⟩) ls.length cp ∧ (ls.getD i []).length ≤ cap ∧ w.cell? ⟨gv, i, none⟩ = some (.slice (some ⟨g, 0, none⟩) (ls.getD i []).length cap) ∧
      St c (row t 1 (.slice (some ⟨g, 0, none⟩) (ls.getD i []).length cap) (ls.getD i []).length (nums k (ls.getD i [])) :: (E ++ R)) w ∧
      ∀ (w' : World) (l' : List Int), l'.length = (ls.getD i []).length → St c (row t 1 (.slice (some ⟨g, 0, none⟩) (ls.getD i []).length cap) (ls.getD i []).length (nums k l') :: (E ++ R)) w' → St c (mat e t k v (ls.set i l') :: R) w' := by
  obtain ⟨vs, hvs, h1⟩ := h.matOpen
  obtain ⟨gv, cp, rfl, -, -, hcell, -⟩ := h1.rowAt (by omega)
  have hz : (List.zipWith (inner t k) vs ls).length = ls.length := by rw [List.length_zipWith]; omega
  have hiv : i < vs.length := by omega
  have hl : ls[i] = ls.getD i [] := by rw [List.getD_eq_getElem?_getD, List.getElem?_eq_getElem hi]; rfl
  have h2 := h1.swap.sepIn
  have h3 := h2.pick i (by omega)
  have hin : (List.zipWith (inner t k) vs ls)[i]'(by omega) = inner t k vs[i] (ls.getD i []) := by rw [List.getElem_zipWith, hl]
  rw [hin] at h3
  have h4 : St c (row t 1 vs[i] (ls.getD i []).length (nums k (ls.getD i [])) :: ((List.zipWith (inner t k) vs ls).eraseIdx i ++ (row e 1 (.slice (some ⟨gv, 0, none⟩) ls.length cp) ls.length vs :: R))) w := h3
  obtain ⟨g, cap, hvi, hcap, -, -, -⟩ := h4.rowAt h0
  rw [hvi] at h4
  refine ⟨gv, cp, g, cap, (List.zipWith (inner t k) vs ls).eraseIdx i ++ [row e 1 (.slice (some ⟨gv, 0, none⟩) ls.length cp) ls.length vs], rfl, hcap, ?_, ?_, ?_⟩
  · rw [hcell i (by omega), List.getElem?_eq_getElem hiv, hvi]
  · rw [List.append_assoc]
    exact h4
  · intro w' l' hl' h5
    have h6 : St c (inner t k vs[i] l' :: ((List.zipWith (inner t k) vs ls).eraseIdx i ++ (row e 1 (.slice (some ⟨gv, 0, none⟩) ls.length cp) ls.length vs :: R))) w' := by
      unfold inner
      rw [hl', hvi]
      rw [List.append_assoc] at h5
      exact h5
    have h7 := h6.unpick (by omega)
    rw [zip_set (inner t k) vs ls i l' hiv hi] at h7
    have h8 := h7.sepOut.swap
    refine St.matShut (vs := vs) ?_
    rw [List.length_set]
    exact h8

/-- A copy in a region that draws its order. -/
theorem St.stepCopy {c : Ctx} {R : List HP} {w : World} {P : Program} {ops : Array Oper} {o : Oper} {a : Act} {K : Act → World → Prop} {Q : Exit → Act → World → Prop} {E' : Prop} (hgd : o.guard = none) (d x : Operand) (dT sT : TypeId)
    (ho : o.op = .call { callee := .builtin .copy, args := #[d, x], argTypes := #[dT, sT] }) {e : TypeId} {z : Value} {bytes : Nat} (E : Elem P dT e z 1 bytes)
    {g off dLen dCap n cap : Nat} {xs ys : List Value} {ad : Addr} {m cp : Nat} (hd : a.eval d = .slice (some ⟨g, off, none⟩) dLen dCap) (hx : a.eval x = .slice (some ad) m cp) (hm : ys.length = m)
    (hr : ∀ j u, ys[j]? = some u → w.cell? (ad.add j) = some u) (h1 : ∀ v ∈ ys, v.oneCell' = true)
    (hS : St c (row e 1 (.slice (some ⟨g, 0, none⟩) n cap) n xs :: R) w) (hfit : off + dLen ≤ n) (hmd : m ≤ dLen)
    (h : ∀ w', St c (row e 1 (.slice (some ⟨g, 0, none⟩) n cap) n (xs.take off ++ (ys ++ xs.drop (off + m))) :: R) w' → K (a.put o.dst (goInt m)) w') :
    if Region.wanted o (yielded ops a.tmps) = true then Oper.wp P o a w K Q else E' := by
  obtain ⟨i, hi, hz0, hz1, hz2⟩ := info_parts E.hi
  have hw : Region.wanted o (yielded ops a.tmps) = true := by simp [Region.wanted, hgd]
  rw [if_pos hw]
  have hrow := hS.row_at
  rcases hrow.2 with ⟨h', _⟩ | ⟨g', cap', cur, h', hb, hg, hnc, hcm, hcs, htake⟩
  · simp at h'
  · simp only [Value.slice.injEq, Option.some.injEq, Addr.mk.injEq, and_true, true_and] at h'
    obtain ⟨rfl, rfl⟩ := h'
    have hsz : off + ys.length ≤ cur.size := by rw [hcs]; omega
    have hrun := run_copy_row (P := P) w dT sT o.type e g off dLen dCap ad m cp cur e ys E.ht (by rw [hi]; simp [hz1]) hg (by rw [hm]; exact (Nat.min_eq_left hmd).symm) hr hsz h1
    unfold Oper.wp
    simp [execOp, ho, resolve, invoke, builtin, hd, hx, hrun, Result.andThen]
    have hxl : xs.length = n := by simpa using hrow.1
    rw [hm]
    refine h _ (hS.regrown ?_ ⟨rfl, rfl, rfl, by simp [World.setRow], fun k _ hk => setRow_other w g k _ (fun e => hk (by simp [Value.ownBlock, e]))⟩ fun k hk => .inl hk)
    refine ⟨by simp [hxl, hm]; omega, .inr ⟨g, cap, _, rfl, hb, setRow_heap w g cur _ e _ hg, hnc, hcm, ?_, ?_⟩⟩
    · simp only [List.size_toArray, List.length_append, List.length_take, List.length_drop, Array.length_toList]
      omega
    · rw [← htake]
      have hcl : cur.toList.length = cap := by simpa using hcs
      simp only [Nat.mul_one]
      rw [← hm]
      exact splice_take _ _ _ _ (by omega) (by omega)

def zerosL (W H : Int) (A : Bool) : List (List Int) := (List.range (plN A).toNat).map fun i : Nat => List.replicate (wd W i * H).toNat 0
theorem zerosL_length (W H : Int) (A : Bool) : (zerosL W H A).length = (plN A).toNat := by simp [zerosL]
theorem zerosL_get (W H : Int) (A : Bool) (i : Nat) (hi : i < (plN A).toNat) : (zerosL W H A).getD i [] = List.replicate (wd W i * H).toNat 0 := by
  rw [List.getD_eq_getElem?_getD, List.getElem?_eq_getElem (by rw [zerosL_length]; exact hi)]
  simp [zerosL]
theorem blank_f {W H : Int} (D : Int) (A : Bool) (hW : 1 ≤ W ∧ W ≤ 4096) (hH : 1 ≤ H ∧ H ≤ 4096) (k : Nat) : plane_blank.f (k + 5) W H D A = some (W, H, D, A, zerosL W H A) := by
  have step : ∀ k x9 (acc : List (List Int)), x9 < plN A → 0 ≤ x9 → acc.length ≤ 10 → plane_blank.l0 (k + 1) (plN A) x9 W H D A W H D A acc = plane_blank.l0 k (plN A) (x9 + 1) W H D A W H D A (acc ++ [List.replicate (wd W x9 * H).toNat 0]) := by
    intro k x9 acc h1 h2 h3
    have hp : plN A ≤ 4 := plN_le A
    have hw := wd_bd (p := x9) hW.1 hW.2
    have hm := mul_bd (a := wd W x9) (b := H) (m := 4096) (n := 4096) (by omega) hw.2 (by omega) hH.2
    simp only [plane_blank.l0]
    rw [if_pos h1, width_f x9 (by omega) (by omega)]
    simp only [Option.bind_some]
    rw [w64 (x := wd W x9 * H) (by omega) (by omega), if_pos hm.1, if_pos (by omega), if_pos (by omega), w64 (x := x9 + 1) (by omega) (by omega)]
  have last : ∀ k (acc : List (List Int)), plane_blank.l0 (k + 1) (plN A) (plN A) W H D A W H D A acc = some (W, H, D, A, acc) := by
    intro k acc
    simp only [plane_blank.l0]
    rw [if_neg (by omega)]
  unfold plane_blank.f
  rw [planes_f]
  simp only [Option.bind_some]
  cases A with
  | true =>
    have e : plN true = 4 := rfl
    rw [e] at step last ⊢
    rw [step _ 0 [] (by omega) (by omega) (by simp), step _ _ _ (by omega) (by omega) (by simp), step _ _ _ (by omega) (by omega) (by simp), step _ _ _ (by omega) (by omega) (by simp)]
    exact last _ _
  | false =>
    have e : plN false = 3 := rfl
    rw [e] at step last ⊢
    rw [step _ 0 [] (by omega) (by omega) (by simp), step _ _ _ (by omega) (by omega) (by simp), step _ _ _ (by omega) (by omega) (by simp)]
    exact last _ _

end Go.Proofs.Ytdoikehkibefpaa
