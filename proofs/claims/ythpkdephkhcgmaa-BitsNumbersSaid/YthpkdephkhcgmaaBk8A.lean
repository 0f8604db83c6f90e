import Derived.Test.YthpkdephkhcgmaaRowC
import Derived.Test.YthpkdephkhcgmaaRgK
/-! The owner's book: what it is; one list more. -/
namespace Go.Proofs.Ythpkdephkhcgmaa
set_option linter.unusedSimpArgs false
set_option linter.unusedVariables false
open Go Go.RowKit Go.Proofs.YthpkdephkhcgmaaW.PrintWords Go.Proofs.YthpkdephkhcgmaaW.PrintLast

theorem elemE8 : Elem Try.prog 24 5 (.int .u8 0) 1 1 := ⟨Try.underlying24, by kernel_rfl, rfl, by decide⟩
theorem elemS8 : Elem Try.prog 26 24 (.slice none 0 0) 1 24 := ⟨Try.underlying26, by kernel_rfl, rfl, by decide⟩
/-- An append in a region, of what may be nil. -/
theorem St.stepAppendO8 {c : Ctx} {R : List HP} {w : World} {P : Program} {ops : Array Oper} {o : Oper} {a : Act} {K : Act → World → Prop} {Q : Exit → Act → World → Prop} {E' : Prop} (hgd : o.guard = none) (s x : Operand) (t : TypeId)
    (ho : o.op = .call { callee := .builtin .append, args := #[s, x], argTypes := #[t, t] }) {e : TypeId} {z : Value} {size bytes : Nat} (E : Elem P t e z size bytes) {v : Value} {n : Nat} {xs : List Value}
    (hs : a.eval s = v) (hS : St c (row e size v n xs :: R) w) (ao : Option Addr) (m cp : Nat) (news : List Value) (hx : a.eval x = .slice ao m cp) (hl : news.length = m * size) (hn : ao = none → m = 0 ∧ cp = 0) (hnews : ∀ ad, ao = some ad → ∀ j u, news[j]? = some u → w.cell? (ad.add j) = some u) (h1 : ∀ u ∈ news, u.oneCell' = true)
    (hb : (n + m) * bytes ≤ 140737488355328) (hb2 : n + m ≤ maxLen) (h : ∀ v' w', St c (row e size v' (n + m) (xs ++ news) :: R) w' → K (a.put o.dst v') w') :
    if Region.wanted o (yielded ops a.tmps) = true then Oper.wp P o a w K Q else E' := by
  cases ao with
  | some ad => exact St.stepAppend hgd s x t ho E hs hS ad m cp news hx hl (hnews ad rfl) h1 hb hb2 h
  | none =>
    obtain ⟨rfl, rfl⟩ := hn rfl
    have hne : news = [] := List.eq_nil_of_length_eq_zero (by simpa using hl)
    subst hne
    have hw : Region.wanted o (yielded ops a.tmps) = true := by simp [Region.wanted, hgd]
    rw [if_pos hw]
    obtain ⟨i, hi, hz0, hz1, hz2⟩ := info_parts E.hi
    have hrun := run_append_owned_none (P := P) (w := w) 0 t o.type e i size E.ht hi v n xs hS.row_at
    unfold Oper.wp execOp
    simp only [ho, resolve, invoke, builtin, Sem.run_bind, Sem.run_pure, Result.andThen_ok, List.map_toArray, List.map_cons, List.map_nil, hs, hx, hrun]
    exact h v w (by simpa using hS)

def BIGL8 : Nat := 268435456
/-- The book: its lists, and what each was. -/
def book8 (gB : Nat) (ls : List (List Int)) : HP := HP.ex fun q : Value × Value => (blk gB [q.1, q.2] 28).star ((mat 24 5 .u8 q.1 ls).star (mat 24 5 .u8 q.2 ls))
section
variable {c : Ctx} {R : List HP} {w : World} {gB : Nat} {ls : List (List Int)}
theorem St.book8Open (h : St c (book8 gB ls :: R) w) : ∃ v1 v2, St c (blk gB [v1, v2] 28 :: mat 24 5 .u8 v1 ls :: mat 24 5 .u8 v2 ls :: R) w := by
  obtain ⟨⟨v1, v2⟩, h⟩ := h.open_
  exact ⟨v1, v2, h.star.swap.star.rot3⟩
theorem St.book8Shut {v1 v2 : Value} (h : St c (blk gB [v1, v2] 28 :: mat 24 5 .u8 v1 ls :: mat 24 5 .u8 v2 ls :: R) w) : St c (book8 gB ls :: R) w :=
  St.close (v1, v2) (h.back3.unstar.swap.unstar)
theorem St.book8New (h : St c (blk gB [.slice none 0 0, .slice none 0 0] 28 :: R) w) : St c (book8 gB [] :: R) w := by
  have h1 := (h.matNil 24 5 .u8).matNil 24 5 .u8
  exact h1.rot3.book8Shut
end
set_option maxHeartbeats 8000000 in
set_option maxRecDepth 100000 in
theorem keep8_ok (c : Ctx) (R : List HP) (w : World) (gB : Nat) (ls : List (List Int)) (v : Value) (l : List Int) (hS : St c (book8 gB ls :: inner 5 .u8 v l :: R) w) (hl : l.length ≤ 268435456) (hn : ls.length ≤ 100000) :
    Calls Try.prog 11 #[.pointer (some ⟨gB, 0, none⟩), v] w fun e w' => e = .returned (.tuple #[]) ∧ St c (book8 gB (ls ++ [l]) :: R) w' := by
  obtain ⟨v1, v2, h0⟩ := hS.book8Open
  obtain ⟨vs1, hv1, h1⟩ := h0.swap.matOpen
  obtain ⟨ao1, cap1, rfl, -, -, -, -⟩ := h1.rowShape
  obtain ⟨nl, hnl⟩ : ∃ q, ls.length = q := ⟨_, rfl⟩
  have h2 : St c (mat 24 5 .u8 v2 ls :: blk gB [.slice ao1 ls.length cap1, v2] 28 :: row 24 1 (.slice ao1 ls.length cap1) ls.length vs1 :: Sep (List.zipWith (inner 5 .u8) vs1 ls) :: inner 5 .u8 v l :: R) w := h1.reo 5 [3, 2, 0, 1, 4] (by decide)
  obtain ⟨vs2, hv2, h3⟩ := h2.matOpen
  obtain ⟨ao2, cap2, rfl, -, -, -, -⟩ := h3.rowShape
  have h4 : St c (row 24 1 (.slice ao1 ls.length cap1) ls.length vs1 :: blk gB [.slice ao1 ls.length cap1, .slice ao2 ls.length cap2] 28 :: row 24 1 (.slice ao2 ls.length cap2) ls.length vs2 :: inner 5 .u8 v l :: Sep (List.zipWith (inner 5 .u8) vs1 ls) :: Sep (List.zipWith (inner 5 .u8) vs2 ls) :: R) w := h3.reo 6 [3, 2, 0, 5, 4, 1] (by decide)
  rw [hnl] at h4 hv1 hv2
  have h5 : St c (row 5 1 v l.length (nums .u8 l) :: _) w := St.rot4 h4
  obtain ⟨aoV, capV, rfl, -, -, hnone, -⟩ := h5.rowShape
  obtain ⟨nv, hnv⟩ : ∃ q, l.length = q := ⟨_, rfl⟩
  rw [hnv] at h4 hnone hl ⊢
  have HNL := Lib.hid hnl
  have HNV := Lib.hid hnv
  have HV1 := Lib.hid hv1
  have HV2 := Lib.hid hv2
  have HNONE := Lib.hid hnone
  have HCE : Hid (∀ (R' : List HP) (w' : World), St c (inner 5 .u8 (.slice aoV nv capV) l :: R') w' → ∀ ad, aoV = some ad → ∀ j u, (nums .u8 l)[j]? = some u → w'.cell? (ad.add j) = some u) := by
    intro R' w' h ad had j u hj
    have h6 : St c (row 5 1 (.slice aoV nv capV) l.length (nums .u8 l) :: R') w' := h
    obtain ⟨ao, cap, e, -, -, -, hc⟩ := h6.rowShape
    simp only [Value.slice.injEq] at e
    exact (hc ad (by rw [← e.1]; exact had)).2.2 j u hj
  have H4 := Lib.hid h4
  have hn' : nl ≤ 100000 := by omega
  have b0 : w.cell? ⟨gB, 0, none⟩ = some (.slice ao1 nl cap1) := St.cells_mem h4 mm1 0
  clear hS h0 h1 h2 h3 h4 h5 hnl hnv hv1 hv2 hnone hn
  go_enter Try.func11, Try.ntmps11
  go_wp2_with (at_builtin; go_must (refine St.append1 rfl (.tmp 8) (.tmp 10) _ rfl elemS8 rfl H4.out _ _ rfl rfl (by omega) (by simp [maxLen]; omega) ?_))
  intro g1 cp1 w1 hcp h1
  clear b0
  have b0 : w1.cell? ⟨gB, 0, none⟩ = some (.slice ao1 nl cap1) := St.cells_mem h1 mm1 0
  have hbb := St.blk_mem (g := gB) h1 mm1
  have hbz : w1.frozen? ⟨gB, 0, none⟩ = false := by simp [World.frozen?, hbb]
  have h3 := h1.swap.setCell 0 (.slice (some ⟨g1, 0, none⟩) (nl + 1) cp1)
  have h4 : St c (row 24 1 (.slice ao2 nl cap2) nl vs2 :: blk gB [.slice (some ⟨g1, 0, none⟩) (nl + 1) cp1, .slice ao2 nl cap2] 28 :: row 24 1 (.slice (some ⟨g1, 0, none⟩) (nl + 1) cp1) (nl + 1) (vs1 ++ [.slice aoV nv capV]) :: inner 5 .u8 (.slice aoV nv capV) l :: Sep (List.zipWith (inner 5 .u8) vs1 ls) :: Sep (List.zipWith (inner 5 .u8) vs2 ls) :: R) _ := h3.reo 3 [2, 0, 1] (by decide)
  have H3 := Lib.hid h4
  clear h1 h3 h4 hbb H4
  go_wp2_with fail
  clear b0 hbz
  generalize w1.setCell ⟨gB, 0, none⟩ (.slice (some ⟨g1, 0, none⟩) (nl + 1) cp1) = w2 at *
  have HD := Lib.hid H3.out.drew
  refine start_ (n := 13) (S := fun w' => w'.cell? ⟨gB, 0, none⟩ = some (.slice (some ⟨g1, 0, none⟩) (nl + 1) cp1) ∧ w'.cell? ⟨gB, 1, none⟩ = some (.slice ao2 nl cap2)) (ds := [9, 12]) #[false, false, false, false, false, false, false, false, false, false, false, false, false] (by kernel_rfl) rfl rfl ⟨St.cells_mem HD.out mm1 0, St.cells_mem HD.out mm1 1⟩ (fun hHeld => ?_)
  refine pu 0 14 #[true, false, false, false, false, false, false, false, false, false, false, false, false] ?_
  refine pu 1 15 #[true, true, false, false, false, false, false, false, false, false, false, false, false] ?_
  refine pu 2 16 #[true, true, true, false, false, false, false, false, false, false, false, false, false] ?_
  refine pu 3 17 #[true, true, true, true, false, false, false, false, false, false, false, false, false] ?_
  refine pu 6 20 #[true, true, true, true, false, false, true, false, false, false, false, false, false] ?_
  refine ta 4 18 #[true, true, true, true, true, false, true, false, false, false, false, false, false] hHeld ?_
  refine one_ (i := 5) (N := some 19) #[true, true, true, true, true, true, true, false, false, false, false, false, false] rfl rfl (by kernel_rfl) (by decide) (fun K hK => ?_)
  refine value_ (w1 := ?_) (v := ?_) (by rfl) rfl ?_ ?_
  rotate_left 2
  · go_simp
    constructor
    · rfl
    · rfl
  have HE := Lib.hid (HD.out.emptyRow 5)
  refine hK.out _ _ ⟨St.cells_mem HE.out mm2 0, St.cells_mem HE.out mm2 1⟩ (fun hHeld => ?_)
  clear hK K
  refine norm_ (a' := ?_) ?_ ?_
  rotate_left
  · show Act.put _ (some 19) _ = _
    simp only [Act.put, List.setIfInBounds_toArray, List.set_cons_zero, List.set_cons_succ, i64_w, i32_w]
    rfl
  refine one_ (i := 7) (N := some 21) #[true, true, true, true, true, true, true, true, false, false, false, false, false] rfl rfl (by kernel_rfl) (by decide) (fun K hK => ?_)
  have hin1 : St c (inner 5 .u8 (.slice aoV nv capV) l :: _) _ := St.rot5 HE.out
  refine St.stepAppendO8 (by rfl) (.tmp 19) (.tmp 20) _ (by rfl) elemE8 (by rfl) HE.out aoV nv capV (nums .u8 l) (by rfl) (by rw [nums_length, HNV.out, Nat.mul_one]) HNONE.out (HCE.out _ _ hin1) (nums_one .u8 l) (by omega) (by unfold maxLen; omega) ?_
  clear hin1
  intro v60 w60 hS60
  rw [Nat.zero_add, List.nil_append] at hS60
  obtain ⟨ao60, cap60, rfl, -, -, -, -⟩ := hS60.rowShape
  have HF := Lib.hid hS60
  clear hS60
  refine hK.out _ _ ⟨St.cells_mem HF.out mm2 0, St.cells_mem HF.out mm2 1⟩ (fun hHeld => ?_)
  clear hK K
  refine norm_ (a' := ?_) ?_ ?_
  rotate_left
  · show Act.put _ (some 21) _ = _
    simp only [Act.put, List.setIfInBounds_toArray, List.set_cons_zero, List.set_cons_succ, i64_w, i32_w]
    rfl
  refine one_ (i := 8) (N := some 22) #[true, true, true, true, true, true, true, true, true, false, false, false, false] rfl rfl (by kernel_rfl) (by decide) (fun K hK => ?_)
  refine value_ (w1 := ?_) (v := ?_) (by rfl) rfl ?_ ?_
  rotate_left 2
  · go_simp
    constructor
    · rfl
    · rfl
  have HG := Lib.hid (HF.out.alloc' rfl [.slice ao60 nv cap60] 24)
  refine hK.out _ _ ⟨St.cells_mem HG.out mm3 0, St.cells_mem HG.out mm3 1⟩ (fun hHeld => ?_)
  clear hK K
  refine norm_ (a' := ?_) ?_ ?_
  rotate_left
  · show Act.put _ (some 22) _ = _
    simp only [Act.put, List.setIfInBounds_toArray, List.set_cons_zero, List.set_cons_succ, i64_w, i32_w]
    rfl
  refine last_ (i := 9) (N := some 23) #[true, true, true, true, true, true, true, true, true, true, false, false, false] rfl rfl (by kernel_rfl) (by decide) (fun K hK => ?_)
  have hG3 : St c (row 24 1 (.slice ao2 nl cap2) nl vs2 :: blk w60.heap.size [.slice ao60 nv cap60] 24 :: row 5 1 (.slice ao60 nv cap60) nv (nums .u8 l) :: blk gB [.slice (some ⟨g1, 0, none⟩) (nl + 1) cp1, .slice ao2 nl cap2] 28 :: row 24 1 (.slice (some ⟨g1, 0, none⟩) (nl + 1) cp1) (nl + 1) (vs1 ++ [.slice aoV nv capV]) :: inner 5 .u8 (.slice aoV nv capV) l :: Sep (List.zipWith (inner 5 .u8) vs1 ls) :: Sep (List.zipWith (inner 5 .u8) vs2 ls) :: R) _ := HG.out.reo 3 [2, 0, 1] (by decide)
  have hblk : (w60.alloc (.cells #[.slice ao60 nv cap60] 24)).cell? ⟨w60.heap.size, 0, none⟩ = some (.slice ao60 nv cap60) := St.cells_mem HG.out mm0 0
  refine St.stepAppend (by rfl) (.tmp 18) (.tmp 22) _ (by rfl) elemS8 (by rfl) hG3 ⟨w60.heap.size, 0, none⟩ 1 1 [.slice ao60 nv cap60] (by rfl) rfl (fun j u hj => by match j, hj with | 0, hj => (simp at hj; subst hj; exact hblk)) (fun u hu => by simp at hu; subst hu; rfl) (by omega) (by unfold maxLen; omega) ?_
  intro v62 w62 hS62
  obtain ⟨ao62, cap62, rfl, -, -, -, -⟩ := hS62.rowShape
  have hb4 : w62.cell? ⟨gB, 1, none⟩ = some (.slice ao2 nl cap2) := St.cells_mem hS62 mm3 1
  have hbb := St.blk_mem (g := gB) hS62 mm3
  have hbz2 : w62.frozen? ⟨gB, 1, none⟩ = false := by simp [World.frozen?, hbb]
  have k0 := hS62.reo 8 [1, 3, 4, 5, 6, 0, 2, 7] (by decide)
  have k1 : St c (blk gB [.slice (some ⟨g1, 0, none⟩) (nl + 1) cp1, .slice ao2 nl cap2] 28 :: row 24 1 (.slice (some ⟨g1, 0, none⟩) (nl + 1) cp1) (nl + 1) (vs1 ++ [.slice aoV nv capV]) :: inner 5 .u8 (.slice aoV nv capV) l :: Sep (List.zipWith (inner 5 .u8) vs1 ls) :: row 24 1 (.slice ao62 (nl + 1) cap62) (nl + 1) (vs2 ++ [.slice ao60 nv cap60]) :: row 5 1 (.slice ao60 nv cap60) nv (nums .u8 l) :: Sep (List.zipWith (inner 5 .u8) vs2 ls) :: R) w62 := k0.drop
  have k2 := k1.setCell 1 (.slice ao62 (nl + 1) cap62)
  have hin : row 5 1 (.slice ao60 nv cap60) nv (nums .u8 l) = inner 5 .u8 (.slice ao60 nv cap60) l := by unfold inner; rw [HNV.out]
  rw [hin] at k2
  have k3 : St c (row 24 1 (.slice (some ⟨g1, 0, none⟩) (nl + 1) cp1) (nl + 1) (vs1 ++ [.slice aoV nv capV]) :: inner 5 .u8 (.slice aoV nv capV) l :: Sep (List.zipWith (inner 5 .u8) vs1 ls) :: blk gB [.slice (some ⟨g1, 0, none⟩) (nl + 1) cp1, .slice ao62 (nl + 1) cap62] 28 :: row 24 1 (.slice ao62 (nl + 1) cap62) (nl + 1) (vs2 ++ [.slice ao60 nv cap60]) :: inner 5 .u8 (.slice ao60 nv cap60) l :: Sep (List.zipWith (inner 5 .u8) vs2 ls) :: R) _ := k2.reo 4 [1, 2, 3, 0] (by decide)
  have k4 := k3.matSnoc (by rw [HV1.out, HNL.out]) (by rw [HNL.out])
  have k4a : St c (row 24 1 (.slice ao62 (nl + 1) cap62) (nl + 1) (vs2 ++ [.slice ao60 nv cap60]) :: inner 5 .u8 (.slice ao60 nv cap60) l :: Sep (List.zipWith (inner 5 .u8) vs2 ls) :: mat 24 5 .u8 (.slice (some ⟨g1, 0, none⟩) (nl + 1) cp1) (ls ++ [l]) :: blk gB [.slice (some ⟨g1, 0, none⟩) (nl + 1) cp1, .slice ao62 (nl + 1) cap62] 28 :: R) _ := k4.reo 5 [2, 3, 4, 0, 1] (by decide)
  have k5 := k4a.matSnoc (by rw [HV2.out, HNL.out]) (by rw [HNL.out])
  have HZ := Lib.hid (k5.reo 3 [2, 1, 0] (by decide)).book8Shut
  clear hbb hS62 hG3 hin k0 k1 k2 k3 k4 k4a k5
  refine hK.out _ _ ?_
  clear hK K
  refine norm_ (a' := ?_) ?_ ?_
  rotate_left
  · show Act.put _ (some 23) _ = _
    simp only [Act.put, List.setIfInBounds_toArray, List.set_cons_zero, List.set_cons_succ, i64_w, i32_w]
    rfl
  refine pu 10 24 #[true, true, true, true, true, true, true, true, true, true, true, false, false] ?_
  refine pu 11 25 #[true, true, true, true, true, true, true, true, true, true, true, true, false] ?_
  refine last_ (i := 12) (N := none) #[true, true, true, true, true, true, true, true, true, true, true, true, true] rfl rfl (by kernel_rfl) (by decide) (fun K hK => ?_)
  refine skip_ (w1 := ?_) (by rfl) rfl ?_ ?_
  rotate_left
  · go_simp
    rfl
  refine hK.out _ _ ?_
  clear hK K
  refine done_ (by kernel_rfl) ?_
  go_wp2_with fail
  go_end0
  refine ⟨rfl, ?_⟩
  exact HZ.out
end Go.Proofs.Ythpkdephkhcgmaa
