import Derived.Test.YtdoikehkibefpaaPPbx6
import Derived.Test.YtdoikehkibefpaaPlaneQb
import Derived.Test.YtdoikehkibefpaaPasteP
import Derived.Test.YtdoikehkibefpaaMat2
import Derived.Test.YtdoikehkibefpaaPPbx2
import Derived.Test.YtdoikehkibefpaaPPbx3
import Derived.Test.YtdoikehkibefpaaRgK
import Derived.Test.YtdoikehkibefpaaRPost
/-! A frame of noughts: plain. -/
namespace Go.Proofs.Ytdoikehkibefpaa
set_option linter.unusedSimpArgs false
set_option linter.unusedVariables false
open Go Go.RowKit Go.Proofs.Ytdoikehkibefpaa.PPb Go.Proofs.YtdoikehkibefpaaW.PrintWords

def zerosL (W H : Int) (A : Bool) : List (List Int) := (List.range (plN A).toNat).map fun i : Nat => List.replicate (wd W i * H).toNat 0
theorem zerosL_length (W H : Int) (A : Bool) : (zerosL W H A).length = (plN A).toNat := by simp [zerosL]
theorem zerosL_get (W H : Int) (A : Bool) (i : Nat) (hi : i < (plN A).toNat) : (zerosL W H A).getD i [] = List.replicate (wd W i * H).toNat 0 := by
  rw [List.getD_eq_getElem?_getD, List.getElem?_eq_getElem (by rw [zerosL_length]; exact hi)]
  simp [zerosL]
theorem blank_f {W H : Int} (D : Int) (A : Bool) (hW : 1 ≤ W ∧ W ≤ 4096) (hH : 1 ≤ H ∧ H ≤ 4096) (k : Nat) : plane_blank.f (k + 5) W H D A = some (W, H, D, A, zerosL W H A) := by
  have step : ∀ k x9 (acc : List (List Int)), x9 < plN A → 0 ≤ x9 → acc.length ≤ 10 → plane_blank.l0 (k + 1) (plN A) x9 W H D A W H D A acc = plane_blank.l0 k (plN A) (x9 + 1) W H D A W H D A (acc ++ [List.replicate (wd W x9 * H).toNat 0]) := by
    intro k x9 acc h1 h2 h3
    have hp : plN A ≤ 4 := plN_le A
    have hw := wd_bd (p := x9) hW.1 hW.2
    have hm := mul_bd (a := wd W x9) (b := H) (m := 4096) (n := 4096) (by omega) hw.2 (by omega) hH.2
    simp only [plane_blank.l0]
    rw [if_pos h1, width_f x9 (by omega) (by omega)]
    simp only [Option.bind_some]
    rw [w64 (x := wd W x9 * H) (by omega) (by omega), if_pos hm.1, if_pos (by omega), if_pos (by omega), w64 (x := x9 + 1) (by omega) (by omega)]
  have last : ∀ k (acc : List (List Int)), plane_blank.l0 (k + 1) (plN A) (plN A) W H D A W H D A acc = some (W, H, D, A, acc) := by
    intro k acc
    simp only [plane_blank.l0]
    rw [if_neg (by omega)]
  unfold plane_blank.f
  rw [planes_f]
  simp only [Option.bind_some]
  cases A with
  | true =>
    have e : plN true = 4 := rfl
    rw [e] at step last ⊢
    rw [step _ 0 [] (by omega) (by omega) (by simp), step _ _ _ (by omega) (by omega) (by simp), step _ _ _ (by omega) (by omega) (by simp), step _ _ _ (by omega) (by omega) (by simp)]
    exact last _ _
  | false =>
    have e : plN false = 3 := rfl
    rw [e] at step last ⊢
    rw [step _ 0 [] (by omega) (by omega) (by simp), step _ _ _ (by omega) (by omega) (by simp), step _ _ _ (by omega) (by omega) (by simp)]
    exact last _ _

end Go.Proofs.Ytdoikehkibefpaa

/-! A plane picked out of a frame's own; a copy in a region; noughts. -/
namespace Go.Proofs.Ytdoikehkibefpaa
set_option linter.unusedSimpArgs false
set_option linter.unusedVariables false
open Go Go.RowKit Go.Proofs.Ytdoikehkibefpaa.PPb Go.Proofs.YtdoikehkibefpaaW.PrintWords

/-- A copy in a region that draws its order. -/
theorem St.stepCopy {c : Ctx} {R : List HP} {w : World} {P : Program} {ops : Array Oper} {o : Oper} {a : Act} {K : Act → World → Prop} {Q : Exit → Act → World → Prop} {E' : Prop} (hgd : o.guard = none) (d x : Operand) (dT sT : TypeId)
    (ho : o.op = .call { callee := .builtin .copy, args := #[d, x], argTypes := #[dT, sT] }) {e : TypeId} {z : Value} {bytes : Nat} (E : Elem P dT e z 1 bytes)
    {g off dLen dCap n cap : Nat} {xs ys : List Value} {ad : Addr} {m cp : Nat} (hd : a.eval d = .slice (some ⟨g, off, none⟩) dLen dCap) (hx : a.eval x = .slice (some ad) m cp) (hm : ys.length = m)
    (hr : ∀ j u, ys[j]? = some u → w.cell? (ad.add j) = some u) (h1 : ∀ v ∈ ys, v.oneCell' = true)
    (hS : St c (row e 1 (.slice (some ⟨g, 0, none⟩) n cap) n xs :: R) w) (hfit : off + dLen ≤ n) (hmd : m ≤ dLen)
    (h : ∀ w', St c (row e 1 (.slice (some ⟨g, 0, none⟩) n cap) n (xs.take off ++ (ys ++ xs.drop (off + m))) :: R) w' → K (a.put o.dst (goInt m)) w') :
    if Region.wanted o (yielded ops a.tmps) = true then Oper.wp P o a w K Q else E' := by
  obtain ⟨i, hi, hz0, hz1, hz2⟩ := info_parts E.hi
  have hw : Region.wanted o (yielded ops a.tmps) = true := by simp [Region.wanted, hgd]
  rw [if_pos hw]
  have hrow := hS.row_at
  rcases hrow.2 with ⟨h', _⟩ | ⟨g', cap', cur, h', hb, hg, hnc, hcm, hcs, htake⟩
  · simp at h'
  · simp only [Value.slice.injEq, Option.some.injEq, Addr.mk.injEq, and_true, true_and] at h'
    obtain ⟨rfl, rfl⟩ := h'
    have hsz : off + ys.length ≤ cur.size := by rw [hcs]; omega
    have hrun := run_copy_row (P := P) w dT sT o.type e g off dLen dCap ad m cp cur e ys E.ht (by rw [hi]; simp [hz1]) hg (by rw [hm]; exact (Nat.min_eq_left hmd).symm) hr hsz h1
    unfold Oper.wp
    simp [execOp, ho, resolve, invoke, builtin, hd, hx, hrun, Result.andThen]
    have hxl : xs.length = n := by simpa using hrow.1
    rw [hm]
    refine h _ (hS.regrown ?_ ⟨rfl, rfl, rfl, by simp [World.setRow], fun k _ hk => setRow_other w g k _ (fun e => hk (by simp [Value.ownBlock, e]))⟩ fun k hk => .inl hk)
    refine ⟨by simp [hxl, hm]; omega, .inr ⟨g, cap, _, rfl, hb, setRow_heap w g cur _ e _ hg, hnc, hcm, ?_, ?_⟩⟩
    · simp only [List.size_toArray, List.length_append, List.length_take, List.length_drop, Array.length_toList]
      omega
    · rw [← htake]
      have hcl : cur.toList.length = cap := by simpa using hcs
      simp only [Nat.mul_one]
      rw [← hm]
      exact splice_take _ _ _ _ (by omega) (by omega)

end Go.Proofs.Ytdoikehkibefpaa

/-! plane.Paste -/
namespace Go.Proofs.Ytdoikehkibefpaa
set_option linter.unusedSimpArgs false
set_option linter.unusedVariables false
open Go Go.RowKit Go.Proofs.Ytdoikehkibefpaa.PPb Go.Proofs.YtdoikehkibefpaaW.PrintWords Go.Proofs.YtdoikehkibefpaaW.PrintLast

def perr (D bw bh : Int) (b : List Int) : Int := if (b.length : Int) = bw * bh then (if bigIn D b = true then 64 else 0) else 63
def pasted (W : Int) (l : List (List Int)) (p x y : Nat) (bw bh : Int) (b : List Int) : List (List Int) := l.set p (pst (l.getD p []) b (wd W p).toNat x y bw.toNat bh.toNat)
def pasteVPost (w : World) (W H D : Int) (A : Bool) (l : List (List Int)) (p x y : Nat) (bw bh : Int) (b : List Int) (e : Ending) (w' : World) : Prop :=
  (perr D bw bh b ≠ 0 ∧ rcutPost w 0 0 0 false [] (perr D bw bh b) e w') ∨ (perr D bw bh b = 0 ∧ rcutPost w W H D A (pasted W l p x y bw bh b) 0 e w')

set_option maxHeartbeats 8000000 in
set_option maxRecDepth 100000 in
theorem pasteV_ok (w : World) (W H D : Int) (A : Bool) (A0 : Option Addr) (n : Nat) (l : List (List Int)) (hC : Kd.C (Kd.slice 72 (Kd.int .u16)) w A0 l.length l) (hn : l.length ≤ n) (hok : FrameOk W H D A l) (hs : smp l)
    (p x y : Nat) (hp : p < l.length) (hx : x ≤ 4096) (hy : y ≤ 4096) (bw bh : Int) (Ab : Option Addr) (bn : Nat) (b : List Int) (hCb : Kd.C (Kd.int .u16) w Ab b.length b) (hbn : b.length ≤ bn) (hbs : ∀ v ∈ b, 0 ≤ v ∧ v ≤ 65535)
    (hw1 : -9223372036854775808 ≤ bw ∧ bw ≤ 9223372036854775807) (hw2 : -9223372036854775808 ≤ bh ∧ bh ≤ 9223372036854775807) (hli0 : liesIn x y bw bh (wd W p) H) :
    Calls Try.prog 41 #[.agg #[.int .i64 W, .int .i64 H, .int .i64 D, .bool A, .slice A0 l.length n], .int .i64 (p : Nat), .int .i64 (x : Nat), .int .i64 (y : Nat), .agg #[.int .i64 bw, .int .i64 bh, .slice Ab b.length bn]] w (pasteVPost w W H D A l p x y bw bh b) := by
  have HS := Lib.hid ((((St.top w).alloc' rfl [.int .i64 W, .int .i64 H, .int .i64 D, .bool A, .slice A0 l.length n] 39).alloc' (n := w.heap.size + 1) (by simp) [.int .i64 bw, .int .i64 bh, .slice Ab b.length bn] 55).alloc' (n := w.heap.size + 2) (by simp) [.int .i64 0, .int .i64 0, .int .i64 0, .bool false, .slice none 0 0] 39)
  have HC0 := Lib.hid hC
  have HCB0 := Lib.hid hCb
  have HC := Lib.hid (Kd.C_alloc (Kd.C_alloc (Kd.C_alloc hC (.cells #[.int .i64 W, .int .i64 H, .int .i64 D, .bool A, .slice A0 l.length n] 39)) (.cells #[.int .i64 bw, .int .i64 bh, .slice Ab b.length bn] 55)) (.cells #[.int .i64 0, .int .i64 0, .int .i64 0, .bool false, .slice none 0 0] 39))
  have HCB := Lib.hid (Kd.C_alloc (Kd.C_alloc (Kd.C_alloc hCb (.cells #[.int .i64 W, .int .i64 H, .int .i64 D, .bool A, .slice A0 l.length n] 39)) (.cells #[.int .i64 bw, .int .i64 bh, .slice Ab b.length bn] 55)) (.cells #[.int .i64 0, .int .i64 0, .int .i64 0, .bool false, .slice none 0 0] 39))
  have HV : Hid (plane_Valid.f (0 + 12) W H D A l = some 0) := by
    have h := valid_f W H D A l hs 0
    rw [valF_ok hok] at h
    exact h
  have HOK := Lib.hid hok
  have hsh := hok.shape
  have hlen := hok.len
  have hW := hsh.1
  have hH := hsh.2.1
  have HBS := Lib.hid hbs
  have HTH : Hid (plane_there.f W H D A (p : Nat) = some true) := by
    show _ = _
    rw [there_f, decide_eq_true]
    omega
  have hl4 : l.length ≤ 4 := by have := plN_le A; omega
  have HPN : Hid ((plN A).toNat = l.length) := by show _ = _; omega
  clear hlen
  obtain ⟨wp, hwp⟩ : ∃ q, wd W (p : Nat) = q := ⟨_, rfl⟩
  have hwb := wd_bd (p := (p : Int)) hW.1 hW.2
  rw [hwp] at hwb
  have HWP : Hid (plane_width.f W H D A (p : Nat) = some wp) := by
    show _ = _
    rw [width_f _ (by omega) (by omega), hwp]
  have HWPE := Lib.hid hwp
  rw [hwp] at hli0
  have HLI0 := Lib.hid hli0
  clear hli0
  obtain ⟨r, hr⟩ : ∃ r : Bool, plane_lies.f x y bw bh wp H = some r := ⟨_, lies_f x y bw bh (by omega) (by omega) ⟩
  have HLI := Lib.hid hr
  clear hC hCb hok hbs hs hsh hr hwp
  go_enter Try.func41, Try.ntmps41
  go_wp2_with fail
  refine (plane_Valid.calls (0 + 12) W H D A A0 n l 0 _ HC.out hn HV.out).mono ?_
  rintro en w1 ⟨rfl, hb⟩
  have HS1 := Lib.hid (HS.out.of_below hb)
  have HC1 := Lib.hid (Kd.C_below HC.out hb)
  have HCB1 := Lib.hid (Kd.C_below HCB.out hb)
  clear HS HC HCB HV hb
  obtain ⟨f0, f1, f2, f3, f4⟩ := HS1.out.cells5 mm2
  obtain ⟨b0, b1, b2⟩ := HS1.out.cells3 mm1
  go_wp2_with fail
  clear f0 f1 f2 f3 f4 b0 b1 b2
  have HD := Lib.hid (HS1.out.alloc' rfl [.int .i64 (x : Nat), .int .i64 (y : Nat), .int .i64 bw, .int .i64 bh] 52).drew
  have HC2 := Lib.hid (Kd.C_alloc HC1.out (.cells #[.int .i64 (x : Nat), .int .i64 (y : Nat), .int .i64 bw, .int .i64 bh] 52))
  have HCB2 := Lib.hid (Kd.C_alloc HCB1.out (.cells #[.int .i64 (x : Nat), .int .i64 (y : Nat), .int .i64 bw, .int .i64 bh] 52))
  clear HS1 HC1 HCB1
  generalize w1.heap.size = gT at *
  generalize w1.alloc (.cells #[.int .i64 (x : Nat), .int .i64 (y : Nat), .int .i64 bw, .int .i64 bh] 52) = w2 at *
  refine start_ (n := 18) (S := fun w' => w'.cell? ⟨w.heap.size, 0, none⟩ = some (.int .i64 W) ∧ w'.cell? ⟨w.heap.size, 1, none⟩ = some (.int .i64 H) ∧ w'.cell? ⟨w.heap.size, 2, none⟩ = some (.int .i64 D) ∧ w'.cell? ⟨w.heap.size, 3, none⟩ = some (.bool A) ∧ w'.cell? ⟨w.heap.size, 4, none⟩ = some (.slice A0 l.length n) ∧ w'.cell? ⟨gT, 0, none⟩ = some (.int .i64 (x : Nat)) ∧ w'.cell? ⟨gT, 1, none⟩ = some (.int .i64 (y : Nat)) ∧ w'.cell? ⟨gT, 2, none⟩ = some (.int .i64 bw) ∧ w'.cell? ⟨gT, 3, none⟩ = some (.int .i64 bh)) (ds := []) #[false, false, false, false, false, false, false, false, false, false, false, false, false, false, false, false, false, false] (by kernel_rfl) rfl rfl ⟨St.cells_mem HD.out mm3 0, St.cells_mem HD.out mm3 1, St.cells_mem HD.out mm3 2, St.cells_mem HD.out mm3 3, St.cells_mem HD.out mm3 4, St.cells_mem HD.out mm0 0, St.cells_mem HD.out mm0 1, St.cells_mem HD.out mm0 2, St.cells_mem HD.out mm0 3⟩ (fun hHeld => ?_)
  refine pu 0 33 #[true, false, false, false, false, false, false, false, false, false, false, false, false, false, false, false, false, false] ?_
  refine pu 2 35 #[true, false, true, false, false, false, false, false, false, false, false, false, false, false, false, false, false, false] ?_
  refine ta 1 34 #[true, true, true, false, false, false, false, false, false, false, false, false, false, false, false, false, false, false] hHeld ?_
  refine one_ (i := 3) (N := some 36) #[true, true, true, true, false, false, false, false, false, false, false, false, false, false, false, false, false, false] rfl rfl (by kernel_rfl) (by decide) (fun K hK => ?_)
  refine goes_ Try.func54 (by kernel_rfl) rfl #[.agg #[.int .i64 W, .int .i64 H, .int .i64 D, .bool A], .int .i64 (p : Nat)] (by rfl) rfl rfl (by simp only [List.map_toArray, List.map_cons, List.map_nil]; rfl) ?_
  with_reducible refine (plane_there.calls W H D A (p : Nat) true _ HTH.out).mono ?_
  rintro en x1 ⟨rfl, hb⟩
  refine ⟨_, rfl, ?_⟩
  have H1 := Lib.hid (HD.out.of_below hb)
  have hb1 := hb
  clear hb
  refine hK.out _ _ ⟨St.cells_mem H1.out mm3 0, St.cells_mem H1.out mm3 1, St.cells_mem H1.out mm3 2, St.cells_mem H1.out mm3 3, St.cells_mem H1.out mm3 4, St.cells_mem H1.out mm0 0, St.cells_mem H1.out mm0 1, St.cells_mem H1.out mm0 2, St.cells_mem H1.out mm0 3⟩ (fun hHeld => ?_)
  clear hK K
  refine norm_ (a' := ?_) ?_ ?_
  rotate_left
  · show Act.put _ (some 36) _ = _
    simp only [Act.put, List.setIfInBounds_toArray, List.set_cons_zero, List.set_cons_succ, i64_w, i32_w]
    rfl
  refine pu 4 37 #[true, true, true, true, true, false, false, false, false, false, false, false, false, false, false, false, false, false] ?_
  refine pu 5 38 #[true, true, true, true, true, true, false, false, false, false, false, false, false, false, false, false, false, false] ?_
  refine pu 7 40 #[true, true, true, true, true, true, false, true, false, false, false, false, false, false, false, false, false, false] ?_
  refine pu 9 42 #[true, true, true, true, true, true, false, true, false, true, false, false, false, false, false, false, false, false] ?_
  refine pu 11 44 #[true, true, true, true, true, true, false, true, false, true, false, true, false, false, false, false, false, false] ?_
  refine pu 12 45 #[true, true, true, true, true, true, false, true, false, true, false, true, true, false, false, false, false, false] ?_
  refine ta 6 39 #[true, true, true, true, true, true, true, true, false, true, false, true, true, false, false, false, false, false] hHeld ?_
  refine ta 8 41 #[true, true, true, true, true, true, true, true, true, true, false, true, true, false, false, false, false, false] hHeld ?_
  refine ta 13 46 #[true, true, true, true, true, true, true, true, true, true, false, true, true, true, false, false, false, false] hHeld ?_
  refine one_ (i := 10) (N := some 43) #[true, true, true, true, true, true, true, true, true, true, true, true, true, true, false, false, false, false] rfl rfl (by kernel_rfl) (by decide) (fun K hK => ?_)
  refine goes_ Try.func55 (by kernel_rfl) rfl #[.agg #[.int .i64 W, .int .i64 H, .int .i64 D, .bool A], .int .i64 (p : Nat)] (by rfl) rfl rfl (by simp only [List.map_toArray, List.map_cons, List.map_nil]; rfl) ?_
  with_reducible refine (plane_width.calls W H D A (p : Nat) wp _ HWP.out).mono ?_
  rintro en x2 ⟨rfl, hb⟩
  refine ⟨_, rfl, ?_⟩
  have H2 := Lib.hid (H1.out.of_below hb)
  have hb2 := hb
  clear hb
  refine hK.out _ _ ⟨St.cells_mem H2.out mm3 0, St.cells_mem H2.out mm3 1, St.cells_mem H2.out mm3 2, St.cells_mem H2.out mm3 3, St.cells_mem H2.out mm3 4, St.cells_mem H2.out mm0 0, St.cells_mem H2.out mm0 1, St.cells_mem H2.out mm0 2, St.cells_mem H2.out mm0 3⟩ (fun hHeld => ?_)
  clear hK K
  refine norm_ (a' := ?_) ?_ ?_
  rotate_left
  · show Act.put _ (some 43) _ = _
    simp only [Act.put, List.setIfInBounds_toArray, List.set_cons_zero, List.set_cons_succ, i64_w, i32_w]
    rfl
  refine one_ (i := 14) (N := some 47) #[true, true, true, true, true, true, true, true, true, true, true, true, true, true, true, false, false, false] rfl rfl (by kernel_rfl) (by decide) (fun K hK => ?_)
  refine goes_ Try.func65 (by kernel_rfl) rfl #[.agg #[.int .i64 (x : Nat), .int .i64 (y : Nat), .int .i64 bw, .int .i64 bh], .int .i64 wp, .int .i64 H] (by rfl) rfl rfl (by simp only [List.map_toArray, List.map_cons, List.map_nil]; rfl) ?_
  with_reducible refine (plane_lies.calls x y bw bh wp H r _ HLI.out).mono ?_
  rintro en x3 ⟨rfl, hb⟩
  refine ⟨_, rfl, ?_⟩
  have H3 := Lib.hid (H2.out.of_below hb)
  have hb3 := hb
  clear hb
  refine hK.out _ _ ⟨St.cells_mem H3.out mm3 0, St.cells_mem H3.out mm3 1, St.cells_mem H3.out mm3 2, St.cells_mem H3.out mm3 3, St.cells_mem H3.out mm3 4, St.cells_mem H3.out mm0 0, St.cells_mem H3.out mm0 1, St.cells_mem H3.out mm0 2, St.cells_mem H3.out mm0 3⟩ (fun hHeld => ?_)
  clear hK K
  refine norm_ (a' := ?_) ?_ ?_
  rotate_left
  · show Act.put _ (some 47) _ = _
    simp only [Act.put, List.setIfInBounds_toArray, List.set_cons_zero, List.set_cons_succ, i64_w, i32_w]
    rfl
  refine pu 15 48 #[true, true, true, true, true, true, true, true, true, true, true, true, true, true, true, true, false, false] ?_
  refine pu 16 49 #[true, true, true, true, true, true, true, true, true, true, true, true, true, true, true, true, true, false] ?_
  refine pu 17 32 #[true, true, true, true, true, true, true, true, true, true, true, true, true, true, true, true, true, true] ?_
  refine done_ (by kernel_rfl) ?_
  have HC3 := Lib.hid (Kd.C_below (Kd.C_below (Kd.C_below (Kd.C_below HC2.out (pw_below_drewN (Below.refl _ _) 1)) hb1) hb2) hb3)
  have HCB3 := Lib.hid (Kd.C_below (Kd.C_below (Kd.C_below (Kd.C_below HCB2.out (pw_below_drewN (Below.refl _ _) 1)) hb1) hb2) hb3)
  clear HC2 HCB2 hb1 hb2 hb3 HD H1 H2
  have hrl : decide (liesIn x y bw bh wp H) = r := by
    have h := HLI.out
    rw [lies_f x y bw bh (by omega) (by omega)] at h
    exact Option.some.inj h
  have HRL := Lib.hid hrl
  clear hrl HLI
  cases r with
  | false =>
    have h2 := HRL.out
    rw [decide_eq_false_iff_not] at h2
    exact absurd HLI0.out h2
  | true =>
    have hli : liesIn x y bw bh wp H := of_decide_eq_true HRL.out
    obtain ⟨hbw0, hbh0, -, -, hxw, hyh, hbw1, hbh1⟩ := id hli
    have HLI := Lib.hid hli
    have hmm := mul_bd (a := bw) (b := bh) (m := 4096) (n := 4096) (by omega) (by omega) (by omega) (by omega)
    obtain ⟨m, hm⟩ : ∃ m, bw * bh = m := ⟨_, rfl⟩
    have hwm : wrap64 m = m := by rw [hm] at hmm; exact w64 (by omega) (by omega)
    rw [hm] at hmm
    have HM := Lib.hid hm
    clear hli HRL
    obtain ⟨b0, b1, b2⟩ := H3.out.cells3 mm2
    obtain ⟨f0, f1, f2, f3, f4⟩ := H3.out.cells5 mm3
    by_cases hlm : (b.length : Int) = m
    · have t1 : ((b.length : Int) != m) = false := by simp [hlm]
      have HLM := Lib.hid hlm
      obtain ⟨bg, hbg⟩ : ∃ bg, bigIn D b = bg := ⟨_, rfl⟩
      have HBG := Lib.hid hbg
      clear hlm hbg
      have HWI : Hid (plane_within.f b D = some (!bg)) := by
        show _ = _
        rw [within_f HOK.out.shape.2.2.1 b HBS.out, HBG.out]
      go_wp2_with fail
      refine (plane_within.calls Ab bn b D (!bg) _ HCB3.out hbn HWI.out).mono ?_
      rintro en w4 ⟨rfl, hb⟩
      have H4 := Lib.hid (H3.out.of_below hb)
      have HC4 := Lib.hid (Kd.C_below HC3.out hb)
      have HCB4 := Lib.hid (Kd.C_below HCB3.out hb)
      clear H3 HC3 HCB3 hb b0 b1 b2 f0 f1 f2 f3 f4 t1 hwm
      cases bg with
      | true =>
        have HNG : Hid (perr D bw bh b = 64) := by
          show _ = _
          unfold perr
          rw [if_pos (by rw [HM.out]; exact HLM.out), HBG.out]
          rfl
        have hr := H4.out.blk_mem (g := w.heap.size + 2) mm1
        have d0 := St.cells_mem H4.out mm1 0
        have d1 := St.cells_mem H4.out mm1 1
        have d2 := St.cells_mem H4.out mm1 2
        have d3 := St.cells_mem H4.out mm1 3
        have d4 := St.cells_mem H4.out mm1 4
        simp only [List.getElem?_cons_zero, List.getElem?_cons_succ] at d0 d1 d2 d3 d4
        have fr : ∀ j, World.frozen? w4 ⟨w.heap.size + 2, j, none⟩ = false := fun j => by simp [World.frozen?, hr]
        have fr0 := fr 0
        have fr1 := fr 1
        have fr2 := fr 2
        have fr3 := fr 3
        have fr4 := fr 4
        clear fr hr
        go_wp2_with fail
        have h3 := ((((H4.out.swap.setCell 0 (.int .i64 0)).setCell 1 (.int .i64 0)).setCell 2 (.int .i64 0)).setCell 3 (.bool false)).setCell 4 (.slice none 0 0)
        have h4 := h3.blk_at
        exact bodyPost_ret (results_ct rfl _ _ (w.heap.size + 2) 39 #[.int .i64 0, .int .i64 0, .int .i64 0, .bool false, .slice none 0 0] (0, 0) _ rfl h4 Try.underlying39 rfl (by kernel_rfl)) rfl (.inl ⟨by rw [HNG.out]; decide, by rw [HNG.out]; exact ⟨_, rfl, (h3.drop.drop.drop.drop).matNil _ _ _⟩⟩)
      | false =>
        obtain ⟨f0, f1, f2, f3, f4⟩ := H4.out.cells5 mm3
        go_wp2_with fail
        refine (plane_blank.calls (0 + 5) W H D A W H D A (zerosL W H A) _ (blank_f D A hW hH 0)).mono ?_
        rintro en w5 ⟨v, rfl, hS5, hb⟩
        have hZ : (zerosL W H A).length = l.length := by rw [zerosL_length]; exact HPN.out
        have hrow : ∀ i, i < l.length → (l.getD i []).length = (wd W i * H).toNat ∧ 0 < (l.getD i []).length := by
          intro i hi
          have h1 := HOK.out.rows i hi
          have h2 := wd_bd (p := (i : Int)) hW.1 hW.2
          have h3 : 1 * 1 ≤ wd W i * H := Int.mul_le_mul h2.1 hH.1 (by omega) (by omega)
          omega
        have HROW := Lib.hid hrow
        obtain ⟨gv, cv, -, -, -, hv, -⟩ := (H4.out.of_S hb hS5).matPick 0 (by omega) (by
          rw [zerosL_get W H A 0 (by rw [HPN.out]; omega), List.length_replicate, ← (hrow 0 (by omega)).1]; exact (hrow 0 (by omega)).2)
        rw [hZ] at hv
        subst hv
        have H5 := Lib.hid ((H4.out.of_S hb hS5).alloc' rfl [.int .i64 W, .int .i64 H, .int .i64 D, .bool A, .slice (some ⟨gv, 0, none⟩) l.length cv] 39)
        have g4 : w5.cell? ⟨w.heap.size, 4, none⟩ = some (.slice A0 l.length n) := (H4.out.of_below hb).cells_mem mm3 4
        have hlt5 : w.heap.size < w5.heap.size := lt_of_some ((H4.out.of_below hb).blk_mem (g := w.heap.size) mm3)
        clear H4 HC4 HCB4 hb hS5 f0 f1 f2 f3 f4 hrow
        go_wp2_with fail
        clear g4 hlt5
        generalize w5.heap.size = gO at *
        generalize w5.alloc (.cells #[.int .i64 W, .int .i64 H, .int .i64 D, .bool A, .slice (some ⟨gv, 0, none⟩) l.length cv] 39) = w6 at *
        go_loopw [77] (fun v w' => ∃ i : Nat, v = .int .i64 (i : Nat) ∧ i ≤ l.length ∧ Hid (St (top w) (blk gO [.int .i64 W, .int .i64 H, .int .i64 D, .bool A, .slice (some ⟨gv, 0, none⟩) l.length cv] 39 :: mat 53 72 .u16 (.slice (some ⟨gv, 0, none⟩) l.length cv) (l.take i ++ (zerosL W H A).drop i) :: blk gT [.int .i64 (x : Nat), .int .i64 (y : Nat), .int .i64 bw, .int .i64 bh] 52 :: blk (w.heap.size + 2) [.int .i64 0, .int .i64 0, .int .i64 0, .bool false, .slice none 0 0] 39 :: [blk (w.heap.size + 1) [.int .i64 bw, .int .i64 bh, .slice Ab b.length bn] 55, blk w.heap.size [.int .i64 W, .int .i64 H, .int .i64 D, .bool A, .slice A0 l.length n] 39]) w')) (fun v _ => l.length - (intOf v).toNat)
        case atStart => exact ⟨0, rfl, by omega, by simpa [Hid] using H5.out⟩
        case round =>
          obtain ⟨i, rfl, hi, hS⟩ := hrel
          by_cases hil : i < l.length
          · obtain ⟨pb, po, A', cap', hA0, hcell, hle, hCi⟩ := C_rowAt HC0.out i hil
            have hcell := top_cell hS.out hcell
            have hCi := Kd.C_below hCi hS.out.below
            have hls : (l.take i ++ (zerosL W H A).drop i).length = l.length := by simp; omega
            have hgi : (l.take i ++ (zerosL W H A).drop i).getD i [] = (zerosL W H A).getD i [] := by
              simp only [List.getD_eq_getElem?_getD]
              rw [List.getElem?_append_right (by simp; omega), List.getElem?_drop]
              congr 2
              simp; omega
            have hzi : ((zerosL W H A).getD i []).length = (l.getD i []).length := by
              rw [zerosL_get W H A i (by rw [HPN.out]; exact hil), List.length_replicate, (HROW.out i hil).1]
            have hl0 := (HROW.out i hil).2
            obtain ⟨gv2, cp2, g, cap, E, hv2, hcap, hcl, hrw, hback⟩ := hS.out.swap.matPick i (by rw [hls]; exact hil) (by rw [hgi, hzi]; exact hl0)
            rw [hls] at hv2
            cases hv2
            rw [hgi, hzi] at hcap hcl hrw
            rw [hgi] at hback
            obtain ⟨len, hlen2⟩ : ∃ q, (l.getD i []).length = q := ⟨_, rfl⟩
            rw [hlen2] at hcell hle hCi hcap hcl hrw hl0 hzi
            rw [hzi] at hback
            have o4 : wr.cell? ⟨gO, 4, none⟩ = some (.slice (some ⟨gv, 0, none⟩) l.length cv) := St.cells_mem hS.out mm0 4
            have hzr : (zerosL W H A).getD i [] = List.replicate len 0 := by rw [zerosL_get W H A i (by rw [HPN.out]; exact hil), ← (HROW.out i hil).1, hlen2]
            rw [hzr] at hrw hzi
            obtain ⟨zr, hzr2⟩ : ∃ q : List Int, List.replicate len 0 = q := ⟨_, rfl⟩
            rw [hzr2] at hrw hzi
            obtain ⟨lr, hlr⟩ : ∃ q, l.getD i [] = q := ⟨_, rfl⟩
            rw [hlr] at hCi hlen2
            have HRW := Lib.hid hrw
            have HBK := Lib.hid hback
            have HCI := Lib.hid hCi
            have HL2 := Lib.hid hlen2
            have HZR := Lib.hid hzi
            have HLR := Lib.hid hlr
            subst hA0
            clear hrw hback hCi hlen2 hgi hzi hls H5 hS hzr hzr2 hlr
            go_wp2_with ((with_reducible refine at_dst 88 rfl ?_); go_must (refine St.copyC (ys := nums .u16 lr) rfl _ _ _ _ rfl elemU16 rfl rfl ((nums_length ..).trans HL2.out) ?_ (nums_one .u16 _) HRW.out (by omega) ?_))
            · intro h0
              rw [← HL2.out] at h0
              obtain ⟨b9, off9, rfl, hc9⟩ := C_reads (by rw [HL2.out]; exact HCI.out) h0
              refine ⟨_, rfl, fun j u hj => ?_⟩
              have hjl : j < lr.length := by have := (List.getElem?_eq_some_iff.1 hj).1; rwa [nums_length] at this
              rw [Addr.add_lit, hc9 j hjl, ← hj]
              rw [nums_at _ _ _ hjl]
            intro w7 h7
            have e7 : (nums .u16 lr).take len ++ (nums .u16 zr).drop (min len (nums .u16 lr).length) = nums .u16 lr := by
              have e8 : (nums .u16 lr).length = len := by rw [nums_length]; exact HL2.out
              rw [List.take_of_length_le (l := nums .u16 lr) (by omega), e8, List.drop_of_length_le (by rw [nums_length, HZR.out]; omega)]
              simp
            rw [e7] at h7
            have h8 := HBK.out w7 lr HL2.out h7
            have e9 : (l.take i ++ (zerosL W H A).drop i).set i lr = l.take (i + 1) ++ (zerosL W H A).drop (i + 1) := by
              have q1 : (l.take i).length = i := by rw [List.length_take]; exact Nat.min_eq_left hi
              have q2 : i < (zerosL W H A).length := Nat.lt_of_lt_of_eq hil hZ.symm
              have hd : (zerosL W H A).drop i = (zerosL W H A)[i]'q2 :: (zerosL W H A).drop (i + 1) := List.drop_eq_getElem_cons q2
              rw [← HLR.out, List.take_succ_eq_append_getElem hil, List.set_append_right _ _ (Nat.le_of_eq q1), hd, q1, Nat.sub_self, List.set_cons_zero, List.append_assoc, List.getD_eq_getElem?_getD, List.getElem?_eq_getElem hil]
              rfl
            rw [e9] at h8
            have H8 := Lib.hid h8.swap
            clear h7 h8 e7 HRW HBK
            go_wp2_with fail
            go_roundw
            case rel => exact ⟨i + 1, by go_num, by omega, H8⟩
            case measure => simp [intOf]; omega
          · have hil : i = l.length := by omega
            subst hil
            rw [List.take_of_length_le (Nat.le_refl _), List.drop_of_length_le (by omega), List.append_nil] at hS
            clear H5
            obtain ⟨f0, f1, f2, f3, f4⟩ := hS.out.cells5 mm5
            go_wp2_with fail
            refine (plane_width.calls W H D A (p : Nat) wp _ HWP.out).mono ?_
            rintro en w8 ⟨rfl, hb⟩
            have H8 := Lib.hid (hS.out.of_below hb)
            clear hS hb f0 f1 f2 f3 f4
            obtain ⟨b0, b1, b2⟩ := H8.out.cells3 mm4
            go_wp2_with fail
            clear b0 b1 b2
            obtain ⟨bwn, rfl⟩ : ∃ k : Nat, bw = k := ⟨bw.toNat, by omega⟩
            obtain ⟨bhn, rfl⟩ : ∃ k : Nat, bh = k := ⟨bh.toNat, by omega⟩
            obtain ⟨wpn, rfl⟩ : ∃ k : Nat, wp = k := ⟨wp.toNat, by omega⟩
            obtain ⟨Hn, rfl⟩ : ∃ k : Nat, H = k := ⟨H.toNat, by omega⟩
            have hk : (l.getD p []).length = wpn * Hn := by
              rw [(HROW.out p hp).1, HWPE.out]
              exact Int.toNat_natCast (wpn * Hn)
            have hbl : b.length = bwn * bhn := by
              have h1 := HLM.out
              rw [← HM.out] at h1
              exact_mod_cast h1
            have hbl0 : 0 < b.length := by rw [hbl]; exact Nat.mul_pos (by omega) (by omega)
            have hxw2 : x + bwn ≤ wpn := by omega
            have hyh2 : (y + bhn) * wpn ≤ wpn * Hn := by rw [Nat.mul_comm wpn Hn]; exact Nat.mul_le_mul_right _ (by omega)
            have hkb : wpn * Hn ≤ 4096 * 4096 := Nat.mul_le_mul (by omega) (by omega)
            have hbb : bwn * bhn ≤ 4096 * 4096 := Nat.mul_le_mul (by omega) (by omega)
            obtain ⟨bb, bo, rfl, hbc⟩ := C_reads HCB0.out hbl0
            have HBC := Lib.hid hbc
            have hl2 : (y + bhn) * wpn ≤ (l.getD p []).length := by rw [hk]; exact hyh2
            have HXW := Lib.hid hxw2
            have HL2 := Lib.hid hl2
            have HBL := Lib.hid hbl
            have HK := Lib.hid hk
            have hbw3 : 0 < bwn := by omega
            have hbh3 : bhn ≤ 4096 := by omega
            clear hbc hxw2 hl2 hbl hk hmm hxw hyh hbw1 hbh1 hbw0 hbh0 HLM HM
            go_loopw [96] (fun v w' => ∃ j : Nat, v = .int .i64 (j : Nat) ∧ j ≤ bhn ∧ Hid (St (top w) (blk gO [.int .i64 W, .int .i64 (Hn : Nat), .int .i64 D, .bool A, .slice (some ⟨gv, 0, none⟩) l.length cv] 39 :: mat 53 72 .u16 (.slice (some ⟨gv, 0, none⟩) l.length cv) (l.set p (pst (l.getD p []) b wpn x y bwn j)) :: blk gT [.int .i64 (x : Nat), .int .i64 (y : Nat), .int .i64 (bwn : Nat), .int .i64 (bhn : Nat)] 52 :: blk (w.heap.size + 2) [.int .i64 0, .int .i64 0, .int .i64 0, .bool false, .slice none 0 0] 39 :: [blk (w.heap.size + 1) [.int .i64 (bwn : Nat), .int .i64 (bhn : Nat), .slice (some ⟨bb, bo, none⟩) b.length bn] 55, blk w.heap.size [.int .i64 W, .int .i64 (Hn : Nat), .int .i64 D, .bool A, .slice A0 l.length n] 39]) w')) (fun v _ => bhn - (intOf v).toNat)
            case atStart => exact ⟨0, rfl, by omega, by
              have e : l.set p (pst (l.getD p []) b wpn x y bwn 0) = l := by
                rw [pst, List.getD_eq_getElem?_getD, List.getElem?_eq_getElem hp]
                exact List.set_getElem_self hp
              rw [e]
              exact H8⟩
            case round =>
              obtain ⟨j, rfl, hj, hS⟩ := hrel
              clear H8
              by_cases hjl : j < bhn
              · have hD := hS.out.drew
                have hpl := pst_length HBL.out HXW.out HL2.out j (by omega)
                obtain ⟨row0, hrow0⟩ : ∃ q, pst (l.getD p []) b wpn x y bwn j = q := ⟨_, rfl⟩
                rw [hrow0] at hD hpl
                have hgp : (l.set p row0).getD p [] = row0 := by
                  rw [List.getD_eq_getElem?_getD, List.getElem?_set_self (by omega)]; rfl
                have h0k : 0 < (l.getD p []).length := (HROW.out p hp).2
                obtain ⟨gv2, cp2, g, cap, E, hv2, hcap, hcl, hrw, hback⟩ := hD.swap.matPick p (by rw [List.length_set]; exact hp) (by rw [hgp, hpl]; exact h0k)
                rw [List.length_set] at hv2
                cases hv2
                obtain ⟨k, hk⟩ : ∃ q, (l.getD p []).length = q := ⟨_, rfl⟩
                have HKK := Lib.hid hk
                rw [hgp, hpl, hk] at hcap hcl hrw
                rw [hgp, hpl, hk] at hback
                have hroom := pst_room (y := y) HXW.out hjl
                have hl3 := HL2.out
                rw [hk] at hl3 h0k
                have hkk := HK.out
                rw [hk] at hkk
                have hcb := brow_length HBL.out hjl
                have h1b : (j + 1) * bwn ≤ bhn * bwn := Nat.mul_le_mul_right _ hjl
                have h2b : (j + 1) * bwn = j * bwn + bwn := Nat.succ_mul ..
                have hbl9 := HBL.out
                rw [Nat.mul_comm bwn bhn] at hbl9 hbb
                have hyj : (y + j) * wpn ≤ (y + bhn) * wpn := Nat.mul_le_mul_right _ (by omega)
                obtain ⟨a1, ha1⟩ : ∃ q, y + j = q := ⟨_, rfl⟩
                obtain ⟨j1, hj1⟩ : ∃ q, j + 1 = q := ⟨_, rfl⟩
                rw [ha1] at hroom hyj
                rw [hj1] at h1b h2b
                obtain ⟨a2, ha2⟩ : ∃ q, a1 * wpn = q := ⟨_, rfl⟩
                obtain ⟨c1, hc1⟩ : ∃ q, j * bwn = q := ⟨_, rfl⟩
                obtain ⟨c2, hc2⟩ : ∃ q, j1 * bwn = q := ⟨_, rfl⟩
                rw [ha2] at hroom hyj
                rw [hc2] at h1b h2b
                rw [hc1] at h2b
                obtain ⟨o, ho⟩ : ∃ q, a2 + x = q := ⟨_, rfl⟩
                rw [ho] at hroom
                have B1 : a1 ≤ 10000 := by omega
                have B2 : a2 ≤ 20000000 := by omega
                have B3 : o ≤ 20000000 := by omega
                have B4 : c1 ≤ 20000000 := by omega
                have B5 : j1 ≤ 5000 := by omega
                have B6 : c2 ≤ 20000000 := by omega
                have E1 : (y : Int) + (j : Int) = (a1 : Int) := by omega
                have E2 : (a1 : Int) * (wpn : Int) = (a2 : Int) := by rw [← ha2]; exact (Int.natCast_mul a1 wpn).symm
                have E3 : (a2 : Int) + (x : Int) = (o : Int) := by omega
                have E4 : (j : Int) * (bwn : Int) = (c1 : Int) := by rw [← hc1]; exact (Int.natCast_mul j bwn).symm
                have E5 : (j : Int) + 1 = (j1 : Int) := by omega
                have E6 : (j1 : Int) * (bwn : Int) = (c2 : Int) := by rw [← hc2]; exact (Int.natCast_mul j1 bwn).symm
                have HWW : Hid (wrap64 (a1 : Int) = (a1 : Int) ∧ wrap64 (a2 : Int) = (a2 : Int) ∧ wrap64 (o : Int) = (o : Int) ∧ wrap64 (c1 : Int) = (c1 : Int) ∧ wrap64 (j1 : Int) = (j1 : Int) ∧ wrap64 (c2 : Int) = (c2 : Int)) := ⟨w64 (by omega) (by omega), w64 (by omega) (by omega), w64 (by omega) (by omega), w64 (by omega) (by omega), w64 (by omega) (by omega), w64 (by omega) (by omega)⟩
                have hc2b : c2 ≤ b.length := by omega
                have hok2 : o + bwn ≤ k := by omega
                have hc12 : c2 = c1 + bwn := by omega
                have HRW := Lib.hid hrw
                have HBK : Hid (∀ (w' : World) (l' : List Int), l'.length = k → St (top w) (row 72 1 (.slice (some ⟨g, 0, none⟩) k cap) k (nums .u16 l') :: (E ++ _)) w' → St (top w) (mat 53 72 .u16 (.slice (some ⟨gv, 0, none⟩) l.length cv) (l.set p l') :: _) w') := fun w' l' q1 q2 => by
                  have q3 := hback w' l' q1 q2
                  rw [List.set_set] at q3
                  exact q3
                have HCB9 := Lib.hid hcb
                have HPL := Lib.hid hpl
                have HR0 := Lib.hid hrow0
                have HO9 : Hid ((y + j) * wpn + x = o) := by show _ = _; rw [ha1, ha2, ho]
                have HJ1 := Lib.hid hj1
                have HC1 := Lib.hid hc1
                have HD := Lib.hid hD
                have HCL := Lib.hid hcl
                have s1 : (0 : Int) ≤ (o : Int) := by omega
                have s2 : (o : Int) ≤ (k : Int) := by omega
                have s3 : (0 : Int) ≤ (c1 : Int) := by omega
                have s4 : (c1 : Int) ≤ (c2 : Int) := by omega
                have s5 : (c2 : Int) ≤ (bn : Int) := by omega
                have s6 : (0 : Int) ≤ (p : Int) := by omega
                have s7 : (p : Int) < (l.length : Int) := by omega
                have s8 : o ≤ k := by omega
                have s11 : (c1 : Int) ≤ max (c2 : Int) 0 := by omega
                have s12 : ¬ cap = o := by omega
                have s13 : ¬ bn = c1 := by omega
                have s14 : c2 - c1 = bwn := by omega
                have HS14 := Lib.hid s14
                have HC12 := Lib.hid hc12
                have s9 : c1 ≤ c2 := by omega
                have s10 : c2 ≤ bn := by omega
                clear s14 hc12 hrw hback hcb hpl hrow0 ha1 ha2 ho hj1 hc1 hc2 hroom hl3 hkk h1b h2b hbl9 hyj hD hS hgp hcl hyh2 hkb hbb
                have bj1 : j < 5000 := by omega
                go_wp2_with fail
                obtain ⟨W1, W2, W3, W4, W5, W6⟩ := HWW.out
                refine start_ (n := 26) (S := fun w' => w'.cell? ⟨gO, 4, none⟩ = some (.slice (some ⟨gv, 0, none⟩) l.length cv) ∧ w'.cell? ⟨gv, p, none⟩ = some (.slice (some ⟨g, 0, none⟩) k cap) ∧ w'.cell? ⟨w.heap.size + 1, 0, none⟩ = some (.int .i64 (bwn : Nat)) ∧ w'.cell? ⟨w.heap.size + 1, 2, none⟩ = some (.slice (some ⟨bb, bo, none⟩) b.length bn)) (ds := [25]) #[false, false, false, false, false, false, false, false, false, false, false, false, false, false, false, false, false, false, false, false, false, false, false, false, false, false] (by kernel_rfl) rfl rfl ⟨St.cells_mem HD.out mm0 4, HCL.out, St.cells_mem HD.out mm4 0, St.cells_mem HD.out mm4 2⟩ (fun hHeld => ?_)
                refine pu 0 99 #[true, false, false, false, false, false, false, false, false, false, false, false, false, false, false, false, false, false, false, false, false, false, false, false, false, false] ?_
                refine pu 2 101 #[true, false, true, false, false, false, false, false, false, false, false, false, false, false, false, false, false, false, false, false, false, false, false, false, false, false] ?_
                refine pu 5 104 #[true, false, true, false, false, true, false, false, false, false, false, false, false, false, false, false, false, false, false, false, false, false, false, false, false, false] ?_
                refine pu 6 105 #[true, false, true, false, false, true, true, false, false, false, false, false, false, false, false, false, false, false, false, false, false, false, false, false, false, false] ?_
                refine pu 7 106 #[true, false, true, false, false, true, true, true, false, false, false, false, false, false, false, false, false, false, false, false, false, false, false, false, false, false] ?_
                refine pu 8 107 #[true, false, true, false, false, true, true, true, true, false, false, false, false, false, false, false, false, false, false, false, false, false, false, false, false, false] ?_
                refine pu 9 108 #[true, false, true, false, false, true, true, true, true, true, false, false, false, false, false, false, false, false, false, false, false, false, false, false, false, false] ?_
                refine pu 10 109 #[true, false, true, false, false, true, true, true, true, true, true, false, false, false, false, false, false, false, false, false, false, false, false, false, false, false] ?_
                refine pu 11 110 #[true, false, true, false, false, true, true, true, true, true, true, true, false, false, false, false, false, false, false, false, false, false, false, false, false, false] ?_
                refine pu 13 112 #[true, false, true, false, false, true, true, true, true, true, true, true, false, true, false, false, false, false, false, false, false, false, false, false, false, false] ?_
                refine pu 15 114 #[true, false, true, false, false, true, true, true, true, true, true, true, false, true, false, true, false, false, false, false, false, false, false, false, false, false] ?_
                refine pu 16 115 #[true, false, true, false, false, true, true, true, true, true, true, true, false, true, false, true, true, false, false, false, false, false, false, false, false, false] ?_
                refine pu 19 118 #[true, false, true, false, false, true, true, true, true, true, true, true, false, true, false, true, true, false, false, true, false, false, false, false, false, false] ?_
                refine pu 20 119 #[true, false, true, false, false, true, true, true, true, true, true, true, false, true, false, true, true, false, false, true, true, false, false, false, false, false] ?_
                refine pu 21 120 #[true, false, true, false, false, true, true, true, true, true, true, true, false, true, false, true, true, false, false, true, true, true, false, false, false, false] ?_
                refine ta 1 100 #[true, true, true, false, false, true, true, true, true, true, true, true, false, true, false, true, true, false, false, true, true, true, false, false, false, false] hHeld ?_
                refine pu 3 102 #[true, true, true, true, false, true, true, true, true, true, true, true, false, true, false, true, true, false, false, true, true, true, false, false, false, false] ?_
                refine ta 4 103 #[true, true, true, true, true, true, true, true, true, true, true, true, false, true, false, true, true, false, false, true, true, true, false, false, false, false] hHeld ?_
                refine pu 12 111 #[true, true, true, true, true, true, true, true, true, true, true, true, true, true, false, true, true, false, false, true, true, true, false, false, false, false] ?_
                refine ta 14 113 #[true, true, true, true, true, true, true, true, true, true, true, true, true, true, true, true, true, false, false, true, true, true, false, false, false, false] hHeld ?_
                refine ta 17 116 #[true, true, true, true, true, true, true, true, true, true, true, true, true, true, true, true, true, true, false, true, true, true, false, false, false, false] hHeld ?_
                refine pu 18 117 #[true, true, true, true, true, true, true, true, true, true, true, true, true, true, true, true, true, true, true, true, true, true, false, false, false, false] ?_
                refine ta 22 121 #[true, true, true, true, true, true, true, true, true, true, true, true, true, true, true, true, true, true, true, true, true, true, true, false, false, false] hHeld ?_
                refine pu 23 122 #[true, true, true, true, true, true, true, true, true, true, true, true, true, true, true, true, true, true, true, true, true, true, true, true, false, false] ?_
                refine pu 24 123 #[true, true, true, true, true, true, true, true, true, true, true, true, true, true, true, true, true, true, true, true, true, true, true, true, true, false] ?_
                refine last_ (i := 25) (N := some 124) #[true, true, true, true, true, true, true, true, true, true, true, true, true, true, true, true, true, true, true, true, true, true, true, true, true, true] rfl rfl (by kernel_rfl) (by decide) (fun K hK => ?_)
                clear W1 W2 W3 W4 W5 W6 E1 E2 E3 E4 E5 E6
                have hc12 := HC12.out
                refine St.stepCopy (ys := nums .u16 (brow b bwn j)) (by rfl) (.tmp 111) (.tmp 123) _ _ (by rfl) elemU16 (by rfl) (by rfl) ((nums_length ..).trans (HCB9.out.trans HS14.out.symm)) ?_ (nums_one .u16 _) HRW.out (by omega) (by omega) ?_
                · intro i u hi
                  have hil : i < (brow b bwn j).length := by have := (List.getElem?_eq_some_iff.1 hi).1; rwa [nums_length] at this
                  rw [nums_at _ _ _ hil] at hi
                  rw [HCB9.out] at hil
                  rw [brow_get HBL.out hjl i hil, HC1.out] at hi
                  rw [Addr.add_lit, Nat.add_assoc, ← hi]
                  exact top_cell HD.out (HBC.out (c1 + i) (by omega))
                intro w9 h9
                rw [HS14.out] at h9
                have e9 : (nums .u16 row0).take o ++ (nums .u16 (brow b bwn j) ++ (nums .u16 row0).drop (o + bwn)) = nums .u16 (spl row0 (brow b bwn j) o) := by
                  unfold spl
                  rw [HCB9.out]
                  simp [nums, List.map_append, List.map_take, List.map_drop]
                rw [e9] at h9
                have q1 : row0.length = k := HPL.out.trans HKK.out
                have h10 := HBK.out w9 (spl row0 (brow b bwn j) o) (by rw [spl_length (by rw [HCB9.out, q1]; exact hok2), q1]) h9
                have e10 : pst (l.getD p []) b wpn x y bwn j1 = spl row0 (brow b bwn j) o := by rw [← HJ1.out, pst, HR0.out, HO9.out]
                rw [← e10] at h10
                have HZ := Lib.hid h10.swap
                clear h9 h10 e9 e10
                refine hK.out _ _ ?_
                clear hK K
                refine norm_ (a' := ?_) ?_ ?_
                rotate_left
                · show Act.put _ (some 124) _ = _
                  simp only [Act.put, List.setIfInBounds_toArray, List.set_cons_zero, List.set_cons_succ, i64_w, i32_w]
                  rfl
                refine done_ (by kernel_rfl) ?_
                go_wp2_with fail
                go_roundw
                case rel => exact ⟨j + 1, by go_num, by omega, by rw [HJ1.out]; exact HZ⟩
                case measure => simp [intOf]; omega
              · have hjl : j = bhn := by omega
                subst hjl
                obtain ⟨o0, o1, o2, o3, o4⟩ := hS.out.cells5 mm0
                have hr := hS.out.blk_mem (g := w.heap.size + 2) mm3
                have d0 := St.cells_mem hS.out mm3 0
                have d1 := St.cells_mem hS.out mm3 1
                have d2 := St.cells_mem hS.out mm3 2
                have d3 := St.cells_mem hS.out mm3 3
                have d4 := St.cells_mem hS.out mm3 4
                simp only [List.getElem?_cons_zero, List.getElem?_cons_succ] at d0 d1 d2 d3 d4
                have fr : ∀ j, World.frozen? wr ⟨w.heap.size + 2, j, none⟩ = false := fun j => by simp [World.frozen?, hr]
                have fr0 := fr 0
                have fr1 := fr 1
                have fr2 := fr 2
                have fr3 := fr 3
                have fr4 := fr 4
                have HSX := hS
                clear fr hr hS
                go_wp2_with fail
                have h3 := ((((HSX.out.rot4.setCell 0 (.int .i64 W)).setCell 1 (.int .i64 (Hn : Nat))).setCell 2 (.int .i64 D)).setCell 3 (.bool A)).setCell 4 (.slice (some ⟨gv, 0, none⟩) l.length cv)
                have h4 := h3.blk_at
                have hgood : perr D (bwn : Nat) (j : Nat) b = 0 := by
                  unfold perr
                  rw [if_pos (by rw [HBL.out]; exact Int.natCast_mul bwn j), HBG.out]
                  rfl
                have hpa : l.set p (pst (l.getD p []) b wpn x y bwn j) = pasted W l p x y (bwn : Nat) (j : Nat) b := by
                  unfold pasted
                  rw [HWPE.out]
                  simp
                rw [hpa] at h3
                exact bodyPost_ret (results_ct rfl _ _ (w.heap.size + 2) 39 #[.int .i64 W, .int .i64 (Hn : Nat), .int .i64 D, .bool A, .slice (some ⟨gv, 0, none⟩) l.length cv] (0, 0) _ rfl h4 Try.underlying39 rfl (by kernel_rfl)) rfl (.inr ⟨hgood, _, rfl, h3.drop.drop.swap.drop.swap.drop.swap.drop⟩)
    · have t1 : ((b.length : Int) != m) = true := by simpa using hlm
      have HNG : Hid (perr D bw bh b = 63) := by
        show _ = _
        unfold perr
        rw [if_neg (by rw [HM.out]; exact hlm)]
      clear f0 f1 f2 f3 f4
      have hr := H3.out.blk_mem (g := w.heap.size + 2) mm1
      have d0 := St.cells_mem H3.out mm1 0
      have d1 := St.cells_mem H3.out mm1 1
      have d2 := St.cells_mem H3.out mm1 2
      have d3 := St.cells_mem H3.out mm1 3
      have d4 := St.cells_mem H3.out mm1 4
      simp only [List.getElem?_cons_zero, List.getElem?_cons_succ] at d0 d1 d2 d3 d4
      have fr : ∀ j, World.frozen? x3 ⟨w.heap.size + 2, j, none⟩ = false := fun j => by simp [World.frozen?, hr]
      have fr0 := fr 0
      have fr1 := fr 1
      have fr2 := fr 2
      have fr3 := fr 3
      have fr4 := fr 4
      clear fr hr
      go_wp2_with fail
      have h3 := ((((H3.out.swap.setCell 0 (.int .i64 0)).setCell 1 (.int .i64 0)).setCell 2 (.int .i64 0)).setCell 3 (.bool false)).setCell 4 (.slice none 0 0)
      have h4 := h3.blk_at
      exact bodyPost_ret (results_ct rfl _ _ (w.heap.size + 2) 39 #[.int .i64 0, .int .i64 0, .int .i64 0, .bool false, .slice none 0 0] (0, 0) _ rfl h4 Try.underlying39 rfl (by kernel_rfl)) rfl (.inl ⟨by rw [HNG.out]; decide, by rw [HNG.out]; exact ⟨_, rfl, (h3.drop.drop.drop.drop).matNil _ _ _⟩⟩)
end Go.Proofs.Ytdoikehkibefpaa
