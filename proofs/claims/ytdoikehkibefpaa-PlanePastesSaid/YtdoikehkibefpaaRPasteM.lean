import Derived.Test.YtdoikehkibefpaaPPbx7
import Derived.Test.YtdoikehkibefpaaPlaneQb
import Derived.Test.YtdoikehkibefpaaMat
import Derived.Test.YtdoikehkibefpaaPasteP
import Derived.Test.YtdoikehkibefpaaPPbx3
import Derived.Test.YtdoikehkibefpaaPPbx4
import Derived.Test.YtdoikehkibefpaaPPbx5
import Derived.Test.YtdoikehkibefpaaPPbx6
import Derived.Test.YtdoikehkibefpaaPlaneFc
import Derived.Test.YtdoikehkibefpaaRPost
import Derived.Test.YtdoikehkibefpaaMat2
import Derived.Test.YtdoikehkibefpaaRgK
/-! The reference's copied: the frame itself, plain. -/
namespace Go.Proofs.Ytdoikehkibefpaa
set_option linter.unusedSimpArgs false
set_option linter.unusedVariables false
open Go Go.RowKit Go.Proofs.Ytdoikehkibefpaa.PPb Go.Proofs.YtdoikehkibefpaaW.PrintWords Go.Proofs.YtdoikehkibefpaaW.PrintMore

theorem copied_l0 (a b c : Int) (d : Bool) (L : List (List Int)) (hL : L.length ≤ 1000000000000) (hl : ∀ l ∈ L, l.length ≤ 1000000000000) : ∀ (e k i : Nat), i + e = L.length → e < k →
    dailiesref06_copied.l0 k (i : Int) a b c d L a b c d (L.take i) = some (a, b, c, d, L) := by
  intro e
  induction e with
  | zero =>
    intro k i hi hk
    obtain ⟨k, rfl⟩ : ∃ m, k = m + 1 := ⟨k - 1, by omega⟩
    simp only [dailiesref06_copied.l0]
    rw [if_neg (by omega), List.take_of_length_le (by omega)]
  | succ e ih =>
    intro k i hi hk
    obtain ⟨k, rfl⟩ : ∃ m, k = m + 1 := ⟨k - 1, by omega⟩
    have hm : (rd_L1 L (i : Int)).length ≤ 1000000000000 := hl _ (getD_mem [] L i (by omega))
    have hr : rd_L1 L (i : Int) = L.getD i [] := rfl
    simp only [dailiesref06_copied.l0, Option.bind_some, List.nil_append, List.length_nil, Nat.zero_add]
    rw [if_pos (by omega), if_pos (by omega), if_pos (by omega), if_pos (by rw [List.length_take]; omega), w64 (x := (i : Int) + 1) (by omega) (by omega), hr, ← take_snoc L i [] (by omega)]
    exact ih k (i + 1) (by omega) (by omega)
theorem copied_f (a b c : Int) (d : Bool) (L : List (List Int)) (hL : L.length ≤ 1000000000000) (hl : ∀ l ∈ L, l.length ≤ 1000000000000) : dailiesref06_copied.f (L.length + 1) a b c d L = some (a, b, c, d, L) :=
  copied_l0 a b c d L hL hl L.length (L.length + 1) 0 (by omega) (by omega)
end Go.Proofs.Ytdoikehkibefpaa

/-! A block put into a plane, sample by sample: plain. -/
namespace Go.Proofs.Ytdoikehkibefpaa
set_option linter.unusedSimpArgs false
set_option linter.unusedVariables false
open Go Go.RowKit

theorem spl_step {l s : List Int} {o i : Nat} (h : o + s.length ≤ l.length) (hi : i < s.length) : (spl l (s.take i) o).set (o + i) (s.getD i 0) = spl l (s.take (i + 1)) o := by
  have h1 : (s.take i).length = i := by simp; omega
  have h2 : (s.take (i + 1)).length = i + 1 := by simp; omega
  have e1 := spl_length (l := l) (s := s.take i) (o := o) (by omega)
  have e2 := spl_length (l := l) (s := s.take (i + 1)) (o := o) (by omega)
  refine List.ext_getElem (by rw [List.length_set, e1, e2]) fun t ht1 ht2 => ?_
  have g1 := spl_get (l := l) (s := s.take i) (o := o) (by omega) t
  have g2 := spl_get (l := l) (s := s.take (i + 1)) (o := o) (by omega) t
  rw [List.length_set] at ht1
  have c1 : (spl l (s.take i) o)[t] = (spl l (s.take i) o).getD t 0 := by simp [List.getD_eq_getElem?_getD, ht1]
  have c2 : (spl l (s.take (i + 1)) o)[t] = (spl l (s.take (i + 1)) o).getD t 0 := by simp [List.getD_eq_getElem?_getD, ht2]
  rw [List.getElem_set]
  by_cases ht : o + i = t
  · rw [if_pos ht, c2, g2, if_pos (by omega)]
    subst ht
    rw [Nat.add_sub_cancel_left]
    simp [List.getD_eq_getElem?_getD, List.getElem?_take]
  · rw [if_neg ht, c1, c2, g1, g2, h1, h2]
    by_cases h3 : o ≤ t ∧ t < o + i
    · rw [if_pos h3, if_pos (by omega)]
      simp only [List.getD_eq_getElem?_getD, List.getElem?_take]
      rw [if_pos (by omega), if_pos (by omega)]
    · rw [if_neg h3, if_neg (by omega)]
/-- After k samples. -/
def psk (l b : List Int) (w x y bw : Nat) : Nat → List Int
  | 0 => l
  | k + 1 => (psk l b w x y bw k).set ((y + k / bw) * w + x + k % bw) (b.getD k 0)
theorem psk_len (l b : List Int) (w x y bw : Nat) : ∀ k, (psk l b w x y bw k).length = l.length
  | 0 => rfl
  | k + 1 => by rw [psk, List.length_set]; exact psk_len l b w x y bw k
section
variable {l b : List Int} {w x y bw rh : Nat} (hb : b.length = bw * rh) (hx : x + bw ≤ w) (hl : (y + rh) * w ≤ l.length)
include hb hx hl
theorem psk_row (j : Nat) (hj : j < rh) (h : psk l b w x y bw (j * bw) = pst l b w x y bw j) : ∀ i, i ≤ bw → psk l b w x y bw (j * bw + i) = spl (pst l b w x y bw j) ((brow b bw j).take i) ((y + j) * w + x)
  | 0, _ => by rw [Nat.add_zero, h]; simp [spl]
  | i + 1, hi => by
    have ih := psk_row j hj h i (by omega)
    have hr := brow_length hb hj
    have hroom := pst_room (y := y) hx hj
    have e1 : (j * bw + i) / bw = j := by rw [Nat.mul_comm, Nat.mul_add_div (by omega), Nat.div_eq_of_lt (by omega), Nat.add_zero]
    have e2 : (j * bw + i) % bw = i := by rw [Nat.mul_comm, Nat.mul_add_mod, Nat.mod_eq_of_lt (by omega)]
    rw [← Nat.add_assoc, psk, ih, e1, e2, ← brow_get hb hj i (by omega)]
    exact spl_step (by rw [hr, pst_length hb hx hl j (by omega)]; omega) (by omega)
theorem psk_pst : ∀ j, j ≤ rh → psk l b w x y bw (j * bw) = pst l b w x y bw j
  | 0, _ => by rw [Nat.zero_mul]; rfl
  | j + 1, hj => by
    have h := psk_row hb hx hl j (by omega) (psk_pst j (by omega)) bw (Nat.le_refl _)
    rw [Nat.succ_mul, h, List.take_of_length_le (by rw [brow_length hb (show j < rh by omega)]; exact Nat.le_refl _)]
    rfl
end
end Go.Proofs.Ytdoikehkibefpaa

/-! The reference's Paste: what it refuses. -/
namespace Go.Proofs.Ytdoikehkibefpaa
set_option linter.unusedSimpArgs false
set_option linter.unusedVariables false
open Go Go.RowKit Go.Proofs.Ytdoikehkibefpaa.PPb Go.Proofs.YtdoikehkibefpaaW.PrintWords Go.Proofs.YtdoikehkibefpaaW.PrintLast

section
variable (w : World) (W H D : Int) (A : Bool) (A0 : Option Addr) (n : Nat) (l : List (List Int)) (p x y bw bh : Int) (Ab : Option Addr) (bn : Nat) (b : List Int) (hC : Kd.C (Kd.slice 72 (Kd.int .u16)) w A0 l.length l) (hn : l.length ≤ n) (hs : smp l) (hl : ∀ x ∈ l, x.length * 2 ≤ 140737488351232)
include hC hn hs hl
set_option maxHeartbeats 4000000 in
set_option maxRecDepth 100000 in
theorem rpaste_bad (hv : valF W H D A l ≠ 0) : Calls Try.prog 42 #[.agg #[.int .i64 W, .int .i64 H, .int .i64 D, .bool A, .slice A0 l.length n], .int .i64 p, .int .i64 x, .int .i64 y, .agg #[.int .i64 bw, .int .i64 bh, .slice Ab b.length bn]] w (rcutPost w 0 0 0 false [] (valF W H D A l)) := by
  have hM : ∀ x ∈ l, x.length ≤ 140737488355328 := fun x hx => by have := hl x hx; omega
  obtain ⟨ev, hev⟩ : ∃ q, valF W H D A l = q := ⟨_, rfl⟩
  have CV := Lib.hid (fun (w : World) hr hc => dailiesref06_Valid.calls (0 + 140737488355328 + 14) W H D A A0 n l ev w hr hc (by rw [rvalid_f W H D A l _ hM (Nat.le_refl _) hs 0, hev]))
  rw [hev] at hv ⊢
  have hne : (ev != 0) = true := by simpa using hv
  clear hev hv
  have HS := Lib.hid ((((St.top w).alloc' rfl [.int .i64 W, .int .i64 H, .int .i64 D, .bool A, .slice A0 l.length n] 39).alloc' (n := w.heap.size + 1) (by simp) [.int .i64 bw, .int .i64 bh, .slice Ab b.length bn] 55).alloc' (n := w.heap.size + 2) (by simp) [.int .i64 0, .int .i64 0, .int .i64 0, .bool false, .slice none 0 0] 39)
  have HC := Lib.hid (Kd.C_below hC HS.out.below)
  clear hC hs hl hM
  go_enter Try.func42, Try.ntmps42
  go_wp2_with fail
  refine (CV.out _ HC.out hn).mono ?_
  rintro en w1 ⟨rfl, hb⟩
  have H1 := Lib.hid (HS.out.of_below hb)
  clear HS hb
  obtain ⟨d0, d1, d2, d3, d4⟩ := H1.out.cells5 mm0
  obtain ⟨y0, y1, y2⟩ := H1.out.cells3 mm1
  have fr0 := H1.out.frozen 0
  have fr1 := H1.out.frozen 1
  have fr2 := H1.out.frozen 2
  have fr3 := H1.out.frozen 3
  have fr4 := H1.out.frozen 4
  go_wp2_with fail
  have h3 := (((((H1.out).setCell 0 (.int .i64 0)).setCell 1 (.int .i64 0)).setCell 2 (.int .i64 0)).setCell 3 (.bool false)).setCell 4 (.slice none 0 0)
  have h4 := h3.blk_at
  exact bodyPost_ret (results_ct rfl _ _ (w.heap.size + 2) 39 #[.int .i64 0, .int .i64 0, .int .i64 0, .bool false, .slice none 0 0] (0, 0) _ rfl h4 Try.underlying39 rfl (by kernel_rfl)) rfl ⟨_, rfl, (h3.drop.drop.drop).matNil _ _ _⟩
set_option maxHeartbeats 4000000 in
set_option maxRecDepth 100000 in
theorem rpaste_off (hv : valF W H D A l = 0) (hp : ¬ (0 ≤ p ∧ p < plN A)) : Calls Try.prog 42 #[.agg #[.int .i64 W, .int .i64 H, .int .i64 D, .bool A, .slice A0 l.length n], .int .i64 p, .int .i64 x, .int .i64 y, .agg #[.int .i64 bw, .int .i64 bh, .slice Ab b.length bn]] w (rcutPost w 0 0 0 false [] 65) := by
  have hM : ∀ x ∈ l, x.length ≤ 140737488355328 := fun x hx => by have := hl x hx; omega
  have CV := Lib.hid (fun (w : World) hr hc => dailiesref06_Valid.calls (0 + 140737488355328 + 14) W H D A A0 n l 0 w hr hc (by rw [rvalid_f W H D A l _ hM (Nat.le_refl _) hs 0, hv]))
  have CT := Lib.hid (fun (w : World) => dailiesref06_there.calls W H D A p false w (by rw [rthere_d, decide_eq_false hp]))
  clear hv hp
  have HS := Lib.hid ((((St.top w).alloc' rfl [.int .i64 W, .int .i64 H, .int .i64 D, .bool A, .slice A0 l.length n] 39).alloc' (n := w.heap.size + 1) (by simp) [.int .i64 bw, .int .i64 bh, .slice Ab b.length bn] 55).alloc' (n := w.heap.size + 2) (by simp) [.int .i64 0, .int .i64 0, .int .i64 0, .bool false, .slice none 0 0] 39)
  have HC := Lib.hid (Kd.C_below hC HS.out.below)
  clear hC hs hl hM
  go_enter Try.func42, Try.ntmps42
  go_wp2_with fail
  refine (CV.out _ HC.out hn).mono ?_
  rintro en w1 ⟨rfl, hb⟩
  have H1 := Lib.hid (HS.out.of_below hb)
  clear HS hb
  obtain ⟨x0, x1, x2, x3, x4⟩ := H1.out.cells5 mm2
  obtain ⟨y0, y1, y2⟩ := H1.out.cells3 mm1
  go_wp2_with fail
  refine (CT.out _).mono ?_
  rintro en w2 ⟨rfl, hb⟩
  have H2 := Lib.hid (H1.out.of_below hb)
  clear H1 hb x0 x1 x2 x3 x4 y0 y1 y2
  obtain ⟨d0, d1, d2, d3, d4⟩ := H2.out.cells5 mm0
  obtain ⟨y0, y1, y2⟩ := H2.out.cells3 mm1
  have fr0 := H2.out.frozen 0
  have fr1 := H2.out.frozen 1
  have fr2 := H2.out.frozen 2
  have fr3 := H2.out.frozen 3
  have fr4 := H2.out.frozen 4
  go_wp2_with fail
  have h3 := (((((H2.out).setCell 0 (.int .i64 0)).setCell 1 (.int .i64 0)).setCell 2 (.int .i64 0)).setCell 3 (.bool false)).setCell 4 (.slice none 0 0)
  have h4 := h3.blk_at
  exact bodyPost_ret (results_ct rfl _ _ (w.heap.size + 2) 39 #[.int .i64 0, .int .i64 0, .int .i64 0, .bool false, .slice none 0 0] (0, 0) _ rfl h4 Try.underlying39 rfl (by kernel_rfl)) rfl ⟨_, rfl, (h3.drop.drop.drop).matNil _ _ _⟩
set_option maxHeartbeats 4000000 in
set_option maxRecDepth 100000 in
theorem rpaste_out (hv : valF W H D A l = 0) (hp : 0 ≤ p ∧ p < plN A) (ho : ¬ liesIn x y bw bh (wd W p) H) : Calls Try.prog 42 #[.agg #[.int .i64 W, .int .i64 H, .int .i64 D, .bool A, .slice A0 l.length n], .int .i64 p, .int .i64 x, .int .i64 y, .agg #[.int .i64 bw, .int .i64 bh, .slice Ab b.length bn]] w (rcutPost w 0 0 0 false [] 65) := by
  have hM : ∀ x ∈ l, x.length ≤ 140737488355328 := fun x hx => by have := hl x hx; omega
  have hok := ok_of_valF hv
  have hW := hok.shape.1
  have hH := hok.shape.2.1
  obtain ⟨wp, hwp⟩ : ∃ q, wd W p = q := ⟨_, rfl⟩
  have CV := Lib.hid (fun (w : World) hr hc => dailiesref06_Valid.calls (0 + 140737488355328 + 14) W H D A A0 n l 0 w hr hc (by rw [rvalid_f W H D A l _ hM (Nat.le_refl _) hs 0, hv]))
  have CT := Lib.hid (fun (w : World) => dailiesref06_there.calls W H D A p true w (by rw [rthere_d, decide_eq_true hp]))
  have CWI := Lib.hid (fun (w : World) => dailiesref06_wide.calls W H D A p wp w (by rw [rwide_f p (by omega) (by omega), hwp]))
  have CL := Lib.hid (fun (w : World) => dailiesref06_lies.calls x y bw bh wp H false w (by rw [← hwp, rlies_f x y bw bh (by have := wd_bd (p := p) hW.1 hW.2; omega) (by omega), decide_eq_false ho]))
  clear hv hp ho hwp hok hW hH
  have HS := Lib.hid ((((St.top w).alloc' rfl [.int .i64 W, .int .i64 H, .int .i64 D, .bool A, .slice A0 l.length n] 39).alloc' (n := w.heap.size + 1) (by simp) [.int .i64 bw, .int .i64 bh, .slice Ab b.length bn] 55).alloc' (n := w.heap.size + 2) (by simp) [.int .i64 0, .int .i64 0, .int .i64 0, .bool false, .slice none 0 0] 39)
  have HC := Lib.hid (Kd.C_below hC HS.out.below)
  clear hC hs hl hM
  go_enter Try.func42, Try.ntmps42
  go_wp2_with fail
  refine (CV.out _ HC.out hn).mono ?_
  rintro en w1 ⟨rfl, hb⟩
  have H1 := Lib.hid (HS.out.of_below hb)
  clear HS hb
  obtain ⟨x0, x1, x2, x3, x4⟩ := H1.out.cells5 mm2
  obtain ⟨y0, y1, y2⟩ := H1.out.cells3 mm1
  go_wp2_with fail
  refine (CT.out _).mono ?_
  rintro en w2 ⟨rfl, hb⟩
  have H2 := Lib.hid (H1.out.of_below hb)
  clear H1 hb x0 x1 x2 x3 x4 y0 y1 y2
  obtain ⟨x0, x1, x2, x3, x4⟩ := H2.out.cells5 mm2
  obtain ⟨y0, y1, y2⟩ := H2.out.cells3 mm1
  go_wp2_with fail
  refine (CWI.out _).mono ?_
  rintro en w3 ⟨rfl, hb⟩
  have H3 := Lib.hid (H2.out.of_below hb)
  clear H2 hb x0 x1 x2 x3 x4 y0 y1 y2
  obtain ⟨x0, x1, x2, x3, x4⟩ := H3.out.cells5 mm2
  obtain ⟨y0, y1, y2⟩ := H3.out.cells3 mm1
  go_wp2_with fail
  refine (CL.out _).mono ?_
  rintro en w4 ⟨rfl, hb⟩
  have H4 := Lib.hid (H3.out.of_below hb)
  clear H3 hb x0 x1 x2 x3 x4 y0 y1 y2
  obtain ⟨d0, d1, d2, d3, d4⟩ := H4.out.cells5 mm0
  obtain ⟨y0, y1, y2⟩ := H4.out.cells3 mm1
  have fr0 := H4.out.frozen 0
  have fr1 := H4.out.frozen 1
  have fr2 := H4.out.frozen 2
  have fr3 := H4.out.frozen 3
  have fr4 := H4.out.frozen 4
  go_wp2_with fail
  have h3 := (((((H4.out).setCell 0 (.int .i64 0)).setCell 1 (.int .i64 0)).setCell 2 (.int .i64 0)).setCell 3 (.bool false)).setCell 4 (.slice none 0 0)
  have h4 := h3.blk_at
  exact bodyPost_ret (results_ct rfl _ _ (w.heap.size + 2) 39 #[.int .i64 0, .int .i64 0, .int .i64 0, .bool false, .slice none 0 0] (0, 0) _ rfl h4 Try.underlying39 rfl (by kernel_rfl)) rfl ⟨_, rfl, (h3.drop.drop.drop).matNil _ _ _⟩
set_option maxHeartbeats 4000000 in
set_option maxRecDepth 100000 in
theorem rpaste_size (hv : valF W H D A l = 0) (hp : 0 ≤ p ∧ p < plN A) (ho : liesIn x y bw bh (wd W p) H) (hz : (b.length : Int) ≠ bw * bh) : Calls Try.prog 42 #[.agg #[.int .i64 W, .int .i64 H, .int .i64 D, .bool A, .slice A0 l.length n], .int .i64 p, .int .i64 x, .int .i64 y, .agg #[.int .i64 bw, .int .i64 bh, .slice Ab b.length bn]] w (rcutPost w 0 0 0 false [] 63) := by
  have hM : ∀ x ∈ l, x.length ≤ 140737488355328 := fun x hx => by have := hl x hx; omega
  have hok := ok_of_valF hv
  have hW := hok.shape.1
  have hH := hok.shape.2.1
  obtain ⟨wp, hwp⟩ : ∃ q, wd W p = q := ⟨_, rfl⟩
  have CV := Lib.hid (fun (w : World) hr hc => dailiesref06_Valid.calls (0 + 140737488355328 + 14) W H D A A0 n l 0 w hr hc (by rw [rvalid_f W H D A l _ hM (Nat.le_refl _) hs 0, hv]))
  have CT := Lib.hid (fun (w : World) => dailiesref06_there.calls W H D A p true w (by rw [rthere_d, decide_eq_true hp]))
  have CWI := Lib.hid (fun (w : World) => dailiesref06_wide.calls W H D A p wp w (by rw [rwide_f p (by omega) (by omega), hwp]))
  have CL := Lib.hid (fun (w : World) => dailiesref06_lies.calls x y bw bh wp H true w (by rw [← hwp, rlies_f x y bw bh (by have := wd_bd (p := p) hW.1 hW.2; omega) (by omega), decide_eq_true ho]))
  obtain ⟨z, hz2⟩ : ∃ q, bw * bh = q := ⟨_, rfl⟩
  have hwz : wrap64 z = z := by
    have h := ho
    have := wd_bd (p := p) hW.1 hW.2
    unfold liesIn at h
    have := mul_bd (a := bw) (b := bh) (m := 4096) (n := 4096) (by omega) (by omega) (by omega) (by omega)
    rw [hz2] at this
    exact w64 (by omega) (by omega)
  rw [hz2] at hz
  have hne : ((b.length : Int) != z) = true := by simpa using hz
  clear hv hp ho hwp hok hW hH hz
  have HS := Lib.hid ((((St.top w).alloc' rfl [.int .i64 W, .int .i64 H, .int .i64 D, .bool A, .slice A0 l.length n] 39).alloc' (n := w.heap.size + 1) (by simp) [.int .i64 bw, .int .i64 bh, .slice Ab b.length bn] 55).alloc' (n := w.heap.size + 2) (by simp) [.int .i64 0, .int .i64 0, .int .i64 0, .bool false, .slice none 0 0] 39)
  have HC := Lib.hid (Kd.C_below hC HS.out.below)
  clear hC hs hl hM
  go_enter Try.func42, Try.ntmps42
  go_wp2_with fail
  refine (CV.out _ HC.out hn).mono ?_
  rintro en w1 ⟨rfl, hb⟩
  have H1 := Lib.hid (HS.out.of_below hb)
  clear HS hb
  obtain ⟨x0, x1, x2, x3, x4⟩ := H1.out.cells5 mm2
  obtain ⟨y0, y1, y2⟩ := H1.out.cells3 mm1
  go_wp2_with fail
  refine (CT.out _).mono ?_
  rintro en w2 ⟨rfl, hb⟩
  have H2 := Lib.hid (H1.out.of_below hb)
  clear H1 hb x0 x1 x2 x3 x4 y0 y1 y2
  obtain ⟨x0, x1, x2, x3, x4⟩ := H2.out.cells5 mm2
  obtain ⟨y0, y1, y2⟩ := H2.out.cells3 mm1
  go_wp2_with fail
  refine (CWI.out _).mono ?_
  rintro en w3 ⟨rfl, hb⟩
  have H3 := Lib.hid (H2.out.of_below hb)
  clear H2 hb x0 x1 x2 x3 x4 y0 y1 y2
  obtain ⟨x0, x1, x2, x3, x4⟩ := H3.out.cells5 mm2
  obtain ⟨y0, y1, y2⟩ := H3.out.cells3 mm1
  go_wp2_with fail
  refine (CL.out _).mono ?_
  rintro en w4 ⟨rfl, hb⟩
  have H4 := Lib.hid (H3.out.of_below hb)
  clear H3 hb x0 x1 x2 x3 x4 y0 y1 y2
  obtain ⟨d0, d1, d2, d3, d4⟩ := H4.out.cells5 mm0
  obtain ⟨y0, y1, y2⟩ := H4.out.cells3 mm1
  have fr0 := H4.out.frozen 0
  have fr1 := H4.out.frozen 1
  have fr2 := H4.out.frozen 2
  have fr3 := H4.out.frozen 3
  have fr4 := H4.out.frozen 4
  go_wp2_with fail
  have h3 := (((((H4.out).setCell 0 (.int .i64 0)).setCell 1 (.int .i64 0)).setCell 2 (.int .i64 0)).setCell 3 (.bool false)).setCell 4 (.slice none 0 0)
  have h4 := h3.blk_at
  exact bodyPost_ret (results_ct rfl _ _ (w.heap.size + 2) 39 #[.int .i64 0, .int .i64 0, .int .i64 0, .bool false, .slice none 0 0] (0, 0) _ rfl h4 Try.underlying39 rfl (by kernel_rfl)) rfl ⟨_, rfl, (h3.drop.drop.drop).matNil _ _ _⟩
set_option maxHeartbeats 4000000 in
set_option maxRecDepth 100000 in
theorem rpaste_low (hv : valF W H D A l = 0) (hp : 0 ≤ p ∧ p < plN A) (ho : liesIn x y bw bh (wd W p) H) (hz : (b.length : Int) = bw * bh) (hCb : Kd.C (Kd.int .u16) w Ab b.length b) (hbn : b.length ≤ bn) (hbs : ∀ v ∈ b, 0 ≤ v ∧ v ≤ 65535) (hlow : bigIn D b = true) : Calls Try.prog 42 #[.agg #[.int .i64 W, .int .i64 H, .int .i64 D, .bool A, .slice A0 l.length n], .int .i64 p, .int .i64 x, .int .i64 y, .agg #[.int .i64 bw, .int .i64 bh, .slice Ab b.length bn]] w (rcutPost w 0 0 0 false [] 64) := by
  have hM : ∀ x ∈ l, x.length ≤ 140737488355328 := fun x hx => by have := hl x hx; omega
  have hok := ok_of_valF hv
  have hW := hok.shape.1
  have hH := hok.shape.2.1
  obtain ⟨wp, hwp⟩ : ∃ q, wd W p = q := ⟨_, rfl⟩
  have CV := Lib.hid (fun (w : World) hr hc => dailiesref06_Valid.calls (0 + 140737488355328 + 14) W H D A A0 n l 0 w hr hc (by rw [rvalid_f W H D A l _ hM (Nat.le_refl _) hs 0, hv]))
  have CT := Lib.hid (fun (w : World) => dailiesref06_there.calls W H D A p true w (by rw [rthere_d, decide_eq_true hp]))
  have CWI := Lib.hid (fun (w : World) => dailiesref06_wide.calls W H D A p wp w (by rw [rwide_f p (by omega) (by omega), hwp]))
  have CL := Lib.hid (fun (w : World) => dailiesref06_lies.calls x y bw bh wp H true w (by rw [← hwp, rlies_f x y bw bh (by have := wd_bd (p := p) hW.1 hW.2; omega) (by omega), decide_eq_true ho]))
  obtain ⟨z, hz2⟩ : ∃ q, bw * bh = q := ⟨_, rfl⟩
  have hwz : wrap64 z = z := by
    have h := ho
    have := wd_bd (p := p) hW.1 hW.2
    unfold liesIn at h
    have := mul_bd (a := bw) (b := bh) (m := 4096) (n := 4096) (by omega) (by omega) (by omega) (by omega)
    rw [hz2] at this
    exact w64 (by omega) (by omega)
  have hbl : b.length ≤ 16777216 := by
    have h := ho
    have := wd_bd (p := p) hW.1 hW.2
    unfold liesIn at h
    have := mul_bd (a := bw) (b := bh) (m := 4096) (n := 4096) (by omega) (by omega) (by omega) (by omega)
    omega
  have CB := Lib.hid (fun (w : World) hr => dailiesref06_beyond.calls (b.length + 1) Ab bn b D true w hr hbn (by
    have hb := beyond_l0 hok.shape.2.2.1 b hbs (by omega) b.length (b.length + 1) 0 (by omega) (by omega)
    have hb' : dailiesref06_beyond.f (b.length + 1) b D = some (bigIn D b) := hb
    rw [hb', hlow]))
  rw [hz2] at hz
  have hne : ((b.length : Int) != z) = false := by simpa using hz
  have HCB := Lib.hid hCb
  clear hv hp ho hwp hok hW hH hz hCb hlow
  have HS := Lib.hid ((((St.top w).alloc' rfl [.int .i64 W, .int .i64 H, .int .i64 D, .bool A, .slice A0 l.length n] 39).alloc' (n := w.heap.size + 1) (by simp) [.int .i64 bw, .int .i64 bh, .slice Ab b.length bn] 55).alloc' (n := w.heap.size + 2) (by simp) [.int .i64 0, .int .i64 0, .int .i64 0, .bool false, .slice none 0 0] 39)
  have HC := Lib.hid (Kd.C_below hC HS.out.below)
  clear hC hs hl hM
  go_enter Try.func42, Try.ntmps42
  go_wp2_with fail
  refine (CV.out _ HC.out hn).mono ?_
  rintro en w1 ⟨rfl, hb⟩
  have H1 := Lib.hid (HS.out.of_below hb)
  clear HS hb
  obtain ⟨x0, x1, x2, x3, x4⟩ := H1.out.cells5 mm2
  obtain ⟨y0, y1, y2⟩ := H1.out.cells3 mm1
  go_wp2_with fail
  refine (CT.out _).mono ?_
  rintro en w2 ⟨rfl, hb⟩
  have H2 := Lib.hid (H1.out.of_below hb)
  clear H1 hb x0 x1 x2 x3 x4 y0 y1 y2
  obtain ⟨x0, x1, x2, x3, x4⟩ := H2.out.cells5 mm2
  obtain ⟨y0, y1, y2⟩ := H2.out.cells3 mm1
  go_wp2_with fail
  refine (CWI.out _).mono ?_
  rintro en w3 ⟨rfl, hb⟩
  have H3 := Lib.hid (H2.out.of_below hb)
  clear H2 hb x0 x1 x2 x3 x4 y0 y1 y2
  obtain ⟨x0, x1, x2, x3, x4⟩ := H3.out.cells5 mm2
  obtain ⟨y0, y1, y2⟩ := H3.out.cells3 mm1
  go_wp2_with fail
  refine (CL.out _).mono ?_
  rintro en w4 ⟨rfl, hb⟩
  have H4 := Lib.hid (H3.out.of_below hb)
  clear H3 hb x0 x1 x2 x3 x4 y0 y1 y2
  obtain ⟨x0, x1, x2, x3, x4⟩ := H4.out.cells5 mm2
  obtain ⟨y0, y1, y2⟩ := H4.out.cells3 mm1
  go_wp2_with fail
  refine (CB.out _ (Kd.C_below HCB.out H4.out.below)).mono ?_
  rintro en w5 ⟨rfl, hb⟩
  have H5 := Lib.hid (H4.out.of_below hb.below)
  clear H4 hb x0 x1 x2 x3 x4 y0 y1 y2
  obtain ⟨d0, d1, d2, d3, d4⟩ := H5.out.cells5 mm0
  obtain ⟨y0, y1, y2⟩ := H5.out.cells3 mm1
  have fr0 := H5.out.frozen 0
  have fr1 := H5.out.frozen 1
  have fr2 := H5.out.frozen 2
  have fr3 := H5.out.frozen 3
  have fr4 := H5.out.frozen 4
  go_wp2_with fail
  have h3 := (((((H5.out).setCell 0 (.int .i64 0)).setCell 1 (.int .i64 0)).setCell 2 (.int .i64 0)).setCell 3 (.bool false)).setCell 4 (.slice none 0 0)
  have h4 := h3.blk_at
  exact bodyPost_ret (results_ct rfl _ _ (w.heap.size + 2) 39 #[.int .i64 0, .int .i64 0, .int .i64 0, .bool false, .slice none 0 0] (0, 0) _ rfl h4 Try.underlying39 rfl (by kernel_rfl)) rfl ⟨_, rfl, (h3.drop.drop.drop).matNil _ _ _⟩
end
end Go.Proofs.Ytdoikehkibefpaa

/-! The reference's Paste: the good end. -/
namespace Go.Proofs.Ytdoikehkibefpaa
set_option linter.unusedSimpArgs false
set_option linter.unusedVariables false
open Go Go.RowKit Go.Proofs.Ytdoikehkibefpaa.PPb Go.Proofs.YtdoikehkibefpaaW.PrintWords Go.Proofs.YtdoikehkibefpaaW.PrintLast

section
variable (w : World) (W H D : Int) (A : Bool) (A0 : Option Addr) (n : Nat) (l : List (List Int)) (p x y bw bh : Int) (Ab : Option Addr) (bn : Nat) (b : List Int) (hC : Kd.C (Kd.slice 72 (Kd.int .u16)) w A0 l.length l) (hn : l.length ≤ n) (hs : smp l) (hl : ∀ x ∈ l, x.length * 2 ≤ 140737488351232)
include hC hn hs hl
set_option maxHeartbeats 4000000 in
set_option maxRecDepth 100000 in
theorem rpaste_good (p x y bw bh : Nat) (hv : valF W H D A l = 0) (hp : 0 ≤ (p : Int) ∧ (p : Int) < plN A) (ho : liesIn x y bw bh (wd W p) H) (hz : (b.length : Int) = bw * bh) (hCb : Kd.C (Kd.int .u16) w Ab b.length b) (hbn : b.length ≤ bn) (hbs : ∀ v ∈ b, 0 ≤ v ∧ v ≤ 65535) (hlow : bigIn D b = false) : Calls Try.prog 42 #[.agg #[.int .i64 W, .int .i64 H, .int .i64 D, .bool A, .slice A0 l.length n], .int .i64 p, .int .i64 x, .int .i64 y, .agg #[.int .i64 bw, .int .i64 bh, .slice Ab b.length bn]] w (rcutPost w W H D A (l.set p (psk (l.getD p []) b (wd W p).toNat x y bw b.length)) 0) := by
  have hM : ∀ x ∈ l, x.length ≤ 140737488355328 := fun x hx => by have := hl x hx; omega
  have hok := ok_of_valF hv
  have hW := hok.shape.1
  have hH := hok.shape.2.1
  obtain ⟨wp, hwp⟩ : ∃ q, wd W p = q := ⟨_, rfl⟩
  have CV := Lib.hid (fun (w : World) hr hc => dailiesref06_Valid.calls (0 + 140737488355328 + 14) W H D A A0 n l 0 w hr hc (by rw [rvalid_f W H D A l _ hM (Nat.le_refl _) hs 0, hv]))
  have CT := Lib.hid (fun (w : World) => dailiesref06_there.calls W H D A p true w (by rw [rthere_d, decide_eq_true hp]))
  have CWI := Lib.hid (fun (w : World) => dailiesref06_wide.calls W H D A p wp w (by rw [rwide_f p (by omega) (by omega), hwp]))
  have CL := Lib.hid (fun (w : World) => dailiesref06_lies.calls x y bw bh wp H true w (by rw [← hwp, rlies_f x y bw bh (by have := wd_bd (p := p) hW.1 hW.2; omega) (by omega), decide_eq_true ho]))
  obtain ⟨z, hz2⟩ : ∃ q, (bw : Int) * (bh : Int) = q := ⟨_, rfl⟩
  have hwz : wrap64 z = z := by
    have h := ho
    have := wd_bd (p := p) hW.1 hW.2
    unfold liesIn at h
    have := mul_bd (a := (bw : Int)) (b := (bh : Int)) (m := 4096) (n := 4096) (by omega) (by omega) (by omega) (by omega)
    rw [hz2] at this
    exact w64 (by omega) (by omega)
  have hbl : b.length ≤ 16777216 := by
    have h := ho
    have := wd_bd (p := p) hW.1 hW.2
    unfold liesIn at h
    have := mul_bd (a := (bw : Int)) (b := (bh : Int)) (m := 4096) (n := 4096) (by omega) (by omega) (by omega) (by omega)
    omega
  have CB := Lib.hid (fun (w : World) hr => dailiesref06_beyond.calls (b.length + 1) Ab bn b D false w hr hbn (by
    have hb := beyond_l0 hok.shape.2.2.1 b hbs (by omega) b.length (b.length + 1) 0 (by omega) (by omega)
    have hb' : dailiesref06_beyond.f (b.length + 1) b D = some (bigIn D b) := hb
    rw [hb', hlow]))
  have CC := Lib.hid (fun (w : World) hr => dailiesref06_copied.calls (l.length + 1) W H D A A0 n l W H D A l w hr hn (copied_f W H D A l (by have := hok.len; have := plN_le A; omega) (fun x hx => by
    obtain ⟨i, hi, rfl⟩ := List.getElem_of_mem hx
    have hr := rows_at hok.rows hW hH i hi
    have hwd := wd_bd (p := (i : Int)) hW.1 hW.2
    have e : l.getD i [] = l[i] := by simp [List.getD_eq_getElem?_getD, hi]
    rw [← e, hr]
    exact Nat.le_trans (Nat.mul_le_mul (show (wd W i).toNat ≤ 4096 by omega) (show H.toNat ≤ 4096 by omega)) (by decide))))
  rw [hz2] at hz
  have hne : ((b.length : Int) != z) = false := by simpa using hz
  have HCB := Lib.hid hCb
  have HC0 := Lib.hid hC
  have hpl : p < l.length := by have := hok.len; omega
  obtain ⟨PL, hPL⟩ : ∃ q, l.getD p [] = q := ⟨_, rfl⟩
  obtain ⟨wN, hwN⟩ : ∃ q, (wd W p).toNat = q := ⟨_, rfl⟩
  have hfit : 0 < bw ∧ x + bw ≤ wN ∧ (y + bh) * wN ≤ PL.length ∧ PL.length ≤ 16777216 ∧ (wN : Int) = wp ∧ wN ≤ 4096 ∧ y + bh ≤ 4096 ∧ 0 < bh := by
    have h := ho
    have hwd := wd_bd (p := (p : Int)) hW.1 hW.2
    unfold liesIn at h
    have hr := rows_at hok.rows hW hH p hpl
    rw [hPL, hwN] at hr
    refine ⟨by omega, by omega, ?_, ?_, by omega, by omega, by omega, by omega⟩
    · rw [hr, Nat.mul_comm wN]; exact Nat.mul_le_mul_right _ (by omega)
    · rw [hr]; exact Nat.le_trans (Nat.mul_le_mul (show wN ≤ 4096 by omega) (show H.toNat ≤ 4096 by omega)) (by decide)
  have hbl2 : b.length = bw * bh := by exact_mod_cast hz2 ▸ hz
  rw [hPL, hwN]
  have HBL := Lib.hid hbl2
  have HPL := Lib.hid hPL
  have HFIT := Lib.hid hfit
  clear hv hp ho hwp hW hH hz hCb hlow hok hbl2 hPL hwN hfit
  have HS := Lib.hid ((((St.top w).alloc' rfl [.int .i64 W, .int .i64 H, .int .i64 D, .bool A, .slice A0 l.length n] 39).alloc' (n := w.heap.size + 1) (by simp) [.int .i64 bw, .int .i64 bh, .slice Ab b.length bn] 55).alloc' (n := w.heap.size + 2) (by simp) [.int .i64 0, .int .i64 0, .int .i64 0, .bool false, .slice none 0 0] 39)
  have HC := Lib.hid (Kd.C_below hC HS.out.below)
  clear hC hs hl hM
  go_enter Try.func42, Try.ntmps42
  go_wp2_with fail
  refine (CV.out _ HC.out hn).mono ?_
  rintro en w1 ⟨rfl, hb⟩
  have H1 := Lib.hid (HS.out.of_below hb)
  clear HS hb
  obtain ⟨x0, x1, x2, x3, x4⟩ := H1.out.cells5 mm2
  obtain ⟨y0, y1, y2⟩ := H1.out.cells3 mm1
  go_wp2_with fail
  refine (CT.out _).mono ?_
  rintro en w2 ⟨rfl, hb⟩
  have H2 := Lib.hid (H1.out.of_below hb)
  clear H1 hb x0 x1 x2 x3 x4 y0 y1 y2
  obtain ⟨x0, x1, x2, x3, x4⟩ := H2.out.cells5 mm2
  obtain ⟨y0, y1, y2⟩ := H2.out.cells3 mm1
  go_wp2_with fail
  refine (CWI.out _).mono ?_
  rintro en w3 ⟨rfl, hb⟩
  have H3 := Lib.hid (H2.out.of_below hb)
  clear H2 hb x0 x1 x2 x3 x4 y0 y1 y2
  obtain ⟨x0, x1, x2, x3, x4⟩ := H3.out.cells5 mm2
  obtain ⟨y0, y1, y2⟩ := H3.out.cells3 mm1
  go_wp2_with fail
  refine (CL.out _).mono ?_
  rintro en w4 ⟨rfl, hb⟩
  have H4 := Lib.hid (H3.out.of_below hb)
  clear H3 hb x0 x1 x2 x3 x4 y0 y1 y2
  obtain ⟨x0, x1, x2, x3, x4⟩ := H4.out.cells5 mm2
  obtain ⟨y0, y1, y2⟩ := H4.out.cells3 mm1
  go_wp2_with fail
  refine (CB.out _ (Kd.C_below HCB.out H4.out.below)).mono ?_
  rintro en w5 ⟨rfl, hb⟩
  have H5 := Lib.hid (H4.out.of_below hb.below)
  clear H4 hb x0 x1 x2 x3 x4 y0 y1 y2
  obtain ⟨x0, x1, x2, x3, x4⟩ := H5.out.cells5 mm2
  obtain ⟨y0, y1, y2⟩ := H5.out.cells3 mm1
  go_wp2_with fail
  refine (CC.out _ (Kd.C_below HC0.out H5.out.below)).mono ?_
  rintro en w6 ⟨v4, rfl, hR, hb⟩
  have hm := H5.out.of_S hb hR
  obtain ⟨P4, n4, rfl, -, -⟩ := hm.matC
  have H6 := Lib.hid (hm.alloc' rfl [.int .i64 W, .int .i64 H, .int .i64 D, .bool A, .slice P4 l.length n4] 39)
  clear H5 hb hR hm x0 x1 x2 x3 x4 y0 y1 y2
  obtain ⟨gv, cp, g, cap, E, hv4, -, -, -, -⟩ := H6.out.swap.matPick p hpl (by rw [HPL.out]; have := HFIT.out; have : 0 < (y + bh) * wN := Nat.mul_pos (by omega) (by omega); omega)
  cases hv4
  go_wp2_with fail
  generalize w6.heap.size = gF at *
  go_loopw [18] (fun v w' => ∃ (k : Nat), v = .int .i64 (k : Nat) ∧ k ≤ b.length ∧ Hid (St (top w) (blk gF [.int .i64 W, .int .i64 H, .int .i64 D, .bool A, .slice (some ⟨gv, 0, none⟩) l.length n4] 39 :: mat 53 72 .u16 (.slice (some ⟨gv, 0, none⟩) l.length n4) (l.set p (psk PL b wN x y bw k)) :: blk (w.heap.size + 2) [.int .i64 0, .int .i64 0, .int .i64 0, .bool false, .slice none 0 0] 39 :: blk (w.heap.size + 1) [.int .i64 bw, .int .i64 bh, .slice Ab b.length bn] 55 :: blk w.heap.size [.int .i64 W, .int .i64 H, .int .i64 D, .bool A, .slice A0 l.length n] 39 :: []) w')) (fun v _ => b.length - (intOf v).toNat)
  case atStart => exact ⟨0, rfl, by omega, by
    have e : l.set p (psk PL b wN x y bw 0) = l := by
      rw [← HPL.out]
      show l.set p (l.getD p []) = l
      simp [List.getD_eq_getElem?_getD, hpl]
    rw [e]; exact H6⟩
  case round =>
    obtain ⟨k, rfl, hk, hS⟩ := hrel
    by_cases hkl : k < b.length
    · obtain ⟨hb0, hxw, hyl, hP, hwp, hw4, hy4, hbh⟩ := HFIT.out
      obtain ⟨q, hq⟩ : ∃ q, k / bw = q := ⟨_, rfl⟩
      obtain ⟨r, hr⟩ : ∃ r, k % bw = r := ⟨_, rfl⟩
      have hrb : r < bw := by rw [← hr]; exact Nat.mod_lt _ hb0
      have hqb : q < bh := by rw [← hq]; exact Nat.div_lt_of_lt_mul (by rw [← HBL.out]; exact hkl)
      have hid1 : (y + q) * wN + wN ≤ (y + bh) * wN := by
        rw [show (y + q) * wN + wN = (y + q + 1) * wN by rw [Nat.add_mul (y + q) 1, Nat.one_mul]]
        exact Nat.mul_le_mul_right _ (by omega)
      obtain ⟨m, hm⟩ : ∃ m, (y + q) * wN = m := ⟨_, rfl⟩
      have hpk : (psk PL b wN x y bw k).length = PL.length := psk_len ..
      have HDV : Hid ((k : Int) / (bw : Int) = (q : Int) ∧ Int.tmod (k : Int) (bw : Int) = (r : Int)) := ⟨by rw [← hq]; rfl, by rw [Int.tmod_eq_emod_of_nonneg (by omega), ← hr]; rfl⟩
      have hself : (l.set p (psk PL b wN x y bw k)).getD p [] = psk PL b wN x y bw k := by simp [List.getD_eq_getElem?_getD, hpl]
      have hpos : 0 < PL.length := by omega
      have hS0 := hS.out.drew
      have hS1 := hS0.swap
      obtain ⟨gv2, cp2, g2, cap2, E2, hv, hcap, hcell, hrow, hback⟩ := hS1.matPick p (by rw [List.length_set]; exact hpl) (by rw [hself, hpk]; exact hpos)
      rw [List.length_set] at hv
      cases hv
      rw [hself, hpk] at hcap hcell hrow hback
      have hii : m + x + r < PL.length := by omega
      obtain ⟨g3, cap3, e3, -, -, hcells, hfro⟩ := hrow.rowAt hpos
      cases e3
      have hold := hcells (m + x + r) (by omega)
      rw [nums_at _ _ _ (by rw [hpk]; exact hii)] at hold
      have hfr := hfro (m + x + r)
      have hnew := hrow.setRow (m + x + r) (.int .u16 (b.getD k 0))
      rw [nums_set] at hnew
      have hz1 := hback _ _ (by rw [List.length_set, hpk]) hnew
      rw [List.set_set] at hz1
      have hstep : (psk PL b wN x y bw k).set (m + x + r) (b.getD k 0) = psk PL b wN x y bw (k + 1) := by rw [psk, hq, hr, hm]
      rw [hstep] at hz1
      have HZ := Lib.hid hz1.swap
      obtain ⟨bb, bo, hA, hbc⟩ := C_reads HCB.out (by omega)
      subst hA
      have hbk := top_cell hS0 (hbc k hkl)
      obtain ⟨bv, hbv⟩ : ∃ q, b.getD k 0 = q := ⟨_, rfl⟩
      rw [hbv] at hbk HZ
      have x4 := St.cells_mem hS0 mm0 4
      have y0 := St.cells_mem hS0 mm3 0
      have y2 := St.cells_mem hS0 mm3 2
      simp only [List.getElem?_cons_zero, List.getElem?_cons_succ] at x4 y0 y2
      obtain ⟨a1, ha1⟩ : ∃ a, y + q = a := ⟨_, rfl⟩
      obtain ⟨a2, ha2⟩ : ∃ a, m + x = a := ⟨_, rfl⟩
      obtain ⟨ix, hix⟩ : ∃ a, m + x + r = a := ⟨_, rfl⟩
      rw [hix] at hold hfr HZ hii
      rw [ha1] at hm
      have hml : m ≤ 16777216 := by omega
      have B1 : a1 ≤ 10000 := by omega
      have B2 : a2 ≤ 20000000 := by omega
      have B3 : ix ≤ 20000000 := by omega
      have B4 : q ≤ 5000 := by omega
      have B5 : r ≤ 5000 := by omega
      have E2 : (y : Int) + (q : Int) = (a1 : Int) := by omega
      have E3 : (a1 : Int) * wp = (m : Int) := by rw [← hwp, ← hm]; exact (Int.natCast_mul a1 wN).symm
      have E4 : (m : Int) + (x : Int) = (a2 : Int) := by omega
      have E5 : (a2 : Int) + (r : Int) = (ix : Int) := by omega
      have b1 : (0 : Int) ≤ (ix : Int) := by omega
      have b2 : (ix : Int) < PL.length := by omega
      have b3 : (0 : Int) ≤ (p : Int) := by omega
      have b4 : (p : Int) < l.length := by omega
      have b5 : ¬ bw = 0 := by omega
      have t1 : (0 : Int) ≤ (k : Int) := by omega
      have t2 : (k : Int) < b.length := by omega
      have HWW : Hid (wrap64 (q : Int) = (q : Int) ∧ wrap64 (r : Int) = (r : Int) ∧ wrap64 (a1 : Int) = (a1 : Int) ∧ wrap64 (m : Int) = (m : Int) ∧ wrap64 (a2 : Int) = (a2 : Int) ∧ wrap64 (ix : Int) = (ix : Int)) := ⟨w64 (by omega) (by omega), w64 (by omega) (by omega), w64 (by omega) (by omega), w64 (by omega) (by omega), w64 (by omega) (by omega), w64 (by omega) (by omega)⟩
      have z2 : wr.cell? ⟨w.heap.size + 1, 2, none⟩ = some (.slice (some ⟨bb, bo, none⟩) b.length bn) := St.cells_mem hS.out mm3 2
      clear hS hS1 hback hrow hnew hz1 hcells hpk hself hstep hpos hid1 H6
      go_wp2_with fail
      clear z2
      obtain ⟨W1, W2, W3, W4, W5, W6⟩ := HWW.out
      obtain ⟨e1, e2⟩ := HDV.out
      refine start_ (n := 27) (S := fun w' => w'.cell? ⟨gF, 4, none⟩ = some (.slice (some ⟨gv, 0, none⟩) l.length n4) ∧ w'.cell? ⟨gv, p, none⟩ = some (.slice (some ⟨g2, 0, none⟩) PL.length cap2) ∧ w'.cell? ⟨w.heap.size + 1, 0, none⟩ = some (.int .i64 (bw : Nat)) ∧ w'.cell? ⟨w.heap.size + 1, 2, none⟩ = some (.slice (some ⟨bb, bo, none⟩) b.length bn) ∧ w'.cell? ⟨bb, bo + k, none⟩ = some (.int .u16 bv)) (ds := [26]) #[false, false, false, false, false, false, false, false, false, false, false, false, false, false, false, false, false, false, false, false, false, false, false, false, false, false, false] (by kernel_rfl) rfl rfl ⟨x4, hcell, y0, y2, hbk⟩ (fun hHeld => ?_)
      refine pu 0 78 #[true, false, false, false, false, false, false, false, false, false, false, false, false, false, false, false, false, false, false, false, false, false, false, false, false, false, false] ?_
      refine pu 2 80 #[true, false, true, false, false, false, false, false, false, false, false, false, false, false, false, false, false, false, false, false, false, false, false, false, false, false, false] ?_
      refine pu 5 83 #[true, false, true, false, false, true, false, false, false, false, false, false, false, false, false, false, false, false, false, false, false, false, false, false, false, false, false] ?_
      refine pu 6 84 #[true, false, true, false, false, true, true, false, false, false, false, false, false, false, false, false, false, false, false, false, false, false, false, false, false, false, false] ?_
      refine pu 7 85 #[true, false, true, false, false, true, true, true, false, false, false, false, false, false, false, false, false, false, false, false, false, false, false, false, false, false, false] ?_
      refine pu 11 89 #[true, false, true, false, false, true, true, true, false, false, false, true, false, false, false, false, false, false, false, false, false, false, false, false, false, false, false] ?_
      refine pu 13 91 #[true, false, true, false, false, true, true, true, false, false, false, true, false, true, false, false, false, false, false, false, false, false, false, false, false, false, false] ?_
      refine pu 15 93 #[true, false, true, false, false, true, true, true, false, false, false, true, false, true, false, true, false, false, false, false, false, false, false, false, false, false, false] ?_
      refine pu 16 94 #[true, false, true, false, false, true, true, true, false, false, false, true, false, true, false, true, true, false, false, false, false, false, false, false, false, false, false] ?_
      refine pu 20 98 #[true, false, true, false, false, true, true, true, false, false, false, true, false, true, false, true, true, false, false, false, true, false, false, false, false, false, false] ?_
      refine pu 22 100 #[true, false, true, false, false, true, true, true, false, false, false, true, false, true, false, true, true, false, false, false, true, false, true, false, false, false, false] ?_
      refine ta 1 79 #[true, true, true, false, false, true, true, true, false, false, false, true, false, true, false, true, true, false, false, false, true, false, true, false, false, false, false] hHeld ?_
      refine pu 3 81 #[true, true, true, true, false, true, true, true, false, false, false, true, false, true, false, true, true, false, false, false, true, false, true, false, false, false, false] ?_
      refine ta 4 82 #[true, true, true, true, true, true, true, true, false, false, false, true, false, true, false, true, true, false, false, false, true, false, true, false, false, false, false] hHeld ?_
      refine ta 8 86 #[true, true, true, true, true, true, true, true, true, false, false, true, false, true, false, true, true, false, false, false, true, false, true, false, false, false, false] hHeld ?_
      refine pu 9 87 #[true, true, true, true, true, true, true, true, true, true, false, true, false, true, false, true, true, false, false, false, true, false, true, false, false, false, false] ?_
      refine pu 10 88 #[true, true, true, true, true, true, true, true, true, true, true, true, false, true, false, true, true, false, false, false, true, false, true, false, false, false, false] ?_
      refine pu 12 90 #[true, true, true, true, true, true, true, true, true, true, true, true, true, true, false, true, true, false, false, false, true, false, true, false, false, false, false] ?_
      refine pu 14 92 #[true, true, true, true, true, true, true, true, true, true, true, true, true, true, true, true, true, false, false, false, true, false, true, false, false, false, false] ?_
      refine ta 17 95 #[true, true, true, true, true, true, true, true, true, true, true, true, true, true, true, true, true, true, false, false, true, false, true, false, false, false, false] hHeld ?_
      refine pu 18 96 #[true, true, true, true, true, true, true, true, true, true, true, true, true, true, true, true, true, true, true, false, true, false, true, false, false, false, false] ?_
      refine pu 19 97 #[true, true, true, true, true, true, true, true, true, true, true, true, true, true, true, true, true, true, true, true, true, false, true, false, false, false, false] ?_
      refine ta 21 99 #[true, true, true, true, true, true, true, true, true, true, true, true, true, true, true, true, true, true, true, true, true, true, true, false, false, false, false] hHeld ?_
      refine pu 23 101 #[true, true, true, true, true, true, true, true, true, true, true, true, true, true, true, true, true, true, true, true, true, true, true, true, false, false, false] ?_
      refine ta 24 102 #[true, true, true, true, true, true, true, true, true, true, true, true, true, true, true, true, true, true, true, true, true, true, true, true, true, false, false] hHeld ?_
      refine pu 25 103 #[true, true, true, true, true, true, true, true, true, true, true, true, true, true, true, true, true, true, true, true, true, true, true, true, true, true, false] ?_
      refine last_ (i := 26) (N := none) #[true, true, true, true, true, true, true, true, true, true, true, true, true, true, true, true, true, true, true, true, true, true, true, true, true, true, true] rfl rfl (by kernel_rfl) (by decide) (fun K hK => ?_)
      refine skip_ (w1 := ?_) (by rfl) rfl ?_ ?_
      rotate_left
      · go_simp
        rfl
      refine hK.out _ _ ?_
      clear hK K
      refine done_ (by kernel_rfl) ?_
      go_wp2_with fail
      go_roundw
      case rel => exact ⟨k + 1, by go_num, by omega, HZ⟩
      case measure => simp [intOf]; omega
    · have hkl : k = b.length := by omega
      subst hkl
      have H0 := hS
      clear hS H6
      have y2 := St.cells_mem H0.out mm3 2
      obtain ⟨f0, f1, f2, f3, f4⟩ := H0.out.cells5 mm0
      obtain ⟨d0, d1, d2, d3, d4⟩ := H0.out.cells5 mm2
      have hr := H0.out.blk_mem (g := w.heap.size + 2) mm2
      have fr : ∀ j, wr.frozen? ⟨w.heap.size + 2, j, none⟩ = false := fun j => by simp [World.frozen?, hr]
      have fr0 := fr 0
      have fr1 := fr 1
      have fr2 := fr 2
      have fr3 := fr 3
      have fr4 := fr 4
      clear fr hr
      go_wp2_with fail
      have h3 := (((((H0.out.rot3).setCell 0 (.int .i64 W)).setCell 1 (.int .i64 H)).setCell 2 (.int .i64 D)).setCell 3 (.bool A)).setCell 4 (.slice (some ⟨gv, 0, none⟩) l.length n4)
      have h4 := h3.blk_at
      exact bodyPost_ret (results_ct rfl _ _ (w.heap.size + 2) 39 #[.int .i64 W, .int .i64 H, .int .i64 D, .bool A, .slice (some ⟨gv, 0, none⟩) l.length n4] (0, 0) _ rfl h4 Try.underlying39 rfl (by kernel_rfl)) rfl ⟨_, rfl, (h3.drop.swap.reo 4 [1, 2, 3, 0] (by decide)).drop.drop.drop⟩
end
end Go.Proofs.Ytdoikehkibefpaa
