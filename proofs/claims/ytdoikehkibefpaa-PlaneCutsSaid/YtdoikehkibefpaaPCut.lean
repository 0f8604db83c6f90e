import Derived.Test.YtdoikehkibefpaaPPbx2
import Derived.Test.YtdoikehkibefpaaPPbx3
import Derived.Test.YtdoikehkibefpaaPPbx6
import Derived.Test.YtdoikehkibefpaaPPbx7
import Derived.Test.YtdoikehkibefpaaPlaneHb
import Derived.Test.YtdoikehkibefpaaRCut
import Derived.Test.YtdoikehkibefpaaRgK
import Derived.Test.YtdoikehkibefpaaRowC
import Derived.Test.YtdoikehkibefpaaSteps
/-! plane.Cut. -/
namespace Go.Proofs.Ytdoikehkibefpaa
set_option linter.unusedSimpArgs false
set_option linter.unusedVariables false
open Go Go.RowKit Go.Proofs.Ytdoikehkibefpaa.PPb Go.Proofs.YtdoikehkibefpaaW.PrintWords Go.Proofs.YtdoikehkibefpaaW.PrintLast

section
variable (w : World) (a b c : Int) (d : Bool) (A : Option Addr) (n : Nat) (l : List (List Int)) (x y rw rh : Int) (hC : Kd.C (Kd.slice 72 (Kd.int .u16)) w A l.length l) (hn : l.length ≤ n) (hs : smp l) (hl : ∀ x ∈ l, x.length * 2 ≤ 140737488351232)
include hC hn hs hl
set_option maxHeartbeats 4000000 in
set_option maxRecDepth 100000 in
theorem pcut_bad (hv : valF a b c d l ≠ 0) : Calls Try.prog 44 #[.agg #[.int .i64 a, .int .i64 b, .int .i64 c, .bool d, .slice A l.length n], .agg #[.int .i64 x, .int .i64 y, .int .i64 rw, .int .i64 rh]] w (rcutPost w 0 0 0 false [] (valF a b c d l)) := by
  obtain ⟨ev, hev⟩ : ∃ q, valF a b c d l = q := ⟨_, rfl⟩
  have hM : ∀ x ∈ l, x.length ≤ 140737488355328 := fun x hx => by have := hl x hx; omega
  have CV := Lib.hid (fun (w : World) hr hc => plane_Valid.calls (0 + 12) a b c d A n l ev w hr hc (by rw [valid_f a b c d l hs 0, hev]))
  rw [hev] at hv ⊢
  have hne : (ev != 0) = true := by simpa using hv
  have HS := Lib.hid ((((St.top w).alloc' rfl [.int .i64 a, .int .i64 b, .int .i64 c, .bool d, .slice A l.length n] 39).alloc' (n := w.heap.size + 1) (by simp) [.int .i64 x, .int .i64 y, .int .i64 rw, .int .i64 rh] 52).alloc' (n := w.heap.size + 2) (by simp) [.int .i64 0, .int .i64 0, .int .i64 0, .bool false, .slice none 0 0] 39)
  have HC := Lib.hid (Kd.C_below hC HS.out.below)
  clear hC hs hl hM hev hv
  go_enter Try.func44, Try.ntmps44
  go_wp2_with fail
  refine (CV.out _ HC.out hn).mono ?_
  rintro en w1 ⟨rfl, hb⟩
  have H1 := Lib.hid (HS.out.of_below hb)
  clear HS hb
  obtain ⟨d0, d1, d2, d3, d4⟩ := H1.out.cells5 mm0
  have fr0 := H1.out.frozen 0
  have fr1 := H1.out.frozen 1
  have fr2 := H1.out.frozen 2
  have fr3 := H1.out.frozen 3
  have fr4 := H1.out.frozen 4
  go_wp2_with fail
  have h3 := (((((H1.out).setCell 0 (.int .i64 0)).setCell 1 (.int .i64 0)).setCell 2 (.int .i64 0)).setCell 3 (.bool false)).setCell 4 (.slice none 0 0)
  have h4 := h3.blk_at
  exact bodyPost_ret (results_ct rfl _ _ (w.heap.size + 2) 39 #[.int .i64 0, .int .i64 0, .int .i64 0, .bool false, .slice none 0 0] (0, 0) _ rfl h4 Try.underlying39 rfl (by kernel_rfl)) rfl ⟨_, rfl, (h3.drop.drop.drop).matNil _ _ _⟩
set_option maxHeartbeats 4000000 in
set_option maxRecDepth 100000 in
theorem pcut_out (hv : valF a b c d l = 0) (ho : ¬ wholeIn x y rw rh a b) : Calls Try.prog 44 #[.agg #[.int .i64 a, .int .i64 b, .int .i64 c, .bool d, .slice A l.length n], .agg #[.int .i64 x, .int .i64 y, .int .i64 rw, .int .i64 rh]] w (rcutPost w 0 0 0 false [] 65) := by
  have hok := ok_of_valF hv
  have hW := hok.shape.1
  have hH := hok.shape.2.1
  have hM : ∀ x ∈ l, x.length ≤ 140737488355328 := fun x hx => by have := hl x hx; omega
  have CV := Lib.hid (fun (w : World) hr hc => plane_Valid.calls (0 + 12) a b c d A n l 0 w hr hc (by rw [valid_f a b c d l hs 0, hv]))
  have CW := Lib.hid (fun (w : World) => plane_whole.calls a b c d x y rw rh false w (by rw [whole_f c d x y rw rh (by omega) (by omega), decide_eq_false ho]))
  have HS := Lib.hid ((((St.top w).alloc' rfl [.int .i64 a, .int .i64 b, .int .i64 c, .bool d, .slice A l.length n] 39).alloc' (n := w.heap.size + 1) (by simp) [.int .i64 x, .int .i64 y, .int .i64 rw, .int .i64 rh] 52).alloc' (n := w.heap.size + 2) (by simp) [.int .i64 0, .int .i64 0, .int .i64 0, .bool false, .slice none 0 0] 39)
  have HC := Lib.hid (Kd.C_below hC HS.out.below)
  clear hC hs hl hM hv ho hok hW hH
  go_enter Try.func44, Try.ntmps44
  go_wp2_with fail
  refine (CV.out _ HC.out hn).mono ?_
  rintro en w1 ⟨rfl, hb⟩
  have H1 := Lib.hid (HS.out.of_below hb)
  clear HS hb
  obtain ⟨x0, x1, x2, x3, x4⟩ := H1.out.cells5 mm2
  obtain ⟨y0, y1, y2, y3⟩ := H1.out.cells4 mm1
  go_wp2_with fail
  refine (CW.out _).mono ?_
  rintro en w2 ⟨rfl, hb⟩
  have H2 := Lib.hid (H1.out.of_below hb)
  clear H1 hb x0 x1 x2 x3 x4 y0 y1 y2 y3
  obtain ⟨d0, d1, d2, d3, d4⟩ := H2.out.cells5 mm0
  have fr0 := H2.out.frozen 0
  have fr1 := H2.out.frozen 1
  have fr2 := H2.out.frozen 2
  have fr3 := H2.out.frozen 3
  have fr4 := H2.out.frozen 4
  go_wp2_with fail
  have h3 := (((((H2.out).setCell 0 (.int .i64 0)).setCell 1 (.int .i64 0)).setCell 2 (.int .i64 0)).setCell 3 (.bool false)).setCell 4 (.slice none 0 0)
  have h4 := h3.blk_at
  exact bodyPost_ret (results_ct rfl _ _ (w.heap.size + 2) 39 #[.int .i64 0, .int .i64 0, .int .i64 0, .bool false, .slice none 0 0] (0, 0) _ rfl h4 Try.underlying39 rfl (by kernel_rfl)) rfl ⟨_, rfl, (h3.drop.drop.drop).matNil _ _ _⟩
set_option maxHeartbeats 8000000 in
set_option maxRecDepth 100000 in
theorem pcut_good (hv : valF a b c d l = 0) (ho : wholeIn x y rw rh a b) : Calls Try.prog 44 #[.agg #[.int .i64 a, .int .i64 b, .int .i64 c, .bool d, .slice A l.length n], .agg #[.int .i64 x, .int .i64 y, .int .i64 rw, .int .i64 rh]] w (rcutPost w rw rh c d (cutL a l x y rw rh) 0) := by
  have hok := ok_of_valF hv
  have hW := hok.shape.1
  have hH := hok.shape.2.1
  have hlen := hok.len
  have h4 : l.length ≤ 4 := by have := plN_le d; omega
  have hM : ∀ x ∈ l, x.length ≤ 140737488355328 := fun x hx => by have := hl x hx; omega
  have CV := Lib.hid (fun (w : World) hr hc => plane_Valid.calls (0 + 12) a b c d A n l 0 w hr hc (by rw [valid_f a b c d l hs 0, hv]))
  have CW := Lib.hid (fun (w : World) => plane_whole.calls a b c d x y rw rh true w (by rw [whole_f c d x y rw rh (by omega) (by omega), decide_eq_true ho]))
  have CWD := Lib.hid (fun (i : Nat) (wp : Int) (e1 : wd a i = wp) (w : World) => plane_width.calls a b c d i wp w (by rw [width_f (i : Int) (by omega) (by omega), e1]))
  have CP := Lib.hid (fun (i : Nat) (px pw : Int) (e1 : partX i x = px) (e2 : partW i rw = pw) (w : World) => plane_part.calls i x y rw rh px y pw rh w (by
    have h := ho.1
    unfold liesIn at h
    rw [part_f (i : Int) x y rw rh (by omega) (by omega), e1, e2]))
  have CT : Hid (∀ (i : Nat) (hi : i < l.length) (wp px pw : Int) (row src : List Int) (e0 : wd a i = wp) (e1 : partX i x = px) (e2 : partW i rw = pw) (e3 : (cutL a l x y rw rh).getD i [] = row) (e4 : l.getD i [] = src), plane_taken.f 5000 src wp px y pw rh = some row) := fun i hi wp px pw row src e0 e1 e2 e3 e4 => by
    have h := ho.1
    unfold liesIn at h
    have hp := part_fits ho (i : Int)
    have hwd := wd_bd (p := (i : Int)) hW.1 hW.2
    have hrl := rows_at hok.rows hW hH i hi
    have hb : (wd a i).toNat * b.toNat ≤ 4096 * 4096 := Nat.mul_le_mul (by omega) (by omega)
    have ht := taken_f (l.getD i []) (wd a i).toNat (partX i x).toNat y.toNat (partW i rw).toNat rh.toNat (by omega) (by omega)
      (by rw [hrl, Nat.mul_comm]; exact Nat.mul_le_mul_left _ (by omega)) (by omega) (by omega) 5000 (by omega)
    rw [Int.toNat_of_nonneg (by omega), Int.toNat_of_nonneg (by omega), Int.toNat_of_nonneg (by omega), Int.toNat_of_nonneg (by omega), Int.toNat_of_nonneg (by omega), ← cutL_get a l x y rw rh i hi, e3, e0, e1, e2, e4] at ht
    exact ht
  have HS := Lib.hid ((((St.top w).alloc' rfl [.int .i64 a, .int .i64 b, .int .i64 c, .bool d, .slice A l.length n] 39).alloc' (n := w.heap.size + 1) (by simp) [.int .i64 x, .int .i64 y, .int .i64 rw, .int .i64 rh] 52).alloc' (n := w.heap.size + 2) (by simp) [.int .i64 0, .int .i64 0, .int .i64 0, .bool false, .slice none 0 0] 39)
  obtain ⟨LL, hLL⟩ : ∃ q, cutL a l x y rw rh = q := ⟨_, rfl⟩
  have hLn : LL.length = l.length := by rw [← hLL, cutL_length]
  have HC := Lib.hid hC
  rw [hLL] at CT ⊢
  have HLN := Lib.hid hLn
  clear hC hs hl hM hv ho hok hW hH hlen hLL hLn
  go_enter Try.func44, Try.ntmps44
  go_wp2_with fail
  refine (CV.out _ (Kd.C_below HC.out HS.out.below) hn).mono ?_
  rintro en w1 ⟨rfl, hb⟩
  have H1 := Lib.hid (HS.out.of_below hb)
  clear HS hb
  obtain ⟨x0, x1, x2, x3, x4⟩ := H1.out.cells5 mm2
  obtain ⟨y0, y1, y2, y3⟩ := H1.out.cells4 mm1
  go_wp2_with fail
  refine (CW.out _).mono ?_
  rintro en w2 ⟨rfl, hb⟩
  have H2 := Lib.hid (H1.out.of_below hb)
  clear H1 hb x0 x1 x2 x3 x4 y0 y1 y2 y3
  obtain ⟨x0, x1, x2, x3, x4⟩ := H2.out.cells5 mm2
  obtain ⟨y0, y1, y2, y3⟩ := H2.out.cells4 mm1
  have H3 := Lib.hid (((H2.out.matNil 53 72 .u16).alloc' rfl [.int .i64 rw, .int .i64 rh, .int .i64 c, .bool d, .slice none 0 0] 39))
  have z4 := St.cells_mem H3.out mm4 4
  go_wp2_with fail
  clear H2 z4 x0 x1 x2 x3 x4 y0 y1 y2 y3
  generalize w2.heap.size = gF at *
  go_loopw [37] (fun v w' => ∃ (i : Nat) (vf : Value), v = .int .i64 (i : Nat) ∧ i ≤ l.length ∧ Hid (St (top w) (blk gF [.int .i64 rw, .int .i64 rh, .int .i64 c, .bool d, vf] 39 :: mat 53 72 .u16 vf (LL.take i) :: blk (w.heap.size + 2) [.int .i64 0, .int .i64 0, .int .i64 0, .bool false, .slice none 0 0] 39 :: blk (w.heap.size + 1) [.int .i64 x, .int .i64 y, .int .i64 rw, .int .i64 rh] 52 :: blk w.heap.size [.int .i64 a, .int .i64 b, .int .i64 c, .bool d, .slice A l.length n] 39 :: []) w')) (fun v _ => l.length - (intOf v).toNat)
  case atStart => exact ⟨0, _, rfl, by omega, H3⟩
  case round =>
    obtain ⟨i, vf, rfl, hi, hS⟩ := hrel
    obtain ⟨aoF, capF, rfl⟩ : ∃ ao cap, vf = .slice ao i cap := by
      obtain ⟨vs, hvs, h⟩ := hS.out.swap.matOpen
      obtain ⟨ao, cap, e, -⟩ := h.rowShape
      exact ⟨ao, cap, by rw [e, List.length_take, HLN.out, Nat.min_eq_left hi]⟩
    by_cases hil : i < l.length
    · obtain ⟨pb, po, A2, cap2, rfl, hcell, hle, hCi⟩ := C_rowAt HC.out i hil
      obtain ⟨wp, hwp⟩ : ∃ q, wd a i = q := ⟨_, rfl⟩
      obtain ⟨px, hpx⟩ : ∃ q, partX i x = q := ⟨_, rfl⟩
      obtain ⟨pw, hpw⟩ : ∃ q, partW i rw = q := ⟨_, rfl⟩
      obtain ⟨row_, hrow⟩ : ∃ q, LL.getD i [] = q := ⟨_, rfl⟩
      obtain ⟨src, hsrc⟩ : ∃ q, l.getD i [] = q := ⟨_, rfl⟩
      have hk := CT.out i hil wp px pw row_ src hwp hpx hpw hrow hsrc
      rw [hsrc] at hcell hle hCi
      have CW1 := Lib.hid (CWD.out i wp hwp)
      have CP1 := Lib.hid (CP.out i px pw hpx hpw)
      have CT1 := Lib.hid (fun (w : World) hr hc => plane_taken.calls 5000 A2 cap2 src wp px y pw rh row_ w hr hc hk)
      have HROW := Lib.hid hrow
      have HSRC := Lib.hid hCi
      have hcell := top_cell hS.out hcell
      have HD := Lib.hid hS.out.drew
      have t1 : (0 : Int) ≤ (i : Int) := by omega
      have t2 : (i : Int) < l.length := by omega
      clear hwp hpx hpw hrow hsrc hk hCi hS H3
      go_wp2_with fail
      refine start_ (n := 15) (S := fun w' => w'.cell? ⟨gF, 4, none⟩ = some (.slice aoF i capF) ∧ w'.cell? ⟨w.heap.size, 0, none⟩ = some (.int .i64 a) ∧ w'.cell? ⟨w.heap.size, 1, none⟩ = some (.int .i64 b) ∧ w'.cell? ⟨w.heap.size, 2, none⟩ = some (.int .i64 c) ∧ w'.cell? ⟨w.heap.size, 3, none⟩ = some (.bool d) ∧ w'.cell? ⟨w.heap.size + 1, 0, none⟩ = some (.int .i64 x) ∧ w'.cell? ⟨w.heap.size + 1, 1, none⟩ = some (.int .i64 y) ∧ w'.cell? ⟨w.heap.size + 1, 2, none⟩ = some (.int .i64 rw) ∧ w'.cell? ⟨w.heap.size + 1, 3, none⟩ = some (.int .i64 rh)) (ds := [12, 13, 14]) #[false, false, false, false, false, false, false, false, false, false, false, false, false, false, false] (by kernel_rfl) rfl rfl ⟨St.cells_mem HD.out mm0 4, St.cells_mem HD.out mm4 0, St.cells_mem HD.out mm4 1, St.cells_mem HD.out mm4 2, St.cells_mem HD.out mm4 3, St.cells_mem HD.out mm3 0, St.cells_mem HD.out mm3 1, St.cells_mem HD.out mm3 2, St.cells_mem HD.out mm3 3⟩ (fun hHeld => ?_)
      refine pu 0 42 #[true, false, false, false, false, false, false, false, false, false, false, false, false, false, false] ?_
      refine pu 2 44 #[true, false, true, false, false, false, false, false, false, false, false, false, false, false, false] ?_
      refine pu 3 45 #[true, false, true, true, false, false, false, false, false, false, false, false, false, false, false] ?_
      refine pu 5 47 #[true, false, true, true, false, true, false, false, false, false, false, false, false, false, false] ?_
      refine pu 7 49 #[true, false, true, true, false, true, false, true, false, false, false, false, false, false, false] ?_
      refine ta 1 43 #[true, true, true, true, false, true, false, true, false, false, false, false, false, false, false] hHeld ?_
      refine ta 4 46 #[true, true, true, true, true, true, false, true, false, false, false, false, false, false, false] hHeld ?_
      refine ta 8 50 #[true, true, true, true, true, true, false, true, true, false, false, false, false, false, false] hHeld ?_
      refine one_ (i := 6) (N := some 48) #[true, true, true, true, true, true, true, true, true, false, false, false, false, false, false] rfl rfl (by kernel_rfl) (by decide) (fun K hK => ?_)
      refine goes_ Try.func55 (by kernel_rfl) rfl #[.agg #[.int .i64 a, .int .i64 b, .int .i64 c, .bool d], .int .i64 (i : Nat)] (by rfl) rfl rfl (by simp only [List.map_toArray, List.map_cons, List.map_nil]; rfl) ?_
      with_reducible refine (CW1.out _).mono ?_
      rintro en y1 ⟨rfl, hb⟩
      refine ⟨_, rfl, ?_⟩
      have H1 := Lib.hid (HD.out.of_below hb)
      clear hb
      refine hK.out _ _ ⟨St.cells_mem H1.out mm0 4, St.cells_mem H1.out mm4 0, St.cells_mem H1.out mm4 1, St.cells_mem H1.out mm4 2, St.cells_mem H1.out mm4 3, St.cells_mem H1.out mm3 0, St.cells_mem H1.out mm3 1, St.cells_mem H1.out mm3 2, St.cells_mem H1.out mm3 3⟩ (fun hHeld => ?_)
      clear hK K
      refine norm_ (a' := ?_) ?_ ?_
      rotate_left
      · show Act.put _ (some 48) _ = _
        simp only [Act.put, List.setIfInBounds_toArray, List.set_cons_zero, List.set_cons_succ, i64_w, i32_w]
        rfl
      refine one_ (i := 9) (N := some 51) #[true, true, true, true, true, true, true, true, true, true, false, false, false, false, false] rfl rfl (by kernel_rfl) (by decide) (fun K hK => ?_)
      refine goes_ Try.func69 (by kernel_rfl) rfl #[.int .i64 (i : Nat), .agg #[.int .i64 x, .int .i64 y, .int .i64 rw, .int .i64 rh]] (by rfl) rfl rfl (by simp only [List.map_toArray, List.map_cons, List.map_nil]; rfl) ?_
      with_reducible refine (CP1.out _).mono ?_
      rintro en y2 ⟨rfl, hb⟩
      refine ⟨_, rfl, ?_⟩
      have H2 := Lib.hid (H1.out.of_below hb)
      clear hb
      refine hK.out _ _ ⟨St.cells_mem H2.out mm0 4, St.cells_mem H2.out mm4 0, St.cells_mem H2.out mm4 1, St.cells_mem H2.out mm4 2, St.cells_mem H2.out mm4 3, St.cells_mem H2.out mm3 0, St.cells_mem H2.out mm3 1, St.cells_mem H2.out mm3 2, St.cells_mem H2.out mm3 3⟩ (fun hHeld => ?_)
      clear hK K
      refine norm_ (a' := ?_) ?_ ?_
      rotate_left
      · show Act.put _ (some 51) _ = _
        simp only [Act.put, List.setIfInBounds_toArray, List.set_cons_zero, List.set_cons_succ, i64_w, i32_w]
        rfl
      refine one_ (i := 10) (N := some 52) #[true, true, true, true, true, true, true, true, true, true, true, false, false, false, false] rfl rfl (by kernel_rfl) (by decide) (fun K hK => ?_)
      refine goes_ Try.func66 (by kernel_rfl) rfl #[.slice A2 src.length cap2, .int .i64 wp, .agg #[.int .i64 px, .int .i64 y, .int .i64 pw, .int .i64 rh]] (by rfl) rfl rfl (by simp only [List.map_toArray, List.map_cons, List.map_nil]; rfl) ?_
      with_reducible refine (CT1.out _ (Kd.C_below HSRC.out H2.out.below) hle).mono ?_
      rintro en y3 ⟨vq, rfl, hR, hb⟩
      refine ⟨_, rfl, ?_⟩
      obtain ⟨P2, n2, rfl, -, -⟩ := Kd.R_reads hR
      have H3 := Lib.hid (H2.out.of_R hb hR)
      clear hb hR
      refine hK.out _ _ ⟨St.cells_mem H3.out mm1 4, St.cells_mem H3.out mm5 0, St.cells_mem H3.out mm5 1, St.cells_mem H3.out mm5 2, St.cells_mem H3.out mm5 3, St.cells_mem H3.out mm4 0, St.cells_mem H3.out mm4 1, St.cells_mem H3.out mm4 2, St.cells_mem H3.out mm4 3⟩ (fun hHeld => ?_)
      clear hK K
      refine norm_ (a' := ?_) ?_ ?_
      rotate_left
      · show Act.put _ (some 52) _ = _
        simp only [Act.put, List.setIfInBounds_toArray, List.set_cons_zero, List.set_cons_succ, i64_w, i32_w]
        rfl
      refine one_ (i := 11) (N := some 53) #[true, true, true, true, true, true, true, true, true, true, true, true, false, false, false] rfl rfl (by kernel_rfl) (by decide) (fun K hK => ?_)
      refine value_ (w1 := ?_) (v := ?_) (by rfl) rfl ?_ ?_
      rotate_left 2
      · go_simp
        constructor
        · rfl
        · rfl
      have HG := Lib.hid (H3.out.alloc' rfl [.slice P2 row_.length n2] 53)
      refine hK.out _ _ ⟨St.cells_mem HG.out mm2 4, St.cells_mem HG.out mm6 0, St.cells_mem HG.out mm6 1, St.cells_mem HG.out mm6 2, St.cells_mem HG.out mm6 3, St.cells_mem HG.out mm5 0, St.cells_mem HG.out mm5 1, St.cells_mem HG.out mm5 2, St.cells_mem HG.out mm5 3⟩ (fun hHeld => ?_)
      clear hK K
      refine norm_ (a' := ?_) ?_ ?_
      rotate_left
      · show Act.put _ (some 53) _ = _
        simp only [Act.put, List.setIfInBounds_toArray, List.set_cons_zero, List.set_cons_succ, i64_w, i32_w]
        rfl
      refine last_ (i := 12) (N := some 54) #[true, true, true, true, true, true, true, true, true, true, true, true, true, false, false] rfl rfl (by kernel_rfl) (by decide) (fun K hK => ?_)
      have h41 : St (top w) (mat 53 72 .u16 (.slice aoF i capF) (LL.take i) :: blk y3.heap.size [.slice P2 row_.length n2] 53 :: inner 72 .u16 (.slice P2 row_.length n2) row_ :: blk gF [.int .i64 rw, .int .i64 rh, .int .i64 c, .bool d, .slice aoF i capF] 39 :: _) _ := HG.out.reo 4 [3, 0, 1, 2] (by decide)
      obtain ⟨vs, hvs, hG3⟩ := h41.matOpen
      rw [show (LL.take i).length = i by rw [List.length_take, HLN.out]; omega] at hG3 hvs
      have hblk : (y3.alloc (.cells #[.slice P2 row_.length n2] 53)).cell? ⟨y3.heap.size, 0, none⟩ = some (.slice P2 row_.length n2) := St.cells_mem HG.out mm0 0
      refine St.stepAppend (by rfl) (.tmp 43) (.tmp 53) _ (by rfl) elemRow (by rfl) hG3 ⟨y3.heap.size, 0, none⟩ 1 1 [.slice P2 row_.length n2] (by rfl) rfl (fun j u hj => by match j, hj with | 0, hj => (simp at hj; subst hj; exact hblk)) (fun u hu => by simp at hu; subst hu; rfl) (by omega) (by unfold maxLen; omega) ?_
      intro v62 w62 hS62
      obtain ⟨ao62, cap62, rfl, -, -, -, -⟩ := hS62.rowShape
      have hb4 : w62.cell? ⟨gF, 4, none⟩ = some (.slice aoF i capF) := St.cells_mem hS62 mm4 4
      have hbb := St.blk_mem (g := gF) hS62 mm4
      have hbz : w62.frozen? ⟨gF, 4, none⟩ = false := by simp [World.frozen?, hbb]
      have h4 : St (top w) (row 53 1 (.slice ao62 (i + 1) cap62) (i + 1) (vs ++ [.slice P2 row_.length n2]) :: inner 72 .u16 (.slice P2 row_.length n2) row_ :: Sep (List.zipWith (inner 72 .u16) vs (LL.take i)) :: blk gF [.int .i64 rw, .int .i64 rh, .int .i64 c, .bool d, .slice aoF i capF] 39 :: blk y3.heap.size [.slice P2 row_.length n2] 53 :: _) w62 := hS62.reo 5 [0, 3, 1, 4, 2] (by decide)
      have h5 := h4.matSnoc (by rw [hvs, List.length_take, HLN.out]; omega) (by rw [List.length_take, HLN.out]; omega)
      rw [← HROW.out, ← take_snoc LL i [] (by rw [HLN.out]; exact hil), HROW.out] at h5
      have h6 : St (top w) (blk gF [.int .i64 rw, .int .i64 rh, .int .i64 c, .bool d, .slice aoF i capF] 39 :: mat 53 72 .u16 (.slice ao62 (i + 1) cap62) (LL.take (i + 1)) :: _) w62 := (h5.reo 3 [2, 1, 0] (by decide)).drop
      have HZ := Lib.hid (h6.setCell 4 (.slice ao62 (i + 1) cap62))
      clear hbb hS62 hG3 h41 h4 h5 h6
      refine hK.out _ _ ?_
      clear hK K
      refine norm_ (a' := ?_) ?_ ?_
      rotate_left
      · show Act.put _ (some 54) _ = _
        simp only [Act.put, List.setIfInBounds_toArray, List.set_cons_zero, List.set_cons_succ, i64_w, i32_w]
        rfl
      refine pu 13 55 #[true, true, true, true, true, true, true, true, true, true, true, true, true, true, false] ?_
      refine last_ (i := 14) (N := none) #[true, true, true, true, true, true, true, true, true, true, true, true, true, true, true] rfl rfl (by kernel_rfl) (by decide) (fun K hK => ?_)
      refine skip_ (w1 := ?_) (by rfl) rfl ?_ ?_
      rotate_left
      · go_simp
        rfl
      refine hK.out _ _ ?_
      clear hK K
      refine done_ (by kernel_rfl) ?_

      go_wp2_with fail
      go_roundw
      case rel => exact ⟨i + 1, _, by go_num, by omega, HZ.out⟩
      case measure => simp [intOf]; omega
    · have hil : i = l.length := by omega
      subst hil
      rw [List.take_of_length_le (by rw [HLN.out]; exact Nat.le_refl _)] at hS
      have H0 := hS
      clear hS H3
      have x4 := St.cells_mem H0.out mm4 4
      obtain ⟨f0, f1, f2, f3, f4⟩ := H0.out.cells5 mm0
      obtain ⟨d0, d1, d2, d3, d4⟩ := H0.out.cells5 mm2
      have hr := H0.out.blk_mem (g := w.heap.size + 2) mm2
      have fr : ∀ j, wr.frozen? ⟨w.heap.size + 2, j, none⟩ = false := fun j => by simp [World.frozen?, hr]
      have fr0 := fr 0
      have fr1 := fr 1
      have fr2 := fr 2
      have fr3 := fr 3
      have fr4 := fr 4
      clear fr hr
      go_wp2_with fail
      have h3 := (((((H0.out.rot3).setCell 0 (.int .i64 rw)).setCell 1 (.int .i64 rh)).setCell 2 (.int .i64 c)).setCell 3 (.bool d)).setCell 4 (.slice aoF l.length capF)
      have h4 := h3.blk_at
      exact bodyPost_ret (results_ct rfl _ _ (w.heap.size + 2) 39 #[.int .i64 rw, .int .i64 rh, .int .i64 c, .bool d, .slice aoF l.length capF] (0, 0) _ rfl h4 Try.underlying39 rfl (by kernel_rfl)) rfl ⟨_, rfl, (h3.drop.swap.reo 4 [1, 2, 3, 0] (by decide)).drop.drop.drop⟩
theorem pcut_ok {r1 r2 r3 : Int} {r4 : Bool} {L : List (List Int)} {r6 : Int} (he : cutF a b c d l x y rw rh = (r1, r2, r3, r4, L, r6)) : Calls Try.prog 44 #[.agg #[.int .i64 a, .int .i64 b, .int .i64 c, .bool d, .slice A l.length n], .agg #[.int .i64 x, .int .i64 y, .int .i64 rw, .int .i64 rh]] w (rcutPost w r1 r2 r3 r4 L r6) := by
  unfold cutF at he
  by_cases hv : valF a b c d l = 0
  · rw [if_pos hv] at he
    by_cases ho : wholeIn x y rw rh a b
    · rw [if_pos ho] at he
      simp only [Prod.mk.injEq] at he
      obtain ⟨rfl, rfl, rfl, rfl, rfl, rfl⟩ := he
      exact pcut_good w a b c d A n l x y rw rh hC hn hs hl hv ho
    · rw [if_neg ho] at he
      simp only [Prod.mk.injEq] at he
      obtain ⟨rfl, rfl, rfl, rfl, rfl, rfl⟩ := he
      exact pcut_out w a b c d A n l x y rw rh hC hn hs hl hv ho
  · rw [if_neg hv] at he
    simp only [Prod.mk.injEq] at he
    obtain ⟨rfl, rfl, rfl, rfl, rfl, rfl⟩ := he
    exact pcut_bad w a b c d A n l x y rw rh hC hn hs hl hv
end
end Go.Proofs.Ytdoikehkibefpaa
