import Derived.Test.YtdoikehkibefpaaPPbx5
import Derived.Test.YtdoikehkibefpaaPPbx8
import Derived.Test.YtdoikehkibefpaaPPbx9
import Derived.Test.YtdoikehkibefpaaPlaneHb
import Derived.Test.YtdoikehkibefpaaRowC
import Derived.Test.YtdoikehkibefpaaSteps
/-! The reference's Cut. -/
namespace Go.Proofs.Ytdoikehkibefpaa
set_option linter.unusedSimpArgs false
set_option linter.unusedVariables false
open Go Go.RowKit Go.Proofs.Ytdoikehkibefpaa.PPb Go.Proofs.YtdoikehkibefpaaW.PrintWords Go.Proofs.YtdoikehkibefpaaW.PrintLast

abbrev rcutPost (w : World) (r1 r2 r3 : Int) (r4 : Bool) (L : List (List Int)) (r6 : Int) : Ending → World → Prop := fun e w' => ∃ v, e = .returned (.tuple #[.agg #[.int .i64 r1, .int .i64 r2, .int .i64 r3, .bool r4, v], .int .i64 r6]) ∧ St (top w) [mat 53 72 .u16 v L] w'
section
variable (w : World) (a b c : Int) (d : Bool) (A : Option Addr) (n : Nat) (l : List (List Int)) (x y rw rh : Int) (hC : Kd.C (Kd.slice 72 (Kd.int .u16)) w A l.length l) (hn : l.length ≤ n) (hs : smp l) (hl : ∀ x ∈ l, x.length * 2 ≤ 140737488351232)
include hC hn hs hl
set_option maxHeartbeats 4000000 in
set_option maxRecDepth 100000 in
theorem rcut_bad (hv : valF a b c d l ≠ 0) : Calls Try.prog 45 #[.agg #[.int .i64 a, .int .i64 b, .int .i64 c, .bool d, .slice A l.length n], .agg #[.int .i64 x, .int .i64 y, .int .i64 rw, .int .i64 rh]] w (rcutPost w 0 0 0 false [] (valF a b c d l)) := by
  obtain ⟨ev, hev⟩ : ∃ q, valF a b c d l = q := ⟨_, rfl⟩
  have hM : ∀ x ∈ l, x.length ≤ 140737488355328 := fun x hx => by have := hl x hx; omega
  have CV := Lib.hid (fun (w : World) hr hc => dailiesref06_Valid.calls (0 + 140737488355328 + 14) a b c d A n l ev w hr hc (by rw [rvalid_f a b c d l _ hM (Nat.le_refl _) hs 0, hev]))
  rw [hev] at hv ⊢
  have hne : (ev != 0) = true := by simpa using hv
  have HS := Lib.hid ((((St.top w).alloc' rfl [.int .i64 a, .int .i64 b, .int .i64 c, .bool d, .slice A l.length n] 39).alloc' (n := w.heap.size + 1) (by simp) [.int .i64 x, .int .i64 y, .int .i64 rw, .int .i64 rh] 52).alloc' (n := w.heap.size + 2) (by simp) [.int .i64 0, .int .i64 0, .int .i64 0, .bool false, .slice none 0 0] 39)
  have HC := Lib.hid (Kd.C_below hC HS.out.below)
  clear hC hs hl hM hev hv
  go_enter Try.func45, Try.ntmps45
  go_wp2_with fail
  refine (CV.out _ HC.out hn).mono ?_
  rintro en w1 ⟨rfl, hb⟩
  have H1 := Lib.hid (HS.out.of_below hb)
  clear HS hb
  obtain ⟨d0, d1, d2, d3, d4⟩ := H1.out.cells5 mm0
  have fr0 := H1.out.frozen 0
  have fr1 := H1.out.frozen 1
  have fr2 := H1.out.frozen 2
  have fr3 := H1.out.frozen 3
  have fr4 := H1.out.frozen 4
  go_wp2_with fail
  have h3 := (((((H1.out).setCell 0 (.int .i64 0)).setCell 1 (.int .i64 0)).setCell 2 (.int .i64 0)).setCell 3 (.bool false)).setCell 4 (.slice none 0 0)
  have h4 := h3.blk_at
  exact bodyPost_ret (results_ct rfl _ _ (w.heap.size + 2) 39 #[.int .i64 0, .int .i64 0, .int .i64 0, .bool false, .slice none 0 0] (0, 0) _ rfl h4 Try.underlying39 rfl (by kernel_rfl)) rfl ⟨_, rfl, (h3.drop.drop.drop).matNil _ _ _⟩
set_option maxHeartbeats 4000000 in
set_option maxRecDepth 100000 in
theorem rcut_out (hv : valF a b c d l = 0) (ho : ¬ wholeIn x y rw rh a b) : Calls Try.prog 45 #[.agg #[.int .i64 a, .int .i64 b, .int .i64 c, .bool d, .slice A l.length n], .agg #[.int .i64 x, .int .i64 y, .int .i64 rw, .int .i64 rh]] w (rcutPost w 0 0 0 false [] 65) := by
  have hok := ok_of_valF hv
  have hW := hok.shape.1
  have hH := hok.shape.2.1
  have hM : ∀ x ∈ l, x.length ≤ 140737488355328 := fun x hx => by have := hl x hx; omega
  have CV := Lib.hid (fun (w : World) hr hc => dailiesref06_Valid.calls (0 + 140737488355328 + 14) a b c d A n l 0 w hr hc (by rw [rvalid_f a b c d l _ hM (Nat.le_refl _) hs 0, hv]))
  have CW := Lib.hid (fun (w : World) => dailiesref06_Whole.calls a b c d x y rw rh false w (by rw [rwhole_f a b c d x y rw rh (by omega) (by omega), decide_eq_false ho]))
  have HS := Lib.hid ((((St.top w).alloc' rfl [.int .i64 a, .int .i64 b, .int .i64 c, .bool d, .slice A l.length n] 39).alloc' (n := w.heap.size + 1) (by simp) [.int .i64 x, .int .i64 y, .int .i64 rw, .int .i64 rh] 52).alloc' (n := w.heap.size + 2) (by simp) [.int .i64 0, .int .i64 0, .int .i64 0, .bool false, .slice none 0 0] 39)
  have HC := Lib.hid (Kd.C_below hC HS.out.below)
  clear hC hs hl hM hv ho hok hW hH
  go_enter Try.func45, Try.ntmps45
  go_wp2_with fail
  refine (CV.out _ HC.out hn).mono ?_
  rintro en w1 ⟨rfl, hb⟩
  have H1 := Lib.hid (HS.out.of_below hb)
  clear HS hb
  obtain ⟨x0, x1, x2, x3, x4⟩ := H1.out.cells5 mm2
  obtain ⟨y0, y1, y2, y3⟩ := H1.out.cells4 mm1
  go_wp2_with fail
  refine (CW.out _).mono ?_
  rintro en w2 ⟨rfl, hb⟩
  have H2 := Lib.hid (H1.out.of_below hb)
  clear H1 hb x0 x1 x2 x3 x4 y0 y1 y2 y3
  obtain ⟨d0, d1, d2, d3, d4⟩ := H2.out.cells5 mm0
  have fr0 := H2.out.frozen 0
  have fr1 := H2.out.frozen 1
  have fr2 := H2.out.frozen 2
  have fr3 := H2.out.frozen 3
  have fr4 := H2.out.frozen 4
  go_wp2_with fail
  have h3 := (((((H2.out).setCell 0 (.int .i64 0)).setCell 1 (.int .i64 0)).setCell 2 (.int .i64 0)).setCell 3 (.bool false)).setCell 4 (.slice none 0 0)
  have h4 := h3.blk_at
  exact bodyPost_ret (results_ct rfl _ _ (w.heap.size + 2) 39 #[.int .i64 0, .int .i64 0, .int .i64 0, .bool false, .slice none 0 0] (0, 0) _ rfl h4 Try.underlying39 rfl (by kernel_rfl)) rfl ⟨_, rfl, (h3.drop.drop.drop).matNil _ _ _⟩
set_option maxHeartbeats 8000000 in
set_option maxRecDepth 100000 in
theorem rcut_good (hv : valF a b c d l = 0) (ho : wholeIn x y rw rh a b) : Calls Try.prog 45 #[.agg #[.int .i64 a, .int .i64 b, .int .i64 c, .bool d, .slice A l.length n], .agg #[.int .i64 x, .int .i64 y, .int .i64 rw, .int .i64 rh]] w (rcutPost w rw rh c d (cutL a l x y rw rh) 0) := by
  have hok := ok_of_valF hv
  have hW := hok.shape.1
  have hH := hok.shape.2.1
  have hlen := hok.len
  have h4 : l.length ≤ 4 := by have := plN_le d; omega
  have hM : ∀ x ∈ l, x.length ≤ 140737488355328 := fun x hx => by have := hl x hx; omega
  have CV := Lib.hid (fun (w : World) hr hc => dailiesref06_Valid.calls (0 + 140737488355328 + 14) a b c d A n l 0 w hr hc (by rw [rvalid_f a b c d l _ hM (Nat.le_refl _) hs 0, hv]))
  have CW := Lib.hid (fun (w : World) => dailiesref06_Whole.calls a b c d x y rw rh true w (by rw [rwhole_f a b c d x y rw rh (by omega) (by omega), decide_eq_true ho]))
  have CH := Lib.hid (fun (i : Nat) (hi : i < l.length) (px pw : Int) (e1 : partX i x = px) (e2 : partW i rw = pw) (w : World) => dailiesref06_Half.calls (0 + 6) a b c d i x y rw rh px y pw rh 0 w (by rw [rhalf_all hok.shape ho (i : Int) (by omega) 0, e1, e2]))
  have CC : Hid (∀ (i : Nat) (hi : i < l.length) (px pw : Int) (row : List Int) (e1 : partX i x = px) (e2 : partW i rw = pw) (e3 : (cutL a l x y rw rh).getD i [] = row), ∃ k, dailiesref06_Crop.f k a b c d l i px y pw rh = some (pw, rh, row, 0)) := fun i hi px pw row e1 e2 e3 => by
    obtain ⟨k, hk⟩ := rcrop_f a b c d l _ hM (Nat.le_refl _) hs i px y pw rh
    exact ⟨k, by rw [hk, ← e1, ← e2, ← e3, part_crop hok ho i hi]⟩
  have HS := Lib.hid ((((St.top w).alloc' rfl [.int .i64 a, .int .i64 b, .int .i64 c, .bool d, .slice A l.length n] 39).alloc' (n := w.heap.size + 1) (by simp) [.int .i64 x, .int .i64 y, .int .i64 rw, .int .i64 rh] 52).alloc' (n := w.heap.size + 2) (by simp) [.int .i64 0, .int .i64 0, .int .i64 0, .bool false, .slice none 0 0] 39)
  obtain ⟨LL, hLL⟩ : ∃ q, cutL a l x y rw rh = q := ⟨_, rfl⟩
  have hLn : LL.length = l.length := by rw [← hLL, cutL_length]
  have HC := Lib.hid hC
  rw [hLL] at CC ⊢
  have HLN := Lib.hid hLn
  clear hC hs hl hM hv ho hok hW hH hlen hLL hLn
  go_enter Try.func45, Try.ntmps45
  go_wp2_with fail
  refine (CV.out _ (Kd.C_below HC.out HS.out.below) hn).mono ?_
  rintro en w1 ⟨rfl, hb⟩
  have H1 := Lib.hid (HS.out.of_below hb)
  clear HS hb
  obtain ⟨x0, x1, x2, x3, x4⟩ := H1.out.cells5 mm2
  obtain ⟨y0, y1, y2, y3⟩ := H1.out.cells4 mm1
  go_wp2_with fail
  refine (CW.out _).mono ?_
  rintro en w2 ⟨rfl, hb⟩
  have H2 := Lib.hid (H1.out.of_below hb)
  clear H1 hb x0 x1 x2 x3 x4 y0 y1 y2 y3
  obtain ⟨x0, x1, x2, x3, x4⟩ := H2.out.cells5 mm2
  obtain ⟨y0, y1, y2, y3⟩ := H2.out.cells4 mm1
  go_wp2_with fail
  have H3 := Lib.hid (((H2.out.matNil 53 72 .u16).alloc' rfl [.int .i64 rw, .int .i64 rh, .int .i64 c, .bool d, .slice none 0 0] 39))
  clear H2 x0 x1 x2 x3 x4 y0 y1 y2 y3
  generalize w2.heap.size = gF at *
  go_loopw [9] (fun v w' => ∃ (i : Nat) (vf : Value), v = .int .i64 (i : Nat) ∧ i ≤ l.length ∧ Hid (St (top w) (blk gF [.int .i64 rw, .int .i64 rh, .int .i64 c, .bool d, vf] 39 :: mat 53 72 .u16 vf (LL.take i) :: blk (w.heap.size + 2) [.int .i64 0, .int .i64 0, .int .i64 0, .bool false, .slice none 0 0] 39 :: blk (w.heap.size + 1) [.int .i64 x, .int .i64 y, .int .i64 rw, .int .i64 rh] 52 :: blk w.heap.size [.int .i64 a, .int .i64 b, .int .i64 c, .bool d, .slice A l.length n] 39 :: []) w')) (fun v _ => l.length - (intOf v).toNat)
  case atStart => exact ⟨0, _, rfl, by omega, H3⟩
  case round =>
    obtain ⟨i, vf, rfl, hi, hS⟩ := hrel
    obtain ⟨aoF, capF, rfl⟩ : ∃ ao cap, vf = .slice ao i cap := by
      obtain ⟨vs, hvs, h⟩ := hS.out.swap.matOpen
      obtain ⟨ao, cap, e, -⟩ := h.rowShape
      exact ⟨ao, cap, by rw [e, List.length_take, HLN.out, Nat.min_eq_left hi]⟩
    by_cases hil : i < l.length
    · obtain ⟨px, hpx⟩ : ∃ q, partX i x = q := ⟨_, rfl⟩
      obtain ⟨pw, hpw⟩ : ∃ q, partW i rw = q := ⟨_, rfl⟩
      obtain ⟨row_, hrow⟩ : ∃ q, LL.getD i [] = q := ⟨_, rfl⟩
      obtain ⟨k, hk⟩ := CC.out i hil px pw row_ hpx hpw hrow
      have CH1 := Lib.hid (CH.out i hil px pw hpx hpw)
      have CC1 := Lib.hid (fun (w : World) hr hc => dailiesref06_Crop.calls k a b c d A n l i px y pw rh pw rh row_ 0 w hr hc hk)
      have HROW := Lib.hid hrow
      have H0 := hS
      have t1 : (0 : Int) ≤ (i : Int) := by omega
      have t2 : (i : Int) < l.length := by omega
      clear hpx hpw hrow hk hS H3
      obtain ⟨x0, x1, x2, x3, x4⟩ := H0.out.cells5 mm4
      obtain ⟨y0, y1, y2, y3⟩ := H0.out.cells4 mm3
      go_wp2_with fail
      refine (CH1.out _).mono ?_
      rintro en w3 ⟨rfl, hb⟩
      have HA := Lib.hid ((H0.out.of_below hb).alloc' rfl [.int .i64 px, .int .i64 y, .int .i64 pw, .int .i64 rh] 52)
      clear H0 hb x0 x1 x2 x3 x4 y0 y1 y2 y3
      obtain ⟨x0, x1, x2, x3, x4⟩ := HA.out.cells5 mm5
      obtain ⟨y0, y1, y2, y3⟩ := HA.out.cells4 mm0
      go_wp2_with fail
      refine (CC1.out _ (Kd.C_below HC.out HA.out.below) hn).mono ?_
      rintro en w4 ⟨v2, rfl, hR, hb⟩
      obtain ⟨P2, n2, rfl, -, -⟩ := Kd.R_reads hR
      have HB := Lib.hid ((HA.out.of_R hb hR).alloc' rfl [.int .i64 pw, .int .i64 rh, .slice P2 row_.length n2] 55)
      clear HA hb hR x0 x1 x2 x3 x4 y0 y1 y2 y3
      obtain ⟨x0, x1, x2, x3, x4⟩ := HB.out.cells5 mm3
      obtain ⟨y0, y1, y2⟩ := HB.out.cells3 mm0
      obtain ⟨vs, hvs, HM⟩ := (HB.out.reo 5 [4, 0, 1, 2, 3] (by decide)).matOpen
      rw [show (LL.take i).length = i by rw [List.length_take, HLN.out]; omega] at HM hvs
      have HM' := Lib.hid HM
      have HVS := Lib.hid hvs
      clear HM hvs HB
      go_wp2_with (at_builtin; go_must (refine St.append1 rfl (.tmp 62) (.tmp 65) _ rfl elemRow rfl HM'.out _ _ (by rw [show (w4.alloc (.cells #[.int .i64 pw, .int .i64 rh, .slice P2 row_.length n2] 55)).heap.size = w4.heap.size + 1 by simp]; rfl) rfl (by omega) (by simp [maxLen]; omega) ?_))
      intro g9 cp9 w9 hcp HN
      clear x0 x1 x2 x3 x4 y0 y1 y2
      have h4 : St (top w) (row 53 1 (.slice (some ⟨g9, 0, none⟩) (i + 1) cp9) (i + 1) (vs ++ [.slice P2 row_.length n2]) :: inner 72 .u16 (.slice P2 row_.length n2) row_ :: Sep (List.zipWith (inner 72 .u16) vs (LL.take i)) :: blk gF [.int .i64 rw, .int .i64 rh, .int .i64 c, .bool d, .slice aoF i capF] 39 :: blk w4.heap.size [.int .i64 pw, .int .i64 rh, .slice P2 row_.length n2] 55 :: blk w3.heap.size [.int .i64 px, .int .i64 y, .int .i64 pw, .int .i64 rh] 52 :: _) w9 := HN.reo 6 [0, 3, 1, 5, 2, 4] (by decide)
      have h5 := h4.matSnoc (by rw [HVS.out, List.length_take, HLN.out]; omega) (by rw [List.length_take, HLN.out]; omega)
      rw [← HROW.out, ← take_snoc LL i [] (by rw [HLN.out]; exact hil), HROW.out] at h5
      have h6 : St (top w) (blk gF [.int .i64 rw, .int .i64 rh, .int .i64 c, .bool d, .slice aoF i capF] 39 :: mat 53 72 .u16 (.slice (some ⟨g9, 0, none⟩) (i + 1) cp9) (LL.take (i + 1)) :: _) w9 := (h5.reo 4 [2, 3, 1, 0] (by decide)).drop.drop
      have x4 := St.cells_mem h6 mm0 4
      have fr4 := h6.frozen 4
      have HZ := Lib.hid (h6.setCell 4 (.slice (some ⟨g9, 0, none⟩) (i + 1) cp9))
      clear HN h4 h5 h6
      go_wp2_with fail
      go_roundw
      case rel => exact ⟨i + 1, _, by go_num, by omega, HZ.out⟩
      case measure => simp [intOf]; omega
    · have hil : i = l.length := by omega
      subst hil
      rw [List.take_of_length_le (by rw [HLN.out]; exact Nat.le_refl _)] at hS
      have H0 := hS
      clear hS H3
      have x4 := St.cells_mem H0.out mm4 4
      obtain ⟨f0, f1, f2, f3, f4⟩ := H0.out.cells5 mm0
      obtain ⟨d0, d1, d2, d3, d4⟩ := H0.out.cells5 mm2
      have hr := H0.out.blk_mem (g := w.heap.size + 2) mm2
      have fr : ∀ j, wr.frozen? ⟨w.heap.size + 2, j, none⟩ = false := fun j => by simp [World.frozen?, hr]
      have fr0 := fr 0
      have fr1 := fr 1
      have fr2 := fr 2
      have fr3 := fr 3
      have fr4 := fr 4
      clear fr hr
      go_wp2_with fail
      have h3 := (((((H0.out.rot3).setCell 0 (.int .i64 rw)).setCell 1 (.int .i64 rh)).setCell 2 (.int .i64 c)).setCell 3 (.bool d)).setCell 4 (.slice aoF l.length capF)
      have h4 := h3.blk_at
      exact bodyPost_ret (results_ct rfl _ _ (w.heap.size + 2) 39 #[.int .i64 rw, .int .i64 rh, .int .i64 c, .bool d, .slice aoF l.length capF] (0, 0) _ rfl h4 Try.underlying39 rfl (by kernel_rfl)) rfl ⟨_, rfl, (h3.drop.swap.reo 4 [1, 2, 3, 0] (by decide)).drop.drop.drop⟩
theorem rcut_ok {r1 r2 r3 : Int} {r4 : Bool} {L : List (List Int)} {r6 : Int} (he : cutF a b c d l x y rw rh = (r1, r2, r3, r4, L, r6)) : Calls Try.prog 45 #[.agg #[.int .i64 a, .int .i64 b, .int .i64 c, .bool d, .slice A l.length n], .agg #[.int .i64 x, .int .i64 y, .int .i64 rw, .int .i64 rh]] w (rcutPost w r1 r2 r3 r4 L r6) := by
  unfold cutF at he
  by_cases hv : valF a b c d l = 0
  · rw [if_pos hv] at he
    by_cases ho : wholeIn x y rw rh a b
    · rw [if_pos ho] at he
      simp only [Prod.mk.injEq] at he
      obtain ⟨rfl, rfl, rfl, rfl, rfl, rfl⟩ := he
      exact rcut_good w a b c d A n l x y rw rh hC hn hs hl hv ho
    · rw [if_neg ho] at he
      simp only [Prod.mk.injEq] at he
      obtain ⟨rfl, rfl, rfl, rfl, rfl, rfl⟩ := he
      exact rcut_out w a b c d A n l x y rw rh hC hn hs hl hv ho
  · rw [if_neg hv] at he
    simp only [Prod.mk.injEq] at he
    obtain ⟨rfl, rfl, rfl, rfl, rfl, rfl⟩ := he
    exact rcut_bad w a b c d A n l x y rw rh hC hn hs hl hv
end
end Go.Proofs.Ytdoikehkibefpaa
