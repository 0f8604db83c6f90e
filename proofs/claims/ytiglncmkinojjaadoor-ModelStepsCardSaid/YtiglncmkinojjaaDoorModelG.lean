import Derived.Test.YtiglncmkinojjaaDoorModelF
import Derived.Test.YtiglncmkinojjaaDoorModelP
namespace Go.Proofs.YtiglncmkinojjaaDoor
set_option linter.unusedSimpArgs false
set_option linter.unusedVariables false
open Go Go.RowKit

theorem made_M (W : World) (hT : Tab W) (l : List HP) (x y t mo : Int) (w : World) (hS : St (top W) l w) (hx : (Lit.int .i64 x).wf = true) (hy : (Lit.int .i64 y).wf = true) (hmo : (flav (placeN x 2)).1 = mo) (ht : placeN y 64 = t) :
    Calls Tryd.prog 10 #[.int .i64 x, .int .i64 y] w fun e' w' => ∃ g M, e' = .returned (.tuple #[.pointer (some ⟨g, 0, none⟩), .int .i64 mo, .int .i64 t]) ∧ Hid (M.Fits ∧ Sane M ∧ M.most = mo ∧ M.d = t ∧ ∃ n, M = madeMo (placeN x 2) t n ∧ Wides M.span n) ∧ St (top W) (mdl g M :: l) w' := by
  have ht1 := placeN_lt y 64 (by decide)
  rw [ht] at ht1
  refine (made_ok W hT l x y (placeN x 2) t w hS hx hy rfl ht).mono ?_
  rintro e w' ⟨g, n, rfl, hw, hS⟩
  have hf := madeMo_fits (placeN x 2) t n (by omega) (by omega) hw.out
  refine ⟨g, _, by rw [hmo], ⟨hf, ⟨hf.m0, hf.d0, hf.d1, hf.st, ?_⟩, hmo, rfl, n, rfl, hw.out⟩, hS⟩
  rfl

theorem arg_made {H : Type} {enc : TypeId × Value → H} {W : World} {base : Nat} {v0 : Value} (a0 : Arg enc Tryd.prog W base 23 v0) :
    ∃ x1 x2 : Int, v0 = .agg #[.int .i64 x1, .int .i64 x2] ∧ (Lit.int .i64 x1).wf = true ∧ (Lit.int .i64 x2).wf = true := by
  obtain ⟨cs, rfl, hl, hf⟩ := arg_struct Tryd.underlying23 a0
  have hlen : cs.length = 2 := hl.trans (by kernel_rfl)
  have c1 : Tryd.prog.cellsOf 3 = 1 := by kernel_rfl
  match cs, hlen with
  | [y1, y2], _ =>
    have e1 := hf 0 _ rfl
    have e2 := hf 1 _ rfl
    obtain ⟨n1, q1, w1⟩ := ok_int (k := .i64) Tryd.underlying3 e1
    obtain ⟨n2, q2, w2⟩ := ok_int (k := .i64) Tryd.underlying3 e2
    simp [c1] at q1 q2
    subst q1; subst q2
    exact ⟨n1, n2, rfl, w1, w2⟩

theorem flav_most (p : Int) : (flav p).1 = 1023 ∨ (flav p).1 = 4095 := by unfold flav; split <;> simp

theorem wf_hid {x : Int} (h : (Lit.int .i64 x).wf = true) : Hid ((Lit.int .i64 x).wf = true) := h

set_option maxRecDepth 100000 in
set_option maxHeartbeats 4000000 in
theorem modelFar_walk {H : Type} {enc : TypeId × Value → H} (W : World) (hT : Tab W) (base : Nat) (v0 v1 v2 : Value) (a0 : Arg enc Tryd.prog W base 23 v0) (a1 : Arg enc Tryd.prog W base 3 v1) (a2 : Arg enc Tryd.prog W base 3 v2) :
    Calls Tryd.prog 4 #[v0, v1, v2] W fun e W' => e = .returned (.bool true) ∧ Below W.heap.size W W' := by
  obtain ⟨d1, d2, rfl, wd1, wd2⟩ := arg_made a0
  obtain ⟨x, rfl, wx⟩ := arg_int Tryd.underlying3 a1
  obtain ⟨a, rfl, wa⟩ := arg_int Tryd.underlying3 a2
  clear a0 a1 a2
  obtain ⟨mo, hmo⟩ : ∃ mo, (flav (placeN d1 2)).1 = mo := ⟨_, rfl⟩
  obtain ⟨t, ht⟩ : ∃ t, placeN d2 64 = t := ⟨_, rfl⟩
  have ht1 := placeN_lt d2 64 (by decide)
  rw [ht] at ht1
  have hm := flav_most (placeN d1 2)
  rw [hmo] at hm
  have hm1 : 1023 ≤ mo := by omega
  have hm2 : mo ≤ 4095 := by omega
  obtain ⟨ht1, ht2⟩ := ht1
  obtain ⟨xx, hxx⟩ : ∃ r, placeN x (mo + 1) = r := ⟨_, rfl⟩
  have hxx1 := placeN_lt x (mo + 1) (by omega)
  rw [hxx] at hxx1
  obtain ⟨aa, haa⟩ : ∃ r, placeN a (mo + 1) = r := ⟨_, rfl⟩
  have haa1 := placeN_lt a (mo + 1) (by omega)
  rw [haa] at haa1
  obtain ⟨hx1, hx2⟩ := hxx1
  obtain ⟨ha1, ha2⟩ := haa1
  have HMO := Lib.hid hmo
  have HTT := Lib.hid ht
  have HXX := Lib.hid hxx
  have HAA := Lib.hid haa
  have WX := wf_hid wx
  have WA := wf_hid wa
  have W1 := wf_hid wd1
  have W2 := wf_hid wd2
  have HT := Lib.hid hT
  clear hmo ht hxx haa wx wa wd1 wd2 hT hm
  have H0 := Lib.hid (St.top W)
  have P := Lib.hid (St.alloc H0.out [.int .i64 d1, .int .i64 d2] 23)
  have f0 := St.cell P.out 0
  have f1 := St.cell P.out 1
  simp only [List.getElem?_cons_zero, List.getElem?_cons_succ] at f0 f1
  go_enter Tryd.func4, Tryd.ntmps4
  go_wp2_with (first
    | (go_at_call 9; go_must (with_reducible refine (shown_ok W HT.out _ _ P.out).mono ?_); rintro e w1 ⟨rfl, hS⟩; simp only []; clear P f0 f1; have P := Lib.hid hS; clear hS; have f0 := St.cell P.out 0; have f1 := St.cell P.out 1; simp only [List.getElem?_cons_zero, List.getElem?_cons_succ] at f0 f1)
    | (go_at_call 10; go_must (with_reducible refine (made_M W HT.out _ d1 d2 t mo _ P.out W1.out W2.out HMO.out HTT.out).mono ?_); rintro e w1 ⟨g, M, rfl, HM, hS⟩; simp only []; have H := Lib.hid hS; clear hS P f0 f1)
    | (go_at_call 11; with_reducible refine (place_is x (mo + 1) xx _ WX.out (by omega) HXX.out).mono ?_; rintro e w1 ⟨rfl, rfl⟩; simp only [])
    | (go_at_call 11; with_reducible refine (place_is a (mo + 1) aa _ WA.out (by omega) HAA.out).mono ?_; rintro e w1 ⟨rfl, rfl⟩; simp only []))
  obtain ⟨hF, hSa, hM1, hM2, -⟩ := HM.out
  have HF := Lib.hid hF
  obtain ⟨dd, hdd⟩ : ∃ r, (((xx - aa).natAbs : Nat) : Int) = r := ⟨_, rfl⟩
  have HDD := Lib.hid hdd
  by_cases hle : dd ≤ t
  · have hq := (shrink_zero M hSa (xx - aa) (by omega) (by omega)).2 (by omega)
    have hy := grow_zero M hSa aa (by omega) (by omega)
    have HQ := Lib.hid hq
    have HY := Lib.hid hy
    clear hF hSa hM1 hM2 HM hdd hq hy
    go_wp2_with (first
      | (go_at_call 14; go_must (with_reducible refine (size_is (xx - aa) dd _ (by omega) (by omega) HDD.out).mono ?_); rintro e w2 ⟨rfl, rfl⟩; simp only [])
      | (go_at_call 12; go_must (with_reducible refine (Shrink_ok (top W) _ g M (xx - aa) 0 _ H.out HF.out HQ.out).mono ?_); rintro e w2 ⟨rfl, hq⟩; simp only []; have H2 := Lib.hid (H.out.of_quiet hq); clear hq H; have H := H2; clear H2)
      | (go_at_call 13; go_must (with_reducible refine (Grow_ok (top W) _ g M aa 0 aa _ H.out HF.out HY.out).mono ?_); rintro e w2 ⟨rfl, hq⟩; simp only []; have H2 := Lib.hid (H.out.of_quiet hq); clear hq H; have H := H2; clear H2))
    go_ret
    exact ⟨rfl, H.out.below⟩
  · obtain ⟨q, hq⟩ : ∃ q, shrinkI M (xx - aa) = q := ⟨_, rfl⟩
    obtain ⟨y, hy⟩ : ∃ y, growI M aa q = y := ⟨_, rfl⟩
    obtain ⟨hq0, hyd⟩ := far_law M hSa xx aa (by omega) (by omega) (by omega) (by omega) (by omega) hq hy
    obtain ⟨dy, hdy⟩ : ∃ r, (((y - aa).natAbs : Nat) : Int) = r := ⟨_, rfl⟩
    have hdt : decide (t < dy) = true := decide_eq_true (by omega)
    have hqb : (q != 0) = true := by simpa using hq0
    have hyb : 0 ≤ y ∧ y ≤ mo := by rw [← hy, ← hM1]; exact grow_bounds M aa q (by omega)
    obtain ⟨hy1, hy2⟩ := hyb
    have HQ := Lib.hid hq
    have HY := Lib.hid hy
    have HDY := Lib.hid hdy
    clear hF hSa hM1 hM2 HM hdd hq hy hdy hq0 hyd
    go_wp2_with (first
      | (go_at_call 14; with_reducible refine (size_is (xx - aa) dd _ (by omega) (by omega) HDD.out).mono ?_; rintro e w2 ⟨rfl, rfl⟩; simp only [])
      | (go_at_call 14; with_reducible refine (size_is (y - aa) dy _ (by omega) (by omega) HDY.out).mono ?_; rintro e w2 ⟨rfl, rfl⟩; simp only [])
      | (go_at_call 12; go_must (with_reducible refine (Shrink_ok (top W) _ g M (xx - aa) q _ H.out HF.out HQ.out).mono ?_); rintro e w2 ⟨rfl, hq⟩; simp only []; have H2 := Lib.hid (H.out.of_quiet hq); clear hq H; have H := H2; clear H2)
      | (go_at_call 13; go_must (with_reducible refine (Grow_ok (top W) _ g M aa q y _ H.out HF.out HY.out).mono ?_); rintro e w2 ⟨rfl, hq⟩; simp only []; have H2 := Lib.hid (H.out.of_quiet hq); clear hq H; have H := H2; clear H2))
    go_ret
    exact ⟨rfl, H.out.below⟩

set_option maxRecDepth 100000 in
set_option maxHeartbeats 4000000 in
theorem modelNear_walk {H : Type} {enc : TypeId × Value → H} (W : World) (hT : Tab W) (base : Nat) (v0 v1 v2 : Value) (a0 : Arg enc Tryd.prog W base 23 v0) (a1 : Arg enc Tryd.prog W base 3 v1) (a2 : Arg enc Tryd.prog W base 3 v2) :
    Calls Tryd.prog 3 #[v0, v1, v2] W fun e W' => e = .returned (.bool true) ∧ Below W.heap.size W W' := by
  obtain ⟨d1, d2, rfl, wd1, wd2⟩ := arg_made a0
  obtain ⟨x, rfl, wx⟩ := arg_int Tryd.underlying3 a1
  obtain ⟨a, rfl, wa⟩ := arg_int Tryd.underlying3 a2
  clear a0 a1 a2
  obtain ⟨mo, hmo⟩ : ∃ mo, (flav (placeN d1 2)).1 = mo := ⟨_, rfl⟩
  obtain ⟨t, ht⟩ : ∃ t, placeN d2 64 = t := ⟨_, rfl⟩
  have ht1 := placeN_lt d2 64 (by decide)
  rw [ht] at ht1
  have hm := flav_most (placeN d1 2)
  rw [hmo] at hm
  have hm1 : 1023 ≤ mo := by omega
  have hm2 : mo ≤ 4095 := by omega
  obtain ⟨ht1, ht2⟩ := ht1
  obtain ⟨xx, hxx⟩ : ∃ r, placeN x (mo + 1) = r := ⟨_, rfl⟩
  have hxx1 := placeN_lt x (mo + 1) (by omega)
  rw [hxx] at hxx1
  obtain ⟨aa, haa⟩ : ∃ r, placeN a (mo + 1) = r := ⟨_, rfl⟩
  have haa1 := placeN_lt a (mo + 1) (by omega)
  rw [haa] at haa1
  obtain ⟨hx1, hx2⟩ := hxx1
  obtain ⟨ha1, ha2⟩ := haa1
  have HMO := Lib.hid hmo
  have HTT := Lib.hid ht
  have HXX := Lib.hid hxx
  have HAA := Lib.hid haa
  have WX := wf_hid wx
  have WA := wf_hid wa
  have W1 := wf_hid wd1
  have W2 := wf_hid wd2
  have HT := Lib.hid hT
  clear hmo ht hxx haa wx wa wd1 wd2 hT hm
  have H0 := Lib.hid (St.top W)
  have P := Lib.hid (St.alloc H0.out [.int .i64 d1, .int .i64 d2] 23)
  have f0 := St.cell P.out 0
  have f1 := St.cell P.out 1
  simp only [List.getElem?_cons_zero, List.getElem?_cons_succ] at f0 f1
  go_enter Tryd.func3, Tryd.ntmps3
  go_wp2_with (first
    | (go_at_call 9; go_must (with_reducible refine (shown_ok W HT.out _ _ P.out).mono ?_); rintro e w1 ⟨rfl, hS⟩; simp only []; clear P f0 f1; have P := Lib.hid hS; clear hS; have f0 := St.cell P.out 0; have f1 := St.cell P.out 1; simp only [List.getElem?_cons_zero, List.getElem?_cons_succ] at f0 f1)
    | (go_at_call 10; go_must (with_reducible refine (made_M W HT.out _ d1 d2 t mo _ P.out W1.out W2.out HMO.out HTT.out).mono ?_); rintro e w1 ⟨g, M, rfl, HM, hS⟩; simp only []; have H := Lib.hid hS; clear hS P f0 f1)
    | (go_at_call 11; with_reducible refine (place_is x (mo + 1) xx _ WX.out (by omega) HXX.out).mono ?_; rintro e w1 ⟨rfl, rfl⟩; simp only [])
    | (go_at_call 11; with_reducible refine (place_is a (mo + 1) aa _ WA.out (by omega) HAA.out).mono ?_; rintro e w1 ⟨rfl, rfl⟩; simp only []))
  go_loopw [11, 12, 13] (fun gi _ _ w' => ∃ i : Int, gi = .int .i64 i ∧ (i = -1 ∨ i = 1 ∨ i = 3) ∧ Hid (St (top W) [mdl g M, blk W.heap.size [.int .i64 d1, .int .i64 d2] 23] w')) (fun gi _ _ _ => (3 - intOf gi).toNat)
  case atStart => exact ⟨-1, rfl, .inl rfl, H⟩
  case round =>
    obtain ⟨i, rfl, hi, H2⟩ := hrel
    clear H
    have H := Lib.hid H2.out
    clear H2
    obtain ⟨hF, hSa, hM1, hM2, -⟩ := HM.out
    have HF := Lib.hid hF
    by_cases hi3 : i = 3
    · subst hi3
      clear hF hSa hM1 hM2 HM
      go_wp2_with fail
      go_ret
      exact ⟨rfl, H.out.below⟩
    · have hi2 : i = 1 ∨ i = -1 := by omega
      obtain ⟨q, hq⟩ : ∃ q, shrinkI M (i * (xx - aa)) = q := ⟨_, rfl⟩
      obtain ⟨y, hy⟩ : ∃ y, growI M aa (i * q) = y := ⟨_, rfl⟩
      obtain ⟨l1, l2, l3, l4, l5, l6, l7⟩ := near_law M hSa xx aa i (by omega) (by omega) (by omega) (by omega) hi2 hq hy
      have hsp1 := hF.p0
      have hsp2 := hF.p1
      obtain ⟨e, he⟩ : ∃ e, i * (xx - aa) = e := ⟨_, rfl⟩
      obtain ⟨iq, hiq⟩ : ∃ e, i * q = e := ⟨_, rfl⟩
      obtain ⟨e2, he2⟩ : ∃ e, i * (y - aa) = e := ⟨_, rfl⟩
      rw [he] at hq
      rw [hiq] at hy
      rw [he2] at l5
      have b1 : -4095 ≤ e ∧ e ≤ 4095 := by rcases hi2 with rfl | rfl <;> omega
      have b2 : -4095 ≤ iq ∧ iq ≤ 4095 := by rcases hi2 with rfl | rfl <;> omega
      have b3 : -4095 ≤ e2 ∧ e2 ≤ 4095 := by rcases hi2 with rfl | rfl <;> omega
      obtain ⟨b11, b12⟩ := b1
      obtain ⟨b21, b22⟩ := b2
      obtain ⟨b31, b32⟩ := b3
      obtain ⟨dy, hdy⟩ : ∃ r, (((y - xx).natAbs : Nat) : Int) = r := ⟨_, rfl⟩
      have c1 : decide (y < 0) = false := decide_eq_false (by omega)
      have c2 : decide (mo < y) = false := decide_eq_false (by omega)
      have c3 : decide (t < dy) = false := decide_eq_false (by omega)
      have c4 : (q != q) = false := by simp
      have c5 : decide (q < -(M.span / 2)) = false := decide_eq_false (by omega)
      have c6 : decide ((M.span - 1) / 2 < q) = false := decide_eq_false (by omega)
      have c7 : t = 0 → (y != xx) = false := fun h => by rw [bne_eq_false_iff_eq]; omega
      have C7 := Lib.hid c7
      have i1 : -1 ≤ i := by omega
      have i2 : i ≤ 1 := by omega
      have l1' : 0 ≤ y := l1
      have l2' : y ≤ mo := by omega
      have l6' : -2048 ≤ q := by omega
      have l7' : q ≤ 2048 := by omega
      have hlt : i < 2 := by omega
      have HI := Lib.hid hi2
      have HQ := Lib.hid hq
      have HY := Lib.hid hy
      have HQ2 := Lib.hid l5
      have HDY := Lib.hid hdy
      clear hq hy l5 hdy c7 l1 l2 l3 l4 l6 l7 hF hSa hM1 hM2 HM hi hi2 hi3
      by_cases ht0 : t = 0
      · have c8 : (t == 0) = true := by simpa using ht0
        have c9 := C7.out ht0
        clear ht0
        go_wp2_with (first
          | (go_at_call 12; with_reducible refine (Shrink_ok (top W) _ g M e q _ H.out HF.out HQ.out).mono ?_; rintro e w2 ⟨rfl, hq⟩; simp only []; have H2 := Lib.hid (H.out.of_quiet hq); clear hq H; have H := H2; clear H2)
          | (go_at_call 12; with_reducible refine (Shrink_ok (top W) _ g M e2 q _ H.out HF.out HQ2.out).mono ?_; rintro e w2 ⟨rfl, hq⟩; simp only []; have H2 := Lib.hid (H.out.of_quiet hq); clear hq H; have H := H2; clear H2)
          | (go_at_call 13; go_must (with_reducible refine (Grow_ok (top W) _ g M aa iq y _ H.out HF.out HY.out).mono ?_); rintro e w2 ⟨rfl, hq⟩; simp only []; have H2 := Lib.hid (H.out.of_quiet hq); clear hq H; have H := H2; clear H2)
          | (go_at_call 14; go_must (with_reducible refine (size_is (y - xx) dy _ (by omega) (by omega) HDY.out).mono ?_); rintro e w2 ⟨rfl, rfl⟩; simp only [])
          | (go_at_call 15; go_must (with_reducible refine (Range_ok (top W) _ g M _ H.out).mono ?_); rintro e w2 ⟨rfl, hq⟩; simp only []; have H2 := Lib.hid (H.out.of_quiet hq); clear hq H; have H := H2; clear H2))
        go_roundw
        case rel => exact ⟨i + 2, by go_num, by have := HI.out; omega, H⟩
        case measure => have := HI.out; simp [intOf]; omega
      · have c8 : (t == 0) = false := by simpa using ht0
        clear ht0
        go_wp2_with (first
          | (go_at_call 12; with_reducible refine (Shrink_ok (top W) _ g M e q _ H.out HF.out HQ.out).mono ?_; rintro e w2 ⟨rfl, hq⟩; simp only []; have H2 := Lib.hid (H.out.of_quiet hq); clear hq H; have H := H2; clear H2)
          | (go_at_call 12; with_reducible refine (Shrink_ok (top W) _ g M e2 q _ H.out HF.out HQ2.out).mono ?_; rintro e w2 ⟨rfl, hq⟩; simp only []; have H2 := Lib.hid (H.out.of_quiet hq); clear hq H; have H := H2; clear H2)
          | (go_at_call 13; go_must (with_reducible refine (Grow_ok (top W) _ g M aa iq y _ H.out HF.out HY.out).mono ?_); rintro e w2 ⟨rfl, hq⟩; simp only []; have H2 := Lib.hid (H.out.of_quiet hq); clear hq H; have H := H2; clear H2)
          | (go_at_call 14; go_must (with_reducible refine (size_is (y - xx) dy _ (by omega) (by omega) HDY.out).mono ?_); rintro e w2 ⟨rfl, rfl⟩; simp only [])
          | (go_at_call 15; go_must (with_reducible refine (Range_ok (top W) _ g M _ H.out).mono ?_); rintro e w2 ⟨rfl, hq⟩; simp only []; have H2 := Lib.hid (H.out.of_quiet hq); clear hq H; have H := H2; clear H2))
        go_roundw
        case rel => exact ⟨i + 2, by go_num, by have := HI.out; omega, H⟩
        case measure => have := HI.out; simp [intOf]; omega

end Go.Proofs.YtiglncmkinojjaaDoor
