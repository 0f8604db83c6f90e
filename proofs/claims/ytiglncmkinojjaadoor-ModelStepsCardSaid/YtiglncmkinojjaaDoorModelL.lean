import Derived.Test.YtiglncmkinojjaaDoorModelK
namespace Go.Proofs.YtiglncmkinojjaaDoor
set_option linter.unusedSimpArgs false
set_option linter.unusedVariables false
open Go Go.RowKit

theorem madeMo_inv (p t : Int) (n : Nat) (hf : (madeMo p t n).Fits) : ∀ s ∈ (madeMo p t n).st, Inv s := by
  intro s hs
  have h0 := hf.p0
  have h1 := hf.p1
  have he := List.eq_of_mem_replicate hs
  subst he
  generalize hx : (madeMo p t n).span = sp at h0 h1
  have hx' : ((flav p).1 + 2 * t) / (2 * t + 1) + 1 = sp := hx
  rw [hx']
  refine ⟨?_, ?_, ?_, ?_, ?_, ?_, ?_, ?_⟩ <;> simp only <;> omega

theorem placeNat (x : Int) : ∃ k : Nat, k < 365 ∧ placeN x 365 = (k : Int) := by
  have h := placeN_lt x 365 (by omega)
  exact ⟨(placeN x 365).toNat, by omega, by omega⟩

theorem Mo.put_ne (M : Mo) (k j : Nat) (s : Int × Int × Int × Int) (h : k ≠ j) : (M.put k s).st[j]? = M.st[j]? := by simp [Mo.put, h]
theorem Mo.put_mem (M : Mo) (k : Nat) (s : Int × Int × Int × Int) (hs : Inv s) (h : ∀ s ∈ M.st, Inv s) : ∀ x ∈ (M.put k s).st, Inv x := by
  intro x hx
  rcases List.mem_or_eq_of_mem_set hx with h1 | rfl
  · exact h x h1
  · exact hs
theorem Mo.put_fits (M : Mo) (k : Nat) (s : Int × Int × Int × Int) (h : M.Fits) : (M.put k s).Fits := ⟨h.m0, h.m1, h.d0, h.d1, h.st, h.p0, h.p1, h.w0, h.w1, by rw [Mo.put_len]; exact h.n⟩

set_option maxRecDepth 100000 in
set_option maxHeartbeats 8000000 in
theorem modelLearns_walk {H : Type} {enc : TypeId × Value → H} (W : World) (hT : Tab W) (base : Nat) (v0 v1 : Value) (a0 : Arg enc Tryd.prog W base 23 v0) (a1 : Arg enc Tryd.prog W base 32 v1) :
    Calls Tryd.prog 5 #[v0, v1] W fun e W' => e = .returned (.bool true) ∧ Below W.heap.size W W' := by
  obtain ⟨d1, d2, rfl, wd1, wd2⟩ := arg_made a0
  obtain ⟨ao, cap, l, rfl, hlc, hlw, hel⟩ := ok_ops (arg_slice Tryd.underlying32 a1)
  clear a0 a1
  obtain ⟨mo, hmo⟩ : ∃ mo, (flav (placeN d1 2)).1 = mo := ⟨_, rfl⟩
  obtain ⟨t, ht⟩ : ∃ t, placeN d2 64 = t := ⟨_, rfl⟩
  have HMO := Lib.hid hmo
  have HTT := Lib.hid ht
  have W1 := wf_hid wd1
  have W2 := wf_hid wd2
  have HT := Lib.hid hT
  have HE := Lib.hid hel
  clear hmo ht wd1 wd2 hT hel
  have H0 := Lib.hid (St.top W)
  have P := Lib.hid (St.alloc H0.out [.int .i64 d1, .int .i64 d2] 23)
  have f0 := St.cell P.out 0
  have f1 := St.cell P.out 1
  simp only [List.getElem?_cons_zero, List.getElem?_cons_succ] at f0 f1
  go_enter Tryd.func5, Tryd.ntmps5
  go_wp2_with (first
    | (go_at_call 9; go_must (with_reducible refine (shown_ok W HT.out _ _ P.out).mono ?_); rintro e w1 ⟨rfl, hS⟩; simp only []; clear P f0 f1; have P := Lib.hid hS; clear hS; have f0 := St.cell P.out 0; have f1 := St.cell P.out 1; simp only [List.getElem?_cons_zero, List.getElem?_cons_succ] at f0 f1)
    | (go_at_call 10; go_must (with_reducible refine (made_M W HT.out _ d1 d2 t mo _ P.out W1.out W2.out HMO.out HTT.out).mono ?_); rintro e w1 ⟨g, M, rfl, HM, hS⟩; simp only []; have H := Lib.hid hS; clear hS P f0 f1))
  obtain ⟨hF, hSa, hM1, hM2, n0, rfl, hWd⟩ := HM.out
  have HF0 := Lib.hid hF
  have HI0 := Lib.hid (madeMo_inv _ _ _ hF)
  clear hF hSa hM1 hM2 hWd HM
  generalize madeMo (placeN d1 2) t n0 = M at *
  go_loopw [9, 10, 11, 12, 13, 14, 15, 16, 17, 18, 19, 20, 21, 22, 23, 24, 25, 26, 27] (fun i _ _ _ _ _ _ _ _ _ _ _ _ _ _ _ _ _ _ w' => ∃ j : Nat, j ≤ l.length ∧ i = .int .i64 (j : Nat) ∧ ∃ M1 : Mo, M1.Fits ∧ (∀ s ∈ M1.st, Inv s) ∧ Hid (St (top W) [mdl g M1, blk W.heap.size [.int .i64 d1, .int .i64 d2] 23] w')) (fun i _ _ _ _ _ _ _ _ _ _ _ _ _ _ _ _ _ _ _ => l.length - (intOf i).toNat)
  case atStart => exact ⟨0, by omega, by simp, M, HF0.out, HI0.out, H⟩
  case round =>
    obtain ⟨i, hi, rfl, M1, hF, hIn, H2⟩ := hrel
    clear H
    have H := Lib.hid H2.out
    clear H2 HF0 HI0
    have HF := Lib.hid hF
    have HIN := Lib.hid hIn
    by_cases hil : i < l.length
    · obtain ⟨b0, off, rfl, -, c1, -, c3, c4, -, -, -, -, wk, -, wa, wb, -, -⟩ := HE.out i hil
      obtain ⟨kx, hkx⟩ : ∃ r, l[i].k = r := ⟨_, rfl⟩
      obtain ⟨ax, hax⟩ : ∃ r, l[i].a = r := ⟨_, rfl⟩
      obtain ⟨bx, hbx⟩ : ∃ r, l[i].b = r := ⟨_, rfl⟩
      rw [hkx] at c1 wk
      rw [hax] at c3 wa
      rw [hbx] at c4 wb
      clear hkx hax hbx
      have ck := top_cell H.out c1
      have ca := top_cell H.out c3
      have cb := top_cell H.out c4
      have CA := Lib.hid c3
      have WK := wf_hid wk
      have WB := wf_hid wb
      obtain ⟨kn, hk, pk⟩ := placeNat kx
      obtain ⟨jn, hj, pb⟩ := placeNat bx
      have PK := Lib.hid pk
      have PB := Lib.hid pb
      clear c1 c3 c4 wk wa wb pk pb
      have hn := hF.n
      obtain ⟨⟨a1, b1, was, n⟩, hsk⟩ : ∃ s, M1.st[kn]? = some s := ⟨_, List.getElem?_eq_getElem (by omega)⟩
      have hik := hIn _ (List.mem_of_getElem? hsk)
      obtain ⟨li1, li2, li3, li4⟩ := learn_inv M1 hF (a1, b1, was, n) ax hik
      obtain ⟨⟨e1, f1, g1, h1⟩, hl⟩ : ∃ s, learnI M1 (a1, b1, was, n) ax = s := ⟨_, rfl⟩
      rw [hl] at li1 li2 li3 li4
      obtain ⟨M2, hM2⟩ : ∃ M2, M1.put kn (e1, f1, g1, h1) = M2 := ⟨_, rfl⟩
      have hF2 : M2.Fits := by rw [← hM2]; exact Mo.put_fits _ _ _ hF
      have hI2 : ∀ s ∈ M2.st, Inv s := by rw [← hM2]; exact Mo.put_mem _ _ _ li1 hIn
      have hsk2 : M2.st[kn]? = some (e1, f1, g1, h1) := by rw [← hM2]; exact Mo.put_get _ _ _ (by omega)
      have HL : Hid (M1.put kn (learnI M1 (a1, b1, was, n) ax) = M2) := by rw [hl]; exact hM2
      have HF2 := Lib.hid hF2
      have HI2 := Lib.hid hI2
      have HI := Lib.hid hik
      have SK := Lib.hid hsk
      have SK2 := Lib.hid hsk2
      have z1 := hik.n1
      have z2 := hik.n2
      have z3 := hik.s1
      have z4 := hik.s2
      have y1 := li1.n1
      have y2 := li1.n2
      have y3 := li1.a1
      have y4 := li1.b1
      have y5 := li1.b2
      have y6 := li1.s1
      have y7 := li1.s2
      simp only at z1 z2 z3 z4 y1 y2 y3 y4 y5 y6 y7 li2 li3 li4
      obtain ⟨dg, hdg⟩ : ∃ r, (((g1 - was).natAbs : Nat) : Int) = r := ⟨_, rfl⟩
      have HDG := Lib.hid hdg
      have h12 : 2 ≤ h1 := by split at li2 <;> omega
      have t1 : decide (e1 < 0) = false := decide_eq_false (by omega)
      have t2 : decide (f1 ≤ -h1) = false := decide_eq_false (by omega)
      have t3 : decide (0 < f1) = false := decide_eq_false (by omega)
      have t4 : decide (1 < dg) = false := decide_eq_false (by omega)
      have t5 : decide (h1 < 2) = false := decide_eq_false (by omega)
      have t6 : decide (64 < h1) = false := decide_eq_false (by omega)
      have t7 : decide (g1 < -128) = false := decide_eq_false (by omega)
      have t8 : decide (127 < g1) = false := decide_eq_false (by omega)
      have HCASE : Hid ((decide (n < 64) = true ∧ (h1 != n + 1) = false ∧ (n == 64) = false) ∨ (decide (n < 64) = false ∧ (n == 64) = true ∧ (h1 != 33) = false)) := by
        by_cases h64 : n = 64
        · right
          rw [if_pos h64] at li2
          exact ⟨decide_eq_false (by omega), by simpa using h64, by rw [bne_eq_false_iff_eq]; exact li2⟩
        · left
          rw [if_neg h64] at li2
          exact ⟨decide_eq_true (by omega), by rw [bne_eq_false_iff_eq]; exact li2, by simpa using h64⟩
      clear hF2 hI2 hik hsk hsk2 hl hM2 li1 li2 li3 li4 hdg hF hIn
      by_cases hjk : jn = kn
      · subst hjk
        rcases HCASE.out with ⟨s1, s2, s3⟩ | ⟨s1, s2, s3⟩
        all_goals
          go_wp2_with (first
            | (go_at_call 11; with_reducible refine (place_is kx 365 jn _ WK.out (by decide) PK.out).mono ?_; rintro e w2 ⟨rfl, rfl⟩; simp only [])
            | (go_at_call 11; with_reducible refine (place_is bx 365 jn _ WB.out (by decide) PB.out).mono ?_; rintro e w2 ⟨rfl, rfl⟩; simp only [])
            | (go_at_call 16; with_reducible refine (Stats_ok (top W) _ g M1 jn a1 b1 was n _ H.out HF.out (by omega) SK.out).mono ?_; rintro e w2 ⟨rfl, hS⟩; simp only []; clear H ca; have H := Lib.hid hS; clear hS; have ca := top_cell H.out CA.out)
            | (go_at_call 17; go_must (with_reducible refine (Learn_ok (top W) _ g M1 jn ax a1 b1 was n _ H.out HF.out (by omega) SK.out HI.out).mono ?_); rintro e w2 ⟨rfl, hS⟩; simp only []; clear H ca; have H := Lib.hid hS; rw [HL.out] at H; clear hS; have ca := top_cell H.out CA.out)
            | (go_at_call 16; with_reducible refine (Stats_ok (top W) _ g M2 jn e1 f1 g1 h1 _ H.out HF2.out (by omega) SK2.out).mono ?_; rintro e w2 ⟨rfl, hS⟩; simp only []; clear H ca; have H := Lib.hid hS; clear hS; have ca := top_cell H.out CA.out)
            | (go_at_call 14; go_must (with_reducible refine (size_is (g1 - was) dg _ (by omega) (by omega) HDG.out).mono ?_); rintro e w2 ⟨rfl, rfl⟩; simp only []))
          go_roundw
          case rel => exact ⟨i + 1, by omega, by go_num, M2, HF2.out, HI2.out, H⟩
          case measure => simp [intOf]; omega
      · have hjb : ((jn : Int) != (kn : Int)) = true := by simp; omega
        have hsj : ∃ s, M1.st[jn]? = some s := ⟨_, List.getElem?_eq_getElem (by omega)⟩
        obtain ⟨⟨a, b, c, d⟩, hsj⟩ := hsj
        have SJ := Lib.hid hsj
        have SJ2 : Hid (M2.st[jn]? = some (a, b, c, d)) := by
          have := HL.out
          rw [← this, Mo.put_ne _ _ _ _ (Ne.symm hjk)]
          exact hsj
        clear hsj
        rcases HCASE.out with ⟨s1, s2, s3⟩ | ⟨s1, s2, s3⟩
        all_goals
          go_wp2_with (first
            | (go_at_call 11; with_reducible refine (place_is kx 365 kn _ WK.out (by decide) PK.out).mono ?_; rintro e w2 ⟨rfl, rfl⟩; simp only [])
            | (go_at_call 11; with_reducible refine (place_is bx 365 jn _ WB.out (by decide) PB.out).mono ?_; rintro e w2 ⟨rfl, rfl⟩; simp only [])
            | (go_at_call 16; with_reducible refine (Stats_ok (top W) _ g M1 kn a1 b1 was n _ H.out HF.out (by omega) SK.out).mono ?_; rintro e w2 ⟨rfl, hS⟩; simp only []; clear H ca; have H := Lib.hid hS; clear hS; have ca := top_cell H.out CA.out)
            | (go_at_call 16; with_reducible refine (Stats_ok (top W) _ g M1 jn a b c d _ H.out HF.out (by omega) SJ.out).mono ?_; rintro e w2 ⟨rfl, hS⟩; simp only []; clear H ca; have H := Lib.hid hS; clear hS; have ca := top_cell H.out CA.out)
            | (go_at_call 17; go_must (with_reducible refine (Learn_ok (top W) _ g M1 kn ax a1 b1 was n _ H.out HF.out (by omega) SK.out HI.out).mono ?_); rintro e w2 ⟨rfl, hS⟩; simp only []; clear H ca; have H := Lib.hid hS; rw [HL.out] at H; clear hS; have ca := top_cell H.out CA.out)
            | (go_at_call 16; with_reducible refine (Stats_ok (top W) _ g M2 kn e1 f1 g1 h1 _ H.out HF2.out (by omega) SK2.out).mono ?_; rintro e w2 ⟨rfl, hS⟩; simp only []; clear H ca; have H := Lib.hid hS; clear hS; have ca := top_cell H.out CA.out)
            | (go_at_call 16; with_reducible refine (Stats_ok (top W) _ g M2 jn a b c d _ H.out HF2.out (by omega) SJ2.out).mono ?_; rintro e w2 ⟨rfl, hS⟩; simp only []; clear H ca; have H := Lib.hid hS; clear hS; have ca := top_cell H.out CA.out)
            | (go_at_call 14; go_must (with_reducible refine (size_is (g1 - was) dg _ (by omega) (by omega) HDG.out).mono ?_); rintro e w2 ⟨rfl, rfl⟩; simp only []))
          go_roundw
          case rel => exact ⟨i + 1, by omega, by go_num, M2, HF2.out, HI2.out, H⟩
          case measure => simp [intOf]; omega
    · have hil : i = l.length := by omega
      subst hil
      clear hF hIn
      go_wp2_with fail
      go_ret
      exact ⟨rfl, H.out.below⟩

end Go.Proofs.YtiglncmkinojjaaDoor
