import Derived.Test.YtiglncmkinojjaaDoorModelH
namespace Go.Proofs.YtiglncmkinojjaaDoor
set_option linter.unusedSimpArgs false
set_option linter.unusedVariables false
open Go Go.RowKit

theorem arg_four {H : Type} {enc : TypeId × Value → H} {W : World} {base : Nat} {v0 : Value} (a0 : Arg enc Tryd.prog W base 40 v0) :
    ∃ x1 x2 x3 x4 : Int, v0 = .agg #[.int .i64 x1, .int .i64 x2, .int .i64 x3, .int .i64 x4] ∧ (Lit.int .i64 x1).wf = true ∧ (Lit.int .i64 x2).wf = true ∧ (Lit.int .i64 x3).wf = true ∧ (Lit.int .i64 x4).wf = true := by
  obtain ⟨cs, rfl, hl, hf⟩ := arg_struct Tryd.underlying40 a0
  have hlen : cs.length = 4 := hl.trans (by kernel_rfl)
  have c1 : Tryd.prog.cellsOf 3 = 1 := by kernel_rfl
  match cs, hlen with
  | [y1, y2, y3, y4], _ =>
    have e1 := hf 0 _ rfl
    have e2 := hf 1 _ rfl
    have e3 := hf 2 _ rfl
    have e4 := hf 3 _ rfl
    obtain ⟨n1, q1, w1⟩ := ok_int (k := .i64) Tryd.underlying3 e1
    obtain ⟨n2, q2, w2⟩ := ok_int (k := .i64) Tryd.underlying3 e2
    obtain ⟨n3, q3, w3⟩ := ok_int (k := .i64) Tryd.underlying3 e3
    obtain ⟨n4, q4, w4⟩ := ok_int (k := .i64) Tryd.underlying3 e4
    simp [c1] at q1 q2 q3 q4
    subst q1; subst q2; subst q3; subst q4
    exact ⟨n1, n2, n3, n4, rfl, w1, w2, w3, w4⟩

theorem m1 {α : Type} {a b : α} : b ∈ [a, b] := List.mem_cons_of_mem _ (List.mem_cons_self ..)
theorem m2 {α : Type} {a b c : α} : c ∈ [a, b, c] := List.mem_cons_of_mem _ m1

set_option maxRecDepth 100000 in
set_option maxHeartbeats 4000000 in
theorem modelTurned_walk {H : Type} {enc : TypeId × Value → H} (W : World) (hT : Tab W) (base : Nat) (v0 v1 : Value) (a0 : Arg enc Tryd.prog W base 23 v0) (a1 : Arg enc Tryd.prog W base 40 v1) :
    Calls Tryd.prog 6 #[v0, v1] W fun e W' => e = .returned (.bool true) ∧ Below W.heap.size W W' := by
  obtain ⟨d1, d2, rfl, wd1, wd2⟩ := arg_made a0
  obtain ⟨x1, x2, x3, x4, rfl, wx1, wx2, wx3, wx4⟩ := arg_four a1
  clear a0 a1
  obtain ⟨mo, hmo⟩ : ∃ mo, (flav (placeN d1 2)).1 = mo := ⟨_, rfl⟩
  obtain ⟨t, ht⟩ : ∃ t, placeN d2 64 = t := ⟨_, rfl⟩
  have ht1 := placeN_lt d2 64 (by decide)
  rw [ht] at ht1
  have hm := flav_most (placeN d1 2)
  rw [hmo] at hm
  have hm1 : 1023 ≤ mo := by omega
  have hm2 : mo ≤ 4095 := by omega
  obtain ⟨ht1, ht2⟩ := ht1
  obtain ⟨a, ha⟩ : ∃ r, placeN x1 (mo + 1) = r := ⟨_, rfl⟩
  obtain ⟨b, hb⟩ : ∃ r, placeN x2 (mo + 1) = r := ⟨_, rfl⟩
  obtain ⟨c, hc⟩ : ∃ r, placeN x3 (mo + 1) = r := ⟨_, rfl⟩
  obtain ⟨d, hd⟩ : ∃ r, placeN x4 (mo + 1) = r := ⟨_, rfl⟩
  have h1 := placeN_lt x1 (mo + 1) (by omega)
  have h2 := placeN_lt x2 (mo + 1) (by omega)
  have h3 := placeN_lt x3 (mo + 1) (by omega)
  have h4 := placeN_lt x4 (mo + 1) (by omega)
  rw [ha] at h1
  rw [hb] at h2
  rw [hc] at h3
  rw [hd] at h4
  obtain ⟨h11, h12⟩ := h1
  obtain ⟨h21, h22⟩ := h2
  obtain ⟨h31, h32⟩ := h3
  obtain ⟨h41, h42⟩ := h4
  have HMO := Lib.hid hmo
  have HTT := Lib.hid ht
  have HA := Lib.hid ha
  have HB := Lib.hid hb
  have HC := Lib.hid hc
  have HD := Lib.hid hd
  have X1 := wf_hid wx1
  have X2 := wf_hid wx2
  have X3 := wf_hid wx3
  have X4 := wf_hid wx4
  have W1 := wf_hid wd1
  have W2 := wf_hid wd2
  have HT := Lib.hid hT
  clear hmo ht ha hb hc hd wx1 wx2 wx3 wx4 wd1 wd2 hT hm
  have H0 := Lib.hid (St.top W)
  have P0 : (St (top W) [blk (W.heap.size + 1) [.int .i64 x1, .int .i64 x2, .int .i64 x3, .int .i64 x4] 40, blk W.heap.size [.int .i64 d1, .int .i64 d2] 23] ((W.alloc (.cells #[.int .i64 d1, .int .i64 d2] 23)).alloc (.cells #[.int .i64 x1, .int .i64 x2, .int .i64 x3, .int .i64 x4] 40))) := by
    have := St.alloc (St.alloc H0.out [.int .i64 d1, .int .i64 d2] 23) [.int .i64 x1, .int .i64 x2, .int .i64 x3, .int .i64 x4] 40
    simpa using this
  have P := Lib.hid P0
  clear P0
  have f0 := St.cell_mem P.out m1 0 (.int .i64 d1) rfl
  have f1 := St.cell_mem P.out m1 1 (.int .i64 d2) rfl
  have g0 := St.cell_mem P.out (List.mem_cons_self ..) 0 (.int .i64 x1) rfl
  have g1 := St.cell_mem P.out (List.mem_cons_self ..) 1 (.int .i64 x2) rfl
  have g2 := St.cell_mem P.out (List.mem_cons_self ..) 2 (.int .i64 x3) rfl
  have g3 := St.cell_mem P.out (List.mem_cons_self ..) 3 (.int .i64 x4) rfl
  go_enter Tryd.func6, Tryd.ntmps6
  go_wp2_with (first
    | (go_at_call 9; go_must (with_reducible refine (shown_ok W HT.out _ _ P.out).mono ?_); rintro e w1 ⟨rfl, hS⟩; simp only []; clear P f0 f1 g0 g1 g2 g3; have P := Lib.hid hS; clear hS; have f0 := St.cell_mem P.out m1 0 (.int .i64 d1) rfl; have f1 := St.cell_mem P.out m1 1 (.int .i64 d2) rfl; have g0 := St.cell_mem P.out (List.mem_cons_self ..) 0 (.int .i64 x1) rfl; have g1 := St.cell_mem P.out (List.mem_cons_self ..) 1 (.int .i64 x2) rfl; have g2 := St.cell_mem P.out (List.mem_cons_self ..) 2 (.int .i64 x3) rfl; have g3 := St.cell_mem P.out (List.mem_cons_self ..) 3 (.int .i64 x4) rfl)
    | (go_at_call 10; go_must (with_reducible refine (made_M W HT.out _ d1 d2 t mo _ P.out W1.out W2.out HMO.out HTT.out).mono ?_); rintro e w1 ⟨g, M, rfl, HM, hS⟩; simp only []; clear P f0 f1 g0 g1 g2 g3; have P := Lib.hid hS; clear hS; have f0 := St.cell_mem P.out m2 0 (.int .i64 d1) rfl; have f1 := St.cell_mem P.out m2 1 (.int .i64 d2) rfl; have g0 := St.cell_mem P.out (List.mem_cons_of_mem _ (List.mem_cons_self ..)) 0 (.int .i64 x1) rfl; have g1 := St.cell_mem P.out (List.mem_cons_of_mem _ (List.mem_cons_self ..)) 1 (.int .i64 x2) rfl; have g2 := St.cell_mem P.out (List.mem_cons_of_mem _ (List.mem_cons_self ..)) 2 (.int .i64 x3) rfl; have g3 := St.cell_mem P.out (List.mem_cons_of_mem _ (List.mem_cons_self ..)) 3 (.int .i64 x4) rfl)
    | (go_at_call 11; with_reducible refine (place_is x1 (mo + 1) a _ X1.out (by omega) HA.out).mono ?_; rintro e w1 ⟨rfl, rfl⟩; simp only [])
    | (go_at_call 11; with_reducible refine (place_is x2 (mo + 1) b _ X2.out (by omega) HB.out).mono ?_; rintro e w1 ⟨rfl, rfl⟩; simp only [])
    | (go_at_call 11; with_reducible refine (place_is x3 (mo + 1) c _ X3.out (by omega) HC.out).mono ?_; rintro e w1 ⟨rfl, rfl⟩; simp only [])
    | (go_at_call 11; with_reducible refine (place_is x4 (mo + 1) d _ X4.out (by omega) HD.out).mono ?_; rintro e w1 ⟨rfl, rfl⟩; simp only []))
  obtain ⟨hF, hSa, hM1, hM2, -⟩ := HM.out
  have HF := Lib.hid hF
  obtain ⟨n, hn⟩ : ∃ n, gradI M a b c d = n := ⟨_, rfl⟩
  have hb := grad_bounds M a b c d
  have hn2 := grad_turned M a b c d hSa.d (by omega) (by omega) (by omega) (by omega) (by omega) (by omega) (by omega) (by omega)
  rw [hM1, hn] at hn2
  rw [hn] at hb
  obtain ⟨hb1, hb2⟩ := hb
  have G1 := Lib.hid hn
  have G2 := Lib.hid hn2
  obtain ⟨k, hk⟩ : ∃ k : Int, max n (-n) = k := ⟨_, rfl⟩
  have hk1 : 0 ≤ k := by omega
  have hk2 : k ≤ 364 := by omega
  have HKN := Lib.hid hk
  clear hF hSa hM1 hM2 HM hn2 f0 f1 g0 g1 g2 g3
  rcases Int.lt_trichotomy n 0 with hlt | hlt | hlt
  · have hk0 : (k == 0) = false := by simp; omega
    have K1 : Hid ((if n < 0 then -n else n) = k) := by show _ = _; omega
    have K2 : Hid ((if -n < 0 then - -n else -n) = k) := by show _ = _; omega
    have S1 : Hid ((if n < 0 then (-1 : Int) else 1) = -1) := by show _ = _; omega
    have S2 : Hid ((if -n < 0 then (-1 : Int) else 1) = 1) := by show _ = _; omega
    clear hlt
    clear hn hk HKN hb1 hb2
    go_wp2_with (first
      | (go_at_call 18; with_reducible refine (Find_ok (top W) _ g M a b c d n k (-1) _ P.out HF.out G1.out K1.out S1.out).mono ?_; rintro e w2 ⟨rfl, hq⟩; simp only []; have H2 := Lib.hid (P.out.of_quiet hq); clear hq P; have P := H2; clear H2)
      | (go_at_call 18; with_reducible refine (Find_ok (top W) _ g M (mo - a) (mo - b) (mo - c) (mo - d) (-n) k (1) _ P.out HF.out G2.out K2.out S2.out).mono ?_; rintro e w2 ⟨rfl, hq⟩; simp only []; have H2 := Lib.hid (P.out.of_quiet hq); clear hq P; have P := H2; clear H2))
    go_ret
    exact ⟨rfl, P.out.below⟩
  · have hk0 : (k == 0) = true := by simp; omega
    have K1 : Hid ((if n < 0 then -n else n) = k) := by show _ = _; omega
    have K2 : Hid ((if -n < 0 then - -n else -n) = k) := by show _ = _; omega
    have S1 : Hid ((if n < 0 then (-1 : Int) else 1) = 1) := by show _ = _; omega
    have S2 : Hid ((if -n < 0 then (-1 : Int) else 1) = 1) := by show _ = _; omega
    clear hlt
    clear hn hk HKN hb1 hb2
    go_wp2_with (first
      | (go_at_call 18; with_reducible refine (Find_ok (top W) _ g M a b c d n k (1) _ P.out HF.out G1.out K1.out S1.out).mono ?_; rintro e w2 ⟨rfl, hq⟩; simp only []; have H2 := Lib.hid (P.out.of_quiet hq); clear hq P; have P := H2; clear H2)
      | (go_at_call 18; with_reducible refine (Find_ok (top W) _ g M (mo - a) (mo - b) (mo - c) (mo - d) (-n) k (1) _ P.out HF.out G2.out K2.out S2.out).mono ?_; rintro e w2 ⟨rfl, hq⟩; simp only []; have H2 := Lib.hid (P.out.of_quiet hq); clear hq P; have P := H2; clear H2))
    go_ret
    exact ⟨rfl, P.out.below⟩
  · have hk0 : (k == 0) = false := by simp; omega
    have K1 : Hid ((if n < 0 then -n else n) = k) := by show _ = _; omega
    have K2 : Hid ((if -n < 0 then - -n else -n) = k) := by show _ = _; omega
    have S1 : Hid ((if n < 0 then (-1 : Int) else 1) = 1) := by show _ = _; omega
    have S2 : Hid ((if -n < 0 then (-1 : Int) else 1) = -1) := by show _ = _; omega
    clear hlt
    clear hn hk HKN hb1 hb2
    go_wp2_with (first
      | (go_at_call 18; with_reducible refine (Find_ok (top W) _ g M a b c d n k (1) _ P.out HF.out G1.out K1.out S1.out).mono ?_; rintro e w2 ⟨rfl, hq⟩; simp only []; have H2 := Lib.hid (P.out.of_quiet hq); clear hq P; have P := H2; clear H2)
      | (go_at_call 18; with_reducible refine (Find_ok (top W) _ g M (mo - a) (mo - b) (mo - c) (mo - d) (-n) k (-1) _ P.out HF.out G2.out K2.out S2.out).mono ?_; rintro e w2 ⟨rfl, hq⟩; simp only []; have H2 := Lib.hid (P.out.of_quiet hq); clear hq P; have P := H2; clear H2))
    go_ret
    exact ⟨rfl, P.out.below⟩

end Go.Proofs.YtiglncmkinojjaaDoor
