import Derived.Test.YtiglncmkinojjaaDoorModelI
namespace Go.Proofs.YtiglncmkinojjaaDoor
set_option linter.unusedSimpArgs false
set_option linter.unusedVariables false
open Go Go.RowKit

/-- What a context keeps to. -/
structure Inv (s : Int × Int × Int × Int) : Prop where
  n1 : 1 ≤ s.2.2.2
  n2 : s.2.2.2 ≤ 64
  a1 : 0 ≤ s.1
  a2 : s.1 ≤ 4096 * (s.2.2.2 + 32)
  b1 : -s.2.2.2 < s.2.1
  b2 : s.2.1 ≤ 0
  s1 : -128 ≤ s.2.2.1
  s2 : s.2.2.1 ≤ 127

def learnI (M : Mo) (s : Int × Int × Int × Int) (q : Int) : Int × Int × Int × Int :=
  let q := cutI q (-M.span) M.span
  let a := s.1 + max q (-q)
  let b := s.2.1 + q * M.step
  let n := if s.2.2.2 = 64 then 33 else s.2.2.2 + 1
  let a := if s.2.2.2 = 64 then a / 2 else a
  let b := if s.2.2.2 = 64 then b / 2 else b
  if b ≤ -n then (a, max (b + n) (1 - n), max (s.2.2.1 - 1) (-128), n) else if 0 < b then (a, min (b - n) 0, min (s.2.2.1 + 1) 127, n) else (a, b, s.2.2.1, n)

def fin (a b s n : Int) : Int × Int × Int × Int :=
  if b ≤ -n then (a, max (b + n) (1 - n), max (s - 1) (-128), n) else if 0 < b then (a, min (b - n) 0, min (s + 1) 127, n) else (a, b, s, n)

def Mo.put (M : Mo) (k : Nat) (s : Int × Int × Int × Int) : Mo := { M with st := M.st.set k s }
theorem Mo.put_put (M : Mo) (k : Nat) (s t : Int × Int × Int × Int) : (M.put k s).put k t = M.put k t := by simp [Mo.put]
theorem Mo.put_get (M : Mo) (k : Nat) (s : Int × Int × Int × Int) (h : k < M.st.length) : (M.put k s).st[k]? = some s := by simp [Mo.put, h]
theorem Mo.put_len (M : Mo) (k : Nat) (s : Int × Int × Int × Int) : (M.put k s).st.length = M.st.length := by simp [Mo.put]

theorem Mo.put_self (M : Mo) (k : Nat) (s : Int × Int × Int × Int) (h : M.st[k]? = some s) : M.put k s = M := by
  obtain ⟨hl, rfl⟩ := List.getElem?_eq_some_iff.1 h
  have : M.st.set k M.st[k] = M.st := by
    apply List.ext_getElem?
    intro i
    by_cases hi : i = k
    · subst hi
      rw [List.getElem?_set_self hl, List.getElem?_eq_getElem hl]
    · rw [List.getElem?_set_ne (Ne.symm hi)]
  unfold Mo.put
  rw [this]

theorem put_a {c : Ctx} {R : List HP} {g : Nat} {M : Mo} {w : World} {k : Nat} (a b s n v : Int) (hk : k < M.st.length) (hS : St c (mdl g (M.put k (a, b, s, n)) :: R) w) : St c (mdl g (M.put k (v, b, s, n)) :: R) (w.setCell ⟨g, 8 + k * 4, none⟩ (.int .i64 v)) := by
  have h0 := St.setCell hS (8 + k * 4 + 0) (.int .i64 v)
  rw [Mo.cells_set _ k 0 (by decide) (by rw [Mo.put_len]; exact hk) v (v, b, s, n) (by simp [Mo.put, st4])] at h0
  rw [← Mo.put_put M k (a, b, s, n)]
  exact h0
theorem put_b {c : Ctx} {R : List HP} {g : Nat} {M : Mo} {w : World} {k : Nat} (a b s n v : Int) (hk : k < M.st.length) (hS : St c (mdl g (M.put k (a, b, s, n)) :: R) w) : St c (mdl g (M.put k (a, v, s, n)) :: R) (w.setCell ⟨g, 8 + k * 4 + 1, none⟩ (.int .i64 v)) := by
  have h0 := St.setCell hS (8 + k * 4 + 1) (.int .i64 v)
  rw [Mo.cells_set _ k 1 (by decide) (by rw [Mo.put_len]; exact hk) v (a, v, s, n) (by simp [Mo.put, st4])] at h0
  rw [← Mo.put_put M k (a, b, s, n)]
  exact h0
theorem put_s {c : Ctx} {R : List HP} {g : Nat} {M : Mo} {w : World} {k : Nat} (a b s n v : Int) (hk : k < M.st.length) (hS : St c (mdl g (M.put k (a, b, s, n)) :: R) w) : St c (mdl g (M.put k (a, b, v, n)) :: R) (w.setCell ⟨g, 8 + k * 4 + 2, none⟩ (.int .i64 v)) := by
  have h0 := St.setCell hS (8 + k * 4 + 2) (.int .i64 v)
  rw [Mo.cells_set _ k 2 (by decide) (by rw [Mo.put_len]; exact hk) v (a, b, v, n) (by simp [Mo.put, st4])] at h0
  rw [← Mo.put_put M k (a, b, s, n)]
  exact h0
theorem put_n {c : Ctx} {R : List HP} {g : Nat} {M : Mo} {w : World} {k : Nat} (a b s n v : Int) (hk : k < M.st.length) (hS : St c (mdl g (M.put k (a, b, s, n)) :: R) w) : St c (mdl g (M.put k (a, b, s, v)) :: R) (w.setCell ⟨g, 8 + k * 4 + 3, none⟩ (.int .i64 v)) := by
  have h0 := St.setCell hS (8 + k * 4 + 3) (.int .i64 v)
  rw [Mo.cells_set _ k 3 (by decide) (by rw [Mo.put_len]; exact hk) v (a, b, s, v) (by simp [Mo.put, st4])] at h0
  rw [← Mo.put_put M k (a, b, s, n)]
  exact h0

/-- What a walk reads of a context that was put. -/
theorem putFacts {c : Ctx} {R : List HP} {g : Nat} {M : Mo} {w : World} {k : Nat} {a b s n : Int} (hk : k < M.st.length) (hS : St c (mdl g (M.put k (a, b, s, n)) :: R) w) :
    w.cell? ⟨g, 8 + k * 4, none⟩ = some (.int .i64 a) ∧ w.cell? ⟨g, 8 + k * 4 + 1, none⟩ = some (.int .i64 b) ∧ w.cell? ⟨g, 8 + k * 4 + 2, none⟩ = some (.int .i64 s) ∧ w.cell? ⟨g, 8 + k * 4 + 3, none⟩ = some (.int .i64 n) ∧
    w.cell? ⟨g, 2, none⟩ = some (.int .i64 M.step) ∧ w.cell? ⟨g, 3, none⟩ = some (.int .i64 M.span) ∧
    w.frozen? ⟨g, 8 + k * 4, none⟩ = false ∧ w.frozen? ⟨g, 8 + k * 4 + 1, none⟩ = false ∧ w.frozen? ⟨g, 8 + k * 4 + 2, none⟩ = false ∧ w.frozen? ⟨g, 8 + k * 4 + 3, none⟩ = false := by
  obtain ⟨f0, f1, f2, f3⟩ := statFacts hS (M.put_get k (a, b, s, n) hk)
  obtain ⟨-, -, m2, m3, -⟩ := mdlFacts hS
  exact ⟨f0, f1, f2, f3, m2, m3, mdlFree hS _, mdlFree hS _, mdlFree hS _, mdlFree hS _⟩

set_option maxHeartbeats 4000000 in
set_option maxRecDepth 100000 in
theorem Learn_ok (c : Ctx) (R : List HP) (g : Nat) (M : Mo) (k : Nat) (q0 a b s n : Int) (w : World) (hS : St c (mdl g M :: R) w) (hM : M.Fits) (hk : k < 365) (hr : M.st[k]? = some (a, b, s, n)) (hI : Inv (a, b, s, n)) :
    Calls Tryd.prog 17 #[.pointer (some ⟨g, 0, none⟩), .int .i64 (k : Nat), .int .i64 q0] w fun e' w' => e' = .returned (.tuple #[]) ∧ St c (mdl g (M.put k (learnI M (a, b, s, n) q0)) :: R) w' := by
  obtain ⟨i1, i2, i3, i4, i5, i6, i7, i8⟩ := hI
  simp only at i1 i2 i3 i4 i5 i6 i7 i8
  obtain ⟨f0, f1, f2, f3⟩ := statFacts hS hr
  simp only at f0 f1 f2 f3
  obtain ⟨-, -, m2, m3, -, -, -, -⟩ := mdlFacts hS
  have y0 := mdlFree hS (8 + k * 4)
  have y1 := mdlFree hS (8 + k * 4 + 1)
  have y2 := mdlFree hS (8 + k * 4 + 2)
  have y3 := mdlFree hS (8 + k * 4 + 3)
  have HS := Lib.hid hS
  have HM := Lib.hid hM
  have hst := hM.st
  have hd0 := hM.d0
  have hd1 := hM.d1
  have hp0 := hM.p0
  have hp1 := hM.p1
  obtain ⟨q, hq⟩ : ∃ q, cutI q0 (-M.span) M.span = q := ⟨_, rfl⟩
  have hq1 := cut_bounds q0 (-M.span) M.span (by omega)
  rw [hq] at hq1
  obtain ⟨hq1, hq2⟩ := hq1
  obtain ⟨u, hu⟩ : ∃ u, q * M.step = u := ⟨_, rfl⟩
  have hu1 := mul_bounds (a := q) (b := M.step) (A := 4096) (B := 127) (by omega) (by omega) (by omega) (by omega)
  rw [hu] at hu1
  obtain ⟨hu1, hu2⟩ := hu1
  obtain ⟨ab, hab⟩ : ∃ r, max q (-q) = r := ⟨_, rfl⟩
  have hmx : (if q < -q then -q else q) = ab := by rw [← hab]; omega
  have hab1 : 0 ≤ ab := by omega
  have hab2 : ab ≤ 4096 := by omega
  have HQ : Hid (min (max q0 (-M.span)) M.span = q) := hq
  have HAB := Lib.hid hab
  have HR0 := Lib.hid hr
  clear hS hM hr hq hab hst
  go_enter Tryd.func17, Tryd.ntmps17
  go_wp2_with (first
    | (go_at_call 28; go_must (with_reducible refine (known_ok k _ hk).mono ?_); rintro e1 w1 ⟨rfl, rfl⟩; simp only []))
  go_quiet ((go_at_call 26; exact Calls.quiet_of_same (clamp_is q0 (-M.span) M.span q _ HQ.out)))
  go_wp2_with fail
  have hl : k < M.st.length := by rw [HM.out.n]; exact hk
  have HL := Lib.hid hl
  have hput : M.put k (a, b, s, n) = M := M.put_self k _ HR0.out
  have H : Hid (St c (mdl g (M.put k (a + ab, b, s, n)) :: R) ((w1.drewN nq).setCell ⟨g, 8 + k * 4, none⟩ (.int .i64 (a + ab)))) := by
    have h := HS.out.drewN nq
    rw [← hput] at h
    exact put_a a b s n (a + ab) hl h
  clear hl hput HS f0 f1 f2 f3 m2 m3 y0 y1 y2 y3
  generalize (w1.drewN nq).setCell ⟨g, 8 + k * 4, none⟩ (.int .i64 (a + ab)) = w2 at *
  obtain ⟨f0, f1, f2, f3, m2, m3, y0, y1, y2, y3⟩ := putFacts HL.out H.out
  refine wp_region_head_tail 13 (by kernel_rfl) (by kernel_rfl) ?_
  simp only [List.take_succ_cons, List.take_zero, List.drop_succ_cons, List.drop_zero]
  repeat (go_big_quiet_step (fail))
  refine wpQuiet_nil ?_
  intro m
  by_cases hn64 : n = 64
  · subst hn64
    go_wp2_with fail
    have H2 := put_n _ _ _ _ 33 HL.out (put_n _ _ _ _ 32 HL.out (put_b _ _ _ _ ((b + u) / 2) HL.out (put_a _ _ _ _ ((a + ab) / 2) HL.out (put_b _ _ _ _ (b + u) HL.out (H.out.drewN m)))))
    have ha2 : 0 ≤ (a + ab) / 2 ∧ (a + ab) / 2 ≤ 4096 * (33 + 32) := by omega
    have hb2 : -1000000 ≤ (b + u) / 2 ∧ (b + u) / 2 ≤ 1000000 := by omega
    have hn2 : 2 ≤ (33 : Int) ∧ (33 : Int) ≤ 64 := by omega
    have HE := Lib.hid (show learnI M (a, b, s, 64) q0 = fin ((a + ab) / 2) ((b + u) / 2) s (33) by
      unfold learnI fin
      simp only [show cutI q0 (-M.span) M.span = q from HQ.out, HAB.out, hu]
      rfl)
    generalize ((a + ab) / 2 : Int) = a2 at *
    generalize ((b + u) / 2 : Int) = b2 at *
    obtain ⟨n2, hn2'⟩ : ∃ n2 : Int, 33 = n2 := ⟨_, rfl⟩
    rw [hn2'] at hn2 HE H2
    rw [hn2']
    clear hn2'
    obtain ⟨b21, b22⟩ := hb2
    obtain ⟨n21, n22⟩ := hn2
    have H3 := Lib.hid H2
    clear H2 H f0 f1 f2 f3 m2 m3 y0 y1 y2 y3 HR0 HQ HAB hu hmx ha2
    generalize World.setCell _ _ _ = w3 at *
    have H := H3
    clear H3
    obtain ⟨f0, f1, f2, f3, m2, m3, y0, y1, y2, y3⟩ := putFacts HL.out H.out
    obtain ⟨sv, hsv⟩ : ∃ r, max (s - 1) (-128) = r := ⟨_, rfl⟩
    obtain ⟨bv, hbv⟩ : ∃ r, max (b2 + n2) (1 - n2) = r := ⟨_, rfl⟩
    have hsv' : (if s - 1 < -128 then -128 else s - 1) = sv := by rw [← hsv]; omega
    have hbv' : (if b2 + n2 < 1 - n2 then 1 - n2 else b2 + n2) = bv := by rw [← hbv]; omega
    have HSV := Lib.hid hsv
    have HBV := Lib.hid hbv
    obtain ⟨sw, hsw⟩ : ∃ r, min (s + 1) 127 = r := ⟨_, rfl⟩
    obtain ⟨bw, hbw⟩ : ∃ r, min (b2 - n2) 0 = r := ⟨_, rfl⟩
    have hsw' : (if 127 < s + 1 then 127 else s + 1) = sw := by rw [← hsw]; omega
    have hbw' : (if 0 < b2 - n2 then 0 else b2 - n2) = bw := by rw [← hbw]; omega
    have HSW := Lib.hid hsw
    have HBW := Lib.hid hbw
    clear hsv hbv hsw hbw
    by_cases c1 : b2 ≤ -n2
    · go_quiet (fail)
      go_wp2_with fail
      have H2 := put_s _ _ _ _ sv HL.out (H.out.drewN nq)
      have H3 := Lib.hid H2
      clear H H2 f0 f1 f2 f3 m2 m3 y0 y1 y2 y3
      generalize World.setCell _ _ _ = w4 at *
      have H := H3
      clear H3
      obtain ⟨f0, f1, f2, f3, m2, m3, y0, y1, y2, y3⟩ := putFacts HL.out H.out
      refine wp_region_head_tail 18 (by kernel_rfl) (by kernel_rfl) ?_
      simp only [List.take_succ_cons, List.take_zero, List.drop_succ_cons, List.drop_zero]
      repeat (go_big_quiet_step (fail))
      refine wpQuiet_nil ?_
      intro m'
      go_wp2_with fail
      go_end0
      refine ⟨rfl, ?_⟩
      rw [HE.out]
      unfold fin
      rw [if_pos c1, HSV.out, HBV.out]
      exact put_b _ _ _ _ _ HL.out (H.out.drewN m')
    · by_cases c2 : 0 < b2
      · go_quiet (fail)
        go_wp2_with fail
        have H2 := put_s _ _ _ _ sw HL.out (H.out.drewN nq)
        have H3 := Lib.hid H2
        clear H H2 f0 f1 f2 f3 m2 m3 y0 y1 y2 y3
        generalize World.setCell _ _ _ = w4 at *
        have H := H3
        clear H3
        obtain ⟨f0, f1, f2, f3, m2, m3, y0, y1, y2, y3⟩ := putFacts HL.out H.out
        refine wp_region_head_tail 13 (by kernel_rfl) (by kernel_rfl) ?_
        simp only [List.take_succ_cons, List.take_zero, List.drop_succ_cons, List.drop_zero]
        repeat (go_big_quiet_step (fail))
        refine wpQuiet_nil ?_
        intro m'
        go_wp2_with fail
        all_goals
          go_end0
          refine ⟨rfl, ?_⟩
          rw [HE.out]
          unfold fin
          rw [if_neg (by omega), if_pos (by omega), HSW.out]
          first
            | (rw [show min (b2 - n2) 0 = 0 by omega]; exact put_b _ _ _ _ _ HL.out (H.out.drewN m'))
            | (rw [show min (b2 - n2) 0 = b2 - n2 by omega]; exact put_b _ _ _ _ _ HL.out (H.out.drewN m'))
      · go_quiet (fail)
        go_wp2_with fail
        go_end0
        refine ⟨rfl, ?_⟩
        rw [HE.out]
        unfold fin
        rw [if_neg (by omega), if_neg (by omega)]
        exact H.out.drewN _
  · have hnb : (n == 64) = false := by simpa using hn64
    go_wp2_with fail
    have H2 := put_n _ _ _ _ (n + 1) HL.out (put_b _ _ _ _ (b + u) HL.out (H.out.drewN m))
    have ha2 : 0 ≤ a + ab ∧ a + ab ≤ 4096 * (n + 1 + 32) := by omega
    have hb2 : -1000000 ≤ b + u ∧ b + u ≤ 1000000 := by omega
    have hn2 : 2 ≤ (n + 1 : Int) ∧ (n + 1 : Int) ≤ 64 := by omega
    have HE := Lib.hid (show learnI M (a, b, s, n) q0 = fin (a + ab) (b + u) s (n + 1) by
      unfold learnI fin
      simp only [show cutI q0 (-M.span) M.span = q from HQ.out, HAB.out, hu]
      rw [if_neg hn64, if_neg hn64, if_neg hn64])
    generalize (a + ab : Int) = a2 at *
    generalize (b + u : Int) = b2 at *
    generalize (n + 1 : Int) = n2 at *
    obtain ⟨b21, b22⟩ := hb2
    obtain ⟨n21, n22⟩ := hn2
    have H3 := Lib.hid H2
    clear H2 H f0 f1 f2 f3 m2 m3 y0 y1 y2 y3 HR0 HQ HAB hu hmx ha2
    generalize World.setCell _ _ _ = w3 at *
    have H := H3
    clear H3
    obtain ⟨f0, f1, f2, f3, m2, m3, y0, y1, y2, y3⟩ := putFacts HL.out H.out
    obtain ⟨sv, hsv⟩ : ∃ r, max (s - 1) (-128) = r := ⟨_, rfl⟩
    obtain ⟨bv, hbv⟩ : ∃ r, max (b2 + n2) (1 - n2) = r := ⟨_, rfl⟩
    have hsv' : (if s - 1 < -128 then -128 else s - 1) = sv := by rw [← hsv]; omega
    have hbv' : (if b2 + n2 < 1 - n2 then 1 - n2 else b2 + n2) = bv := by rw [← hbv]; omega
    have HSV := Lib.hid hsv
    have HBV := Lib.hid hbv
    obtain ⟨sw, hsw⟩ : ∃ r, min (s + 1) 127 = r := ⟨_, rfl⟩
    obtain ⟨bw, hbw⟩ : ∃ r, min (b2 - n2) 0 = r := ⟨_, rfl⟩
    have hsw' : (if 127 < s + 1 then 127 else s + 1) = sw := by rw [← hsw]; omega
    have hbw' : (if 0 < b2 - n2 then 0 else b2 - n2) = bw := by rw [← hbw]; omega
    have HSW := Lib.hid hsw
    have HBW := Lib.hid hbw
    clear hsv hbv hsw hbw
    by_cases c1 : b2 ≤ -n2
    · go_quiet (fail)
      go_wp2_with fail
      have H2 := put_s _ _ _ _ sv HL.out (H.out.drewN nq)
      have H3 := Lib.hid H2
      clear H H2 f0 f1 f2 f3 m2 m3 y0 y1 y2 y3
      generalize World.setCell _ _ _ = w4 at *
      have H := H3
      clear H3
      obtain ⟨f0, f1, f2, f3, m2, m3, y0, y1, y2, y3⟩ := putFacts HL.out H.out
      refine wp_region_head_tail 18 (by kernel_rfl) (by kernel_rfl) ?_
      simp only [List.take_succ_cons, List.take_zero, List.drop_succ_cons, List.drop_zero]
      repeat (go_big_quiet_step (fail))
      refine wpQuiet_nil ?_
      intro m'
      go_wp2_with fail
      go_end0
      refine ⟨rfl, ?_⟩
      rw [HE.out]
      unfold fin
      rw [if_pos c1, HSV.out, HBV.out]
      exact put_b _ _ _ _ _ HL.out (H.out.drewN m')
    · by_cases c2 : 0 < b2
      · go_quiet (fail)
        go_wp2_with fail
        have H2 := put_s _ _ _ _ sw HL.out (H.out.drewN nq)
        have H3 := Lib.hid H2
        clear H H2 f0 f1 f2 f3 m2 m3 y0 y1 y2 y3
        generalize World.setCell _ _ _ = w4 at *
        have H := H3
        clear H3
        obtain ⟨f0, f1, f2, f3, m2, m3, y0, y1, y2, y3⟩ := putFacts HL.out H.out
        refine wp_region_head_tail 13 (by kernel_rfl) (by kernel_rfl) ?_
        simp only [List.take_succ_cons, List.take_zero, List.drop_succ_cons, List.drop_zero]
        repeat (go_big_quiet_step (fail))
        refine wpQuiet_nil ?_
        intro m'
        go_wp2_with fail
        all_goals
          go_end0
          refine ⟨rfl, ?_⟩
          rw [HE.out]
          unfold fin
          rw [if_neg (by omega), if_pos (by omega), HSW.out]
          first
            | (rw [show min (b2 - n2) 0 = 0 by omega]; exact put_b _ _ _ _ _ HL.out (H.out.drewN m'))
            | (rw [show min (b2 - n2) 0 = b2 - n2 by omega]; exact put_b _ _ _ _ _ HL.out (H.out.drewN m'))
      · go_quiet (fail)
        go_wp2_with fail
        go_end0
        refine ⟨rfl, ?_⟩
        rw [HE.out]
        unfold fin
        rw [if_neg (by omega), if_neg (by omega)]
        exact H.out.drewN _

end Go.Proofs.YtiglncmkinojjaaDoor
