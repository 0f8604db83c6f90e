import Derived.Test.YtiglncmkinojjaaDoorModelL
namespace Go.Proofs.YtiglncmkinojjaaDoor
set_option linter.unusedSimpArgs false
set_option linter.unusedVariables false
open Go Go.RowKit

def medI (a b c : Int) : Int := if max a b ≤ c then min a b else if c ≤ min a b then max a b else a + b - c

theorem Med_ok (a b c r : Int) (w : World) (h1 : -9223372036854775808 ≤ a) (h2 : a ≤ 9223372036854775807) (h3 : -9223372036854775808 ≤ b) (h4 : b ≤ 9223372036854775807) (h5 : -9223372036854775808 ≤ c) (h6 : c ≤ 9223372036854775807) (hr : medI a b c = r) :
    Calls Tryd.prog 38 #[.int .i64 a, .int .i64 b, .int .i64 c] w fun e w' => e = .returned (.int .i64 r) ∧ ∃ m, w' = w.drewN m := by
  unfold medI at hr
  have HR := Lib.hid hr
  clear hr
  go_enter Tryd.func38, Tryd.ntmps38
  go_wp2_with fail
  all_goals
    go_ret
    refine ⟨ret_int ?_, 0, rfl⟩
    rw [← HR.out]
    clear HR
    (try simp only [wrap64] at *)
    omega

def known (k : Int) : Bool := decide (0 ≤ k) && decide (k < 365)
theorem known_iff {k : Int} : known k = true ↔ 0 ≤ k ∧ k < 365 := by simp [known]
theorem known_not {k : Int} : known k = false ↔ ¬ (0 ≤ k ∧ k < 365) := by rw [← Bool.not_eq_true, known_iff]

set_option maxRecDepth 100000 in
theorem known_any (k : Int) (b : Bool) (w : World) (hb : known k = b) :
    Calls Tryd.prog 28 #[.int .i64 k] w fun e w' => e = .returned (.bool b) ∧ w' = w := by
  cases b with
  | true =>
    obtain ⟨h0, h1⟩ := known_iff.1 hb
    obtain ⟨k, rfl⟩ := Int.eq_ofNat_of_zero_le h0
    exact known_ok k w (by omega)
  | false =>
    have hn := known_not.1 hb
    by_cases h0 : 0 ≤ k
    · have h1 : decide (0 ≤ k) = true := decide_eq_true h0
      have h2 : decide (k < 365) = false := decide_eq_false (by omega)
      clear hb hn h0
      go_enter Tryd.func28, Tryd.ntmps28
      go_wp2_with fail
      all_goals (go_ret; exact ⟨rfl, rfl⟩)
    · have h1 : decide (0 ≤ k) = false := decide_eq_false h0
      clear hb hn
      go_enter Tryd.func28, Tryd.ntmps28
      go_wp2_with fail
      all_goals (go_ret; exact ⟨rfl, rfl⟩)

/-- What a context has learnt, any number. -/
def Mo.at (M : Mo) (k : Int) : Int × Int × Int × Int := if known k then (M.st[k.toNat]?).getD (0, 0, 0, 0) else (0, 0, 0, 0)
theorem Mo.at_known {M : Mo} (hM : M.Fits) {k : Int} (h : known k = true) : ∃ n : Nat, k = (n : Int) ∧ n < 365 ∧ M.st[n]? = some (M.at k) := by
  obtain ⟨h0, h1⟩ := known_iff.1 h
  obtain ⟨n, rfl⟩ := Int.eq_ofNat_of_zero_le h0
  have hl : n < M.st.length := by rw [hM.n]; omega
  refine ⟨n, rfl, by omega, ?_⟩
  unfold Mo.at
  rw [if_pos h, Int.toNat_natCast, List.getElem?_eq_getElem hl]
  rfl
theorem Mo.at_not {M : Mo} {k : Int} (h : known k = false) : M.at k = (0, 0, 0, 0) := by
  unfold Mo.at
  rw [h]
  rfl

theorem Stats_any (c : Ctx) (R : List HP) (g : Nat) (M : Mo) (k a b s n : Int) (w : World) (hS : St c (mdl g M :: R) w) (hM : M.Fits) (hr : M.at k = (a, b, s, n)) :
    Calls Tryd.prog 16 #[.pointer (some ⟨g, 0, none⟩), .int .i64 k] w fun e' w' => e' = .returned (.tuple #[.int .i64 a, .int .i64 b, .int .i64 s, .int .i64 n]) ∧ St c (mdl g M :: R) w' := by
  cases hk : known k with
  | true =>
    obtain ⟨m, rfl, hm, hst⟩ := Mo.at_known hM hk
    rw [hr] at hst
    exact Stats_ok c R g M m a b s n w hS hM hm hst
  | false =>
    rw [Mo.at_not hk] at hr
    simp only [Prod.mk.injEq] at hr
    obtain ⟨rfl, rfl, rfl, rfl⟩ := hr
    have HS := Lib.hid hS
    have HK := Lib.hid hk
    clear hS hM hk
    go_enter Tryd.func16, Tryd.ntmps16
    go_wp2_with (go_at_call 28; go_must (with_reducible refine (known_any k false _ HK.out).mono ?_); rintro e1 w1 ⟨rfl, rfl⟩; simp only [])
    (try simp only [Exit.inBlock, Exit.then]); refine bodyPost_ret (results_tmp4 rfl _ _ _) rfl ?_
    exact ⟨rfl, HS.out⟩

theorem IsParam.unique {a n : Int} {v v' : Nat} (h : IsParam a n v) (h' : IsParam a n v') : v = v' := by
  obtain ⟨h1, h2, h3⟩ := h
  obtain ⟨k1, k2, k3⟩ := h'
  rcases Nat.lt_trichotomy v v' with hh | hh | hh
  · have := k3 v hh
    have := h2 (by omega)
    omega
  · exact hh
  · have := h3 v' hh
    have := k2 (by omega)
    omega
noncomputable def paramOf (x : Int × Int × Int × Int) : Nat := Classical.epsilon fun v => IsParam x.1 x.2.2.2 v
theorem paramOf_is {a b s n : Int} {v : Nat} (h : IsParam a n v) : paramOf (a, b, s, n) = v := (Classical.epsilon_spec (p := fun v => IsParam a n v) ⟨v, h⟩).unique h
noncomputable def Mo.param (M : Mo) (k : Int) : Nat := if known k then paramOf (M.at k) else 0

theorem Param_any (c : Ctx) (R : List HP) (g : Nat) (M : Mo) (k : Int) (v : Nat) (w : World) (hS : St c (mdl g M :: R) w) (hM : M.Fits) (hI : ∀ s ∈ M.st, Inv s) (hv : M.param k = v) :
    Calls Tryd.prog 23 #[.pointer (some ⟨g, 0, none⟩), .int .i64 k] w fun e' w' => e' = .returned (.int .i64 (v : Nat)) ∧ St c (mdl g M :: R) w' := by
  cases hk : known k with
  | true =>
    unfold Mo.param at hv
    rw [if_pos hk] at hv
    obtain ⟨m, rfl, hm, hst⟩ := Mo.at_known hM hk
    obtain ⟨⟨a, b, s, n⟩, hs⟩ : ∃ x, M.at (m : Int) = x := ⟨_, rfl⟩
    rw [hs] at hst hv
    have hi := hI _ (List.mem_of_getElem? hst)
    have i1 := hi.n1
    have i2 := hi.n2
    have i3 := hi.a1
    have i4 := hi.a2
    simp only at i1 i2 i3 i4
    refine (Param_ok c R g M m a b s n w hS hm hst (by omega) (by omega) (by omega) (by omega)).mono ?_
    rintro e w' ⟨v', rfl, h, hS'⟩
    refine ⟨?_, hS'⟩
    rw [← hv, paramOf_is h.out]
  | false =>
    unfold Mo.param at hv
    rw [hk] at hv
    simp at hv
    subst hv
    have HS := Lib.hid hS
    have HK := Lib.hid hk
    clear hS hM hk hI
    go_enter Tryd.func23, Tryd.ntmps23
    go_wp2_with (go_at_call 28; go_must (with_reducible refine (known_any k false _ HK.out).mono ?_); rintro e1 w1 ⟨rfl, rfl⟩; simp only [])
    go_ret
    exact ⟨rfl, HS.out⟩

def Mo.learn (M : Mo) (k q : Int) : Mo := if known k then M.put k.toNat (learnI M (M.at k) q) else M
theorem Mo.learn_fits {M : Mo} (h : M.Fits) (k q : Int) : (M.learn k q).Fits := by
  unfold Mo.learn
  split
  · exact Mo.put_fits _ _ _ h
  · exact h
theorem Mo.learn_inv {M : Mo} (h : M.Fits) (hI : ∀ s ∈ M.st, Inv s) (k q : Int) : ∀ s ∈ (M.learn k q).st, Inv s := by
  cases hk : known k with
  | true =>
    obtain ⟨m, rfl, hm, hst⟩ := Mo.at_known h hk
    unfold Mo.learn
    rw [if_pos hk]
    exact Mo.put_mem _ _ _ (_root_.Go.Proofs.YtiglncmkinojjaaDoor.learn_inv M h _ q (hI _ (List.mem_of_getElem? hst))).1 hI
  | false =>
    unfold Mo.learn
    rw [hk]
    exact hI

theorem Learn_any (c : Ctx) (R : List HP) (g : Nat) (M M2 : Mo) (k q : Int) (w : World) (hS : St c (mdl g M :: R) w) (hM : M.Fits) (hI : ∀ s ∈ M.st, Inv s) (h2 : M.learn k q = M2) :
    Calls Tryd.prog 17 #[.pointer (some ⟨g, 0, none⟩), .int .i64 k, .int .i64 q] w fun e' w' => e' = .returned (.tuple #[]) ∧ St c (mdl g M2 :: R) w' := by
  subst h2
  cases hk : known k with
  | true =>
    obtain ⟨m, rfl, hm, hst⟩ := Mo.at_known hM hk
    have hi := hI _ (List.mem_of_getElem? hst)
    unfold Mo.learn
    rw [if_pos hk, Int.toNat_natCast]
    obtain ⟨⟨a, b, s, n⟩, hs⟩ : ∃ x, M.at (m : Int) = x := ⟨_, rfl⟩
    rw [hs] at hst hi ⊢
    exact Learn_ok c R g M m q a b s n w hS hM hm hst hi
  | false =>
    have e : M.learn k q = M := by unfold Mo.learn; rw [hk]; rfl
    rw [e]
    have HS := Lib.hid hS
    have HK := Lib.hid hk
    clear hS hM hk hI e
    go_enter Tryd.func17, Tryd.ntmps17
    go_wp2_with (go_at_call 28; go_must (with_reducible refine (known_any k false _ HK.out).mono ?_); rintro e1 w1 ⟨rfl, rfl⟩; simp only [])
    refine bodyPost_ret (results_none rfl _ _ _) rfl ?_
    exact ⟨rfl, HS.out⟩

def guessI (M : Mo) (k s a b c : Int) : Int :=
  let p := medI (cutI a 0 M.most) (cutI b 0 M.most) (cutI c 0 M.most)
  cutI (if known k then (if s < 0 then p - (M.at k).2.2.1 else p + (M.at k).2.2.1) else p) 0 M.most

theorem med_bounds {a b c m : Int} (ha : 0 ≤ a) (ha2 : a ≤ m) (hb : 0 ≤ b) (hb2 : b ≤ m) (hc : 0 ≤ c) (hc2 : c ≤ m) : 0 ≤ medI a b c ∧ medI a b c ≤ m := by
  unfold medI
  split
  · omega
  · split <;> omega

set_option maxHeartbeats 2000000 in
theorem Guess_any (c : Ctx) (R : List HP) (g : Nat) (M : Mo) (k s x1 x2 x3 r : Int) (w : World) (hS : St c (mdl g M :: R) w) (hM : M.Fits) (hI : ∀ s ∈ M.st, Inv s) (hr : guessI M k s x1 x2 x3 = r) :
    Calls Tryd.prog 22 #[.pointer (some ⟨g, 0, none⟩), .int .i64 k, .int .i64 s, .int .i64 x1, .int .i64 x2, .int .i64 x3] w fun e' w' => e' = .returned (.int .i64 r) ∧ ∃ m, w' = w.drewN m := by
  have hm0 := hM.m0
  have hm1 := hM.m1
  unfold guessI at hr
  simp only at hr
  obtain ⟨a1, ha1⟩ : ∃ a, cutI x1 0 M.most = a := ⟨_, rfl⟩
  obtain ⟨a2, ha2⟩ : ∃ a, cutI x2 0 M.most = a := ⟨_, rfl⟩
  obtain ⟨a3, ha3⟩ : ∃ a, cutI x3 0 M.most = a := ⟨_, rfl⟩
  have c1 := cut_bounds x1 0 M.most (by omega)
  have c2 := cut_bounds x2 0 M.most (by omega)
  have c3 := cut_bounds x3 0 M.most (by omega)
  rw [ha1] at hr c1
  rw [ha2] at hr c2
  rw [ha3] at hr c3
  obtain ⟨p, hp⟩ : ∃ p, medI a1 a2 a3 = p := ⟨_, rfl⟩
  have hpb := med_bounds c1.1 c1.2 c2.1 c2.2 c3.1 c3.2
  rw [hp] at hr hpb
  obtain ⟨c11, c12⟩ := c1
  obtain ⟨c21, c22⟩ := c2
  obtain ⟨c31, c32⟩ := c3
  obtain ⟨hp1, hp2⟩ := hpb
  have A1 := Lib.hid ha1
  have A2 := Lib.hid ha2
  have A3 := Lib.hid ha3
  have HP := Lib.hid hp
  clear ha1 ha2 ha3 hp
  have HQ0 : Hid (∃ m, w = w.drewN m) := ⟨0, rfl⟩
  cases hk : known k with
  | true =>
    obtain ⟨m, rfl, hm, hst⟩ := Mo.at_known hM hk
    have hi := hI _ (List.mem_of_getElem? hst)
    obtain ⟨⟨a, b, bi, n⟩, hs⟩ : ∃ x, M.at (m : Int) = x := ⟨_, rfl⟩
    rw [hs] at hst hi hr
    rw [if_pos hk] at hr
    have b1 := hi.s1
    have b2 := hi.s2
    simp only at b1 b2 hr
    have HR := Lib.hid hr
    have HST := Lib.hid hst
    have HS := Lib.hid hS
    have f2 := (statFacts hS hst).2.2.1
    simp only at f2
    have F2 := Lib.hid f2
    clear hS hM hk hI hr hst hs hi
    by_cases hs0 : s < 0
    · have HR : Hid (cutI (p - bi) 0 M.most = r) := by have := HR.out; rwa [if_pos hs0] at this
      go_enter Tryd.func22, Tryd.ntmps22
      go_wp2_with (first
      | (go_at_call 27; with_reducible refine (Sample_ok c R g M x1 a1 _ HS.out A1.out).mono ?_; rintro e w2 ⟨rfl, hq⟩; simp only []; have HQ1 := Lib.hid (qt_trans HQ0.out hq); have H2 := Lib.hid (HS.out.of_quiet hq); clear hq HS HQ0; have HQ0 := HQ1; have HS := H2; clear HQ1 H2; clear f2; have f2 := (statFacts HS.out HST.out).2.2.1; simp only at f2)
      | (go_at_call 27; with_reducible refine (Sample_ok c R g M x2 a2 _ HS.out A2.out).mono ?_; rintro e w2 ⟨rfl, hq⟩; simp only []; have HQ1 := Lib.hid (qt_trans HQ0.out hq); have H2 := Lib.hid (HS.out.of_quiet hq); clear hq HS HQ0; have HQ0 := HQ1; have HS := H2; clear HQ1 H2; clear f2; have f2 := (statFacts HS.out HST.out).2.2.1; simp only at f2)
      | (go_at_call 27; with_reducible refine (Sample_ok c R g M x3 a3 _ HS.out A3.out).mono ?_; rintro e w2 ⟨rfl, hq⟩; simp only []; have HQ1 := Lib.hid (qt_trans HQ0.out hq); have H2 := Lib.hid (HS.out.of_quiet hq); clear hq HS HQ0; have HQ0 := HQ1; have HS := H2; clear HQ1 H2; clear f2; have f2 := (statFacts HS.out HST.out).2.2.1; simp only at f2)
      | (go_at_call 27; with_reducible refine (Sample_ok c R g M (p - bi) r _ HS.out HR.out).mono ?_; rintro e w2 ⟨rfl, hq⟩; simp only []; have HQ1 := Lib.hid (qt_trans HQ0.out hq); have H2 := Lib.hid (HS.out.of_quiet hq); clear hq HS HQ0; have HQ0 := HQ1; have HS := H2; clear HQ1 H2; clear f2; have f2 := (statFacts HS.out HST.out).2.2.1; simp only at f2)
      | (go_at_call 38; go_must (with_reducible refine (Med_ok a1 a2 a3 p _ (by omega) (by omega) (by omega) (by omega) (by omega) (by omega) HP.out).mono ?_); rintro e w2 ⟨rfl, hq⟩; simp only []; have HQ1 := Lib.hid (qt_trans HQ0.out hq); have H2 := Lib.hid (HS.out.of_quiet hq); clear hq HS HQ0; have HQ0 := HQ1; have HS := H2; clear HQ1 H2; clear f2; have f2 := (statFacts HS.out HST.out).2.2.1; simp only at f2)
      | (go_at_call 28; go_must (with_reducible refine (known_ok m _ (by omega)).mono ?_); rintro e1 w1 ⟨rfl, rfl⟩; simp only []))
      go_ret
      exact ⟨rfl, HQ0.out⟩
    · have HR : Hid (cutI (p + bi) 0 M.most = r) := by have := HR.out; rwa [if_neg hs0] at this
      go_enter Tryd.func22, Tryd.ntmps22
      go_wp2_with (first
      | (go_at_call 27; with_reducible refine (Sample_ok c R g M x1 a1 _ HS.out A1.out).mono ?_; rintro e w2 ⟨rfl, hq⟩; simp only []; have HQ1 := Lib.hid (qt_trans HQ0.out hq); have H2 := Lib.hid (HS.out.of_quiet hq); clear hq HS HQ0; have HQ0 := HQ1; have HS := H2; clear HQ1 H2; clear f2; have f2 := (statFacts HS.out HST.out).2.2.1; simp only at f2)
      | (go_at_call 27; with_reducible refine (Sample_ok c R g M x2 a2 _ HS.out A2.out).mono ?_; rintro e w2 ⟨rfl, hq⟩; simp only []; have HQ1 := Lib.hid (qt_trans HQ0.out hq); have H2 := Lib.hid (HS.out.of_quiet hq); clear hq HS HQ0; have HQ0 := HQ1; have HS := H2; clear HQ1 H2; clear f2; have f2 := (statFacts HS.out HST.out).2.2.1; simp only at f2)
      | (go_at_call 27; with_reducible refine (Sample_ok c R g M x3 a3 _ HS.out A3.out).mono ?_; rintro e w2 ⟨rfl, hq⟩; simp only []; have HQ1 := Lib.hid (qt_trans HQ0.out hq); have H2 := Lib.hid (HS.out.of_quiet hq); clear hq HS HQ0; have HQ0 := HQ1; have HS := H2; clear HQ1 H2; clear f2; have f2 := (statFacts HS.out HST.out).2.2.1; simp only at f2)
      | (go_at_call 27; with_reducible refine (Sample_ok c R g M (p + bi) r _ HS.out HR.out).mono ?_; rintro e w2 ⟨rfl, hq⟩; simp only []; have HQ1 := Lib.hid (qt_trans HQ0.out hq); have H2 := Lib.hid (HS.out.of_quiet hq); clear hq HS HQ0; have HQ0 := HQ1; have HS := H2; clear HQ1 H2; clear f2; have f2 := (statFacts HS.out HST.out).2.2.1; simp only at f2)
      | (go_at_call 38; go_must (with_reducible refine (Med_ok a1 a2 a3 p _ (by omega) (by omega) (by omega) (by omega) (by omega) (by omega) HP.out).mono ?_); rintro e w2 ⟨rfl, hq⟩; simp only []; have HQ1 := Lib.hid (qt_trans HQ0.out hq); have H2 := Lib.hid (HS.out.of_quiet hq); clear hq HS HQ0; have HQ0 := HQ1; have HS := H2; clear HQ1 H2; clear f2; have f2 := (statFacts HS.out HST.out).2.2.1; simp only at f2)
      | (go_at_call 28; go_must (with_reducible refine (known_ok m _ (by omega)).mono ?_); rintro e1 w1 ⟨rfl, rfl⟩; simp only []))
      go_ret
      exact ⟨rfl, HQ0.out⟩
  | false =>
    rw [hk] at hr
    have HR : Hid (cutI p 0 M.most = r) := hr
    have HS := Lib.hid hS
    have HK := Lib.hid hk
    clear hS hM hk hI hr
    go_enter Tryd.func22, Tryd.ntmps22
    go_wp2_with (first
      | (go_at_call 27; with_reducible refine (Sample_ok c R g M x1 a1 _ HS.out A1.out).mono ?_; rintro e w2 ⟨rfl, hq⟩; simp only []; have HQ1 := Lib.hid (qt_trans HQ0.out hq); have H2 := Lib.hid (HS.out.of_quiet hq); clear hq HS HQ0; have HQ0 := HQ1; have HS := H2; clear HQ1 H2)
      | (go_at_call 27; with_reducible refine (Sample_ok c R g M x2 a2 _ HS.out A2.out).mono ?_; rintro e w2 ⟨rfl, hq⟩; simp only []; have HQ1 := Lib.hid (qt_trans HQ0.out hq); have H2 := Lib.hid (HS.out.of_quiet hq); clear hq HS HQ0; have HQ0 := HQ1; have HS := H2; clear HQ1 H2)
      | (go_at_call 27; with_reducible refine (Sample_ok c R g M x3 a3 _ HS.out A3.out).mono ?_; rintro e w2 ⟨rfl, hq⟩; simp only []; have HQ1 := Lib.hid (qt_trans HQ0.out hq); have H2 := Lib.hid (HS.out.of_quiet hq); clear hq HS HQ0; have HQ0 := HQ1; have HS := H2; clear HQ1 H2)
      | (go_at_call 27; with_reducible refine (Sample_ok c R g M (p) r _ HS.out HR.out).mono ?_; rintro e w2 ⟨rfl, hq⟩; simp only []; have HQ1 := Lib.hid (qt_trans HQ0.out hq); have H2 := Lib.hid (HS.out.of_quiet hq); clear hq HS HQ0; have HQ0 := HQ1; have HS := H2; clear HQ1 H2)
      | (go_at_call 38; go_must (with_reducible refine (Med_ok a1 a2 a3 p _ (by omega) (by omega) (by omega) (by omega) (by omega) (by omega) HP.out).mono ?_); rintro e w2 ⟨rfl, hq⟩; simp only []; have HQ1 := Lib.hid (qt_trans HQ0.out hq); have H2 := Lib.hid (HS.out.of_quiet hq); clear hq HS HQ0; have HQ0 := HQ1; have HS := H2; clear HQ1 H2)
      | (go_at_call 28; go_must (with_reducible refine (known_any k false _ HK.out).mono ?_); rintro e1 w1 ⟨rfl, rfl⟩; simp only []))
    go_ret
    exact ⟨rfl, HQ0.out⟩

end Go.Proofs.YtiglncmkinojjaaDoor
