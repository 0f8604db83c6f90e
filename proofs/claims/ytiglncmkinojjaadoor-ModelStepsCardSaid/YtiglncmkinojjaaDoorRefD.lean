import Derived.Test.YtiglncmkinojjaaDoorRefC
/-! The document's model: its table; Stats, Guess, Param, Wide. -/
namespace Go.Proofs.YtiglncmkinojjaaDoor
set_option linter.unusedSimpArgs false
set_option linter.unusedVariables false
open Go Go.RowKit

def rtb (gL cp : Nat) (M : Mo) : HP := row 74 4 (.slice (some ⟨gL, 0, none⟩) 365 cp) 365 (M.st.flatMap st4)
theorem flat4_len (l : List (Int × Int × Int × Int)) : (l.flatMap st4).length = l.length * 4 := by
  induction l with
  | nil => rfl
  | cons a l ih => rw [List.flatMap_cons, List.length_append, ih]; simp [st4]; omega
theorem rtFacts {c : Ctx} {R : List HP} {gL cp : Nat} {M : Mo} {w : World} (hS : St c (rtb gL cp M :: R) w) {k : Nat} {s : Int × Int × Int × Int} (hr : M.st[k]? = some s) (hk : k < 365) :
    w.cell? ⟨gL, k * 4, none⟩ = some (.int .i64 s.1) ∧ w.cell? ⟨gL, k * 4 + 1, none⟩ = some (.int .i64 s.2.1) ∧ w.cell? ⟨gL, k * 4 + 2, none⟩ = some (.int .i64 s.2.2.1) ∧ w.cell? ⟨gL, k * 4 + 3, none⟩ = some (.int .i64 s.2.2.2) := by
  obtain ⟨hl, rfl⟩ := List.getElem?_eq_some_iff.1 hr
  have hlen := flat4_len M.st
  have hc := fun j (hj : j < 4) => hS.row_at.cellAt (k * 4 + j) (by omega)
  have hg := fun j (hj : j < 4) => flat4_get M.st k j hj
  rw [hr] at hg
  refine ⟨?_, ?_, ?_, ?_⟩
  · exact (hc 0 (by decide)).trans (hg 0 (by decide))
  · exact (hc 1 (by decide)).trans (hg 1 (by decide))
  · exact (hc 2 (by decide)).trans (hg 2 (by decide))
  · exact (hc 3 (by decide)).trans (hg 3 (by decide))

theorem rStats_ok (c : Ctx) (R : List HP) (g gL cp : Nat) (dep : Int) (M : Mo) (k : Nat) (a b s n : Int) (w : World) (hS : St c (rhd g dep M.d (.slice (some ⟨gL, 0, none⟩) 365 cp) :: rtb gL cp M :: R) w) (hk : k < 365) (hr : M.st[k]? = some (a, b, s, n)) :
    Calls Tryd.prog 49 #[.pointer (some ⟨g, 0, none⟩), .int .i64 (k : Nat)] w fun e' w' => e' = .returned (.tuple #[.int .i64 a, .int .i64 b, .int .i64 s, .int .i64 n]) ∧ St c (rhd g dep M.d (.slice (some ⟨gL, 0, none⟩) 365 cp) :: rtb gL cp M :: R) w' := by
  obtain ⟨f0, f1, f2⟩ := rFacts hS
  obtain ⟨t0, t1, t2, t3⟩ := rtFacts hS.swap hr hk
  simp only at t0 t1 t2 t3
  have HS := Lib.hid hS
  have hk2 : (k : Int) < 365 := by omega
  have HKN := Lib.hid (known_iff.2 (⟨by omega, hk2⟩ : 0 ≤ (k : Int) ∧ (k : Int) < 365))
  clear hS hr
  go_enter Tryd.func49, Tryd.ntmps49
  go_wp2_with (go_at_call 47; go_must (with_reducible refine (rknown_is _ true _ HKN.out).mono ?_); rintro e1 w1 ⟨rfl, rfl⟩; simp only [])
  go_quiet (fail)
  go_wp2_with fail
  (try simp only [Exit.inBlock, Exit.then]); refine bodyPost_ret (results_tmp4 rfl _ _ _) rfl ?_
  exact ⟨rfl, (HS.out.allocSkip _).drewN _⟩
set_option maxHeartbeats 4000000 in
theorem rGuess_is (c : Ctx) (R : List HP) (g gL cp : Nat) (dep : Int) (M : Mo) (k s x1 x2 x3 r : Int) (w : World) (hS : St c (rhd g dep M.d (.slice (some ⟨gL, 0, none⟩) 365 cp) :: rtb gL cp M :: R) w) (hM : RIs dep M) (hI : ∀ s ∈ M.st, Inv s) (hr : guessI M k s x1 x2 x3 = r) :
    Calls Tryd.prog 34 #[.pointer (some ⟨g, 0, none⟩), .int .i64 k, .int .i64 s, .int .i64 x1, .int .i64 x2, .int .i64 x3] w fun e' w' => e' = .returned (.int .i64 r) ∧ w' = w := by
  have hm0 := hM.fits.m0
  have hm1 := hM.fits.m1
  have HD := Lib.hid hM.hdep
  obtain ⟨f0, f1, f2⟩ := rFacts hS
  unfold guessI at hr
  simp only at hr
  obtain ⟨a1, ha1⟩ : ∃ a, cutI x1 0 M.most = a := ⟨_, rfl⟩
  have c1 := cut_bounds x1 0 M.most (by omega)
  rw [ha1] at hr c1
  obtain ⟨a2, ha2⟩ : ∃ a, cutI x2 0 M.most = a := ⟨_, rfl⟩
  have c2 := cut_bounds x2 0 M.most (by omega)
  rw [ha2] at hr c2
  obtain ⟨a3, ha3⟩ : ∃ a, cutI x3 0 M.most = a := ⟨_, rfl⟩
  have c3 := cut_bounds x3 0 M.most (by omega)
  rw [ha3] at hr c3
  obtain ⟨p, hp⟩ : ∃ p, medI a1 a2 a3 = p := ⟨_, rfl⟩
  have hpb := med_bounds c1.1 c1.2 c2.1 c2.2 c3.1 c3.2
  rw [hp] at hr hpb
  obtain ⟨c11, c12⟩ := c1
  obtain ⟨c21, c22⟩ := c2
  obtain ⟨c31, c32⟩ := c3
  obtain ⟨hp1, hp2⟩ := hpb
  have A1 := Lib.hid ha1
  have A2 := Lib.hid ha2
  have A3 := Lib.hid ha3
  have HP := Lib.hid hp
  clear ha1 ha2 ha3 hp
  cases hk : known k with
  | true =>
    obtain ⟨m, rfl, hm, hst⟩ := Mo.at_known hM.fits hk
    have hi := hI _ (List.mem_of_getElem? hst)
    obtain ⟨⟨a, b, bi, n⟩, hs⟩ : ∃ x, M.at (m : Int) = x := ⟨_, rfl⟩
    rw [hs] at hst hi hr
    rw [if_pos hk] at hr
    have b1 := hi.s1
    have b2 := hi.s2
    simp only at b1 b2 hr
    have t2 := (rtFacts hS.swap hst hm).2.2.1
    simp only at t2
    have hm2 : (m : Int) < 365 := by omega
    have HKN := Lib.hid hk
    have HS := Lib.hid hS
    clear hS hM hk hI hst hs hi
    by_cases hs0 : s < 0
    · rw [if_pos hs0, show p - bi = p + -bi by omega] at hr
      have HR := Lib.hid hr
      clear hr
      go_enter Tryd.func34, Tryd.ntmps34
      go_wp2_with (first | (go_at_call 47; with_reducible refine (rknown_is _ true _ HKN.out).mono ?_; rintro e' w' ⟨rfl, rfl⟩; simp only []) | (go_at_call 43; with_reducible refine (rtop_is c (rtb gL cp M :: R) g dep M.d M.most _ _ HS.out HD.out).mono ?_; rintro e' w' ⟨rfl, rfl⟩; simp only []) | (go_at_call 42; with_reducible refine (rcut_is x1 0 M.most a1 _ (by omega) A1.out).mono ?_; rintro e' w' ⟨rfl, rfl⟩; simp only []) | (go_at_call 42; with_reducible refine (rcut_is x2 0 M.most a2 _ (by omega) A2.out).mono ?_; rintro e' w' ⟨rfl, rfl⟩; simp only []) | (go_at_call 42; with_reducible refine (rcut_is x3 0 M.most a3 _ (by omega) A3.out).mono ?_; rintro e' w' ⟨rfl, rfl⟩; simp only []) | (go_at_call 39; with_reducible refine (rMed_is a1 a2 a3 p _ (by omega) (by omega) (by omega) (by omega) (by omega) (by omega) HP.out).mono ?_; rintro e' w' ⟨rfl, rfl⟩; simp only []) | (go_at_call 42; with_reducible refine (rcut_is (p + -bi) 0 M.most r _ (by omega) HR.out).mono ?_; rintro e' w' ⟨rfl, rfl⟩; simp only []))
      go_ret
      exact ⟨rfl, rfl⟩
    · rw [if_neg hs0] at hr
      have HR := Lib.hid hr
      clear hr
      go_enter Tryd.func34, Tryd.ntmps34
      go_wp2_with (first | (go_at_call 47; with_reducible refine (rknown_is _ true _ HKN.out).mono ?_; rintro e' w' ⟨rfl, rfl⟩; simp only []) | (go_at_call 43; with_reducible refine (rtop_is c (rtb gL cp M :: R) g dep M.d M.most _ _ HS.out HD.out).mono ?_; rintro e' w' ⟨rfl, rfl⟩; simp only []) | (go_at_call 42; with_reducible refine (rcut_is x1 0 M.most a1 _ (by omega) A1.out).mono ?_; rintro e' w' ⟨rfl, rfl⟩; simp only []) | (go_at_call 42; with_reducible refine (rcut_is x2 0 M.most a2 _ (by omega) A2.out).mono ?_; rintro e' w' ⟨rfl, rfl⟩; simp only []) | (go_at_call 42; with_reducible refine (rcut_is x3 0 M.most a3 _ (by omega) A3.out).mono ?_; rintro e' w' ⟨rfl, rfl⟩; simp only []) | (go_at_call 39; with_reducible refine (rMed_is a1 a2 a3 p _ (by omega) (by omega) (by omega) (by omega) (by omega) (by omega) HP.out).mono ?_; rintro e' w' ⟨rfl, rfl⟩; simp only []) | (go_at_call 42; with_reducible refine (rcut_is (p + bi) 0 M.most r _ (by omega) HR.out).mono ?_; rintro e' w' ⟨rfl, rfl⟩; simp only []))
      go_ret
      exact ⟨rfl, rfl⟩
  | false =>
    rw [hk] at hr
    simp only [Bool.false_eq_true, if_false] at hr
    have HR := Lib.hid hr
    have HKN := Lib.hid hk
    have HS := Lib.hid hS
    clear hS hM hk hI hr
    by_cases hs0 : s < 0
    all_goals
      go_enter Tryd.func34, Tryd.ntmps34
      go_wp2_with (first | (go_at_call 47; with_reducible refine (rknown_is k false _ HKN.out).mono ?_; rintro e' w' ⟨rfl, rfl⟩; simp only []) | (go_at_call 43; with_reducible refine (rtop_is c (rtb gL cp M :: R) g dep M.d M.most _ _ HS.out HD.out).mono ?_; rintro e' w' ⟨rfl, rfl⟩; simp only []) | (go_at_call 42; with_reducible refine (rcut_is x1 0 M.most a1 _ (by omega) A1.out).mono ?_; rintro e' w' ⟨rfl, rfl⟩; simp only []) | (go_at_call 42; with_reducible refine (rcut_is x2 0 M.most a2 _ (by omega) A2.out).mono ?_; rintro e' w' ⟨rfl, rfl⟩; simp only []) | (go_at_call 42; with_reducible refine (rcut_is x3 0 M.most a3 _ (by omega) A3.out).mono ?_; rintro e' w' ⟨rfl, rfl⟩; simp only []) | (go_at_call 39; with_reducible refine (rMed_is a1 a2 a3 p _ (by omega) (by omega) (by omega) (by omega) (by omega) (by omega) HP.out).mono ?_; rintro e' w' ⟨rfl, rfl⟩; simp only []) | (go_at_call 42; with_reducible refine (rcut_is p 0 M.most r _ (by omega) HR.out).mono ?_; rintro e' w' ⟨rfl, rfl⟩; simp only []) | (go_at_call 42; with_reducible refine (rcut_is (p + 0) 0 M.most r _ (by omega) (by rw [Int.add_zero]; exact HR.out)).mono ?_; rintro e' w' ⟨rfl, rfl⟩; simp only []))
      go_ret
      exact ⟨rfl, rfl⟩
end Go.Proofs.YtiglncmkinojjaaDoor
