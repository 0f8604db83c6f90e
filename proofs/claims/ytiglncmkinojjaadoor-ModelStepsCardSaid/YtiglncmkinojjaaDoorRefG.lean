import Derived.Test.YtiglncmkinojjaaDoorRefE
/-! The document's model: Stats and Param of any context. -/
namespace Go.Proofs.YtiglncmkinojjaaDoor
set_option linter.unusedSimpArgs false
set_option linter.unusedVariables false
open Go Go.RowKit

theorem rStats_any (c : Ctx) (R : List HP) (g gL cp : Nat) (dep : Int) (M : Mo) (k a b s n : Int) (w : World) (hS : St c (rhd g dep M.d (.slice (some ⟨gL, 0, none⟩) 365 cp) :: rtb gL cp M :: R) w) (hM : M.Fits) (hr : M.at k = (a, b, s, n)) :
    Calls Tryd.prog 49 #[.pointer (some ⟨g, 0, none⟩), .int .i64 k] w fun e' w' => e' = .returned (.tuple #[.int .i64 a, .int .i64 b, .int .i64 s, .int .i64 n]) ∧ St c (rhd g dep M.d (.slice (some ⟨gL, 0, none⟩) 365 cp) :: rtb gL cp M :: R) w' := by
  cases hk : known k with
  | true =>
    obtain ⟨m, rfl, hm, hst⟩ := Mo.at_known hM hk
    rw [hr] at hst
    exact rStats_ok c R g gL cp dep M m a b s n w hS hm hst
  | false =>
    rw [Mo.at_not hk] at hr
    simp only [Prod.mk.injEq] at hr
    obtain ⟨rfl, rfl, rfl, rfl⟩ := hr
    have HS := Lib.hid hS
    have HK := Lib.hid hk
    clear hS hM hk
    go_enter Tryd.func49, Tryd.ntmps49
    go_wp2_with (go_at_call 47; go_must (with_reducible refine (rknown_is k false _ HK.out).mono ?_); rintro e1 w1 ⟨rfl, rfl⟩; simp only [])
    (try simp only [Exit.inBlock, Exit.then]); refine bodyPost_ret (results_tmp4 rfl _ _ _) rfl ?_
    exact ⟨rfl, HS.out⟩

theorem rParam_any (c : Ctx) (R : List HP) (g gL cp : Nat) (dep : Int) (M : Mo) (k : Int) (v : Nat) (w : World) (hS : St c (rhd g dep M.d (.slice (some ⟨gL, 0, none⟩) 365 cp) :: rtb gL cp M :: R) w) (hM : M.Fits) (hI : ∀ s ∈ M.st, Inv s) (hv : M.param k = v) :
    Calls Tryd.prog 35 #[.pointer (some ⟨g, 0, none⟩), .int .i64 k] w fun e' w' => e' = .returned (.int .i64 (v : Nat)) ∧ St c (rhd g dep M.d (.slice (some ⟨gL, 0, none⟩) 365 cp) :: rtb gL cp M :: R) w' := by
  cases hk : known k with
  | true =>
    unfold Mo.param at hv
    rw [if_pos hk] at hv
    obtain ⟨m, rfl, hm, hst⟩ := Mo.at_known hM hk
    obtain ⟨⟨a, b, s, n⟩, hs⟩ : ∃ x, M.at (m : Int) = x := ⟨_, rfl⟩
    rw [hs] at hst hv
    have hi := hI _ (List.mem_of_getElem? hst)
    have i1 := hi.n1
    have i2 := hi.n2
    have i3 := hi.a1
    have i4 := hi.a2
    simp only at i1 i2 i3 i4
    refine (rParam_ok c R g gL cp dep M m a b s n w hS hm hst (by omega) (by omega) (by omega) (by omega)).mono ?_
    rintro e w' ⟨v', rfl, h, hS'⟩
    refine ⟨?_, hS'⟩
    rw [← hv, paramOf_is h.out]
  | false =>
    unfold Mo.param at hv
    rw [hk] at hv
    simp at hv
    subst hv
    have HS := Lib.hid hS
    have HK := Lib.hid hk
    clear hS hM hk hI
    go_enter Tryd.func35, Tryd.ntmps35
    go_wp2_with (go_at_call 47; go_must (with_reducible refine (rknown_is k false _ HK.out).mono ?_); rintro e1 w1 ⟨rfl, rfl⟩; simp only [])
    go_ret
    exact ⟨rfl, HS.out⟩
end Go.Proofs.YtiglncmkinojjaaDoor
