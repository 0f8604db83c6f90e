import Derived.Test.YtakmkjdmonmilaaDoorGoD
import Derived.Test.YtakmkjdmonmilaaDoorArg
namespace Go.Proofs.YtakmkjdmonmilaaDoor
set_option linter.unusedSimpArgs false
set_option linter.unusedVariables false
open Go Go.RowKit

theorem in64_of {n : Int} (h : (Lit.int .i64 n).wf = true) : in64 n := bounds_i64 h

set_option maxHeartbeats 1000000 in
set_option maxRecDepth 100000 in
theorem golombFolds_walk {H : Type} {enc : TypeId × Value → H} (W : World) (hT : Tab W) (base : Nat) (v0 v1 : Value) (a0 : Arg enc Tryd.prog W base 3 v0) (a1 : Arg enc Tryd.prog W base 3 v1) :
    Calls Tryd.prog 5 #[v0, v1] W fun e W' => e = .returned (.bool true) ∧ Below W.heap.size W W' := by
  obtain ⟨c0, rfl, w0⟩ := arg_int (k := .i64) Tryd.underlying3 a0
  obtain ⟨c1, rfl, w1⟩ := arg_int (k := .i64) Tryd.underlying3 a1
  have W0 := Lib.hid (in64_of w0)
  have W1 := Lib.hid (in64_of w1)
  have HT := Lib.hid hT
  obtain ⟨e, he⟩ : ∃ e, pickN c0 1073741824 = e := ⟨_, rfl⟩
  obtain ⟨v, hv⟩ : ∃ v, pickN c1 2147483648 = v := ⟨_, rfl⟩
  have he2 : e < 1073741824 := by rw [← he]; exact pickN_lt _ _ (by decide)
  have hv2 : v < 2147483648 := by rw [← hv]; exact pickN_lt _ _ (by decide)
  have HE := Lib.hid he
  have HV := Lib.hid hv
  clear w0 w1 hT he hv a0 a1
  by_cases hpar : (v : Int) % 2 = 0
  · go_enter Tryd.func5, Tryd.ntmps5
    go_wp2_with fail
    refine (awake_ok W HT.out [] _ (St.top W)).mono ?_
    rintro en w2 ⟨rfl, hS⟩
    have HS := Lib.hid hS
    clear hS
    go_wp2_with fail
    refine (pick_is c0 1073741824 e _ W0.out (by decide) (by decide) HE.out).mono ?_
    rintro en w' ⟨rfl, rfl⟩
    go_wp2_with fail
    refine (Fold_pos (e : Int) (2 * (e : Int)) _ (by omega) (by omega) rfl).mono ?_
    rintro en w' ⟨rfl, rfl⟩
    go_wp2_with fail
    refine (Unfold_even (2 * (e : Int)) (e : Int) _ (by omega) (by omega) (by omega) (by omega)).mono ?_
    rintro en w' ⟨rfl, rfl⟩
    go_wp2_with fail
    refine (Fold_neg (-(e : Int) - 1) (2 * (e : Int) + 1) _ (by omega) (by omega) (by omega)).mono ?_
    rintro en w' ⟨rfl, rfl⟩
    go_wp2_with fail
    refine (Unfold_odd (2 * (e : Int) + 1) (-(e : Int) - 1) _ (by omega) (by omega) (by omega) (by omega)).mono ?_
    rintro en w' ⟨rfl, rfl⟩
    go_wp2_with fail
    refine (pick_is c1 2147483648 v _ W1.out (by decide) (by decide) HV.out).mono ?_
    rintro en w' ⟨rfl, rfl⟩
    go_wp2_with fail
    obtain ⟨n, hn⟩ : ∃ n : Int, (v : Int) / 2 = n := ⟨_, rfl⟩
    have hn2 : 0 ≤ n ∧ n ≤ 1073741823 ∧ 2 * n = v := by omega
    obtain ⟨hn3, hn4, hn5⟩ := hn2
    have HN := Lib.hid hn
    have HN5 := Lib.hid hn5
    clear hn hn5
    refine (Unfold_even (v : Int) n _ (by omega) (by omega) hpar HN.out).mono ?_
    rintro en w' ⟨rfl, rfl⟩
    clear hpar
    go_wp2_with fail
    refine (Fold_pos n (v : Int) _ hn3 hn4 HN5.out).mono ?_
    rintro en w' ⟨rfl, rfl⟩
    go_wp2_with fail
    go_ret
    exact ⟨rfl, HS.out.below⟩
  · have hpar : (v : Int) % 2 = 1 := by omega
    go_enter Tryd.func5, Tryd.ntmps5
    go_wp2_with fail
    refine (awake_ok W HT.out [] _ (St.top W)).mono ?_
    rintro en w2 ⟨rfl, hS⟩
    have HS := Lib.hid hS
    clear hS
    go_wp2_with fail
    refine (pick_is c0 1073741824 e _ W0.out (by decide) (by decide) HE.out).mono ?_
    rintro en w' ⟨rfl, rfl⟩
    go_wp2_with fail
    refine (Fold_pos (e : Int) (2 * (e : Int)) _ (by omega) (by omega) rfl).mono ?_
    rintro en w' ⟨rfl, rfl⟩
    go_wp2_with fail
    refine (Unfold_even (2 * (e : Int)) (e : Int) _ (by omega) (by omega) (by omega) (by omega)).mono ?_
    rintro en w' ⟨rfl, rfl⟩
    go_wp2_with fail
    refine (Fold_neg (-(e : Int) - 1) (2 * (e : Int) + 1) _ (by omega) (by omega) (by omega)).mono ?_
    rintro en w' ⟨rfl, rfl⟩
    go_wp2_with fail
    refine (Unfold_odd (2 * (e : Int) + 1) (-(e : Int) - 1) _ (by omega) (by omega) (by omega) (by omega)).mono ?_
    rintro en w' ⟨rfl, rfl⟩
    go_wp2_with fail
    refine (pick_is c1 2147483648 v _ W1.out (by decide) (by decide) HV.out).mono ?_
    rintro en w' ⟨rfl, rfl⟩
    go_wp2_with fail
    obtain ⟨n, hn⟩ : ∃ n : Int, -(((v : Int) + 1) / 2) = n := ⟨_, rfl⟩
    have hn2 : n < 0 ∧ -1073741824 ≤ n ∧ -2 * n - 1 = v := by omega
    obtain ⟨hn3, hn4, hn5⟩ := hn2
    have HN := Lib.hid hn
    have HN5 := Lib.hid hn5
    clear hn hn5
    refine (Unfold_odd (v : Int) n _ (by omega) (by omega) hpar HN.out).mono ?_
    rintro en w' ⟨rfl, rfl⟩
    clear hpar
    go_wp2_with fail
    refine (Fold_neg n (v : Int) _ hn3 hn4 HN5.out).mono ?_
    rintro en w' ⟨rfl, rfl⟩
    go_wp2_with fail
    go_ret
    exact ⟨rfl, HS.out.below⟩

end Go.Proofs.YtakmkjdmonmilaaDoor
