import Derived.Test.YtiglncmkinojjaaDoorChecked
import Derived.Test.YtiglncmkinojjaaDoorReg
import Derived.Test.YtiglncmkinojjaaDoorArg
import Derived.Lib.Hide
import Derived.WalkSpells
namespace Go.Proofs.YtiglncmkinojjaaDoor
set_option linter.unusedSimpArgs false
set_option linter.unusedVariables false
open Go Go.RowKit

theorem ret_int {k : IntKind} {a b : Int} (h : a = b) : Ending.returned (.int k a) = Ending.returned (.int k b) := by rw [h]

theorem clamp_ok (n lo hi : Int) (w : World) :
    Calls Tryd.prog 26 #[.int .i64 n, .int .i64 lo, .int .i64 hi] w fun e w' => e = .returned (.int .i64 (min (max n lo) hi)) ∧ w' = w := by
  go_enter Tryd.func26, Tryd.ntmps26
  go_wp2_with fail
  all_goals (go_ret; exact ⟨ret_int (by omega), rfl⟩)

theorem clamp_is (n lo hi r : Int) (w : World) (hr : min (max n lo) hi = r) :
    Calls Tryd.prog 26 #[.int .i64 n, .int .i64 lo, .int .i64 hi] w fun e w' => e = .returned (.int .i64 r) ∧ w' = w := by
  subst hr
  exact clamp_ok n lo hi w

theorem size_ok (n : Int) (w : World) (h : -9223372036854775808 < n) (h2 : n ≤ 9223372036854775807) :
    Calls Tryd.prog 14 #[.int .i64 n] w fun e w' => e = .returned (.int .i64 n.natAbs) ∧ w' = w := by
  have := h
  go_enter Tryd.func14, Tryd.ntmps14
  go_wp2_with fail
  all_goals (go_ret; exact ⟨ret_int (by omega), rfl⟩)

theorem size_is (n r : Int) (w : World) (h : -9223372036854775808 < n) (h2 : n ≤ 9223372036854775807) (hr : (n.natAbs : Int) = r) :
    Calls Tryd.prog 14 #[.int .i64 n] w fun e w' => e = .returned (.int .i64 r) ∧ w' = w := by
  subst hr
  exact size_ok n w h h2

/-- A model as it lies. -/
structure Mo where
  most : Int
  d : Int
  step : Int
  span : Int
  wide : Int
  t0 : Int
  t1 : Int
  t2 : Int
  st : List (Int × Int × Int × Int)

def Mo.cells (M : Mo) : List Value := [.int .i64 M.most, .int .i64 M.d, .int .i64 M.step, .int .i64 M.span, .int .i64 M.wide, .int .i64 M.t0, .int .i64 M.t1, .int .i64 M.t2] ++ M.st.flatMap fun s => [.int .i64 s.1, .int .i64 s.2.1, .int .i64 s.2.2.1, .int .i64 s.2.2.2]
def mdl (g : Nat) (M : Mo) : HP := blk g M.cells 63

/-- What its numbers keep to. -/
structure Mo.Fits (M : Mo) : Prop where
  m0 : 0 < M.most
  m1 : M.most ≤ 4095
  d0 : 0 ≤ M.d
  d1 : M.d ≤ 63
  st : M.step = 2 * M.d + 1
  p0 : 1 ≤ M.span
  p1 : M.span ≤ 4096
  w0 : 0 ≤ M.wide
  w1 : M.wide ≤ 12
  n : M.st.length = 365

def cutI (n lo hi : Int) : Int := min (max n lo) hi
def shrinkI (M : Mo) (e : Int) : Int :=
  let e := cutI e (-M.most) M.most
  let q := (max e (-e) + M.d) / M.step
  let q := if e < 0 then -q else q
  let q := if q < -(M.span / 2) then q + M.span else q
  if (M.span - 1) / 2 < q then q - M.span else q

theorem mdlFacts {c : Ctx} {R : List HP} {g : Nat} {M : Mo} {w : World} (hS : St c (mdl g M :: R) w) :
    w.cell? ⟨g, 0, none⟩ = some (.int .i64 M.most) ∧ w.cell? ⟨g, 1, none⟩ = some (.int .i64 M.d) ∧ w.cell? ⟨g, 2, none⟩ = some (.int .i64 M.step) ∧ w.cell? ⟨g, 3, none⟩ = some (.int .i64 M.span) ∧
    w.cell? ⟨g, 4, none⟩ = some (.int .i64 M.wide) ∧ w.cell? ⟨g, 5, none⟩ = some (.int .i64 M.t0) ∧ w.cell? ⟨g, 6, none⟩ = some (.int .i64 M.t1) ∧ w.cell? ⟨g, 7, none⟩ = some (.int .i64 M.t2) :=
  ⟨St.cell hS 0, St.cell hS 1, St.cell hS 2, St.cell hS 3, St.cell hS 4, St.cell hS 5, St.cell hS 6, St.cell hS 7⟩

theorem Shrink_ok (c : Ctx) (R : List HP) (g : Nat) (M : Mo) (e q : Int) (w : World) (hS : St c (mdl g M :: R) w) (hM : M.Fits) (hq : shrinkI M e = q) :
    Calls Tryd.prog 12 #[.pointer (some ⟨g, 0, none⟩), .int .i64 e] w fun e' w' => e' = .returned (.int .i64 q) ∧ ∃ m, w' = w.drewN m := by
  obtain ⟨h1, h2, h3, h4, h5, h6, h7, -, -, -⟩ := hM
  obtain ⟨f0, f1, f2, f3, -, -, -, -⟩ := mdlFacts hS
  clear hS
  unfold shrinkI cutI at hq
  obtain ⟨most, d, step, span, wide, t0, t1, t2, st⟩ := M
  simp only at *
  obtain ⟨r, hr⟩ : ∃ r, min (max e (-most)) most = r := ⟨_, rfl⟩
  rw [hr] at hq
  have hr1 : -most ≤ r := by omega
  have hr2 : r ≤ most := by omega
  have HR := Lib.hid hr
  have HQ := Lib.hid hq
  have H5 := Lib.hid h5
  have h51 : 1 ≤ step := by omega
  have h52 : step ≤ 127 := by omega
  have hz : 0 ≤ (max r (-r) + d) / step ∧ (max r (-r) + d) / step ≤ 4158 := by
    have h := Int.ediv_le_self (b := step) (a := max r (-r) + d) (by omega)
    exact ⟨Int.ediv_nonneg (by omega) (by omega), by omega⟩
  have HZ := Lib.hid hz
  clear hr hq h5 hz
  go_enter Tryd.func12, Tryd.ntmps12
  go_wp2_with fail
  go_quiet ((go_at_call 26; exact Calls.quiet_of_same (clamp_is e (-most) most r _ HR.out)))
  go_wp2_with fail
  go_quiet (fail)
  go_wp2_with fail
  all_goals
    go_ret
    refine ⟨ret_int ?_, _, rfl⟩
    rw [← HQ.out]
    have Z := HZ.out
    clear HQ HZ HR
    first
      | (rw [show max r (-r) = -r by omega] at Z ⊢; generalize (-r + d) / step = z at *; (try simp only [wrap64] at *); omega)
      | (rw [show max r (-r) = r by omega] at Z ⊢; generalize (r + d) / step = z at *; (try simp only [wrap64] at *); omega)

end Go.Proofs.YtiglncmkinojjaaDoor
