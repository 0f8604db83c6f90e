import Derived.Test.YtiglncmkinojjaaDoorModelM
/-! The document's model (dailiesref09): its quiet functions answer as the model's. -/
namespace Go.Proofs.YtiglncmkinojjaaDoor
set_option linter.unusedSimpArgs false
set_option linter.unusedVariables false
open Go Go.RowKit

/-- The document's model as it lies; its table apart. -/
def rhd (g : Nat) (dep d : Int) (v : Value) : HP := blk g [.int .i64 dep, .int .i64 d, v] 72
def Dep (dep most : Int) : Prop := (dep = 10 ∧ most = 1023) ∨ (dep = 12 ∧ most = 4095)
structure RIs (dep : Int) (M : Mo) : Prop where
  fits : M.Fits
  hdep : Dep dep M.most
  span : (M.most + 2 * M.d) / M.step + 1 = M.span
  wide : Wides M.span M.wide.toNat
  t0 : M.t0 = (if dep = 12 then 18 else 6) + 3 * M.d
  t1 : M.t1 = (if dep = 12 then 67 else 19) + 5 * M.d
  t2 : M.t2 = (if dep = 12 then 276 else 72) + 7 * M.d
theorem rFacts {c : Ctx} {R : List HP} {g : Nat} {dep d : Int} {v : Value} {w : World} (hS : St c (rhd g dep d v :: R) w) :
    w.cell? ⟨g, 0, none⟩ = some (.int .i64 dep) ∧ w.cell? ⟨g, 1, none⟩ = some (.int .i64 d) ∧ w.cell? ⟨g, 2, none⟩ = some v :=
  ⟨St.cell hS 0, St.cell hS 1, St.cell hS 2⟩

theorem qt_self {w : World} (n : Nat) : ∃ m, w.drewN n = w.drewN m := ⟨n, rfl⟩
theorem rcut_is (n lo hi r : Int) (w : World) (hl : lo ≤ hi) (hr : cutI n lo hi = r) :
    Calls Tryd.prog 42 #[.int .i64 n, .int .i64 lo, .int .i64 hi] w fun e w' => e = .returned (.int .i64 r) ∧ w' = w := by
  subst hr
  unfold cutI
  go_enter Tryd.func42, Tryd.ntmps42
  go_wp2_with fail
  all_goals (go_ret; exact ⟨ret_int (by omega), rfl⟩)
theorem rsize_is (n r : Int) (w : World) (h : -9223372036854775808 < n) (h2 : n ≤ 9223372036854775807) (hr : max n (-n) = r) :
    Calls Tryd.prog 44 #[.int .i64 n] w fun e w' => e = .returned (.int .i64 r) ∧ w' = w := by
  subst hr
  have := h
  go_enter Tryd.func44, Tryd.ntmps44
  go_wp2_with fail
  all_goals (go_ret; exact ⟨ret_int (by omega), rfl⟩)
theorem rtop_is (c : Ctx) (R : List HP) (g : Nat) (dep d most : Int) (v : Value) (w : World) (hS : St c (rhd g dep d v :: R) w) (hd : Dep dep most) :
    Calls Tryd.prog 43 #[.pointer (some ⟨g, 0, none⟩)] w fun e w' => e = .returned (.int .i64 most) ∧ w' = w := by
  obtain ⟨f0, f1, f2⟩ := rFacts hS
  clear hS
  rcases hd with ⟨rfl, rfl⟩ | ⟨rfl, rfl⟩
  all_goals
    go_enter Tryd.func43, Tryd.ntmps43
    go_wp2_with fail
    go_ret
    exact ⟨rfl, rfl⟩
theorem rstep_is (c : Ctx) (R : List HP) (g : Nat) (dep d s : Int) (v : Value) (w : World) (hS : St c (rhd g dep d v :: R) w) (h0 : 0 ≤ d) (h1 : d ≤ 63) (hs : s = 2 * d + 1) :
    Calls Tryd.prog 45 #[.pointer (some ⟨g, 0, none⟩)] w fun e w' => e = .returned (.int .i64 s) ∧ w' = w := by
  obtain ⟨f0, f1, f2⟩ := rFacts hS
  clear hS
  go_enter Tryd.func45, Tryd.ntmps45
  go_wp2_with fail
  go_ret
  exact ⟨ret_int (by rw [hs]), rfl⟩
theorem rRange_is (c : Ctx) (R : List HP) (g : Nat) (dep : Int) (M : Mo) (v : Value) (w : World) (hS : St c (rhd g dep M.d v :: R) w) (hM : RIs dep M) :
    Calls Tryd.prog 40 #[.pointer (some ⟨g, 0, none⟩)] w fun e w' => e = .returned (.int .i64 M.span) ∧ ∃ m, w' = w.drewN m := by
  obtain ⟨f0, f1, f2⟩ := rFacts hS
  have HS := Lib.hid hS
  have h0 := hM.fits.m0
  have h1 := hM.fits.m1
  have h2 := hM.fits.d0
  have h3 := hM.fits.d1
  have h4 := hM.fits.st
  have H4 := Lib.hid h4
  have HD := Lib.hid hM.hdep
  have HP := Lib.hid hM.span
  have h5 : 1 ≤ M.step := by omega
  have hz : 0 ≤ (M.most + 2 * M.d) / M.step ∧ (M.most + 2 * M.d) / M.step ≤ 4300 := by
    have h := Int.ediv_le_self (b := M.step) (a := M.most + 2 * M.d) (by omega)
    exact ⟨Int.ediv_nonneg (by omega) (by omega), by omega⟩
  have hz1 := hz.1
  have hz2 := hz.2
  clear hS hz h4 hM
  go_enter Tryd.func40, Tryd.ntmps40
  go_wp2_with fail
  go_quiet ((first | (go_at_call 43; exact Calls.quiet_of_same (rtop_is c R g dep M.d M.most v _ (HS.out.drewN _) HD.out)) | (go_at_call 45; exact Calls.quiet_of_same (rstep_is c R g dep M.d M.step v _ (HS.out.drewN _) h2 h3 H4.out))))
  go_wp2_with fail
  go_ret
  exact ⟨ret_int HP.out, _, rfl⟩
end Go.Proofs.YtiglncmkinojjaaDoor
