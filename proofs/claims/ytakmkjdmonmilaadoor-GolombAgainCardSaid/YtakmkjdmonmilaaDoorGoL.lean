import Derived.Test.YtakmkjdmonmilaaDoorGoE
import Derived.Test.YtakmkjdmonmilaaDoorArg
namespace Go.Proofs.YtakmkjdmonmilaaDoor
set_option linter.unusedSimpArgs false
set_option linter.unusedVariables false
open Go Go.RowKit

/-! Raw numbers. -/
/-- A raw number: V, K, Wide. -/
abbrev Raw := Int × Int × Int
def rWide (p : Raw) : Nat := pickN p.2.2 16 + 1
def rV (p : Raw) : Nat := pickN p.1 (2 ^ rWide p)
def rK (p : Raw) : Nat := pickN p.2.1 16
def rBits (p : Raw) : List Bool := gform (rV p) (rK p) (rWide p)
theorem rWide_le (p : Raw) : 1 ≤ rWide p ∧ rWide p ≤ 16 := by
  have := pickN_lt p.2.2 16 (by decide)
  unfold rWide; omega
theorem rV_lt (p : Raw) : rV p < 2 ^ rWide p := pickN_lt _ _ (Nat.two_pow_pos _)
theorem rK_le (p : Raw) : rK p ≤ 15 := by
  have := pickN_lt p.2.1 16 (by decide)
  unfold rK; omega

def RawIs (xs : List Value) (p : Raw) : Prop := xs = [.int .i64 p.1, .int .i64 p.2.1, .int .i64 p.2.2] ∧ in64 p.1 ∧ in64 p.2.1 ∧ in64 p.2.2

set_option maxRecDepth 100000 in
theorem ok_raw {H : Type} {enc : TypeId × Value → H} {W : World} (xs : List Value) (h : Ok enc Tryd.prog W 23 xs) : ∃ p, RawIs xs p := by
  obtain ⟨h1, h2⟩ := ok_struct Tryd.underlying23 h
  have hlen : xs.length = 3 := h1.trans (by kernel_rfl)
  match xs, hlen with
  | [x0, x1, x2], _ =>
    have e0 := h2 0 _ rfl
    have e1 := h2 1 _ rfl
    have e2 := h2 2 _ rfl
    obtain ⟨n0, q0, w0⟩ := ok_int (k := .i64) Tryd.underlying3 e0
    obtain ⟨n1, q1, w1⟩ := ok_int (k := .i64) Tryd.underlying3 e1
    obtain ⟨n2, q2, w2⟩ := ok_int (k := .i64) Tryd.underlying3 e2
    simp [cInt] at q0 q1 q2
    exact ⟨(n0, n1, n2), by rw [q0, q1, q2], in64_of w0, in64_of w1, in64_of w2⟩

theorem arg_raws {H : Type} {enc : TypeId × Value → H} {W : World} {base : Nat} {v : Value} (h : Arg enc Tryd.prog W base 43 v) :
    ∃ (ao : Option Addr) (cap : Nat) (l : List Raw), v = .slice ao l.length cap ∧ l.length ≤ cap ∧ l.length * 24 ≤ 140737488351232 ∧
      ∀ i (hi : i < l.length), ∃ b off, ao = some ⟨b, off, none⟩ ∧ W.cell? ⟨b, off + i * 3, none⟩ = some (.int .i64 l[i].1) ∧ W.cell? ⟨b, off + i * 3 + 1, none⟩ = some (.int .i64 l[i].2.1) ∧ W.cell? ⟨b, off + i * 3 + 2, none⟩ = some (.int .i64 l[i].2.2) ∧ in64 l[i].1 ∧ in64 l[i].2.1 ∧ in64 l[i].2.2 := by
  obtain ⟨ao, cap, l, rfl, hlc, hw, hn, ha⟩ := ok_rows RawIs Tryd.underlying43 ok_raw (sz := 3) (B := 24) (by kernel_rfl) (by decide) (by kernel_rfl) (arg_slice Tryd.underlying43 h)
  refine ⟨ao, cap, l, rfl, hlc, ?_, ?_⟩
  · have : reachBytes = 140737488351232 := rfl
    omega
  · intro i hi
    obtain ⟨b, off, xs, h1, ⟨rfl, h3, h4, h5⟩, h6, h7⟩ := ha i hi
    exact ⟨b, off, h1, h7 0 (by decide), h7 1 (by decide), h7 2 (by decide), h3, h4, h5⟩

theorem pick_q (c : Int) (n r : Nat) (w : World) (hc : in64 c) (hn : 0 < n) (hn2 : n ≤ 4294967296) (hr : pickN c n = r) :
    Calls Tryd.prog 12 #[.int .i64 c, .int .i64 n] w fun e w' => e = .returned (.int .i64 (r : Nat)) ∧ ∃ m, w' = w.drewN m := by
  refine (pick_is c n r w hc hn hn2 hr).mono ?_
  rintro e w' ⟨rfl, rfl⟩
  exact ⟨rfl, 0, rfl⟩

theorem blk3 {c : Ctx} {R : List HP} {g : Nat} {x y z : Value} {t : TypeId} {w : World} (h : St c (blk g [x, y, z] t :: R) w) :
    w.cell? ⟨g, 0, none⟩ = some x ∧ w.cell? ⟨g, 1, none⟩ = some y ∧ w.cell? ⟨g, 2, none⟩ = some z :=
  ⟨by rw [h.cell 0]; rfl, by rw [h.cell 1]; rfl, by rw [h.cell 2]; rfl⟩

set_option maxHeartbeats 1000000 in
set_option maxRecDepth 100000 in
theorem of_ok (c : Ctx) (R : List HP) (v k wd : Int) (q kk wide : Nat) (w : World) (hS : St c R w) (i1 : in64 v) (i2 : in64 k) (i3 : in64 wd) (h1 : rWide (v, k, wd) = wide) (h2 : rV (v, k, wd) = q) (h3 : rK (v, k, wd) = kk) :
    Calls Tryd.prog 11 #[.agg #[.int .i64 v, .int .i64 k, .int .i64 wd]] w fun e w' => e = .returned (.tuple #[.int .i64 q, .int .i64 kk, .int .i64 wide]) ∧ St c R w' := by
  obtain ⟨m, hm⟩ : ∃ m, pickN wd 16 = m := ⟨_, rfl⟩
  have hm2 : m < 16 := by rw [← hm]; exact pickN_lt _ _ (by decide)
  have e1 : m + 1 = wide := by rw [← hm]; exact h1
  have hw16 : wide ≤ 16 := by omega
  obtain ⟨p, hp⟩ : ∃ p, 2 ^ wide = p := ⟨_, rfl⟩
  have hp0 : 0 < p := by rw [← hp]; exact Nat.two_pow_pos _
  have hp1 : p ≤ 65536 := by rw [← hp]; exact (Nat.pow_le_pow_right (n := 2) (by decide) hw16 : 2 ^ wide ≤ 2 ^ 16)
  have hpw := pow_wrap wide (by omega)
  rw [hp] at hpw
  have h2' : pickN v p = q := by rw [← hp, ← h1]; exact h2
  have h3' : pickN k 16 = kk := h3
  have H2 := Lib.hid h2'
  have H3 := Lib.hid h3'
  have HM := Lib.hid hm
  have I1 := Lib.hid i1
  have I2 := Lib.hid i2
  have I3 := Lib.hid i3
  have HS := Lib.hid (hS.alloc [.int .i64 v, .int .i64 k, .int .i64 wd] 23)
  have eq1 : (1 : Int) + (m : Int) = ((wide : Nat) : Int) := by omega
  clear h1 h2 h3 h2' h3' hm i1 i2 i3 hp
  obtain ⟨c0, c1, c2⟩ := blk3 HS.out
  go_enter Tryd.func11, Tryd.ntmps11
  go_wp2_with fail
  refine (pick_is wd 16 m _ I3.out (by decide) (by decide) HM.out).mono ?_
  rintro en w' ⟨rfl, rfl⟩
  go_wp2_with fail
  refine wp_region_quiet_lit (by kernel_rfl) (by kernel_rfl) ?_
  go_big_quiet_step (fail)
  go_big_quiet_step (fail)
  go_big_quiet_step (fail)
  go_big_quiet_step (fail)
  go_big_quiet_step (exact Calls.quiet_of (pick_q v p q _ I1.out hp0 (by omega) H2.out))
  go_big_quiet_step (fail)
  go_big_quiet_step (fail)
  go_big_quiet_step (exact Calls.quiet_of (pick_q k 16 kk _ I2.out (by decide) (by decide) H3.out))
  repeat (go_big_quiet_step (fail))
  refine wpQuiet_nil ?_
  rintro w3 ⟨n3, rfl⟩
  have HS3 := Lib.hid (HS.out.drewN n3)
  go_wp2_with fail
  go_ret3
  exact ⟨rfl, HS3.out.drop⟩

end Go.Proofs.YtakmkjdmonmilaaDoor
