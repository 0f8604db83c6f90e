import Derived.Test.YtdoikehkibefpaaProg
import Derived.Test.YtdoikehkibefpaaWWords
import Derived.Deep.QuietTactic
import Derived.BigQuiet
import Derived.Lib.Hide
import Derived.WalkSpells
import Derived.Test.YtdoikehkibefpaaPMore
namespace Go.Proofs.Ytdoikehkibefpaa
set_option linter.unusedSimpArgs false
set_option linter.unusedVariables false
open Go Go.RowKit Go.Proofs.YtdoikehkibefpaaW.PrintWords

/-! Functions of the plane that the printer does not take: contracts by hand. -/

theorem within1_ok (v n : Int) (p : Addr) (w : World) (hp : w.cell? p = some (.int .i64 n)) (h0 : 0 ≤ n) :
    Calls Try.prog 81 #[.int .u16 v, .pointer (some p)] w fun e w' => e = .returned (.bool (!(v / 2 ^ min n.toNat 16 == 0))) ∧ w = w' := by
  go_enter Try.func81, Try.ntmps81
  go_wp2
  go_ret
  exact ⟨rfl, rfl⟩

/-- How far the list is within. -/
def badAt (n : Int) (v : Int) : Bool := !(v / 2 ^ min n.toNat 16 == 0)

def idxPost (l : List Int) (n : Int) (w : World) (e : Ending) (w' : World) : Prop :=
  ∃ r : Int, e = .returned (.int .i64 r) ∧ decide (0 ≤ r) = l.any (badAt n) ∧ ∃ m, w' = w.drewN m

theorem any_take_succ (l : List Int) (f : Int → Bool) (k : Nat) (hk : k < l.length) (h : (l.take k).any f = false) (h2 : f (l.getD k 0) = false) : (l.take (k + 1)).any f = false := by
  rw [List.take_succ_eq_append_getElem hk, List.any_append, h]
  rw [List.getD_eq_getElem?_getD, List.getElem?_eq_getElem hk] at h2
  simpa using h2

theorem any_of_at (l : List Int) (f : Int → Bool) (k : Nat) (hk : k < l.length) (h2 : f (l.getD k 0) = true) : l.any f = true := by
  rw [List.getD_eq_getElem?_getD, List.getElem?_eq_getElem hk] at h2
  exact List.any_eq_true.2 ⟨_, List.getElem_mem hk, h2⟩

set_option maxRecDepth 100000 in
theorem index_ok (A0 : Option Addr) (c0 : Nat) (l0 : List Int) (n : Int) (p : Addr) (w : World) (hr : Kd.C (Kd.int .u16) w A0 l0.length l0) (hp : w.cell? p = some (.int .i64 n)) (h0 : 0 ≤ n) :
    Calls Try.prog 85 #[.slice A0 l0.length c0, .func (.func 81) #[] #[.pointer (some p)]] w (idxPost l0 n w) := by
  have hmax := Kd.C_max hr
  have HR := Lib.hid hr
  clear hr
  go_enter Try.func85, Try.ntmps85
  go_wp2
  go_loopw [8] (fun i w' => ∃ k : Nat, k ≤ l0.length ∧ i = .int .i64 (k : Nat) ∧ Hid ((l0.take k).any (badAt n) = false) ∧ Hid (∃ m, w' = w.drewN m)) (fun i _ => l0.length - (intOf i).toNat)
  case atStart => exact ⟨0, by omega, by simp, by simp [Hid], ⟨0, rfl⟩⟩
  case round =>
    obtain ⟨k, hk, rfl, hz, hq⟩ := hrel
    obtain ⟨m, rfl⟩ := hq.out
    by_cases hlt : k < l0.length
    · obtain ⟨ad, c, rfl, hc, hK, hcell⟩ := Kd.C_get HR.out (0 : Int) k (by omega) (by omega)
      have hK' : c = [.int .u16 (l0.getD k 0)] := hK
      subst hK'
      have hcell' : w.cell? (ad.add k) = some (.int .u16 (l0.getD k 0)) := by
        have := hcell 0 (.int .u16 (l0.getD k 0)) rfl
        have e : ((k : Int).toNat * (Kd.int .u16).sz + 0) = k := by simp [Kd.int, Kd.scalar]
        rwa [e] at this
      clear hcell hc hK
      obtain ⟨v, hv⟩ : ∃ v, l0.getD k 0 = v := ⟨_, rfl⟩
      rw [hv] at hcell'
      have HV := Lib.hid hv
      clear hv
      cases hb : badAt n v
      · have HB := Lib.hid hb
        unfold badAt at hb
        go_wp2_with (go_at_call 81; refine (within1_ok _ n p _ (show (w.drewN m).cell? p = _ from hp) h0).mono ?_; rw [hb]; rintro e w' ⟨rfl, rfl⟩)
        go_roundw
        case rel => exact ⟨k + 1, by omega, by go_num, any_take_succ _ _ _ hlt hz.out (by rw [HV.out]; exact HB.out), ⟨m, rfl⟩⟩
        case measure => simp [intOf]; omega
      · have HB := Lib.hid hb
        unfold badAt at hb
        go_wp2_with (go_at_call 81; refine (within1_ok _ n p _ (show (w.drewN m).cell? p = _ from hp) h0).mono ?_; rw [hb]; rintro e w' ⟨rfl, rfl⟩)
        go_ret
        exact ⟨(k : Nat), rfl, by rw [any_of_at _ _ k hlt (by rw [HV.out]; exact HB.out)]; simp, m, rfl⟩
    · have hkl : k = l0.length := by omega
      subst hkl
      go_wp2
      go_ret
      exact ⟨-1, rfl, by have := hz.out; rw [List.take_length] at this; rw [this]; rfl, m, rfl⟩

theorem contains_ok (A0 : Option Addr) (c0 : Nat) (l0 : List Int) (n : Int) (p : Addr) (w : World) (hr : Kd.C (Kd.int .u16) w A0 l0.length l0) (hp : w.cell? p = some (.int .i64 n)) (h0 : 0 ≤ n) :
    Calls Try.prog 80 #[.slice A0 l0.length c0, .func (.func 81) #[] #[.pointer (some p)]] w fun e w' => e = .returned (.bool (l0.any (badAt n))) ∧ ∃ m, w' = w.drewN m := by
  have HR := Lib.hid hr
  clear hr
  go_enter Try.func80, Try.ntmps80
  go_wp2_with (go_at_call 85; refine (index_ok _ _ _ n p _ HR.out hp h0).mono ?_; rintro e w' ⟨r, rfl, hd, m, rfl⟩; have HD := Lib.hid hd; clear hd)
  go_ret
  exact ⟨by rw [← HD.out]; rfl, m, rfl⟩

/-- What plane.within says. -/
def withinF (l0 : List Int) (a1 : Int) : Option Bool := if 0 ≤ a1 then some (!(l0.any (badAt a1))) else none

theorem within_ok (A0 : Option Addr) (c0 : Nat) (l0 : List Int) (a1 : Int) (r : Bool) (w : World) (hr0 : Kd.C (Kd.int .u16) w A0 l0.length l0) (hc0 : l0.length ≤ c0) (h : withinF l0 a1 = some r) :
    Calls Try.prog 63 #[.slice A0 l0.length c0, .int .i64 a1] w fun e w' => e = .returned (.bool r) ∧ Below w.heap.size w w' := by
  unfold withinF at h
  split at h
  · rename_i h0
    injection h with h
    have H := Lib.hid h
    have HR := Lib.hid (Kd.C_alloc hr0 (.cells #[.int .i64 a1] 3))
    clear h hr0
    have hmf : ∀ (fn : Fn) (first cap : Array Value) (w : World), (Instr.makeFunc fn first cap).run Try.prog w = .ok (.func fn first cap) w := fun _ _ _ _ => rfl
    go_enter Try.func63, Try.ntmps63
    go_wp2_with (go_at_call 80; refine (contains_ok _ _ _ a1 _ _ HR.out (by go_simp) h0).mono ?_; rintro e w' ⟨rfl, m, rfl⟩)
    go_ret
    exact ⟨by rw [← H.out]; rfl, pw_below_drewN (below_alloc (Below.refl _ _) _) m⟩
  · cases h

/-! ### plane.Same: slices.Equal, the closure, slices.EqualFunc -/

/-- What plane.Same says. -/
def sameF (a0 a1 a2 : Int) (a3 : Bool) (l : List (List Int)) (b0 b1 b2 : Int) (b3 : Bool) (m : List (List Int)) : Bool := decide ((a0 = b0 ∧ a1 = b1 ∧ a2 = b2 ∧ a3 = b3) ∧ l = m)

end Go.Proofs.Ytdoikehkibefpaa
