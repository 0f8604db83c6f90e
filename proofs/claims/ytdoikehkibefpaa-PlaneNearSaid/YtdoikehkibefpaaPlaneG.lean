import Derived.Test.YtdoikehkibefpaaProg
import Derived.Test.YtdoikehkibefpaaWWords
import Derived.Deep.QuietTactic
import Derived.BigQuiet
import Derived.Lib.Hide
import Derived.WalkSpells
import Derived.Test.YtdoikehkibefpaaPMore
namespace Go.Proofs.Ytdoikehkibefpaa
set_option linter.unusedSimpArgs false
set_option linter.unusedVariables false
open Go Go.RowKit Go.Proofs.YtdoikehkibefpaaW.PrintWords

/-! Functions of the plane that the printer does not take: contracts by hand. -/

theorem within1_ok (v n : Int) (p : Addr) (w : World) (hp : w.cell? p = some (.int .i64 n)) (h0 : 0 ≤ n) :
    Calls Try.prog 81 #[.int .u16 v, .pointer (some p)] w fun e w' => e = .returned (.bool (!(v / 2 ^ min n.toNat 16 == 0))) ∧ w = w' := by
  go_enter Try.func81, Try.ntmps81
  go_wp2
  go_ret
  exact ⟨rfl, rfl⟩

/-- How far the list is within. -/
def badAt (n : Int) (v : Int) : Bool := !(v / 2 ^ min n.toNat 16 == 0)

def idxPost (l : List Int) (n : Int) (w : World) (e : Ending) (w' : World) : Prop :=
  ∃ r : Int, e = .returned (.int .i64 r) ∧ decide (0 ≤ r) = l.any (badAt n) ∧ ∃ m, w' = w.drewN m

theorem any_take_succ (l : List Int) (f : Int → Bool) (k : Nat) (hk : k < l.length) (h : (l.take k).any f = false) (h2 : f (l.getD k 0) = false) : (l.take (k + 1)).any f = false := by
  rw [List.take_succ_eq_append_getElem hk, List.any_append, h]
  rw [List.getD_eq_getElem?_getD, List.getElem?_eq_getElem hk] at h2
  simpa using h2

theorem any_of_at (l : List Int) (f : Int → Bool) (k : Nat) (hk : k < l.length) (h2 : f (l.getD k 0) = true) : l.any f = true := by
  rw [List.getD_eq_getElem?_getD, List.getElem?_eq_getElem hk] at h2
  exact List.any_eq_true.2 ⟨_, List.getElem_mem hk, h2⟩

set_option maxRecDepth 100000 in
theorem index_ok (A0 : Option Addr) (c0 : Nat) (l0 : List Int) (n : Int) (p : Addr) (w : World) (hr : Kd.C (Kd.int .u16) w A0 l0.length l0) (hp : w.cell? p = some (.int .i64 n)) (h0 : 0 ≤ n) :
    Calls Try.prog 85 #[.slice A0 l0.length c0, .func (.func 81) #[] #[.pointer (some p)]] w (idxPost l0 n w) := by
  have hmax := Kd.C_max hr
  have HR := Lib.hid hr
  clear hr
  go_enter Try.func85, Try.ntmps85
  go_wp2
  go_loopw [8] (fun i w' => ∃ k : Nat, k ≤ l0.length ∧ i = .int .i64 (k : Nat) ∧ Hid ((l0.take k).any (badAt n) = false) ∧ Hid (∃ m, w' = w.drewN m)) (fun i _ => l0.length - (intOf i).toNat)
  case atStart => exact ⟨0, by omega, by simp, by simp [Hid], ⟨0, rfl⟩⟩
  case round =>
    obtain ⟨k, hk, rfl, hz, hq⟩ := hrel
    obtain ⟨m, rfl⟩ := hq.out
    by_cases hlt : k < l0.length
    · obtain ⟨ad, c, rfl, hc, hK, hcell⟩ := Kd.C_get HR.out (0 : Int) k (by omega) (by omega)
      have hK' : c = [.int .u16 (l0.getD k 0)] := hK
      subst hK'
      have hcell' : w.cell? (ad.add k) = some (.int .u16 (l0.getD k 0)) := by
        have := hcell 0 (.int .u16 (l0.getD k 0)) rfl
        have e : ((k : Int).toNat * (Kd.int .u16).sz + 0) = k := by simp [Kd.int, Kd.scalar]
        rwa [e] at this
      clear hcell hc hK
      obtain ⟨v, hv⟩ : ∃ v, l0.getD k 0 = v := ⟨_, rfl⟩
      rw [hv] at hcell'
      have HV := Lib.hid hv
      clear hv
      cases hb : badAt n v
      · have HB := Lib.hid hb
        unfold badAt at hb
        go_wp2_with (go_at_call 81; refine (within1_ok _ n p _ (show (w.drewN m).cell? p = _ from hp) h0).mono ?_; rw [hb]; rintro e w' ⟨rfl, rfl⟩)
        go_roundw
        case rel => exact ⟨k + 1, by omega, by go_num, any_take_succ _ _ _ hlt hz.out (by rw [HV.out]; exact HB.out), ⟨m, rfl⟩⟩
        case measure => simp [intOf]; omega
      · have HB := Lib.hid hb
        unfold badAt at hb
        go_wp2_with (go_at_call 81; refine (within1_ok _ n p _ (show (w.drewN m).cell? p = _ from hp) h0).mono ?_; rw [hb]; rintro e w' ⟨rfl, rfl⟩)
        go_ret
        exact ⟨(k : Nat), rfl, by rw [any_of_at _ _ k hlt (by rw [HV.out]; exact HB.out)]; simp, m, rfl⟩
    · have hkl : k = l0.length := by omega
      subst hkl
      go_wp2
      go_ret
      exact ⟨-1, rfl, by have := hz.out; rw [List.take_length] at this; rw [this]; rfl, m, rfl⟩

theorem contains_ok (A0 : Option Addr) (c0 : Nat) (l0 : List Int) (n : Int) (p : Addr) (w : World) (hr : Kd.C (Kd.int .u16) w A0 l0.length l0) (hp : w.cell? p = some (.int .i64 n)) (h0 : 0 ≤ n) :
    Calls Try.prog 80 #[.slice A0 l0.length c0, .func (.func 81) #[] #[.pointer (some p)]] w fun e w' => e = .returned (.bool (l0.any (badAt n))) ∧ ∃ m, w' = w.drewN m := by
  have HR := Lib.hid hr
  clear hr
  go_enter Try.func80, Try.ntmps80
  go_wp2_with (go_at_call 85; refine (index_ok _ _ _ n p _ HR.out hp h0).mono ?_; rintro e w' ⟨r, rfl, hd, m, rfl⟩; have HD := Lib.hid hd; clear hd)
  go_ret
  exact ⟨by rw [← HD.out]; rfl, m, rfl⟩

/-- What plane.within says. -/
def withinF (l0 : List Int) (a1 : Int) : Option Bool := if 0 ≤ a1 then some (!(l0.any (badAt a1))) else none

theorem within_ok (A0 : Option Addr) (c0 : Nat) (l0 : List Int) (a1 : Int) (r : Bool) (w : World) (hr0 : Kd.C (Kd.int .u16) w A0 l0.length l0) (hc0 : l0.length ≤ c0) (h : withinF l0 a1 = some r) :
    Calls Try.prog 63 #[.slice A0 l0.length c0, .int .i64 a1] w fun e w' => e = .returned (.bool r) ∧ Below w.heap.size w w' := by
  unfold withinF at h
  split at h
  · rename_i h0
    injection h with h
    have H := Lib.hid h
    have HR := Lib.hid (Kd.C_alloc hr0 (.cells #[.int .i64 a1] 3))
    clear h hr0
    have hmf : ∀ (fn : Fn) (first cap : Array Value) (w : World), (Instr.makeFunc fn first cap).run Try.prog w = .ok (.func fn first cap) w := fun _ _ _ _ => rfl
    go_enter Try.func63, Try.ntmps63
    go_wp2_with (go_at_call 80; refine (contains_ok _ _ _ a1 _ _ HR.out (by go_simp) h0).mono ?_; rintro e w' ⟨rfl, m, rfl⟩)
    go_ret
    exact ⟨by rw [← H.out]; rfl, pw_below_drewN (below_alloc (Below.refl _ _) _) m⟩
  · cases h

/-! ### plane.Same: slices.Equal, the closure, slices.EqualFunc -/

theorem eq_of_takes {α : Type} (z : α) (l m : List α) (hl : l.length = m.length) (h : ∀ j, j < l.length → l.getD j z = m.getD j z) : l = m := by
  apply List.ext_getElem hl
  intro i h1 h2
  have := h i h1
  rwa [List.getD_eq_getElem?_getD, List.getD_eq_getElem?_getD, List.getElem?_eq_getElem h1, List.getElem?_eq_getElem h2] at this

theorem ne_of_at {α : Type} (z : α) (l m : List α) (j : Nat) (h : l.getD j z ≠ m.getD j z) : l ≠ m := fun e => h (by rw [e])

/-- An element of a list of numbers that is read. -/
theorem C_int_at {w : World} {A : Option Addr} {k : IntKind} {l : List Int} (hr : Kd.C (Kd.int k) w A l.length l) (j : Nat) (hj : j < l.length) :
    ∃ ad, A = some ad ∧ w.cell? (ad.add j) = some (.int k (l.getD j 0)) := by
  obtain ⟨ad, c, rfl, hc, hK, hcell⟩ := Kd.C_get hr (0 : Int) j (by omega) (by omega)
  have hK' : c = [.int k (l.getD j 0)] := hK
  subst hK'
  have := hcell 0 (.int k (l.getD j 0)) rfl
  have e : ((j : Int).toNat * (Kd.int k).sz + 0) = j := by simp [Kd.int, Kd.scalar]
  rw [e] at this
  exact ⟨ad, rfl, this⟩

/-- An element of a list of lists that is read. -/
theorem C_row_at {α : Type} {d : Kd α} {e : Nat} {w : World} {A : Option Addr} {l : List (List α)} (hr : Kd.C (Kd.slice e d) w A l.length l) (j : Nat) (hj : j < l.length) :
    ∃ ad A0 c0, A = some ad ∧ w.cell? (ad.add j) = some (.slice A0 (l.getD j []).length c0) ∧ (l.getD j []).length ≤ c0 ∧ Kd.C d w A0 (l.getD j []).length (l.getD j []) := by
  obtain ⟨ad, c, rfl, hc, hK, hcell⟩ := Kd.C_get hr ([] : List α) j (by omega) (by omega)
  obtain ⟨A0, c0, rfl, h1, h2⟩ := hK
  have := hcell 0 (.slice A0 (l.getD j []).length c0) rfl
  have e : ((j : Int).toNat * (Kd.slice e d).sz + 0) = j := by simp [Kd.slice]
  rw [e] at this
  exact ⟨ad, A0, c0, rfl, this, h1, h2⟩

set_option maxRecDepth 100000 in
theorem equal_ok (A0 A1 : Option Addr) (c0 c1 : Nat) (l m : List Int) (w : World) (h0 : Kd.C (Kd.int .u16) w A0 l.length l) (h1 : Kd.C (Kd.int .u16) w A1 m.length m) :
    Calls Try.prog 75 #[.slice A0 l.length c0, .slice A1 m.length c1] w fun e w' => e = .returned (.bool (decide (l = m))) ∧ ∃ n, w' = w.drewN n := by
  have hmax := Kd.C_max h0
  have H0 := Lib.hid h0
  have H1 := Lib.hid h1
  clear h0 h1
  by_cases hlen : l.length = m.length
  · have hb : ((l.length : Int) != m.length) = false := by rw [bne_eq_false_iff_eq]; omega
    have hb2 : (l.length != m.length) = false := by rw [bne_eq_false_iff_eq]; omega
    have HL := Lib.hid hlen
    clear hlen
    go_enter Try.func75, Try.ntmps75
    go_wp2
    go_loopw [13] (fun i w' => ∃ k : Nat, k ≤ l.length ∧ i = .int .i64 (k : Nat) ∧ Hid (∀ j, j < k → l.getD j 0 = m.getD j 0) ∧ Hid (∃ m, w' = w.drewN m)) (fun i _ => l.length - (intOf i).toNat)
    case atStart => exact ⟨0, by omega, by simp, fun j hj => by omega, ⟨0, rfl⟩⟩
    case round =>
      obtain ⟨k, hk, rfl, hz, hq⟩ := hrel
      obtain ⟨n, rfl⟩ := hq.out
      by_cases hlt : k < l.length
      · obtain ⟨ad, rfl, hc0⟩ := C_int_at H0.out k hlt
        obtain ⟨ad1, rfl, hc1⟩ := C_int_at H1.out k (by have := HL.out; omega)
        have hkm : k < m.length := by have := HL.out; omega
        obtain ⟨x, hx⟩ : ∃ x, l.getD k 0 = x := ⟨_, rfl⟩
        obtain ⟨y, hy⟩ : ∃ y, m.getD k 0 = y := ⟨_, rfl⟩
        rw [hx] at hc0
        rw [hy] at hc1
        have HX := Lib.hid hx
        have HY := Lib.hid hy
        clear hx hy
        by_cases hxy : x = y
        · subst hxy
          have hbx : (x != x) = false := by simp
          go_wp2
          go_quiet (fail)
          go_wp2
          go_roundw
          case rel => exact ⟨k + 1, by omega, by go_num, (fun j hj => by rcases Nat.lt_or_ge j k with h | h; exact hz.out j h; rw [show j = k by omega, HX.out, HY.out]), ⟨_, rfl⟩⟩
          case measure => simp [intOf]; omega
        · have hbx : (x != y) = true := by simpa using hxy
          have HXY := Lib.hid hxy
          clear hxy
          go_wp2
          go_quiet (fail)
          go_wp2
          go_ret
          refine ⟨?_, ?_⟩
          · rw [decide_eq_false (ne_of_at 0 l m k (by rw [HX.out, HY.out]; exact HXY.out))]; rfl
          · exact ⟨_, World.drewN_drewN ..⟩
      · have hkl : k = l.length := by omega
        subst hkl
        go_wp2
        go_ret
        refine ⟨?_, n, rfl⟩
        rw [decide_eq_true (eq_of_takes 0 l m HL.out hz.out)]; rfl
  · have hb : ((l.length : Int) != m.length) = true := by rw [bne_iff_ne]; omega
    have hb2 : (l.length != m.length) = true := by rw [bne_iff_ne]; omega
    have HL := Lib.hid hlen
    clear hlen
    go_enter Try.func75, Try.ntmps75
    go_wp2
    go_ret
    refine ⟨?_, 0, rfl⟩
    rw [decide_eq_false (fun e => HL.out (by rw [e]))]; rfl

theorem same1_ok (A0 A1 : Option Addr) (c0 c1 : Nat) (l m : List Int) (w : World) (h0 : Kd.C (Kd.int .u16) w A0 l.length l) (h1 : Kd.C (Kd.int .u16) w A1 m.length m) :
    Calls Try.prog 74 #[.slice A0 l.length c0, .slice A1 m.length c1] w fun e w' => e = .returned (.bool (decide (l = m))) ∧ ∃ n, w' = w.drewN n := by
  have H0 := Lib.hid h0
  have H1 := Lib.hid h1
  clear h0 h1
  go_enter Try.func74, Try.ntmps74
  go_wp2_with (go_at_call 75; refine (equal_ok A0 A1 c0 c1 l m _ H0.out H1.out).mono ?_; rintro e w' ⟨rfl, n, rfl⟩)
  go_ret
  exact ⟨rfl, n, rfl⟩

set_option maxRecDepth 100000 in
theorem equalF_ok (A0 A1 : Option Addr) (c0 c1 : Nat) (l m : List (List Int)) (w : World) (h0 : Kd.C (Kd.slice 72 (Kd.int .u16)) w A0 l.length l) (h1 : Kd.C (Kd.slice 72 (Kd.int .u16)) w A1 m.length m) :
    Calls Try.prog 73 #[.slice A0 l.length c0, .slice A1 m.length c1, .func (.func 74) #[] #[]] w fun e w' => e = .returned (.bool (decide (l = m))) ∧ ∃ n, w' = w.drewN n := by
  have hmax := Kd.C_max h0
  have H0 := Lib.hid h0
  have H1 := Lib.hid h1
  clear h0 h1
  by_cases hlen : l.length = m.length
  · have hb : ((l.length : Int) != m.length) = false := by rw [bne_eq_false_iff_eq]; omega
    have hb2 : (l.length != m.length) = false := by rw [bne_eq_false_iff_eq]; omega
    have HL := Lib.hid hlen
    clear hlen
    go_enter Try.func73, Try.ntmps73
    go_wp2
    go_loopw [17] (fun i w' => ∃ k : Nat, k ≤ l.length ∧ i = .int .i64 (k : Nat) ∧ Hid (∀ j, j < k → l.getD j [] = m.getD j []) ∧ Hid (∃ m, w' = w.drewN m)) (fun i _ => l.length - (intOf i).toNat)
    case atStart => exact ⟨0, by omega, by simp, fun j hj => by omega, ⟨0, rfl⟩⟩
    case round =>
      obtain ⟨k, hk, rfl, hz, hq⟩ := hrel
      obtain ⟨n, rfl⟩ := hq.out
      by_cases hlt : k < l.length
      · obtain ⟨ad, X0, x0, rfl, hc0, hx0, hC0⟩ := C_row_at H0.out k hlt
        obtain ⟨ad1, X1, x1, rfl, hc1, hx1, hC1⟩ := C_row_at H1.out k (by have := HL.out; omega)
        have hkm : k < m.length := by have := HL.out; omega
        obtain ⟨x, hx⟩ : ∃ x, l.getD k [] = x := ⟨_, rfl⟩
        obtain ⟨y, hy⟩ : ∃ y, m.getD k [] = y := ⟨_, rfl⟩
        rw [hx] at hc0 hC0 hx0
        rw [hy] at hc1 hC1 hx1
        have HX := Lib.hid hx
        have HY := Lib.hid hy
        have HC0 := Lib.hid (Kd.C_drewN hC0 n)
        have HC1 := Lib.hid (Kd.C_drewN hC1 n)
        clear hx hy hC0 hC1
        by_cases hxy : x = y
        · subst hxy
          go_wp2_with (go_at_call 74; refine (same1_ok X0 X1 x0 x1 x x _ HC0.out HC1.out).mono ?_; rw [decide_eq_true rfl]; rintro e w' ⟨rfl, q, rfl⟩)
          go_roundw
          case rel => exact ⟨k + 1, by omega, by go_num, (fun j hj => by rcases Nat.lt_or_ge j k with h | h; exact hz.out j h; rw [show j = k by omega, HX.out, HY.out]), ⟨_, rfl⟩⟩
          case measure => simp [intOf]; omega
        · have HXY := Lib.hid hxy
          clear hxy
          go_wp2_with (go_at_call 74; refine (same1_ok X0 X1 x0 x1 x y _ HC0.out HC1.out).mono ?_; rw [decide_eq_false HXY.out]; rintro e w' ⟨rfl, q, rfl⟩)
          go_ret
          refine ⟨?_, ?_⟩
          · rw [decide_eq_false (ne_of_at [] l m k (by rw [HX.out, HY.out]; exact HXY.out))]; rfl
          · exact ⟨_, rfl⟩
      · have hkl : k = l.length := by omega
        subst hkl
        go_wp2
        go_ret
        refine ⟨?_, n, rfl⟩
        rw [decide_eq_true (eq_of_takes [] l m HL.out hz.out)]; rfl
  · have hb : ((l.length : Int) != m.length) = true := by rw [bne_iff_ne]; omega
    have hb2 : (l.length != m.length) = true := by rw [bne_iff_ne]; omega
    have HL := Lib.hid hlen
    clear hlen
    go_enter Try.func73, Try.ntmps73
    go_wp2
    go_ret
    refine ⟨?_, 0, rfl⟩
    rw [decide_eq_false (fun e => HL.out (by rw [e]))]; rfl

/-- What plane.Same says. -/
def sameF (a0 a1 a2 : Int) (a3 : Bool) (l : List (List Int)) (b0 b1 b2 : Int) (b3 : Bool) (m : List (List Int)) : Bool := decide ((a0 = b0 ∧ a1 = b1 ∧ a2 = b2 ∧ a3 = b3) ∧ l = m)

set_option maxRecDepth 100000 in
theorem same_ok (a0 a1 a2 : Int) (a3 : Bool) (A0 : Option Addr) (c0 : Nat) (l : List (List Int)) (b0 b1 b2 : Int) (b3 : Bool) (A1 : Option Addr) (c1 : Nat) (m : List (List Int)) (w : World)
    (h0 : Kd.C (Kd.slice 72 (Kd.int .u16)) w A0 l.length l) (h1 : Kd.C (Kd.slice 72 (Kd.int .u16)) w A1 m.length m) :
    Calls Try.prog 47 #[.agg #[.int .i64 a0, .int .i64 a1, .int .i64 a2, .bool a3, .slice A0 l.length c0], .agg #[.int .i64 b0, .int .i64 b1, .int .i64 b2, .bool b3, .slice A1 m.length c1]] w
      fun e w' => e = .returned (.bool (sameF a0 a1 a2 a3 l b0 b1 b2 b3 m)) ∧ Below w.heap.size w w' := by
  have HB := Lib.hid (below_alloc (below_alloc (Below.refl w.heap.size w) (.cells #[.int .i64 a0, .int .i64 a1, .int .i64 a2, .bool a3, .slice A0 l.length c0] 39)) (.cells #[.int .i64 b0, .int .i64 b1, .int .i64 b2, .bool b3, .slice A1 m.length c1] 39))
  have H0 := Lib.hid (Kd.C_below h0 HB.out)
  have H1 := Lib.hid (Kd.C_below h1 HB.out)
  clear h0 h1
  by_cases hs : a0 = b0 ∧ a1 = b1 ∧ a2 = b2 ∧ a3 = b3
  · obtain ⟨rfl, rfl, rfl, rfl⟩ := hs
    go_enter Try.func47, Try.ntmps47
    go_wp2_with (go_at_call 73; refine (equalF_ok A0 A1 c0 c1 l m _ H0.out H1.out).mono ?_; rintro e w' ⟨rfl, n, rfl⟩)
    go_ret
    exact ⟨by simp [sameF], pw_below_drewN HB.out _⟩
  · have HF := Lib.hid (show sameF a0 a1 a2 a3 l b0 b1 b2 b3 m = false from decide_eq_false (fun h => hs h.1))
    have HS := Lib.hid hs
    clear hs HB H0 H1
    go_enter Try.func47, Try.ntmps47
    go_wp2_with fail
    · exact absurd ⟨by assumption, by assumption, by assumption, by assumption⟩ HS.out
    all_goals
      go_ret
      refine ⟨by rw [HF.out]; rfl, below_alloc (below_alloc (Below.refl _ _) _) _⟩

end Go.Proofs.Ytdoikehkibefpaa
