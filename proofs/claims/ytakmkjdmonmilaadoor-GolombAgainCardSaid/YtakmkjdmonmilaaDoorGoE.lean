import Derived.Test.YtakmkjdmonmilaaDoorGoD
import Derived.Test.YtakmkjdmonmilaaDoorArg
namespace Go.Proofs.YtakmkjdmonmilaaDoor
set_option linter.unusedSimpArgs false
set_option linter.unusedVariables false
open Go Go.RowKit

theorem in64_of {n : Int} (h : (Lit.int .i64 n).wf = true) : in64 n := bounds_i64 h
theorem cInt : Tryd.prog.cellsOf 3 = 1 := by kernel_rfl

/-- A list of whole numbers that came in. -/
theorem arg_ints {H : Type} {enc : TypeId × Value → H} {W : World} {base : Nat} {v : Value} (h : Arg enc Tryd.prog W base 31 v) :
    ∃ (ao : Option Addr) (cap : Nat) (l : List Int), v = .slice ao l.length cap ∧ l.length ≤ 17592186043904 ∧ l.length ≤ cap ∧
      ∀ i (hi : i < l.length), ∃ b off, ao = some ⟨b, off, none⟩ ∧ W.cell? ⟨b, off + i, none⟩ = some (.int .i64 l[i]) ∧ in64 l[i] := by
  obtain ⟨ao, cap, l, rfl, hlc, hw, hn, ha⟩ := ok_rows (sz := 1) (B := 8) (fun xs (x : Int) => xs = [.int .i64 x] ∧ in64 x) Tryd.underlying31 (fun xs h => by
    obtain ⟨n, h1, h2⟩ := ok_int Tryd.underlying3 h
    exact ⟨n, h1, in64_of h2⟩) cInt (by decide) (by kernel_rfl) (arg_slice Tryd.underlying31 h)
  have hw' : cap * 8 ≤ 140737488351232 := hw
  refine ⟨ao, cap, l, rfl, by omega, hlc, fun i hi => ?_⟩
  obtain ⟨b, off, xs, e, ⟨rfl, h2⟩, h3, h4⟩ := ha i hi
  refine ⟨b, off, e, ?_, h2⟩
  have := h4 0 (by decide)
  simpa using this

theorem pays_22 {l : Nat} (hl : l ≤ 4096) : l - 2 ^ J 22 = 0 := by
  have e : 2 ^ J 22 = 4096 := by decide
  rw [e]
  exact Nat.sub_eq_zero_of_le hl

theorem runGo_zero (r : Nat) : runGo r 0 = (0, r, 0) := runGo_out (fun h => Nat.lt_irrefl _ h.1)
theorem pays_end {r : Nat} (h : r = 22) : r ≤ min (r + 1) 22 ∧ 1 + 0 + (if 0 < 0 then 1 else 0) ≤ 1 + (min (r + 1) 22 - r) := by
  subst h; decide

/-- How many bits runs to their rooms' ends take: the rate pays for all but one. -/
theorem runGo_pays (l : Nat) : ∀ r, r ≤ 22 → l ≤ 4096 → r ≤ (runGo r l).2.1 ∧ (runGo r l).1 + (if 0 < (runGo r l).2.2 then 1 else 0) ≤ 1 + ((runGo r l).2.1 - r) := by
  induction l using Nat.strongRecOn with
  | _ l ih =>
    intro r hr hl
    by_cases h : 0 < l ∧ 2 ^ J r ≤ l
    · have hp := Nat.two_pow_pos (J r)
      rw [runGo_in h.1 h.2]
      simp only
      by_cases h22 : r = 22
      · have e0 : l - 2 ^ J r = 0 := by rw [h22]; exact pays_22 hl
        rw [e0, runGo_zero]
        exact pays_end h22
      · have := ih (l - 2 ^ J r) (by omega) (min (r + 1) 22) (by omega) (by omega)
        have hm : min (r + 1) 22 = r + 1 := by omega
        rw [hm] at this ⊢
        omega
    · rw [runGo_out h]
      simp only
      split <;> omega

theorem rform_rows {r n : Nat} (hr : r ≤ 22) (hn : n ≤ 4096) : r ≤ rnext r n n ∧ rnext r n n ≤ 22 ∧ (rform r n n).length + r ≤ 1 + rnext r n n := by
  have h1 := runGo_pays n r hr hn
  have h2 := runGo_facts n r hr
  unfold rform rnext
  rw [if_neg (Nat.lt_irrefl n), if_neg (Nat.lt_irrefl n), List.length_append, List.length_replicate]
  have h3 : (if 0 < (runGo r n).2.2 then [true] else []).length = if 0 < (runGo r n).2.2 then 1 else 0 := by split <;> rfl
  rw [h3]
  omega

set_option maxHeartbeats 1000000 in
set_option maxRecDepth 100000 in
theorem golombRows_walk {H : Type} {enc : TypeId × Value → H} (W : World) (hT : Tab W) (base : Nat) (v0 : Value) (a0 : Arg enc Tryd.prog W base 31 v0) :
    Calls Tryd.prog 4 #[v0] W fun e W' => e = .returned (.bool true) ∧ Below W.heap.size W W' := by
  obtain ⟨ao, cap, rs, rfl, hlen, hcap, hel⟩ := arg_ints a0
  have HT := Lib.hid hT
  have HEL := Lib.hid hel
  clear hT a0 hel
  go_enter Tryd.func4, Tryd.ntmps4
  go_wp2_with fail
  refine (awake_ok W HT.out [] _ (St.top W)).mono ?_
  rintro en w1 ⟨rfl, hS⟩
  have HS := Lib.hid hS
  clear hS
  go_wp2_with fail
  refine (NewWriter_ok (top W) _ _ HS.out).mono ?_
  rintro en w2 ⟨g, rfl, hS2⟩
  have HS2 := Lib.hid hS2
  clear hS2
  go_wp2_with fail
  refine (NewRuns_ok (top W) _ _ HS2.out).mono ?_
  rintro en w3 ⟨x, rfl, hS3⟩
  have HS3 := Lib.hid hS3
  clear hS3
  go_wp2_with fail
  go_loopw [6] (fun v w' => ∃ (k r : Nat) (l : List Bool), v = .int .i64 (k : Nat) ∧ k ≤ rs.length ∧ r ≤ 22 ∧ l.length ≤ k + r ∧ Hid (St (top W) (runs x r :: writer g l :: []) w')) (fun v _ => rs.length - (intOf v).toNat)
  case atStart => exact ⟨0, 0, [], rfl, by omega, by omega, by simp, HS3.out⟩
  case round =>
    obtain ⟨k, r, l, rfl, hk, hr, hl, hS4⟩ := hrel
    by_cases hlt : k < rs.length
    · obtain ⟨b, off, rfl, hc, hin⟩ := HEL.out k hlt
      have hc' := top_cell hS4.out hc
      obtain ⟨c, hcc⟩ : ∃ c, rs[k] = c := ⟨_, rfl⟩
      rw [hcc] at hc' hin
      have HIN := Lib.hid hin
      obtain ⟨q, hq⟩ : ∃ q, pickN c 4096 = q := ⟨_, rfl⟩
      have hq2 : q < 4096 := by rw [← hq]; exact pickN_lt _ _ (by decide)
      have HQ := Lib.hid hq
      have Hpay := Lib.hid (rform_rows (r := r) (n := q + 1) hr (by omega))
      clear hc hcc hin hq
      go_wp2_with fail
      refine (pick_is c 4096 q _ HIN.out (by decide) (by decide) HQ.out).mono ?_
      rintro en w' ⟨rfl, rfl⟩
      have eq1 : (1 : Int) + (q : Int) = ((q + 1 : Nat) : Int) := by omega
      go_wp2_with fail
      refine (RPut_ok W HT.out [] x g r (q + 1) (q + 1) l _ hS4.out hr (by omega) (by omega) (by omega) (by omega)).mono ?_
      rintro en w5 ⟨rfl, hS5⟩
      have HS5 := Lib.hid hS5
      clear hS5 eq1
      obtain ⟨len, hlenE⟩ : ∃ len, (l ++ rform r (q + 1) (q + 1)).length = len := ⟨_, rfl⟩
      have hlen2 : len ≤ k + 1 + rnext r (q + 1) (q + 1) := by
        rw [← hlenE, List.length_append]; have := Hpay.out; omega
      have hrn : rnext r (q + 1) (q + 1) ≤ 22 := Hpay.out.2.1
      have HLEN := Lib.hid hlenE
      clear hlenE
      generalize hR : rnext r (q + 1) (q + 1) = r2 at *
      generalize hF : l ++ rform r (q + 1) (q + 1) = l2 at *
      clear hR hF
      have t1 : decide ((k : Int) + 1 + 22 < len) = false := by rw [decide_eq_false_iff_not]; omega
      have t2 : decide (k + 1 + 22 < len) = false := by rw [decide_eq_false_iff_not]; omega
      go_wp2_with fail
      refine (Len_q (top W) _ g l2 _ HS5.out.swap).mono ?_
      rw [HLEN.out]
      rintro en w6 ⟨rfl, m, rfl⟩
      go_wp2_with fail
      go_roundw
      case rel => exact ⟨k + 1, r2, l2, by go_num, by omega, hrn, by rw [HLEN.out]; omega, HS5.out.drewN m⟩
      case measure => simp [intOf]; omega
    · have hkl : k = rs.length := by omega
      subst hkl
      go_wp2_with fail
      go_ret
      exact ⟨rfl, hS4.out.below⟩

end Go.Proofs.YtakmkjdmonmilaaDoor
