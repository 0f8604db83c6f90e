import Derived.Test.YthpkdephkhcgmaaBitsC
import Derived.Test.YthpkdephkhcgmaaArg
namespace Go.Proofs.Ythpkdephkhcgmaa
set_option linter.unusedSimpArgs false
set_option linter.unusedVariables false
open Go Go.RowKit

theorem bitsNames_walk (W : World) :
    Calls Try.prog 3 #[] W fun e W' => e = .returned (.bool true) ∧ Below W.heap.size W W' := by
  go_enter Try.func3, Try.ntmps3
  go_wp2_with (go_at_call 8; go_must (with_reducible refine (alive_ok (top W) [] _ (St.top W)).mono ?_); rintro e w1 ⟨rfl, hS⟩)
  go_ret
  exact ⟨rfl, hS.below⟩

/-- Which of n a raw number speaks of. -/
def pickN (x : Int) (n : Nat) : Nat := ((if x < 0 then -(x + 1) else x) % n).toNat
theorem pickN_lt (x : Int) (n : Nat) (hn : 0 < n) : pickN x n < n := by
  unfold pickN
  have h1 := Int.emod_nonneg (if x < 0 then -(x + 1) else x) (show (n : Int) ≠ 0 by omega)
  have h2 := Int.emod_lt_of_pos (if x < 0 then -(x + 1) else x) (show (0 : Int) < n by omega)
  omega
theorem pick_is (x : Int) (n r : Nat) (w : World) (hx : (Lit.int .i64 x).wf = true) (hn : 0 < n) (hr : pickN x n = r) :
    Calls Try.prog 17 #[.int .i64 x, .int .i64 n] w fun e w' => e = .returned (.int .i64 (r : Nat)) ∧ w = w' := by
  have hb := bounds_i64 hx
  refine (pick_any x n w (by omega) (by omega) (by omega)).mono ?_
  rintro e w' ⟨rfl, rfl⟩
  subst hr
  refine ⟨?_, rfl⟩
  unfold pickN
  rw [Int.toNat_of_nonneg (Int.emod_nonneg _ (by omega))]

set_option maxHeartbeats 4000000 in
set_option maxRecDepth 100000 in
theorem bitsWhole_walk {H : Type} {enc : TypeId × Value → H} (W : World) (base : Nat) (v0 v1 v2 : Value) (a0 : Arg enc Try.prog W base 23 v0) (a1 : Arg enc Try.prog W base 3 v1) (a2 : Arg enc Try.prog W base 24 v2) :
    Calls Try.prog 5 #[v0, v1, v2] W fun e W' => e = .returned (.bool true) ∧ Below W.heap.size W W' := by
  obtain ⟨n, rfl, wn⟩ := arg_int Try.underlying23 a0
  obtain ⟨x, rfl, wx⟩ := arg_int Try.underlying3 a1
  have hb := arg_slice Try.underlying24 a2
  obtain ⟨bs, hr, hbs, hlen⟩ := ok_bytes Try.underlying24 Try.underlying5 (by kernel_rfl) (by kernel_rfl) hb
  clear a0 a1 a2 hb
  have hnb := bounds_u64 wn
  obtain ⟨n, rfl⟩ := Int.eq_ofNat_of_zero_le hnb.1
  have HN : Hid (n < 18446744073709551616) := by have := hnb.2; unfold Hid; omega
  clear hnb wn
  obtain ⟨r, hpick⟩ : ∃ r, pickN x 8 = r := ⟨_, rfl⟩
  have hr8 : r < 8 := by rw [← hpick]; exact pickN_lt x 8 (by decide)
  have HP := Lib.hid hpick
  have HWX := Lib.hid wx
  have HLEN := Lib.hid hlen
  clear wx hlen
  obtain ⟨k, hk⟩ : ∃ k : Nat, 1 + (r : Int) = k := ⟨r + 1, by omega⟩
  have hk1 : 1 ≤ k := by omega
  have hk8 : k ≤ 8 := by omega
  have HR := Lib.hid hr
  have HB := Lib.hid hbs
  obtain ⟨ao, m, cap, rfl, hc, hm0, -, -⟩ := hr
  have hm : m = bs.length := by simpa using hm0
  clear hm0
  subst hm
  clear hpick hbs
  have H := Lib.hid (St.top W)
  obtain ⟨nb, hnb⟩ : ∃ nb, numB bs = nb := ⟨_, rfl⟩
  have hnlt : bs.length ≤ 8 → nb < 256 ^ bs.length := fun _ => by rw [← hnb]; exact numB_lt bs HB.out
  have hnb64 : bs.length ≤ 8 → nb < 18446744073709551616 := fun h => Nat.lt_of_lt_of_le (hnlt h) (Nat.le_trans (Nat.pow_le_pow_right (by decide) h) (by decide))
  have hback : bigB nb bs.length = bs := by rw [← hnb]; exact bigB_numB bs HB.out
  have HNB := Lib.hid hnb
  have HNL := Lib.hid hnlt
  have HN64 := Lib.hid hnb64
  have HBACK := Lib.hid hback
  clear hnb hnlt hnb64 hback
  rcases (show 256 ^ k ≤ n ∨ n < 256 ^ k from by omega) with hbig | hbig
  · have hk9 : k < 8 := by
      rcases Nat.lt_or_ge k 8 with h | h
      · exact h
      · have := Nat.pow_le_pow_right (n := 256) (by decide) h
        have h2 : (256 : Nat) ^ 8 = 18446744073709551616 := by decide
        have := HN.out
        omega
    have e8 : ((k : Int) == 8) = false := by rw [beq_eq_false_iff_ne]; omega
    have hsh : decide ((n : Int) < IntKind.u64.wrap (2 ^ (8 * k))) = false := by
      have h1 : 2 ^ (8 * k) < 2 ^ 64 := Nat.pow_lt_pow_right (by decide) (by omega)
      have h2 : ((2 : Int) ^ (8 * k)) = ((2 ^ (8 * k) : Nat) : Int) := by push_cast; rfl
      have h3 : 2 ^ (8 * k) ≤ n := by rw [← pow256]; exact hbig
      rw [decide_eq_false_iff_not, IntKind.wrap_u64, h2]
      have h4 : (2 : Nat) ^ 64 = 18446744073709551616 := by decide
      rw [h4] at h1
      clear h2 h4
      generalize 2 ^ (8 * k) = p at *
      omega
    have HF := Lib.hid hbig
    clear hbig
    rcases (show bs.length < 1 ∨ 8 < bs.length ∨ (1 ≤ bs.length ∧ bs.length ≤ 8) from by omega) with hl | hl | ⟨hl1, hl2⟩
    all_goals
      go_enter Try.func5, Try.ntmps5
      go_wp2_with (first
        | (go_at_call 8; go_must (with_reducible refine (alive_ok (top W) _ _ H.out).mono ?_); rintro e w1 ⟨rfl, hS⟩; simp only []; clear H; have H := Lib.hid hS; clear hS)
        | (go_at_call 17; go_must (refine (pick_is _ 8 r _ HWX.out (by decide) HP.out).mono ?_); rintro e w2 ⟨rfl, rfl⟩; simp only [])
        | (go_at_call 9; with_reducible refine (Big_value n k _ hk1 hk9 HF.out).mono ?_; rintro e w3 ⟨rfl, rfl⟩; simp only [])
        | (go_at_call 9; with_reducible refine (Big_I (top W) _ nb bs.length _ H.out (Lib.hid (HN64.out hl2)) hl1 hl2 (HNL.out hl2)).mono ?_; rintro e w5 ⟨g2, cp2, rfl, bs2, hbs2, hS⟩; simp only []; clear H; have H := Lib.hid hS; clear hS; have hst1 := H.out.rowReads.str (P := Try.prog) (src := 24) (dst := 9) Try.underlying24 Try.underlying5 Try.underlying9; rw [hbs2.out.trans HBACK.out] at hst1; have hst2 := (Rd.reads (Rd.of_arg HR.out) H.out).str (P := Try.prog) (src := 24) (dst := 9) Try.underlying24 Try.underlying5 Try.underlying9)
        | (go_at_call 13; with_reducible refine (Number_I (.slice ao bs.length cap) bs _ (Rd.reads (Rd.of_arg HR.out) H.out) hl1 hl2 HB.out nb HNB.out).mono ?_; rintro e w6 ⟨rfl, hq⟩; simp only []; have H2 := Lib.hid (H.out.of_quiet hq); clear hq; clear H; have H := H2; clear H2))
      any_goals go_ret
      any_goals exact ⟨rfl, H.out.below⟩
  · have HF := Lib.hid hbig
    have hn2 : numB (bigB n k) = n := by rw [numB_bigB, Nat.mod_eq_of_lt hbig]
    have HN2 := Lib.hid hn2
    have hsh : k < 8 → decide ((n : Int) < IntKind.u64.wrap (2 ^ (8 * k))) = true := by
      intro hk9
      have h1 : 2 ^ (8 * k) < 2 ^ 64 := Nat.pow_lt_pow_right (by decide) (by omega)
      have h2 : ((2 : Int) ^ (8 * k)) = ((2 ^ (8 * k) : Nat) : Int) := by push_cast; rfl
      have h3 : n < 2 ^ (8 * k) := by rw [← pow256]; exact hbig
      rw [decide_eq_true_iff, IntKind.wrap_u64, h2]
      have h4 : (2 : Nat) ^ 64 = 18446744073709551616 := by decide
      rw [h4] at h1
      clear h2 h4
      generalize 2 ^ (8 * k) = p at *
      omega
    clear hbig hn2
    have hcase : (((k : Int) == 8) = true) ∨ (((k : Int) == 8) = false ∧ decide ((n : Int) < IntKind.u64.wrap (2 ^ (8 * k))) = true) := by
      rcases (show 8 ≤ k ∨ k < 8 from by omega) with h | h
      · left; rw [beq_iff_eq]; omega
      · right; exact ⟨by rw [beq_eq_false_iff_ne]; omega, hsh h⟩
    clear hsh
    rcases hcase with e8 | ⟨e8, hsh⟩
    all_goals
      rcases (show bs.length < 1 ∨ 8 < bs.length ∨ (1 ≤ bs.length ∧ bs.length ≤ 8) from by omega) with hl | hl | ⟨hl1, hl2⟩
      all_goals
        go_enter Try.func5, Try.ntmps5
        go_wp2_with (first
          | (go_at_call 8; go_must (with_reducible refine (alive_ok (top W) _ _ H.out).mono ?_); rintro e w1 ⟨rfl, hS⟩; simp only []; clear H; have H := Lib.hid hS; clear hS)
          | (go_at_call 17; go_must (refine (pick_is _ 8 r _ HWX.out (by decide) HP.out).mono ?_); rintro e w2 ⟨rfl, rfl⟩; simp only [])
          | (go_at_call 9; with_reducible refine (Big_I (top W) _ n k _ H.out HN hk1 hk8 HF.out).mono ?_; rintro e w3 ⟨g, cp, rfl, bs1, hbs1, hS⟩; simp only []; clear H; have H := Lib.hid hS; clear hS)
          | (go_at_call 9; with_reducible refine (Big_I (top W) _ nb bs.length _ H.out (Lib.hid (HN64.out hl2)) hl1 hl2 (HNL.out hl2)).mono ?_; rintro e w5 ⟨g2, cp2, rfl, bs2, hbs2, hS⟩; simp only []; clear H; have H := Lib.hid hS; clear hS; have hst1 := H.out.rowReads.str (P := Try.prog) (src := 24) (dst := 9) Try.underlying24 Try.underlying5 Try.underlying9; rw [hbs2.out.trans HBACK.out] at hst1; have hst2 := (Rd.reads (Rd.of_arg HR.out) H.out).str (P := Try.prog) (src := 24) (dst := 9) Try.underlying24 Try.underlying5 Try.underlying9)
          | (go_at_call 13; with_reducible refine (Number_I (.slice (some ⟨g, 0, none⟩) k cp) bs1 _ H.out.rowReads (by rw [hbs1.out, bigB_length]; exact hk1) (by rw [hbs1.out, bigB_length]; exact hk8) (by rw [hbs1.out]; exact bigB_lt n k) n (by rw [hbs1.out]; exact HN2.out)).mono ?_; rintro e w4 ⟨rfl, hq⟩; simp only []; have H2 := Lib.hid (H.out.of_quiet hq); clear hq; clear H; have H := H2; clear H2)
          | (go_at_call 13; with_reducible refine (Number_I (.slice ao bs.length cap) bs _ (Rd.reads (Rd.of_arg HR.out) H.out) hl1 hl2 HB.out nb HNB.out).mono ?_; rintro e w6 ⟨rfl, hq⟩; simp only []; have H2 := Lib.hid (H.out.of_quiet hq); clear hq; clear H; have H := H2; clear H2))
        any_goals go_ret
        any_goals exact ⟨rfl, H.out.below⟩

end Go.Proofs.Ythpkdephkhcgmaa
